/- The reference's Right for blocks, at a list of one definition alone: what KindHeads asks of it. -/
import Derived.Test.YticaofendehebaaDoorX12
import Derived.Test.YticaofendehebaaDoorX1
import Derived.Test.YticaofendehebaaDoorX0
import Derived.Deep.QuietTactic
import Derived.BigQuiet
import Derived.BigCall
import Derived.Outline
set_option linter.unusedVariables false
namespace Go.Proofs.YticaofendehebaaDoor.G
open Go.RowKit Go.Lib Go.Proofs Go.Proofs.YticaofendehebaaDoor.X Go.Proofs.YticaofendehebaaDoorW.PrintWords Go.Proofs.YticaofendehebaaDoorW.PrintLast Go.Proofs.YticaofendehebaaDoorW.PrintMore
abbrev BK := S32
/-- A definition of one line. -/
def isDef (x : BK) : Bool := decide (x.f0 = 8) && decide (x.f1 = 0) && decide (x.f3.length = 1) && x.f4.isEmpty && x.f5.isEmpty
def defRight (k : Nat) (x : BK) : Option Bool := (emendationref10_Label.f k x.f2).bind fun t => if t = true then (emendationref07_Dest.f k (x.f3.getD 0 ByteArray.empty)) else some false
def emendationref10_Right.f (k : Nat) (l : List BK) : Option Bool := match l with
  | [x] => if isDef x = true then defRight k x else none
  | _ => none
theorem add_nil (a : Addr) : a.add 0 = a := by simp [Addr.add]
set_option maxHeartbeats 4000000 in
set_option maxRecDepth 1000000 in
theorem deep_nil (A : Option Addr) (c : Nat) (w : World) : Calls Tryd.prog 35 #[.slice A 0 c] w fun e w' => e = .returned (.int .i64 0) ∧ ∃ q, w' = w.drewN q := by
  go_enter Tryd.func35, Tryd.ntmps35
  go_wp2
  go_loopw [3, 8] (fun v3 v8 wr => v3 = .int .i64 0 ∧ v8 = .int .i64 0 ∧ ∃ q, wr = w.drewN q) (fun _ v8 _ => 0)
  case atStart => exact ⟨rfl, rfl, 0, rfl⟩
  case round =>
    obtain ⟨rfl, rfl, q, rfl⟩ := hrel
    go_wp2_with fail
    go_ret
    exact ⟨rfl, q, rfl⟩
set_option maxHeartbeats 4000000 in
set_option maxRecDepth 1000000 in
theorem deep_one (A : Option Addr) (c : Nat) (x : BK) (w : World) (hr : Kd.C k32 w A 1 [x]) (h0 : x.f0 = 8) (h5 : x.f5 = []) : Calls Tryd.prog 35 #[.slice A 1 c] w fun e w' => e = .returned (.int .i64 0) ∧ ∃ q, w' = w.drewN q := by
  obtain ⟨ad, A3, c3, A4, c4, A5, c5, e0, hx0, hx1, hx2, hx3, hx4, hx5, hl3, hk3, hl4, hk4, hl5, hk5⟩ := at_T32 hr 0 (by omega) (by omega)
  cases e0
  have hx : rd_T32 [x] 0 = x := rfl
  rw [hx] at hx0 hx5
  rw [h0] at hx0
  rw [h5] at hx5
  clear hx1 hx2 hx3 hx4 hl3 hk3 hl4 hk4 hl5 hk5 hx hr
  have z : ad.add ((0 : Int).toNat * 6) = ad := add_nil ad
  rw [z] at hx0 hx5
  rw [List.length_nil] at hx5
  go_enter Tryd.func35, Tryd.ntmps35
  go_wp2
  go_loopw [3, 8] (fun v3 v8 wr => v3 = .int .i64 0 ∧ (v8 = .int .i64 0 ∨ v8 = .int .i64 1) ∧ ∃ q, wr = w.drewN q) (fun _ v8 _ => 1 - (intOf v8).toNat)
  case atStart => exact ⟨rfl, .inl rfl, 0, rfl⟩
  case round =>
    obtain ⟨rfl, h, q, rfl⟩ := hrel
    rcases h with rfl | rfl
    · go_wp2_with (go_at_call 35; refine (deep_nil A5 c5 _).mono ?_; rintro e w1 ⟨rfl, m, rfl⟩)
      go_roundw
      case rel => exact ⟨rfl, .inr rfl, _, rfl⟩
      case measure => decide
    · go_wp2_with fail
      go_ret
      exact ⟨rfl, q, rfl⟩
set_option maxHeartbeats 8000000 in
set_option maxRecDepth 1000000 in
theorem one_def (k : Nat) (a b : ByteArray) (A3 : Option Addr) (c3 : Nat) (A4 : Option Addr) (c4 : Nat) (A5 : Option Addr) (c5 : Nat) (w : World) (r : Bool) (hr3 : Kd.C Kd.string w A3 1 [b])
    (h : (emendationref10_Label.f k a).bind (fun t => if t = true then emendationref07_Dest.f k b else some false) = some r) :
    Calls Tryd.prog 50 #[.agg #[.int .i64 8, .int .i64 0, .string a, .slice A3 1 c3, .slice A4 0 c4, .slice A5 0 c5], .bool false] w fun e w' => e = .returned (.bool r) ∧ Below w.heap.size w w' := by
  have hB : ∀ o, Below w.heap.size w (w.alloc o) := fun o => (Below.refl _ w).alloc (Nat.le_refl _) o
  obtain ⟨t, ht, h⟩ := Option.bind_eq_some_iff.1 h
  obtain ⟨_, _, hc1⟩ := Kd.reads_of_C (enc := Value.string) (d := ByteArray.empty) (h1 := fun _ => rfl) hr3
  obtain ⟨ad, rfl, hc⟩ := hc1 (by decide)
  have hc0 := hc 0 (by decide)
  rw [add_nil] at hc0
  change w.cell? ad = some (.string b) at hc0
  have hz : ∀ o, (w.alloc o).cell? ad = some (.string b) := fun o => ((hB o).cell (World.block_lt_of_cell? w _ hc0)).trans hc0
  clear hc hr3 hc1
  have cL : ∀ W, Calls Tryd.prog 54 #[.string a] W fun e w' => e = .returned (.bool t) ∧ Drawn0 W w' := fun W => emendationref10_Label.calls k a t W ht
  clear ht
  cases t with
  | false =>
    obtain rfl := Option.some.inj h
    clear hz hc0
    go_enter Tryd.func50, Tryd.ntmps50
    go_wp2_with fail
    go_big_quiet (fail)
    go_wp2_with (go_at_call 54; refine (cL _).mono ?_; rintro e w1 ⟨rfl, ⟨n1, rfl⟩⟩)
    go_ret
    exact ⟨rfl, by repeat (first | exact hB _ | apply pw_below_drewN | apply below_drew)⟩
  | true =>
    rw [if_pos rfl] at h
    have cD : ∀ W, Calls Tryd.prog 55 #[.string b] W fun e w' => e = .returned (.bool r) ∧ Drawn0 W w' := fun W => emendationref07_Dest.calls k b r W h
    clear h hc0
    go_enter Tryd.func50, Tryd.ntmps50
    go_wp2_with fail
    go_big_quiet (fail)
    go_wp2_with (first | (go_at_call 54; refine (cL _).mono ?_; rintro e w1 ⟨rfl, ⟨n1, rfl⟩⟩) | (go_at_call 55; refine (cD _).mono ?_; rintro e w2 ⟨rfl, ⟨n2, rfl⟩⟩))
    go_ret
    exact ⟨rfl, by repeat (first | exact hB _ | apply pw_below_drewN | apply below_drew)⟩
theorem isDef_facts {x : BK} (h : isDef x = true) : x.f0 = 8 ∧ x.f1 = 0 ∧ (∃ b, x.f3 = [b]) ∧ x.f4 = [] ∧ x.f5 = [] := by
  unfold isDef at h
  simp only [Bool.and_eq_true, decide_eq_true_eq, List.isEmpty_iff] at h
  obtain ⟨⟨⟨⟨h0, h1⟩, h3⟩, h4⟩, h5⟩ := h
  refine ⟨h0, h1, ?_, h4, h5⟩
  match hx : x.f3, h3 with
  | [b], _ => exact ⟨b, rfl⟩
set_option maxHeartbeats 8000000 in
set_option maxRecDepth 1000000 in
theorem all_def (k : Nat) (A : Option Addr) (c : Nat) (x : BK) (w : World) (r : Bool) (hr : Kd.C k32 w A 1 [x]) (hd : isDef x = true) (h : defRight k x = some r) :
    Calls Tryd.prog 34 #[.slice A 1 c, .bool false] w fun e w' => e = .returned (.bool r) ∧ Below w.heap.size w w' := by
  obtain ⟨h0, h1, ⟨b, h3⟩, h4, h5⟩ := isDef_facts hd
  obtain ⟨ad, A3, c3, A4, c4, A5, c5, e0, hx0, hx1, hx2, hx3, hx4, hx5, hl3, hk3, hl4, hk4, hl5, hk5⟩ := at_T32 hr 0 (by omega) (by omega)
  cases e0
  have hx : rd_T32 [x] 0 = x := rfl
  have z : ad.add ((0 : Int).toNat * 6) = ad := add_nil ad
  rw [hx, z] at hx0 hx1 hx2 hx3 hx4 hx5
  rw [hx] at hk3
  unfold defRight at h
  rw [h3] at h hx3 hk3
  rw [h0] at hx0
  rw [h1] at hx1
  rw [h4, List.length_nil] at hx4
  rw [h5, List.length_nil] at hx5
  rw [List.length_singleton] at hx3 hk3
  change (emendationref10_Label.f k x.f2).bind (fun t => if t = true then emendationref07_Dest.f k b else some false) = some r at h
  have cO : ∀ q, Calls Tryd.prog 50 #[.agg #[.int .i64 8, .int .i64 0, .string x.f2, .slice A3 1 c3, .slice A4 0 c4, .slice A5 0 c5], .bool false] (w.drewN q) fun e w' => e = .returned (.bool r) ∧ Below (w.drewN q).heap.size (w.drewN q) w' :=
    fun q => one_def k x.f2 b A3 c3 A4 c4 A5 c5 (w.drewN q) r (Kd.C_drewN hk3 q) h
  have hb0 : ∀ q w1, Below (w.drewN q).heap.size (w.drewN q) w1 → Below w.heap.size w w1 := fun q w1 hb => (pw_below_drewN (Below.refl w.heap.size w) q).trans hb
  generalize x.f2 = y at hx2 cO
  clear hk3 hl3 hl4 hk4 hl5 hk5 hx z hr hd h h0 h1 h3 h4 h5
  go_enter Tryd.func34, Tryd.ntmps34
  go_wp2
  go_loopw [8] (fun v8 wr => (v8 = .int .i64 0 ∧ ∃ q, wr = w.drewN q) ∨ (v8 = .int .i64 1 ∧ r = true ∧ Below w.heap.size w wr)) (fun v8 _ => 1 - (intOf v8).toNat)
  case atStart => exact .inl ⟨rfl, 0, rfl⟩
  case round =>
    rcases hrel with ⟨rfl, q, rfl⟩ | ⟨rfl, rfl, hbw⟩
    · cases r with
      | false =>
        go_wp2_with (go_at_call 50; refine (cO _).mono ?_; rintro e w1 ⟨rfl, hb1⟩)
        go_ret
        exact ⟨rfl, hb0 _ _ hb1⟩
      | true =>
        go_wp2_with (go_at_call 50; refine (cO _).mono ?_; rintro e w1 ⟨rfl, hb1⟩)
        go_roundw
        case rel => exact .inr ⟨rfl, by trivial, hb0 _ _ hb1⟩
        case measure => decide
    · go_wp2_with fail
      go_ret
      exact ⟨rfl, hbw⟩
set_option maxHeartbeats 8000000 in
set_option maxRecDepth 1000000 in
theorem emendationref10_Right.calls (k : Nat) (A0 : Option Addr) (c0 : Nat) (l0 : List BK) (r : Bool) (w : World) (hr0 : Kd.C k32 w A0 l0.length l0) (hc0 : l0.length ≤ c0) (h : emendationref10_Right.f k l0 = some r) :
    Calls Tryd.prog 12 #[.slice A0 l0.length c0] w fun e w' => e = .returned (.bool r) ∧ Below w.heap.size w w' := by
  match l0, h, hr0 with
  | [x], h, hr0 =>
    unfold emendationref10_Right.f at h
    dsimp only at h
    split at h
    · rename_i hd
      have hf := isDef_facts hd
      have cA := all_def k A0 c0 x w r hr0 hd h
      have cD : ∀ W, Below w.heap.size w W → Calls Tryd.prog 35 #[.slice A0 1 c0] W fun e w' => e = .returned (.int .i64 0) ∧ ∃ q, w' = W.drewN q := fun W hW => deep_one A0 c0 x W (Kd.C_below hr0 hW) hf.1 hf.2.2.2.2
      show Calls Tryd.prog 12 #[.slice A0 1 c0] w _
      clear hr0 h hd hf hc0
      cases r with
      | false =>
        clear cD
        go_enter Tryd.func12, Tryd.ntmps12
        go_wp2_with (go_at_call 34; refine cA.mono ?_; rintro e w1 ⟨rfl, hb1⟩)
        go_ret
        exact ⟨rfl, hb1⟩
      | true =>
        go_enter Tryd.func12, Tryd.ntmps12
        go_wp2_with (first | (go_at_call 34; refine cA.mono ?_; rintro e w1 ⟨rfl, hb1⟩) | (go_at_call 35; refine (cD _ hb1).mono ?_; rintro e w2 ⟨rfl, q, rfl⟩))
        go_ret
        exact ⟨rfl, pw_below_drewN hb1 _⟩
    · cases h
end Go.Proofs.YticaofendehebaaDoor.G
