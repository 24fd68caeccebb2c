/- The given contract of span.Same: slices.EqualFunc over a closure that calls span.Same again; whether spans are alike. -/
import Derived.Test.YtedieaofadhhdaaDoorX0
import Derived.BigCall
import Derived.Lib.IndexAny
import Derived.Outline
set_option linter.unusedVariables false
namespace Go.Proofs.YtedieaofadhhdaaDoor.G
open Go.RowKit Go.Lib Go.Proofs Go.Proofs.YtedieaofadhhdaaDoor.X Go.Proofs.YtedieaofadhhdaaDoorW.PrintWords Go.Proofs.YtedieaofadhhdaaDoorW.PrintLast Go.Proofs.YtedieaofadhhdaaDoorW.PrintMore
mutual
/-- Whether spans are alike. -/
def sameV : S30 → S30 → Bool
  | ⟨k, s, c⟩, ⟨k', s', c'⟩ => (k == k') && ((s.data.toList == s'.data.toList) && sameL c c')
def sameL : List S30 → List S30 → Bool
  | [], [] => true
  | x :: a, y :: b => sameV x y && sameL a b
  | _, _ => false
end
theorem sameL_length : ∀ (a b : List S30), a.length ≠ b.length → sameL a b = false
  | [], [], h => absurd rfl h
  | x :: a, [], _ => by simp [sameL]
  | [], y :: b, _ => by simp [sameL]
  | x :: a, y :: b, h => by
    simp only [sameL]
    rw [sameL_length a b (fun e => h (by simp [e]))]
    simp
theorem sameL_at : ∀ (a b : List S30) (i : Nat) (ha : i < a.length) (hb : i < b.length), sameL (a.drop i) (b.drop i) = (sameV a[i] b[i] && sameL (a.drop (i + 1)) (b.drop (i + 1))) := by
  intro a b i ha hb
  rw [List.drop_eq_getElem_cons ha, List.drop_eq_getElem_cons hb]
  simp [sameL]
def span_Same.f (l0 l1 : List S30) : Option Bool := some (sameL l0 l1)
theorem same_kids_lt (l : List S30) (i : Nat) (h : i < l.length) : SizeOf.sizeOf (l[i]).f2 < SizeOf.sizeOf l := by
  have h1 := List.sizeOf_lt_of_mem (List.getElem_mem h)
  generalize l[i] = x at h1 ⊢
  obtain ⟨a, b, c⟩ := x
  have : SizeOf.sizeOf (S30.mk a b c) = 1 + SizeOf.sizeOf a + SizeOf.sizeOf b + SizeOf.sizeOf c := S30.mk.sizeOf_spec a b c
  show SizeOf.sizeOf c < _
  omega
theorem same_alloc (w : World) (o : Obj) : (w.alloc o).heap.size = w.heap.size + 1 := by
  show (w.heap.push o).size = _
  exact Array.size_push _
/-- Same, of lists up to a size. -/
def SameOk (n : Nat) : Prop := ∀ (A0 : Option Addr) (c0 : Nat) (l0 : List S30) (A1 : Option Addr) (c1 : Nat) (l1 : List S30) (w : World), SizeOf.sizeOf l0 < n → Kd.C k30 w A0 l0.length l0 → l0.length ≤ c0 → Kd.C k30 w A1 l1.length l1 → l1.length ≤ c1 →
  Calls Tryd.prog 19 #[.slice A0 l0.length c0, .slice A1 l1.length c1] w fun e w' => e = .returned (.bool (sameL l0 l1)) ∧ Below w.heap.size w w'
def ValOk (n : Nat) : Prop := ∀ (k0 : Int) (s0 : ByteArray) (A0 : Option Addr) (c0 : Nat) (l0 : List S30) (k1 : Int) (s1 : ByteArray) (A1 : Option Addr) (c1 : Nat) (l1 : List S30) (w : World), SizeOf.sizeOf l0 < n → Kd.C k30 w A0 l0.length l0 → l0.length ≤ c0 → Kd.C k30 w A1 l1.length l1 → l1.length ≤ c1 →
  Calls Tryd.prog 33 #[.agg #[.int .i64 k0, .string s0, .slice A0 l0.length c0], .agg #[.int .i64 k1, .string s1, .slice A1 l1.length c1]] w fun e w' => e = .returned (.bool (sameV ⟨k0, s0, l0⟩ ⟨k1, s1, l1⟩)) ∧ Below w.heap.size w w'
set_option maxHeartbeats 8000000 in
set_option maxRecDepth 1000000 in
theorem val_of_same (n : Nat) (H : SameOk n) : ValOk n := by
  intro k0 s0 A0 c0 l0 k1 s1 A1 c1 l1 w hn hr0 hc0 hr1 hc1
  have hv : sameV ⟨k0, s0, l0⟩ ⟨k1, s1, l1⟩ = ((k0 == k1) && ((s0.data.toList == s1.data.toList) && sameL l0 l1)) := by rw [sameV]
  rw [hv]
  clear hv
  have hB : ∀ o o', Below w.heap.size w ((w.alloc o).alloc o') := fun o o' => ((Below.refl _ w).alloc (Nat.le_refl _) o).alloc (by rw [same_alloc]; omega) o'
  by_cases b1 : k0 = k1
  · subst b1
    have e1 : (k0 == k0) = true := beq_self_eq_true _
    by_cases b2 : s0.data.toList = s1.data.toList
    · have e2 : (s0.toList == s1.toList) = true := by rw [Lib.toList_data, Lib.toList_data]; exact beq_iff_eq.2 b2
      have e3 : (s0.data.toList == s1.data.toList) = true := beq_iff_eq.2 b2
      have cS : ∀ W : World, Below w.heap.size w W → Calls Tryd.prog 19 #[.slice A0 l0.length c0, .slice A1 l1.length c1] W fun e w' => e = .returned (.bool (sameL l0 l1)) ∧ Below W.heap.size W w' := fun W hW => H A0 c0 l0 A1 c1 l1 W hn (Kd.C_below hr0 hW) hc0 (Kd.C_below hr1 hW) hc1
      rw [e1, e3, Bool.true_and, Bool.true_and]
      generalize sameL l0 l1 = r at *
      clear hr0 hr1 b2 e3
      go_enter Tryd.func33, Tryd.ntmps33
      go_wp2_with (go_at_call 19; refine (cS _ (hB _ _)).mono ?_)
      first | rintro e w2 rfl bb2 | rintro e w2 ⟨rfl, bb2⟩
      go_wp2
      go_ret
      exact ⟨rfl, (hB _ _).trans (Below.mono bb2 (hB _ _).size)⟩
    · have e2 : (s0.toList == s1.toList) = false := by rw [Lib.toList_data, Lib.toList_data]; exact beq_eq_false_iff_ne.2 b2
      have e3 : (s0.data.toList == s1.data.toList) = false := beq_eq_false_iff_ne.2 b2
      rw [e1, e3, Bool.true_and, Bool.false_and]
      clear hr0 hr1 b2 e3
      go_enter Tryd.func33, Tryd.ntmps33
      go_wp2
      go_ret
      exact ⟨rfl, hB _ _⟩
  · have e1 : (k0 == k1) = false := beq_eq_false_iff_ne.2 b1
    rw [e1, Bool.false_and]
    clear hr0 hr1 b1
    go_enter Tryd.func33, Tryd.ntmps33
    go_wp2
    go_ret
    exact ⟨rfl, hB _ _⟩
set_option maxHeartbeats 8000000 in
set_option maxRecDepth 1000000 in
theorem equal_of_val (n : Nat) (H : ValOk n) (A0 : Option Addr) (c0 : Nat) (l0 : List S30) (A1 : Option Addr) (c1 : Nat) (l1 : List S30) (w : World) (hn : SizeOf.sizeOf l0 < n + 1) (hr0 : Kd.C k30 w A0 l0.length l0) (hc0 : l0.length ≤ c0) (hr1 : Kd.C k30 w A1 l1.length l1) (hc1 : l1.length ≤ c1) :
    Calls Tryd.prog 32 #[.slice A0 l0.length c0, .slice A1 l1.length c1, .func (.func 33) #[] #[]] w fun e w' => e = .returned (.bool (sameL l0 l1)) ∧ Below w.heap.size w w' := by
  by_cases hl : l0.length = l1.length
  · have e0 : ((l0.length : Int) != (l1.length : Int)) = false := by rw [hl]; simp
    have hm : l0.length ≤ 9223372036854775807 := hr0.2.1
    have HL := Aside0.mk hl
    clear hl
    go_enter Tryd.func32, Tryd.ntmps32
    go_wp2
    go_loopw [17] (fun v17 wr => ∃ i : Nat, v17 = .int .i64 (i : Int) ∧ i ≤ l0.length ∧ sameL (l0.drop i) (l1.drop i) = sameL l0 l1 ∧ Below w.heap.size w wr) (fun v17 _ => l0.length - (intOf v17).toNat)
    case atStart => exact ⟨0, rfl, Nat.zero_le _, rfl, Below.refl _ _⟩
    case round =>
      obtain ⟨i, rfl, hi, hS, hbw⟩ := hrel
      by_cases hlt : i < l0.length
      · have hlt1 : i < l1.length := by have := HL.out; omega
        obtain ⟨ad0, A2, c2, e0, hx0, hx1, hx2, hl2, hk2⟩ := at_T30 hr0 (i : Int) (by omega) (by omega)
        obtain ⟨ad1, A3, c3, e1, hz0, hz1, hz2, hl3, hk3⟩ := at_T30 hr1 (i : Int) (by omega) (by omega)
        cases e0
        cases e1
        have hd : decide ((i : Int) < (l0.length : Int)) = true := decide_eq_true (by omega)
        have hx : rd_T30 l0 (i : Int) = l0[i] := by unfold rd_T30; simp [List.getD, hlt]
        have hz : rd_T30 l1 (i : Int) = l1[i] := by unfold rd_T30; simp [List.getD, hlt1]
        rw [hx] at hx0 hx1 hx2 hl2 hk2
        rw [hz] at hz0 hz1 hz2 hl3 hk3
        rw [Int.toNat_natCast] at hx0 hx1 hx2 hz0 hz1 hz2
        have hy0 := (hbw.cell (World.block_lt_of_cell? w _ hx0)).trans hx0
        have hy1 := (hbw.cell (World.block_lt_of_cell? w _ hx1)).trans hx1
        have hy2 := (hbw.cell (World.block_lt_of_cell? w _ hx2)).trans hx2
        have hq0 := (hbw.cell (World.block_lt_of_cell? w _ hz0)).trans hz0
        have hq1 := (hbw.cell (World.block_lt_of_cell? w _ hz1)).trans hz1
        have hq2 := (hbw.cell (World.block_lt_of_cell? w _ hz2)).trans hz2
        clear hx0 hx1 hx2 hz0 hz1 hz2 hx hz
        have hsm := same_kids_lt l0 i hlt
        have hstep := sameL_at l0 l1 i hlt hlt1
        generalize l0[i] = x at hy0 hy1 hy2 hl2 hk2 hsm hstep
        generalize l1[i] = z at hq0 hq1 hq2 hl3 hk3 hstep
        obtain ⟨f0, f1, f2⟩ := x
        obtain ⟨g0, g1, g2⟩ := z
        dsimp only at hy0 hy1 hy2 hl2 hk2 hsm hq0 hq1 hq2 hl3 hk3
        have cV : ∀ W : World, Below w.heap.size w W → Calls Tryd.prog 33 #[.agg #[.int .i64 f0, .string f1, .slice A2 f2.length c2], .agg #[.int .i64 g0, .string g1, .slice A3 g2.length c3]] W fun e w' => e = .returned (.bool (sameV ⟨f0, f1, f2⟩ ⟨g0, g1, g2⟩)) ∧ Below W.heap.size W w' := fun W hW => H f0 f1 A2 c2 f2 g0 g1 A3 c3 g2 W (by omega) (Kd.C_below hk2 hW) hl2 (Kd.C_below hk3 hW) hl3
        have hB : ∀ o o', Below w.heap.size w ((wr.alloc o).alloc o') := fun o o' => (hbw.alloc hbw.size o).alloc (by rw [same_alloc]; have := hbw.size; omega) o'
        have hA : ∀ o, Below wr.heap.size wr (wr.alloc o) := fun o => (Below.refl _ wr).alloc (Nat.le_refl _) o
        have hq0' := fun o => ((hA o).cell (World.block_lt_of_cell? wr _ hq0)).trans hq0
        have hq1' := fun o => ((hA o).cell (World.block_lt_of_cell? wr _ hq1)).trans hq1
        have hq2' := fun o => ((hA o).cell (World.block_lt_of_cell? wr _ hq2)).trans hq2
        clear hq0 hq1 hq2 hA
        have HS := Aside0.mk hS
        have HT := Aside0.mk hstep
        clear hS hstep hr0 hr1 hk2 hk3
        generalize sameV ⟨f0, f1, f2⟩ ⟨g0, g1, g2⟩ = b at cV HT
        cases b with
        | true =>
          go_wp2_with (go_at_call 33; refine (cV _ (hB _ _)).mono ?_)
          first | rintro e w2 rfl bb2 | rintro e w2 ⟨rfl, bb2⟩
          go_wp2
          go_roundw
          case rel => exact ⟨i + 1, congrArg _ (by omega), by omega, by rw [← HS.out, HT.out, Bool.true_and], (hB _ _).trans (Below.mono bb2 (hB _ _).size)⟩
          case measure => simp [intOf]; omega
        | false =>
          go_wp2_with (go_at_call 33; refine (cV _ (hB _ _)).mono ?_)
          first | rintro e w2 rfl bb2 | rintro e w2 ⟨rfl, bb2⟩
          go_wp2
          go_ret
          exact ⟨by rw [← HS.out, HT.out, Bool.false_and]; rfl, (hB _ _).trans (Below.mono bb2 (hB _ _).size)⟩
      · have hd : decide ((i : Int) < (l0.length : Int)) = false := decide_eq_false (by omega)
        rw [List.drop_eq_nil_of_le (by omega), List.drop_eq_nil_of_le (by have := HL.out; omega)] at hS
        have HS := Aside0.mk hS
        clear hS
        go_wp2
        go_ret
        exact ⟨by rw [← HS.out]; simp [sameL], hbw⟩
  · have e0 : ((l0.length : Int) != (l1.length : Int)) = true := bne_iff_ne.2 (by omega)
    rw [sameL_length l0 l1 hl]
    go_enter Tryd.func32, Tryd.ntmps32
    go_wp2
    go_ret
    exact ⟨rfl, Below.refl _ _⟩
set_option maxHeartbeats 8000000 in
set_option maxRecDepth 1000000 in
theorem same_ok : ∀ n, SameOk n := by
  intro n
  induction n with
  | zero => intro A0 c0 l0 A1 c1 l1 w h; omega
  | succ n ih =>
    intro A0 c0 l0 A1 c1 l1 w hn hr0 hc0 hr1 hc1
    have c := equal_of_val n (val_of_same n ih) A0 c0 l0 A1 c1 l1 w hn hr0 hc0 hr1 hc1
    go_enter Tryd.func19, Tryd.ntmps19
    go_wp2_with (go_at_call 32; refine c.mono ?_)
    first | rintro e w2 rfl bb2 | rintro e w2 ⟨rfl, bb2⟩
    go_wp2
    go_ret
    exact ⟨rfl, bb2⟩
theorem span_Same.calls (A0 : Option Addr) (c0 : Nat) (l0 : List S30) (A1 : Option Addr) (c1 : Nat) (l1 : List S30) (r : Bool) (w : World) (hr0 : Kd.C k30 w A0 l0.length l0) (hc0 : l0.length ≤ c0) (hr1 : Kd.C k30 w A1 l1.length l1) (hc1 : l1.length ≤ c1) (h : span_Same.f l0 l1 = some r) :
    Calls Tryd.prog 19 #[.slice A0 l0.length c0, .slice A1 l1.length c1] w fun e w' => e = .returned (.bool r) ∧ Below w.heap.size w w' := by
  obtain rfl := Option.some.inj h
  exact same_ok _ A0 c0 l0 A1 c1 l1 w (Nat.lt_succ_self _) hr0 hc0 hr1 hc1
end Go.Proofs.YtedieaofadhhdaaDoor.G
