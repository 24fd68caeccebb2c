/- The given contract of span.Plain: what spans read, written into a strings.Builder. -/
import Derived.Test.YtmfffpfenhgjbaaDoorX0
import Derived.Test.YtmfffpfenhgjbaaDoorShelfB
import Derived.Test.YtmfffpfenhgjbaaDoorShelf
import Derived.Lib.OthersKept
import Derived.BigCall
import Derived.Outline
set_option linter.unusedVariables false
namespace Go.Proofs.YtmfffpfenhgjbaaDoor.G
open Go.Shelf Go.RowKit Go.Lib Go.Proofs Go.Proofs.YtmfffpfenhgjbaaDoor.X Go.Proofs.YtmfffpfenhgjbaaDoorW.PrintWords Go.Proofs.YtmfffpfenhgjbaaDoorW.PrintLast Go.Proofs.YtmfffpfenhgjbaaDoorW.PrintMore
mutual
/-- What spans read. -/
def plainV : S26 → List UInt8
  | ⟨k, s, kids⟩ => (if k = 1 ∨ k = 2 then s.data.toList else []) ++ plainL kids
def plainL : List S26 → List UInt8
  | [] => []
  | x :: t => plainV x ++ plainL t
end
theorem plainL_append (a b : List S26) : plainL (a ++ b) = plainL a ++ plainL b := by
  induction a with
  | nil => simp [plainL]
  | cons x t ih => simp [plainL, ih]
def span_Plain.f (l0 : List S26) : Option ByteArray := if (plainL l0).length ≤ 140737488355328 then some ⟨(plainL l0).toArray⟩ else none
theorem plain_take (l : List S26) (i : Nat) (h : i < l.length) : plainL (l.take (i + 1)) = plainL (l.take i) ++ plainV l[i] := by
  rw [← List.take_append_getElem h, plainL_append]
  simp [plainL]
theorem plain_le (l : List S26) (i : Nat) : (plainL (l.take i)).length ≤ (plainL l).length := by
  conv => rhs; rw [← List.take_append_drop i l, plainL_append]
  rw [List.length_append]; omega
theorem builder_below {T e : TypeId} {B b : Nat} {bs : List Value} {W W' : World} (h : Lib.IsBuilderF T e B b bs W) (hb : Below W.heap.size W W') : Lib.IsBuilderF T e B b bs W' := by
  have one : ∀ p, Lib.BuilderAtF T e B b p bs W → Lib.BuilderAtF T e B b p bs W' := fun p h => by
    have hlt := h.lt
    obtain ⟨hB, v, hv, hown, hne⟩ := h
    exact ⟨hB, v, (hb.block b hlt).trans hv, hown.kept (row := none) ⟨hb.os, hb.tape, hb.output, hb.size, fun k hk _ => hb.block k hk⟩ (Classical.em _), hne⟩
  exact h.elim (fun x => .inl (one _ x)) (fun x => .inr (one _ x))
/-- A box of the call's own, behind a write into a builder. -/
theorem box_kept {W W' : World} {b g : Nat} {cs : Array Value} {t e : TypeId} (h : W.heap[g]? = some (.cells cs t (0, 0))) (hg : g ≠ b) (ht : t ≠ e) (k : Lib.OthersKept e (some b) W W') : W'.heap[g]? = some (.cells cs t (0, 0)) :=
  k g _ h (fun q => hg (Option.some.inj q)) (fun c fz q => ht (by injection q))
theorem kids_lt (l : List S26) (i : Nat) (h : i < l.length) (x : S26) (hx : l[i] = x) : SizeOf.sizeOf x.f2 < SizeOf.sizeOf l := by
  have h1 := List.sizeOf_lt_of_mem (List.getElem_mem h)
  rw [hx] at h1
  obtain ⟨a, b, c⟩ := x
  have : SizeOf.sizeOf (S26.mk a b c) = 1 + SizeOf.sizeOf a + SizeOf.sizeOf b + SizeOf.sizeOf c := S26.mk.sizeOf_spec a b c
  show SizeOf.sizeOf c < _
  omega
theorem alloc_size (w : World) (o : Obj) : (w.alloc o).heap.size = w.heap.size + 1 := by
  show (w.heap.push o).size = _
  exact Array.size_push _
theorem builder_lt {T e : TypeId} {B b : Nat} {bs : List Value} {W : World} (h : Lib.IsBuilderF T e B b bs W) : b < W.heap.size := h.elim (fun x => x.lt) (fun x => x.lt)
set_option maxHeartbeats 8000000 in
set_option maxRecDepth 1000000 in
theorem plain_any (n : Nat) : ∀ (A0 : Option Addr) (c0 : Nat) (l0 : List S26) (w : World), SizeOf.sizeOf l0 < n → (plainL l0).length ≤ 140737488355328 → Kd.C k26 w A0 l0.length l0 → l0.length ≤ c0 →
    Calls Tryd.prog 38 #[.slice A0 l0.length c0] w fun e w' => e = .returned (.string ⟨(plainL l0).toArray⟩) ∧ Below w.heap.size w w' := by
  induction n with
  | zero => intro A0 c0 l0 w h; omega
  | succ n ih =>
    intro A0 c0 l0 w hn hb hr hc
    go_enter Tryd.func38, Tryd.ntmps38
    go_wp2
    go_loopw [8] (fun v8 wr => ∃ i : Nat, v8 = .int .i64 (i : Int) ∧ i ≤ l0.length ∧ Lib.IsBuilderF 62 5 w.heap.size w.heap.size (Lib.byteCells (plainL (l0.take i))) wr ∧ Below w.heap.size w wr) (fun v8 _ => l0.length - (intOf v8).toNat)
    case atStart =>
      refine ⟨0, rfl, Nat.zero_le _, ?_, ?_⟩
      · exact Lib.IsBuilderF.of (Lib.fresh_isBuilder 62 5 w)
      · exact (Below.refl _ w).alloc (Nat.le_refl _) _
    case round =>
      obtain ⟨i, rfl, hi, hI, hbw⟩ := hrel
      have hm : l0.length ≤ 9223372036854775807 := hr.2.1
      by_cases hlt : i < l0.length
      · obtain ⟨ad, A2, c2, e0, hx0, hx1, hx2, hl2, hk2⟩ := at_T26 hr (i : Int) (by omega) (by omega)
        cases e0
        have hd : decide ((i : Int) < (l0.length : Int)) = true := decide_eq_true (by omega)
        have hx : rd_T26 l0 (i : Int) = l0[i] := by unfold rd_T26; simp [List.getD, hlt]
        rw [hx] at hx0 hx1 hx2 hl2 hk2
        rw [Int.toNat_natCast] at hx0 hx1 hx2
        have hy0 := (hbw.cell (World.block_lt_of_cell? w _ hx0)).trans hx0
        have hy1 := (hbw.cell (World.block_lt_of_cell? w _ hx1)).trans hx1
        have hy2 := (hbw.cell (World.block_lt_of_cell? w _ hx2)).trans hx2
        clear hx0 hx1 hx2
        have hpt := plain_take l0 i hlt
        have hpl := plain_le l0 (i + 1)
        generalize hxe : l0[i] = x at hy0 hy1 hy2 hl2 hk2 hpt
        obtain ⟨f0, f1, f2⟩ := x
        dsimp only at hy0 hy1 hy2 hl2 hk2
        have hsm := kids_lt l0 i hlt _ hxe
        have hpv : plainV (S26.mk f0 f1 f2) = (if f0 = 1 ∨ f0 = 2 then f1.data.toList else []) ++ plainL f2 := by rw [plainV]
        rw [hpv] at hpt
        have hne : wr.heap.size ≠ w.heap.size := by have := builder_lt hI; omega
        have hwr : w.heap.size ≤ wr.heap.size := hbw.size
        have tail : ∀ (w1 : World) (pre : List UInt8), Lib.IsBuilderF 62 5 w.heap.size w.heap.size (Lib.byteCells (plainL (l0.take i) ++ pre)) w1 → Below w.heap.size w w1 → (pre = if f0 = 1 ∨ f0 = 2 then f1.data.toList else []) →
            Calls Tryd.prog 38 #[.slice A2 f2.length c2] w1 (fun e w2 => e = .returned (.string ⟨(plainL f2).toArray⟩) ∧ Below w1.heap.size w1 w2) ∧ (plainL f2).length ≤ 140737488355328 ∧ (plainL (l0.take i) ++ pre).length + (plainL f2).length ≤ 140737488355328 := by
          intro w1 pre _ hb1 hp
          have hl : (plainL (l0.take i) ++ pre).length + (plainL f2).length ≤ 140737488355328 := by
            rw [← List.length_append, List.append_assoc, hp, ← hpt]; omega
          exact ⟨ih A2 c2 f2 w1 (by have : SizeOf.sizeOf f2 < SizeOf.sizeOf l0 := hsm; omega) (by omega) (Kd.C_below hk2 hb1) hl2, by omega, hl⟩
        by_cases c12 : f0 = 1 ∨ f0 = 2
        · have hpre : f1.data.toList = if f0 = 1 ∨ f0 = 2 then f1.data.toList else [] := (if_pos c12).symm
          have hlen1 : (plainL (l0.take i)).length + f1.size ≤ 140737488355328 := by
            rw [Lib.size_eq f1, ← List.length_append]
            have : (plainL (l0.take i) ++ f1.data.toList).length ≤ (plainL (l0.take (i + 1))).length := by rw [hpt, if_pos c12, ← List.append_assoc, List.length_append (bs := plainL f2)]; omega
            omega
          have wr1 := Tryd.Builder_WriteString_k w.heap.size w.heap.size _ f1 _ (hI.alloc (.cells #[.int .i64 f0, .string f1, .slice A2 f2.length c2] 26)) (by rw [Lib.byteCells_length]; exact hlen1) (by rw [alloc_size]; omega)
          rcases c12 with c1 | c2'
          · have b1 : (f0 == 1) = true := beq_iff_eq.2 c1
            subst c1
            go_wp2_with (go_at_call 59; refine wr1.mono ?_)
            first | rintro e w1 rfl h1 bb1 k1 | rintro e w1 ⟨rfl, h1, bb1, k1⟩
            have hbx := box_kept (e := 5) (heap_alloc_new wr (.cells #[.int .i64 1, .string f1, .slice A2 f2.length c2] 26)) hne (by decide) k1
            have hz2 : w1.cell? ⟨wr.heap.size, 2, none⟩ = some (.slice A2 f2.length c2) := (blk_cell hbx 2).trans rfl
            have hB1 : Below w.heap.size w w1 := ((hbw.alloc hwr _).trans bb1)
            have hI1 : Lib.IsBuilderF 62 5 w.heap.size w.heap.size (Lib.byteCells (plainL (l0.take i) ++ f1.data.toList)) w1 := by rw [Lib.byteCells_append, ← Lib.strCells_eq]; exact Or.inr h1
            obtain ⟨cP, hl4, hl5⟩ := tail w1 _ hI1 hB1 hpre
            rw [← hpre] at hpt
            clear tail hpre hpv
            have HP := Aside0.mk hpt
            clear hpt
            go_wp2_with (go_at_call 38; refine cP.mono ?_)
            first | rintro e w2 rfl bb2 | rintro e w2 ⟨rfl, bb2⟩
            have hB2 : Below w.heap.size w w2 := hB1.trans (bb2.mono hB1.size)
            have wr2 := Tryd.Builder_WriteString_k w.heap.size w.heap.size _ (⟨(plainL f2).toArray⟩ : ByteArray) w2 (builder_below hI1 bb2) (by rw [Lib.byteCells_length, Lib.size_eq]; exact hl5) hB2.size
            go_wp2_with (go_at_call 59; refine wr2.mono ?_)
            first | rintro e w3 rfl h3 bb3 k3 | rintro e w3 ⟨rfl, h3, bb3, k3⟩
            go_wp2
            go_roundw
            case rel =>
              refine ⟨i + 1, congrArg _ (by omega), by omega, ?_, hB2.trans bb3⟩
              rw [HP.out, ← List.append_assoc, Lib.byteCells_append _ (plainL f2)]
              exact Or.inr h3
            case measure => simp [intOf]; omega
          · have b1 : (f0 == 1) = false := beq_eq_false_iff_ne.2 (by omega)
            have b2 : (f0 == 2) = true := beq_iff_eq.2 c2'
            subst c2'
            go_wp2_with (go_at_call 59; refine wr1.mono ?_)
            first | rintro e w1 rfl h1 bb1 k1 | rintro e w1 ⟨rfl, h1, bb1, k1⟩
            have hbx := box_kept (e := 5) (heap_alloc_new wr (.cells #[.int .i64 2, .string f1, .slice A2 f2.length c2] 26)) hne (by decide) k1
            have hz2 : w1.cell? ⟨wr.heap.size, 2, none⟩ = some (.slice A2 f2.length c2) := (blk_cell hbx 2).trans rfl
            have hB1 : Below w.heap.size w w1 := ((hbw.alloc hwr _).trans bb1)
            have hI1 : Lib.IsBuilderF 62 5 w.heap.size w.heap.size (Lib.byteCells (plainL (l0.take i) ++ f1.data.toList)) w1 := by rw [Lib.byteCells_append, ← Lib.strCells_eq]; exact Or.inr h1
            obtain ⟨cP, hl4, hl5⟩ := tail w1 _ hI1 hB1 hpre
            rw [← hpre] at hpt
            clear tail hpre hpv
            have HP := Aside0.mk hpt
            clear hpt
            go_wp2_with (go_at_call 38; refine cP.mono ?_)
            first | rintro e w2 rfl bb2 | rintro e w2 ⟨rfl, bb2⟩
            have hB2 : Below w.heap.size w w2 := hB1.trans (bb2.mono hB1.size)
            have wr2 := Tryd.Builder_WriteString_k w.heap.size w.heap.size _ (⟨(plainL f2).toArray⟩ : ByteArray) w2 (builder_below hI1 bb2) (by rw [Lib.byteCells_length, Lib.size_eq]; exact hl5) hB2.size
            go_wp2_with (go_at_call 59; refine wr2.mono ?_)
            first | rintro e w3 rfl h3 bb3 k3 | rintro e w3 ⟨rfl, h3, bb3, k3⟩
            go_wp2
            go_roundw
            case rel =>
              refine ⟨i + 1, congrArg _ (by omega), by omega, ?_, hB2.trans bb3⟩
              rw [HP.out, ← List.append_assoc, Lib.byteCells_append _ (plainL f2)]
              exact Or.inr h3
            case measure => simp [intOf]; omega
        · have hpre : ([] : List UInt8) = if f0 = 1 ∨ f0 = 2 then f1.data.toList else [] := (if_neg c12).symm
          have b1 : (f0 == 1) = false := beq_eq_false_iff_ne.2 (fun e => c12 (.inl e))
          have b2 : (f0 == 2) = false := beq_eq_false_iff_ne.2 (fun e => c12 (.inr e))
          have hI1 : Lib.IsBuilderF 62 5 w.heap.size w.heap.size (Lib.byteCells (plainL (l0.take i) ++ [])) (wr.alloc (.cells #[.int .i64 f0, .string f1, .slice A2 f2.length c2] 26)) := by rw [List.append_nil]; exact hI.alloc _
          have hB1 : Below w.heap.size w (wr.alloc (.cells #[.int .i64 f0, .string f1, .slice A2 f2.length c2] 26)) := hbw.alloc hwr _
          obtain ⟨cP, hl4, hl5⟩ := tail _ _ hI1 hB1 hpre
          rw [← hpre] at hpt
          clear tail hpre hpv c12
          have HP := Aside0.mk hpt
          clear hpt
          go_wp2_with (go_at_call 38; refine cP.mono ?_)
          first | rintro e w2 rfl bb3 | rintro e w2 ⟨rfl, bb3⟩
          have bb2 : Below (wr.alloc (.cells #[.int .i64 f0, .string f1, .slice A2 f2.length c2] 26)).heap.size (wr.alloc (.cells #[.int .i64 f0, .string f1, .slice A2 f2.length c2] 26)) w2 := by first | exact bb3 | (rw [alloc_size]; exact bb3)
          have hB2 : Below w.heap.size w w2 := hB1.trans (bb2.mono hB1.size)
          have wr2 := Tryd.Builder_WriteString_k w.heap.size w.heap.size _ (⟨(plainL f2).toArray⟩ : ByteArray) w2 (builder_below hI1 bb2) (by rw [Lib.byteCells_length, Lib.size_eq]; exact hl5) hB2.size
          go_wp2_with (go_at_call 59; refine wr2.mono ?_)
          first | rintro e w3 rfl h3 bb3 k3 | rintro e w3 ⟨rfl, h3, bb3, k3⟩
          go_wp2
          go_roundw
          case rel =>
            refine ⟨i + 1, congrArg _ (by omega), by omega, ?_, hB2.trans bb3⟩
            rw [HP.out, ← List.append_assoc, Lib.byteCells_append _ (plainL f2)]
            exact Or.inr h3
          case measure => simp [intOf]; omega
      · have hd : decide ((i : Int) < (l0.length : Int)) = false := decide_eq_false (by omega)
        have e1 : i = l0.length := by omega
        subst e1
        rw [List.take_length] at hI
        have st := Tryd.Builder_String_any_k w.heap.size w.heap.size (plainL l0) wr hI hbw.size
        go_wp2_with (go_at_call 55; refine st.mono ?_)
        first | rintro e w1 rfl _ b1 _ | rintro e w1 ⟨rfl, _, b1, _⟩
        go_wp2
        go_ret
        exact ⟨rfl, hbw.trans b1⟩
theorem span_Plain.calls (A0 : Option Addr) (c0 : Nat) (l0 : List S26) (r : ByteArray) (w : World) (hr0 : Kd.C k26 w A0 l0.length l0) (hc0 : l0.length ≤ c0) (h : span_Plain.f l0 = some r) :
    Calls Tryd.prog 38 #[.slice A0 l0.length c0] w fun e w' => e = .returned (.string r) ∧ Below w.heap.size w w' := by
  unfold span_Plain.f at h
  split at h
  · rename_i c
    obtain rfl := Option.some.inj h
    exact plain_any _ A0 c0 l0 w (Nat.lt_succ_self _) c hr0 hc0
  · cases h
end Go.Proofs.YtmfffpfenhgjbaaDoor.G
