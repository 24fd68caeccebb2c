/- The given contract of spanout.write and Write: spans written into a strings.Builder. -/
import Derived.Test.YtmfffpfenhgjbaaDoorGivenFence
import Derived.Test.YtmfffpfenhgjbaaDoorPWriteF
import Derived.Test.YtmfffpfenhgjbaaDoorGivenPlain
import Derived.Test.YtmfffpfenhgjbaaDoorGivenRight
set_option linter.unusedVariables false
set_option linter.unusedSimpArgs false
namespace Go.Proofs.YtmfffpfenhgjbaaDoor.G
open Go.Shelf Go.RowKit Go.Lib Go.Proofs Go.Proofs.YtmfffpfenhgjbaaDoor.X Go.Proofs.YtmfffpfenhgjbaaDoor.Pure Go.Proofs.YtmfffpfenhgjbaaDoorW.PrintWords Go.Proofs.YtmfffpfenhgjbaaDoorW.PrintLast Go.Proofs.YtmfffpfenhgjbaaDoorW.PrintMore
theorem others_below {e : TypeId} {b : Option Nat} {a w w' : World} (h : OthersKept e b a w) (hb : Below w.heap.size w w') : OthersKept e b a w' := by
  intro k x hk hbk hx
  have h1 := h k x hk hbk hx
  exact (hb.block k (blk_lt h1)).trans h1
theorem wr_take (l : List Sp) (i : Nat) (h : i < l.length) : wrL (l.take (i + 1)) = wrL (l.take i) ++ wrV l[i] := by
  rw [← List.take_append_getElem h, wrL_append, wrL_cons]
  rw [show wrL ([] : List Sp) = [] from by rw [wrL], List.append_nil]
theorem wr_le (l : List Sp) (i : Nat) : (wrL (l.take i)).length ≤ (wrL l).length := by
  conv => rhs; rw [← List.take_append_drop i l, wrL_append]
  rw [List.length_append]; omega
/-- Where the loop of write stands. -/
structure WrAt (w0 w : World) (bs : List UInt8) (l0 : List Sp) (i : Nat) (wr : World) : Prop where
  hi : i ≤ l0.length
  b : IsBuilderF 62 5 w0.heap.size w0.heap.size (byteCells (bs ++ wrL (l0.take i))) wr
  below : Below w0.heap.size w0 wr
  bw : Below w0.heap.size w wr
  others : OthersKept 5 (some w0.heap.size) w wr
/-- A world within a round: the builder holds so many bytes; the box of the span stands. -/
structure WrIn (w0 w : World) (bs : List UInt8) (g : Nat) (x : Array Value) (wr : World) : Prop where
  b : IsBuilderF 62 5 w0.heap.size w0.heap.size (byteCells bs) wr
  below : Below w0.heap.size w0 wr
  bw : Below w0.heap.size w wr
  others : OthersKept 5 (some w0.heap.size) w wr
  box : wr.heap[g]? = some (.cells x 26 (0, 0))
theorem WrIn.moved {w0 w wr w1 : World} {bs : List UInt8} {g : Nat} {x : Array Value} (h : WrIn w0 w bs g x wr) (hb : Below wr.heap.size wr w1) : WrIn w0 w bs g x w1 :=
  ⟨builder_below h.b hb, h.below.trans (Below.mono hb h.below.size), h.bw.trans (Below.mono hb h.below.size), others_below h.others hb, blk_below h.box hb⟩
theorem WrIn.wrote {w0 w wr w1 : World} {bs cs : List UInt8} {g : Nat} {x : Array Value} (h : WrIn w0 w bs g x wr) (hg : g ≠ w0.heap.size) (hI : IsBuilderF 62 5 w0.heap.size w0.heap.size (byteCells (bs ++ cs)) w1) (hb : Below w0.heap.size wr w1) (hk : OthersKept 5 (some w0.heap.size) wr w1) : WrIn w0 w (bs ++ cs) g x w1 :=
  ⟨hI, h.below.trans hb, h.bw.trans hb, h.others.trans hk, box_kept (e := 5) h.box hg (by decide) hk⟩
theorem WrIn.string {w0 w wr : World} {bs : List UInt8} {g : Nat} {x : Array Value} (h : WrIn w0 w bs g x wr) (hg : g ≠ w0.heap.size) (s : ByteArray) (hl : bs.length + s.size ≤ 1000000) :
    Calls Tryd.prog 59 #[.pointer (some ⟨w0.heap.size, 0, none⟩), .string s] wr fun e w' => e = .returned (.tuple #[.int .i64 s.size, .nilIface]) ∧ WrIn w0 w (bs ++ L s) g x w' :=
  (Tryd.Builder_WriteString_k w0.heap.size w0.heap.size _ s wr h.b (by rw [byteCells_length]; omega) h.below.size).mono (by
    rintro e w1 ⟨rfl, h1, bb1, k1⟩
    refine ⟨rfl, h.wrote hg ?_ bb1 k1⟩
    rw [byteCells_append]
    have : byteCells (L s) = strCells s := (strCells_eq s).symm
    rw [this]
    exact Or.inr h1)
set_option maxHeartbeats 8000000 in
set_option maxRecDepth 1000000 in
theorem write_any (w0 : World) (n : Nat) : ∀ (A0 : Option Addr) (c0 : Nat) (l0 : List Sp) (bs : List UInt8) (w : World), SizeOf.sizeOf l0 < n → bs.length + (wrL l0).length ≤ 1000000 → Kd.C k26 w0 A0 l0.length l0 → l0.length ≤ c0 →
    IsBuilderF 62 5 w0.heap.size w0.heap.size (byteCells bs) w → Below w0.heap.size w0 w →
    Calls Tryd.prog 54 #[.pointer (some ⟨w0.heap.size, 0, none⟩), .slice A0 l0.length c0] w fun e w' => e = .returned (.tuple #[]) ∧ IsBuilderF 62 5 w0.heap.size w0.heap.size (byteCells (bs ++ wrL l0)) w' ∧ Below w0.heap.size w w' ∧ OthersKept 5 (some w0.heap.size) w w' := by
  induction n with
  | zero => intro A0 c0 l0 bs w h; omega
  | succ n ih =>
    intro A0 c0 l0 bs w hn hb hr hc hI hB
    have HI := Aside0.mk hI
    have HB := Aside0.mk hB
    have HIH := Aside0.mk ih
    clear hI hB ih
    go_enter Tryd.func54, Tryd.ntmps54
    go_wp2_with fail
    go_loopw [9] (fun v9 wr => ∃ i : Nat, v9 = .int .i64 (i : Int) ∧ WrAt w0 w bs l0 i wr) (fun v9 _ => l0.length - (intOf v9).toNat)
    case atStart =>
      exact ⟨0, rfl, Nat.zero_le _, by rw [List.take_zero, show wrL ([] : List Sp) = [] from by rw [wrL], List.append_nil]; exact HI.out, HB.out, Below.refl _ _, OthersKept.refl _ _ _⟩
    case round =>
      obtain ⟨i, rfl, hat⟩ := hrel
      have hm : l0.length ≤ 9223372036854775807 := hr.2.1
      have HA := Aside0.mk hat
      by_cases hlt : i < l0.length
      · obtain ⟨ad, A2, c2, e0, hx0, hx1, hx2, hl2, hk2⟩ := at_T26 hr (i : Int) (by omega) (by omega)
        cases e0
        have hd : decide ((i : Int) < (l0.length : Int)) = true := decide_eq_true (by omega)
        have hx : rd_T26 l0 (i : Int) = l0[i] := by unfold rd_T26; simp [List.getD, hlt]
        rw [hx] at hx0 hx1 hx2 hl2 hk2
        rw [Int.toNat_natCast] at hx0 hx1 hx2
        have hy0 := (hat.below.cell (World.block_lt_of_cell? w0 _ hx0)).trans hx0
        have hy1 := (hat.below.cell (World.block_lt_of_cell? w0 _ hx1)).trans hx1
        have hy2 := (hat.below.cell (World.block_lt_of_cell? w0 _ hx2)).trans hx2
        clear hx0 hx1 hx2
        have hpt := wr_take l0 i hlt
        have hpl := wr_le l0 (i + 1)
        generalize hxe : l0[i] = x at hy0 hy1 hy2 hl2 hk2 hpt
        rw [wrV_eq] at hpt
        obtain ⟨f0, f1, f2⟩ := x
        dsimp only at hy0 hy1 hy2 hl2 hk2 hpt
        have hsm := kids_lt l0 i hlt _ hxe
        have hne : wr.heap.size ≠ w0.heap.size := by have := builder_lt hat.b; omega
        have HW := Aside0.mk (show WrIn w0 w (bs ++ wrL (l0.take i)) wr.heap.size #[.int .i64 f0, .string f1, .slice A2 f2.length c2] (wr.alloc (.cells #[.int .i64 f0, .string f1, .slice A2 f2.length c2] 26)) from
          ⟨hat.b.alloc _, hat.below.alloc hat.below.size _, hat.bw.alloc hat.below.size _, hat.others.alloc _, blk_new wr _⟩)
        have hend : ∀ (w1 : World) (cs : List UInt8), WrIn w0 w ((bs ++ wrL (l0.take i)) ++ cs) wr.heap.size #[.int .i64 f0, .string f1, .slice A2 f2.length c2] w1 → wrL (l0.take (i + 1)) = wrL (l0.take i) ++ cs → WrAt w0 w bs l0 (i + 1) w1 := by
          intro w1 cs h1 h2
          exact ⟨by omega, by rw [h2, ← List.append_assoc]; exact h1.b, h1.below, h1.bw, h1.others⟩
        have HK := Aside0.mk hk2
        have HNE := Aside0.mk hne
        have HEND := Aside0.mk hend
        have hfin : bs.length + (wrL (l0.take (i + 1))).length ≤ 1000000 := by omega
        have HP := Aside0.mk hpt
        have HF := Aside0.mk hfin
        have HIJ := Aside0.mk (show (i : Int) + 1 = ((i + 1 : Nat) : Int) by omega)
        have HSM := Aside0.mk (show SizeOf.sizeOf f2 < n by have : SizeOf.sizeOf f2 < SizeOf.sizeOf l0 := hsm; omega)
        clear hend hpt hfin hat hk2 hne hsm hxe hpl hx hn
        by_cases c1 : f0 = 1
        · have b1 : (f0 == 1) = true := beq_iff_eq.2 c1
          have hp := HP.out
          rw [if_pos c1] at hp
          have hle := le_escW (L f1)
          have hle2 := escW_le (L f1)
          have hll := HF.out
          rw [hp, List.length_append] at hll
          have HP1 := Aside0.mk hp
          have hs1 : f1.size ≤ 1000000 := by rw [L_size]; omega
          have cE := fun W => spanout_Escape.calls (f1.size + 1) f1 _ W (Escape_eq f1 (f1.size + 1) hs1 (Nat.lt_succ_self _))
          have HLL := Aside0.mk (show (bs ++ wrL (l0.take i)).length + (⟨(escW (L f1)).toArray⟩ : ByteArray).size ≤ 1000000 by rw [List.length_append, L_size, L_mk]; omega)
          clear hp hle hle2 hll hs1 c1 HP HF
          as_aux_lemma =>
            go_wp2_with fail
            refine (cE _).mono ?_
            rintro e w1 ⟨rfl, hb1⟩
            have HW1 := Aside0.mk (HW.out.moved hb1)
            have cS := HW1.out.string HNE.out _ HLL.out
            clear cE
            go_wp2_with fail
            refine cS.mono ?_
            rintro e w2 ⟨rfl, h2⟩
            have HW2 := Aside0.mk h2
            clear cS h2
            go_wp2_with fail
            go_roundw
            case rel => exact ⟨i + 1, congrArg _ HIJ.out, HEND.out _ _ HW2.out (by rw [L_mk]; exact HP1.out)⟩
            case measure => simp [intOf]; omega
        · have b1 : (f0 == 1) = false := beq_eq_false_iff_ne.2 c1
          have hp := HP.out
          rw [if_neg c1] at hp
          by_cases c2' : f0 = 2
          · have b2 : (f0 == 2) = true := beq_iff_eq.2 c2'
            rw [if_pos c2'] at hp
            have hll := HF.out
            rw [hp, List.length_append, List.length_append, List.length_append, List.length_replicate] at hll
            have HP1 := Aside0.mk hp
            have hpz : (L f1).length ≤ (padL (L f1)).length := by
              unfold padL; split
              · rw [List.length_cons, List.length_append]; omega
              · exact Nat.le_refl _
            have hs1 : f1.size ≤ 1000000 := by rw [L_size]; omega
            have cF := fun W => spanout_Fence.calls f1 ((fenceL (L f1) : Nat) : Int) W (by unfold spanout_Fence.f; rw [if_pos hs1])
            have hfl : fenceL (L f1) ≤ 1000000 := by omega
            have cR := fun W => strings_Repeat.calls (⟨#[96]⟩ : ByteArray) ((fenceL (L f1) : Nat) : Int) ⟨(List.replicate (fenceL (L f1)) 96).toArray⟩ W (by
              unfold strings_Repeat.f
              rw [if_pos ⟨by omega, by omega, by rw [Int.toNat_natCast]; show 1 * fenceL (L f1) ≤ _; omega⟩, Int.toNat_natCast]
              show some (⟨(repeatL [96] (fenceL (L f1))).toArray⟩ : ByteArray) = _
              rw [repeat_tick])
            have cP := fun W => spanout_padded.calls 1 f1 _ W (padded_eq f1 0 hs1)
            have hpl2 : (⟨(padL (L f1)).toArray⟩ : ByteArray).size ≤ 1000000 := by rw [L_size, L_mk]; omega
            have hrl : (⟨(List.replicate (fenceL (L f1)) 96).toArray⟩ : ByteArray).size ≤ 1000000 := by rw [L_size, L_mk, List.length_replicate]; omega
            generalize hzr : (⟨(List.replicate (fenceL (L f1)) 96).toArray⟩ : ByteArray) = zr at cR hrl
            generalize hzp : (⟨(padL (L f1)).toArray⟩ : ByteArray) = zp at cP hpl2
            have hlen : L (zr ++ zp ++ zr) = List.replicate (fenceL (L f1)) 96 ++ padL (L f1) ++ List.replicate (fenceL (L f1)) 96 := by
              have g1 : L zr = List.replicate (fenceL (L f1)) 96 := by rw [← hzr]; exact L_mk _
              have g2 : L zp = padL (L f1) := by rw [← hzp]; exact L_mk _
              rw [L_append, L_append, g1, g2]
            have HLE := Aside0.mk hlen
            have HLL := Aside0.mk (show (bs ++ wrL (l0.take i)).length + (zr ++ zp ++ zr).size ≤ 1000000 by
              rw [List.length_append, L_size, hlen, List.length_append, List.length_append, List.length_replicate]; omega)
            generalize ((fenceL (L f1) : Nat) : Int) = fn at cF cR
            clear hp hll hs1 c1 HP HF hpz hfl hzr hzp hlen c2'
            as_aux_lemma =>
              go_wp2_with fail
              refine (cF _).mono ?_
              rintro e w1 ⟨rfl, hb1⟩
              have HW1 := Aside0.mk (HW.out.moved hb1)
              clear cF
              go_wp2_with fail
              refine (cR _).mono ?_
              rintro e w2 ⟨rfl, hb2⟩
              have HW2 := Aside0.mk (HW1.out.moved hb2)
              have q1 := blk_cell HW2.out.box 1
              clear cR
              go_wp2_with fail
              refine (cP _).mono ?_
              rintro e w3 ⟨rfl, hb3⟩
              have HW3 := Aside0.mk (HW2.out.moved hb3)
              have cS := HW3.out.string HNE.out _ HLL.out
              clear cP q1
              go_wp2_with fail
              refine cS.mono ?_
              rintro e w4 ⟨rfl, h4⟩
              have HW4 := Aside0.mk h4
              clear cS h4
              go_wp2_with fail
              go_roundw
              case rel => exact ⟨i + 1, congrArg _ HIJ.out, HEND.out _ _ HW4.out (by rw [HLE.out]; exact HP1.out)⟩
              case measure => simp [intOf]; omega
          · have b2 : (f0 == 2) = false := beq_eq_false_iff_ne.2 c2'
            rw [if_neg c2'] at hp
            by_cases c3 : f0 = 3
            · have b3 : (f0 == 3) = true := beq_iff_eq.2 c3
              rw [if_pos c3] at hp
              have HP1 := Aside0.mk hp
              have hll := HF.out
              rw [hp, List.length_append, List.length_cons, List.length_append, List.length_singleton] at hll
              have HL1 := Aside0.mk (show (bs ++ wrL (l0.take i)).length + (⟨#[42]⟩ : ByteArray).size ≤ 1000000 by rw [List.length_append]; show _ + 1 ≤ _; omega)
              have HL2 := Aside0.mk (show (bs ++ wrL (l0.take i) ++ L (⟨#[42]⟩ : ByteArray)).length + (wrL f2).length ≤ 1000000 by rw [List.length_append, List.length_append]; show _ + 1 + _ ≤ _; omega)
              have HL3 := Aside0.mk (show (bs ++ wrL (l0.take i) ++ L (⟨#[42]⟩ : ByteArray) ++ wrL f2).length + (⟨#[42]⟩ : ByteArray).size ≤ 1000000 by rw [List.length_append, List.length_append, List.length_append]; show _ + 1 + _ + 1 ≤ _; omega)
              clear hp hll c1 c2' c3 HP HF
              as_aux_lemma =>
                have cS := HW.out.string HNE.out _ HL1.out
                go_wp2_with fail
                refine cS.mono ?_
                rintro e w1 ⟨rfl, h1⟩
                have HW1 := Aside0.mk h1
                have q2 := blk_cell h1.box 2
                have cK := HIH.out A2 c2 f2 _ w1 HSM.out HL2.out HK.out hl2 h1.b h1.below
                clear cS h1
                go_wp2_with fail
                refine cK.mono ?_
                rintro e w2 ⟨rfl, hi2, hb2, ho2⟩
                have HW2 := Aside0.mk (HW1.out.wrote HNE.out hi2 hb2 ho2)
                have cS := HW2.out.string HNE.out _ HL3.out
                clear cK q2 hi2 hb2 ho2
                go_wp2_with fail
                refine cS.mono ?_
                rintro e w3 ⟨rfl, h3⟩
                have HW3 := Aside0.mk h3
                clear cS h3
                go_wp2_with fail
                go_roundw
                case rel =>
                  refine ⟨i + 1, congrArg _ HIJ.out, HEND.out _ (42 :: (wrL f2 ++ [42])) ?_ HP1.out⟩
                  have := HW3.out
                  rw [List.append_assoc, List.append_assoc] at this
                  exact this
                case measure => simp [intOf]; omega
            · have b3 : (f0 == 3) = false := beq_eq_false_iff_ne.2 c3
              rw [if_neg c3] at hp
              have HP1 := Aside0.mk hp
              have hll := HF.out
              rw [hp, List.length_append, List.length_cons, List.length_append, List.length_append, List.length_append, List.length_singleton] at hll
              have hll2 : bs.length + (wrL (l0.take i)).length + ((wrL f2).length + 2 + (L f1).length + 1 + 1) ≤ 1000000 := by
                have : ([93, 40] : List UInt8).length = 2 := rfl
                omega
              have hs1 : f1.size ≤ 1000000 := by rw [L_size]; omega
              have HL1 := Aside0.mk (show (bs ++ wrL (l0.take i)).length + (⟨#[91]⟩ : ByteArray).size ≤ 1000000 by rw [List.length_append]; show _ + 1 ≤ _; omega)
              have HL2 := Aside0.mk (show (bs ++ wrL (l0.take i) ++ L (⟨#[91]⟩ : ByteArray)).length + (wrL f2).length ≤ 1000000 by rw [List.length_append, List.length_append]; show _ + 1 + _ ≤ _; omega)
              have HL3 := Aside0.mk (show (bs ++ wrL (l0.take i) ++ L (⟨#[91]⟩ : ByteArray) ++ wrL f2).length + ((⟨#[93, 40]⟩ : ByteArray) ++ f1 ++ (⟨#[41]⟩ : ByteArray)).size ≤ 1000000 by
                rw [List.length_append, List.length_append, List.length_append, size_append, size_append, L_size f1]; show _ + 1 + _ + (2 + _ + 1) ≤ _; omega)
              clear hp hll hll2 c1 c2' c3 HP HF
              as_aux_lemma =>
                have cS := HW.out.string HNE.out _ HL1.out
                go_wp2_with fail
                refine cS.mono ?_
                rintro e w1 ⟨rfl, h1⟩
                have HW1 := Aside0.mk h1
                have q2 := blk_cell h1.box 2
                have cK := HIH.out A2 c2 f2 _ w1 HSM.out HL2.out HK.out hl2 h1.b h1.below
                clear cS h1
                go_wp2_with fail
                refine cK.mono ?_
                rintro e w2 ⟨rfl, hi2, hb2, ho2⟩
                have HW2 := Aside0.mk (HW1.out.wrote HNE.out hi2 hb2 ho2)
                have q1 := blk_cell HW2.out.box 1
                have cS := HW2.out.string HNE.out _ HL3.out
                clear cK q2 hi2 hb2 ho2
                go_wp2_with fail
                refine cS.mono ?_
                rintro e w3 ⟨rfl, h3⟩
                have HW3 := Aside0.mk h3
                clear cS h3
                go_wp2_with fail
                go_roundw
                case rel =>
                  refine ⟨i + 1, congrArg _ HIJ.out, HEND.out _ (91 :: (wrL f2 ++ [93, 40] ++ L f1 ++ [41])) ?_ HP1.out⟩
                  have := HW3.out
                  rw [L_append, L_append, List.append_assoc, List.append_assoc] at this
                  have e : L (⟨#[91]⟩ : ByteArray) ++ (wrL f2 ++ (L (⟨#[93, 40]⟩ : ByteArray) ++ L f1 ++ L (⟨#[41]⟩ : ByteArray))) = 91 :: (wrL f2 ++ [93, 40] ++ L f1 ++ [41]) := by
                    show 91 :: (wrL f2 ++ ([93, 40] ++ L f1 ++ [41])) = _
                    simp
                  rw [e] at this
                  exact this
                case measure => simp [intOf]; omega
      · have hd : decide ((i : Int) < (l0.length : Int)) = false := decide_eq_false (by omega)
        have hi := hat.hi
        have e1 : i = l0.length := by omega
        subst e1
        clear hat
        go_wp2_with fail
        have h := HA.out
        refine bodyPost_end (results_none rfl _ _ _) rfl ⟨rfl, ?_, h.bw, h.others⟩
        have := h.b
        rw [List.take_length] at this
        exact this
/-- Spans, written. -/
def spanout_Write.f (l0 : List Sp) : Option (ByteArray × Int) := (span_Right.f l0).bind fun b => if b = true then (if (wrL l0).length ≤ 1000000 then some (⟨(wrL l0).toArray⟩, 0) else none) else some (⟨#[]⟩, 6)
set_option maxHeartbeats 8000000 in
set_option maxRecDepth 1000000 in
theorem spanout_Write.calls (A0 : Option Addr) (c0 : Nat) (l0 : List Sp) (r1 : ByteArray) (r2 : Int) (w : World) (hT : Tabs w) (hr0 : Kd.C k26 w A0 l0.length l0) (hc0 : l0.length ≤ c0) (h : spanout_Write.f l0 = some (r1, r2)) :
    Calls Tryd.prog 31 #[.slice A0 l0.length c0] w fun e w' => e = .returned (.tuple #[.string r1, .int .i64 r2]) ∧ Below w.heap.size w w' := by
  unfold spanout_Write.f at h
  obtain ⟨b, hb, h⟩ := Option.bind_eq_some_iff.1 h
  have cR := span_Right.calls A0 c0 l0 b w hT hr0 hc0 hb
  have HR := Aside0.mk hr0
  clear hb hr0
  cases b with
  | false =>
    rw [if_neg (by decide)] at h
    obtain ⟨rfl, rfl⟩ := Prod.mk.inj (Option.some.inj h)
    clear h
    go_enter Tryd.func31, Tryd.ntmps31
    go_wp2_with fail
    refine cR.mono ?_
    rintro e w1 ⟨rfl, hb1⟩
    clear cR
    have HB := Aside0.mk hb1
    clear hb1
    go_wp2_with fail
    refine bodyPost_ret (v := .tuple #[.string ⟨#[]⟩, .int .i64 6]) (by simp [results, Tryd.results31, go_sem]) rfl ⟨rfl, HB.out⟩
  | true =>
    rw [if_pos rfl] at h
    split at h
    · rename_i hl
      obtain ⟨rfl, rfl⟩ := Prod.mk.inj (Option.some.inj h)
      clear h
      have HL := Aside0.mk hl
      clear hl
      go_enter Tryd.func31, Tryd.ntmps31
      go_wp2_with fail
      refine cR.mono ?_
      rintro e w1 ⟨rfl, hb1⟩
      clear cR
      have HB := Aside0.mk hb1
      have hI := IsBuilderF.of (Lib.fresh_isBuilder 62 5 w1)
      have hA : Below w1.heap.size w1 (w1.alloc (.cells #[.pointer none, .slice none 0 0] 62)) := (Below.refl _ _).alloc (Nat.le_refl _) _
      have cW := write_any w1 _ A0 c0 l0 [] _ (Nat.lt_succ_self _) (by have := HL.out; simpa using this) (Kd.C_below HR.out hb1) hc0 hI hA
      have HA := Aside0.mk hA
      clear hb1 hI hA
      go_wp2_with fail
      refine cW.mono ?_
      rintro e w2 ⟨rfl, hi2, hb2, ho2⟩
      have hb3 := HA.out.trans hb2
      have st := Tryd.Builder_String_any_k w1.heap.size w1.heap.size (wrL l0) w2 hi2 hb3.size
      have HB3 := Aside0.mk (HB.out.trans (Below.mono hb3 HB.out.size))
      have HB4 := Aside0.mk hb3.size
      clear cW hi2 hb2 ho2 hb3
      go_wp2_with fail
      refine st.mono ?_
      rintro e w3 ⟨rfl, _, b3, _⟩
      have HB5 := Aside0.mk (HB3.out.trans (Below.mono b3 HB.out.size))
      clear st b3
      go_wp2_with fail
      refine bodyPost_ret (v := .tuple #[.string ⟨(wrL l0).toArray⟩, .int .i64 0]) (by simp [results, Tryd.results31, go_sem]) rfl ⟨rfl, HB5.out⟩
    · cases h
end Go.Proofs.YtmfffpfenhgjbaaDoor.G
