/- Contracts of the reference's reader of scripts: a text and a place in it, by a pointer. -/
import Derived.Test.YtgiobiljneijiaaDoorGivenScriptD
import Derived.Deep.QuietTactic
import Derived.BigQuiet
import Derived.StillTailTactics
import Derived.IntWalk
import Derived.BigRegion
set_option linter.unusedVariables false
set_option linter.unusedSimpArgs false
namespace Go.Proofs.YtgiobiljneijiaaDoor.G
open Go.Shelf Go.RowKit Go.Lib Go.Proofs Go.Proofs.YtgiobiljneijiaaDoor.Pure Go.Proofs.YtgiobiljneijiaaDoorW.PrintWords Go.Proofs.YtgiobiljneijiaaDoorW.PrintLast Go.Proofs.YtgiobiljneijiaaDoorW.PrintMore
theorem Off.drewN {g : Nat} {a b : World} (h : Off g a b) (n : Nat) : Off g a (b.drewN n) := h.trans (Off.of_below (pw_below_drewN (Below.refl _ b) n))
theorem Off.drew {g : Nat} {a b : World} (h : Off g a b) : Off g a b.drew := ⟨h.os, h.tape, h.output, h.size, h.block⟩
/-- A reader of the reference's at block g that has l ahead of it; whether bytes lacked. -/
def RdS (w : World) (g : Nat) (s : ByteArray) (l : List UInt8) (o : Bool) : Prop :=
  ∃ i : Nat, w.heap[g]? = some (.cells #[.string s, .int .i64 (i : Int), .bool o] 42 (0, 0)) ∧ i ≤ s.size ∧ (L s).drop i = l
theorem RdS.lt {w : World} {g : Nat} {s : ByteArray} {l : List UInt8} {o : Bool} (h : RdS w g s l o) : g < w.heap.size := by
  obtain ⟨i, h, _⟩ := h
  exact blk_lt h
theorem RdS.keep {w w' : World} {g : Nat} {s : ByteArray} {l : List UInt8} {o : Bool} (h : RdS w g s l o) (hb : w'.heap[g]? = w.heap[g]?) : RdS w' g s l o := by
  obtain ⟨i, h1, h2, h3⟩ := h
  exact ⟨i, hb.trans h1, h2, h3⟩
theorem RdS.alloc {w : World} {g : Nat} {s : ByteArray} {l : List UInt8} {o : Bool} (h : RdS w g s l o) (ob : Obj) : RdS (w.alloc ob) g s l o := h.keep (Below.heap_alloc w ob g h.lt)
theorem RdS.set {w : World} {g : Nat} {s : ByteArray} {l : List UInt8} {o : Bool} (h : RdS w g s l o) {p : Addr} (hp : g ≠ p.block) (u : Value) : RdS (w.setCell p u) g s l o := h.keep (Below.heap_setCell w p u g hp)
theorem RdS.drewN {w : World} {g : Nat} {s : ByteArray} {l : List UInt8} {o : Bool} (h : RdS w g s l o) (n : Nat) : RdS (w.drewN n) g s l o := h.keep rfl
theorem RdS.drew {w : World} {g : Nat} {s : ByteArray} {l : List UInt8} {o : Bool} (h : RdS w g s l o) : RdS w.drew g s l o := h.keep rfl
theorem RdS.cells_at {w : World} {g : Nat} {s : ByteArray} {l : List UInt8} {o : Bool} (h : RdS w g s l o) : ∃ cells, w.heap[g]? = some (.cells cells 42 (0, 0)) := by
  obtain ⟨i, h, _⟩ := h
  exact ⟨_, h⟩
set_option maxHeartbeats 1000000 in
set_option maxRecDepth 100000 in
theorem next_any (w : World) (g : Nat) (s : ByteArray) (l : List UInt8) (o : Bool) (hs : s.size ≤ 4096) (h : RdS w g s l o) : Calls Tryd.prog 11 #[.pointer (some ⟨g, 0, none⟩)] w fun e w' => e = .returned (.int .i64 (hdB l : Int)) ∧ Off g w w' ∧ RdS w' g s l.tail (o || l.isEmpty) := by
  obtain ⟨i, h1, h2, h3⟩ := h
  have f0 := blk_frozen h1 0
  have f1 := blk_frozen h1 1
  have f2 := blk_frozen h1 2
  have hc0 : w.cell? ⟨g, 0, none⟩ = some (.string s) := blk_cell h1 0
  have hc1 : w.cell? ⟨g, 1, none⟩ = some (.int .i64 (i : Int)) := blk_cell h1 1
  have hc2 : w.cell? ⟨g, 2, none⟩ = some (.bool o) := blk_cell h1 2
  have HC := Aside0.mk h1
  clear h1
  by_cases hi : i < s.size
  · have hg : decide (s.size ≤ i) = false := decide_eq_false (by omega)
    have hi0 : (0 : Int) ≤ (i : Int) := by omega
    have hi1 : (i : Int) < (s.size : Int) := by omega
    have hi2 : (s.size : Int) ≤ 4096 := by omega
    have hb0 : (0 : Int) ≤ ((s[i]'hi).toNat : Int) := Int.natCast_nonneg _
    have hb1 : ((s[i]'hi).toNat : Int) < 256 := byte_lt _
    have hl : ∃ b t, l = b :: t ∧ s[i]'hi = b ∧ (L s).drop (i + 1) = t := by
      have hi' : i < (L s).length := by rw [← L_size]; exact hi
      rw [List.drop_eq_getElem_cons hi'] at h3
      refine ⟨_, _, h3.symm, ?_, rfl⟩
      have q1 := Lib.data_getElem? s i hi
      have q2 : (L s)[i]? = some ((L s)[i]'hi') := List.getElem?_eq_getElem hi'
      exact Option.some.inj (q1.symm.trans q2)
    have HL := Aside0.mk hl
    clear h2 hl h3
    go_enter Tryd.func11, Tryd.ntmps11
    go_wp2_with fail
    go_quiet (fail)
    go_wp2_with fail
    go_quiet (fail)
    go_wp2_with fail
    go_ret
    obtain ⟨b, t, rfl, e1, e2⟩ := HL.out
    refine ⟨congrArg (fun q : UInt8 => Ending.returned (.int .i64 (q.toNat : Int))) e1, ?_, i + 1, ?_, by omega, e2⟩
    · exact Off.drewN (Off.set (Off.drewN (Off.refl g w) _) 1 _) _
    · have := blk_set (blk_drewN HC.out nq) 1 (.int .i64 ((i : Int) + 1))
      rw [List.isEmpty_cons, Bool.or_false]
      exact this
  · have hg : decide (s.size ≤ i) = true := decide_eq_true (by omega)
    go_enter Tryd.func11, Tryd.ntmps11
    go_wp2_with fail
    go_quiet (fail)
    go_wp2_with fail
    go_ret
    have hl : l = [] := by rw [← h3, List.drop_eq_nil_of_le (by rw [← L_size]; omega)]
    subst hl
    refine ⟨rfl, ((Off.refl g w).drewN nq).set 2 _, i, ?_, h2, h3⟩
    have := blk_set (blk_drewN HC.out nq) 2 (.bool true)
    rw [List.isEmpty_nil, Bool.or_true]
    exact this
set_option maxHeartbeats 1000000 in
set_option maxRecDepth 100000 in
theorem digits_any (x : Int) (h0 : 0 ≤ x) (h : x < 10) (w : World) : Calls Tryd.prog 17 #[.int .i64 x] w fun e w' => e = .returned (.string (digS x.toNat)) ∧ Below w.heap.size w w' := by
  have hcv : (convert 25 9 (.slice (some ⟨w.heap.size, 0, none⟩) 1 1)).run Tryd.prog (w.alloc (.cells #[.int .u8 (48 + x)] 5)) = .ok (.string (digS x.toNat)) (w.alloc (.cells #[.int .u8 (48 + x)] 5)) := conv_row (w.alloc (.cells #[.int .u8 (48 + x)] 5)) (some ⟨w.heap.size, 0, none⟩) 1 1 [UInt8.ofNat (48 + x.toNat)] rfl (fun j b hj => by
    cases j with
    | zero =>
      simp at hj
      subst hj
      refine ⟨_, rfl, ?_⟩
      rw [add_zero, blk_cell (blk_new w _) 0]
      have : (((48 + UInt8.ofNat x.toNat).toNat : Nat) : Int) = 48 + x := by
        rw [UInt8.toNat_add, UInt8.toNat_ofNat']
        have : UInt8.toNat 48 = 48 := rfl
        rw [this]
        omega
      rw [this]
      rfl
    | succ j => simp at hj)
  go_enter Tryd.func17, Tryd.ntmps17
  go_wp2_with fail
  go_ret
  exact ⟨rfl, (Below.refl _ w).alloc (Nat.le_refl _) _⟩
set_option maxHeartbeats 1000000 in
set_option maxRecDepth 100000 in
theorem nameR_any (w : World) (g : Nat) (s : ByteArray) (l : List UInt8) (o : Bool) (hs : s.size ≤ 4096) (h : RdS w g s l o) : Calls Tryd.prog 15 #[.pointer (some ⟨g, 0, none⟩)] w fun e w' => e = .returned (.string (nameB (hdB l))) ∧ Off g w w' ∧ RdS w' g s l.tail (o || l.isEmpty) := by
  have c1 := next_any w g s l o hs h
  have hb0 : (0 : Int) ≤ (hdB l : Int) := Int.natCast_nonneg _
  have hb1 : (hdB l : Int) < 256 := by have := hdB_lt l; omega
  clear h
  go_enter Tryd.func15, Tryd.ntmps15
  go_wp2_with fail
  refine c1.mono ?_
  rintro e w1 ⟨rfl, ho, hr⟩
  have HR := Aside0.mk hr
  clear hr c1
  go_wp2_with fail
  refine (digits_any ((hdB l : Int) % 8) (by omega) (by omega) _).mono ?_
  rintro e w2 ⟨rfl, hb⟩
  have hz := digS_size (hdB l % 8)
  go_wp2_with fail
  go_ret
  exact ⟨rfl, ho.trans (Off.of_below hb), HR.out.keep (hb.block _ HR.out.lt)⟩
theorem nameR_at (w : World) (g : Nat) (s : ByteArray) (l : List UInt8) (i : Nat) (hs : s.size ≤ 4096) (h : RdS w g s (l.drop i) (!decide (i ≤ l.length))) : Calls Tryd.prog 15 #[.pointer (some ⟨g, 0, none⟩)] w fun e w' => e = .returned (.string (nameAt l i)) ∧ Off g w w' ∧ RdS w' g s (l.drop (i + 1)) (!decide (i + 1 ≤ l.length)) := by
  refine (nameR_any w g s _ _ hs h).mono ?_
  rintro e w' ⟨rfl, ho, hr⟩
  rw [tail_drop, drop_empty] at hr
  exact ⟨rfl, ho, hr⟩
abbrev zR : Obj := .cells #[.int .i64 0, .int .i64 0, .int .i64 0, .string mtS, .string mtS, .string mtS, .string mtS, .string mtS] 30
abbrev kR (k : Int) : Obj := .cells #[.int .i64 k, .int .i64 0, .int .i64 0, .string mtS, .string mtS, .string mtS, .string mtS, .string mtS] 30
set_option maxHeartbeats 4000000 in
set_option maxRecDepth 100000 in
theorem entryR_2 (w : World) (g : Nat) (l : List UInt8) (s : ByteArray) (hs : s.size ≤ 4096) (h : RdS w g s l false) : Calls Tryd.prog 12 #[.pointer (some ⟨g, 0, none⟩), .int .i64 2] w fun e w' => e = .returned (.agg (entV 2 l).cells.toArray) ∧ Off g w w' ∧ RdS w' g s (entR 2 l) (entO 2 l) := by
  have hlt := h.lt
  have hR := (h.alloc zR).alloc (kR 2)
  have hZ : ((w.alloc zR).alloc (kR 2)).heap[w.heap.size]? = some zR := blk_alloc (blk_new w zR) (kR 2)
  have hE : ((w.alloc zR).alloc (kR 2)).heap[w.heap.size + 1]? = some (kR 2) := by have := blk_new (w.alloc zR) (kR 2); rwa [show (w.alloc zR).heap.size = w.heap.size + 1 by simp] at this
  have hO := ((Off.refl g w).alloc zR).alloc (kR 2)
  have ne1 : w.heap.size ≠ g := Nat.ne_of_gt hlt
  have ne2 : w.heap.size + 1 ≠ g := by omega
  have c1 := next_any _ g s l false hs hR
  clear h hR
  go_enter Tryd.func12, Tryd.ntmps12
  have hb1 := hdB_lt l
  go_wp2_with fail
  refine c1.mono ?_
  rintro e w1 ⟨rfl, ho1, hr1⟩
  have hZ1 := ho1.blk hZ ne1
  have hE1 := ho1.blk hE ne2
  have hO1 := hO.trans ho1
  clear c1 hE hZ hO ho1
  obtain ⟨⟨z0, z1, z2, z3, z4, z5, z6, z7⟩, zf⟩ := cells8 hE1
  have hEs : (w1.setCell ⟨w.heap.size + 1, 1, none⟩ (.int .i64 ((hdB l : Int) % 3))).heap[w.heap.size + 1]? = some (.cells #[.int .i64 2, .int .i64 ((hdB l : Int) % 3), .int .i64 0, .string mtS, .string mtS, .string mtS, .string mtS, .string mtS] 30 (0, 0)) := blk_set hE1 1 _
  have hZs := blk_far hZ1 (p := ⟨w.heap.size + 1, 1, none⟩) (by simp) (.int .i64 ((hdB l : Int) % 3))
  have hRs := hr1.set (p := ⟨w.heap.size + 1, 1, none⟩) (by simp; omega) (.int .i64 ((hdB l : Int) % 3))
  have c2 := nameR_any _ g s _ _ hs hRs
  have HE1 := Aside0.mk hEs
  have HZ1 := Aside0.mk hZs
  have HO1 := Aside0.mk (hO1.setNew (p := ⟨w.heap.size + 1, 1, none⟩) (by simp) (.int .i64 ((hdB l : Int) % 3)))
  clear hE1 hZ1 hEs hZs hO1 hr1 hRs
  go_wp2_with fail
  refine c2.mono ?_
  rintro e w2 ⟨rfl, ho2, hr2⟩
  have hZ2 := ho2.blk HZ1.out ne1
  have hE2 := ho2.blk HE1.out ne2
  have hO2 := HO1.out.trans ho2
  clear c2 ho2 z0 z1 z2 z3 z4 z5 z6 z7 zf
  obtain ⟨⟨z0, z1, z2, z3, z4, z5, z6, z7⟩, zf⟩ := cells8 hE2
  obtain ⟨⟨y0, y1, y2, y3, y4, y5, y6, y7⟩, yf⟩ := cells8 hZ2
  have HO' := Aside0.mk hO2
  have HR := Aside0.mk hr2
  clear hZ2 hE2 hO2 hr2
  go_wp2_with fail
  refine bodyPost_ret (v := .agg (entV 2 l).cells.toArray) (by simp [results, Tryd.results12, go_sem, y0, y1, y2, y3, y4, y5, y6, y7]; rfl) rfl ⟨rfl, ?_, ?_⟩
  · exact ((((((((HO'.out.setNew (by simp) _).setNew (by simp) _).setNew (by simp) _).setNew (by simp) _).setNew (by simp) _).setNew (by simp) _).setNew (by simp) _).setNew (by simp) _).setNew (by simp) _
  · have h2 : g < w.heap.size + 1 := by omega
    exact ((((((((HR.out.set (Nat.ne_of_lt h2) _).set (Nat.ne_of_lt hlt) _).set (Nat.ne_of_lt hlt) _).set (Nat.ne_of_lt hlt) _).set (Nat.ne_of_lt hlt) _).set (Nat.ne_of_lt hlt) _).set (Nat.ne_of_lt hlt) _).set (Nat.ne_of_lt hlt) _).set (Nat.ne_of_lt hlt) _
set_option maxHeartbeats 4000000 in
set_option maxRecDepth 100000 in
theorem entryR_3 (w : World) (g : Nat) (l : List UInt8) (s : ByteArray) (hs : s.size ≤ 4096) (h : RdS w g s l false) : Calls Tryd.prog 12 #[.pointer (some ⟨g, 0, none⟩), .int .i64 3] w fun e w' => e = .returned (.agg (entV 3 l).cells.toArray) ∧ Off g w w' ∧ RdS w' g s (entR 3 l) (entO 3 l) := by
  have hlt := h.lt
  have hR := (h.alloc zR).alloc (kR 3)
  have hZ : ((w.alloc zR).alloc (kR 3)).heap[w.heap.size]? = some zR := blk_alloc (blk_new w zR) (kR 3)
  have hE : ((w.alloc zR).alloc (kR 3)).heap[w.heap.size + 1]? = some (kR 3) := by have := blk_new (w.alloc zR) (kR 3); rwa [show (w.alloc zR).heap.size = w.heap.size + 1 by simp] at this
  have hO := ((Off.refl g w).alloc zR).alloc (kR 3)
  have ne1 : w.heap.size ≠ g := Nat.ne_of_gt hlt
  have ne2 : w.heap.size + 1 ≠ g := by omega
  clear h
  have HE := Aside0.mk hE
  have HZ := Aside0.mk hZ
  have HO := Aside0.mk hO
  have HR := Aside0.mk hR
  clear hE hZ hO hR
  go_enter Tryd.func12, Tryd.ntmps12
  go_wp2_with fail
  go_loopw [7] (fun v29 wr => ∃ i : Nat, i ≤ 3 ∧ v29 = .int .i64 (i : Int) ∧ wr.heap[w.heap.size + 1]? = some (.cells #[.int .i64 3, .int .i64 0, .int .i64 0, .string mtS, .string mtS, .string (nmA l i 0), .string (nmA l i 1), .string (nmA l i 2)] 30 (0, 0)) ∧ wr.heap[w.heap.size]? = some zR ∧ Off g w wr ∧ RdS wr g s (l.drop i) (!decide (i ≤ l.length))) (fun v29 _ => 3 - (RowKit.intOf v29).toNat)
  case atStart => exact ⟨0, by omega, rfl, HE.out, HZ.out, HO.out, by simpa using HR.out⟩
  case round =>
    obtain ⟨i, hi, rfl, hEr, hZr, hOr, hRr⟩ := hrel
    clear HE HZ HO HR
    have hi3 : i = 0 ∨ i = 1 ∨ i = 2 ∨ i = 3 := by omega
    clear hi
    rcases hi3 with rfl | rfl | rfl | rfl
    · have c1 := nameR_at _ g s l _ hs hRr
      have HE := Aside0.mk hEr
      have HZ := Aside0.mk hZr
      have HO := Aside0.mk hOr
      clear hEr hZr hOr hRr
      go_wp2_with fail
      refine c1.mono ?_
      rintro e w1 ⟨rfl, ho1, hr1⟩
      have hZ1 := ho1.blk HZ.out ne1
      have hE1 := ho1.blk HE.out ne2
      have hO1 := HO.out.trans ho1
      clear c1 ho1
      obtain ⟨⟨z0, z1, z2, z3, z4, z5, z6, z7⟩, zf⟩ := cells8 hE1
      have HE' : Aside0 ((w1.setCell ⟨w.heap.size + 1, 5, none⟩ (.string (nameAt l 0))).heap[w.heap.size + 1]? = some (.cells #[.int .i64 3, .int .i64 0, .int .i64 0, .string mtS, .string mtS, .string (nmA l 1 0), .string (nmA l 1 1), .string (nmA l 1 2)] 30 (0, 0))) := Aside0.mk (blk_set hE1 5 _)
      have HZ' := Aside0.mk (blk_far hZ1 (p := ⟨w.heap.size + 1, 5, none⟩) (by simp) (.string (nameAt l 0)))
      have HR' := Aside0.mk (hr1.set (p := ⟨w.heap.size + 1, 5, none⟩) (by simp; omega) (.string (nameAt l 0)))
      have HO' := Aside0.mk (hO1.setNew (p := ⟨w.heap.size + 1, 5, none⟩) (by simp) (.string (nameAt l 0)))
      clear hE1 hZ1 hO1 hr1
      go_wp2_with fail
      go_roundw
      case rel => exact ⟨1, by omega, rfl, HE'.out, HZ'.out, HO'.out, HR'.out⟩
      case measure => simp [RowKit.intOf]
    · have c1 := nameR_at _ g s l _ hs hRr
      have HE := Aside0.mk hEr
      have HZ := Aside0.mk hZr
      have HO := Aside0.mk hOr
      clear hEr hZr hOr hRr
      go_wp2_with fail
      refine c1.mono ?_
      rintro e w1 ⟨rfl, ho1, hr1⟩
      have hZ1 := ho1.blk HZ.out ne1
      have hE1 := ho1.blk HE.out ne2
      have hO1 := HO.out.trans ho1
      clear c1 ho1
      obtain ⟨⟨z0, z1, z2, z3, z4, z5, z6, z7⟩, zf⟩ := cells8 hE1
      have HE' : Aside0 ((w1.setCell ⟨w.heap.size + 1, 6, none⟩ (.string (nameAt l 1))).heap[w.heap.size + 1]? = some (.cells #[.int .i64 3, .int .i64 0, .int .i64 0, .string mtS, .string mtS, .string (nmA l 2 0), .string (nmA l 2 1), .string (nmA l 2 2)] 30 (0, 0))) := Aside0.mk (blk_set hE1 6 _)
      have HZ' := Aside0.mk (blk_far hZ1 (p := ⟨w.heap.size + 1, 6, none⟩) (by simp) (.string (nameAt l 1)))
      have HR' := Aside0.mk (hr1.set (p := ⟨w.heap.size + 1, 6, none⟩) (by simp; omega) (.string (nameAt l 1)))
      have HO' := Aside0.mk (hO1.setNew (p := ⟨w.heap.size + 1, 6, none⟩) (by simp) (.string (nameAt l 1)))
      clear hE1 hZ1 hO1 hr1
      go_wp2_with fail
      go_roundw
      case rel => exact ⟨2, by omega, rfl, HE'.out, HZ'.out, HO'.out, HR'.out⟩
      case measure => simp [RowKit.intOf]
    · have c1 := nameR_at _ g s l _ hs hRr
      have HE := Aside0.mk hEr
      have HZ := Aside0.mk hZr
      have HO := Aside0.mk hOr
      clear hEr hZr hOr hRr
      go_wp2_with fail
      refine c1.mono ?_
      rintro e w1 ⟨rfl, ho1, hr1⟩
      have hZ1 := ho1.blk HZ.out ne1
      have hE1 := ho1.blk HE.out ne2
      have hO1 := HO.out.trans ho1
      clear c1 ho1
      obtain ⟨⟨z0, z1, z2, z3, z4, z5, z6, z7⟩, zf⟩ := cells8 hE1
      have HE' : Aside0 ((w1.setCell ⟨w.heap.size + 1, 7, none⟩ (.string (nameAt l 2))).heap[w.heap.size + 1]? = some (.cells #[.int .i64 3, .int .i64 0, .int .i64 0, .string mtS, .string mtS, .string (nmA l 3 0), .string (nmA l 3 1), .string (nmA l 3 2)] 30 (0, 0))) := Aside0.mk (blk_set hE1 7 _)
      have HZ' := Aside0.mk (blk_far hZ1 (p := ⟨w.heap.size + 1, 7, none⟩) (by simp) (.string (nameAt l 2)))
      have HR' := Aside0.mk (hr1.set (p := ⟨w.heap.size + 1, 7, none⟩) (by simp; omega) (.string (nameAt l 2)))
      have HO' := Aside0.mk (hO1.setNew (p := ⟨w.heap.size + 1, 7, none⟩) (by simp) (.string (nameAt l 2)))
      clear hE1 hZ1 hO1 hr1
      go_wp2_with fail
      go_roundw
      case rel => exact ⟨3, by omega, rfl, HE'.out, HZ'.out, HO'.out, HR'.out⟩
      case measure => simp [RowKit.intOf]
    · have hq : (!decide (3 ≤ l.length)) = (l.isEmpty || l.tail.isEmpty || l.tail.tail.isEmpty) := by
        match l with
        | [] => rfl
        | [_] => rfl
        | [_, _] => rfl
        | _ :: _ :: _ :: _ => simp
      have hd : l.drop 3 = l.tail.tail.tail := by
        rw [← tail_drop, ← tail_drop, ← tail_drop, List.drop_zero]
      rw [hq, hd] at hRr
      have e0 : nmA l 3 0 = nameB (hdB l) := rfl
      have e1 : nmA l 3 1 = nameB (hdB l.tail) := by show nameB (hdB (l.drop 1)) = _; rw [← tail_drop, List.drop_zero]
      have e2 : nmA l 3 2 = nameB (hdB l.tail.tail) := by show nameB (hdB (l.drop 2)) = _; rw [← tail_drop, ← tail_drop, List.drop_zero]
      rw [e0, e1, e2] at hEr
      clear e0 e1 e2 hq hd
      have c1 := next_any _ g s _ _ hs hRr
      have HE := Aside0.mk hEr
      have HZ := Aside0.mk hZr
      have HO := Aside0.mk hOr
      clear hEr hZr hOr hRr
      go_wp2_with fail
      refine c1.mono ?_
      rintro e w1 ⟨rfl, ho1, hr1⟩
      have hZ1 := ho1.blk HZ.out ne1
      have hE1 := ho1.blk HE.out ne2
      have hO1 := HO.out.trans ho1
      clear c1 ho1
      obtain ⟨⟨z0, z1, z2, z3, z4, z5, z6, z7⟩, zf⟩ := cells8 hE1
      obtain ⟨⟨y0, y1, y2, y3, y4, y5, y6, y7⟩, yf⟩ := cells8 hZ1
      have HO' := Aside0.mk hO1
      have HR := Aside0.mk hr1
      clear hZ1 hE1 hO1 hr1
      go_wp2_with fail
      refine bodyPost_ret (v := .agg (entV 3 l).cells.toArray) (by simp [results, Tryd.results12, go_sem, y0, y1, y2, y3, y4, y5, y6, y7]; rfl) rfl ⟨rfl, ?_, ?_⟩
      · exact ((((((((HO'.out.setNew (by simp) _).setNew (by simp) _).setNew (by simp) _).setNew (by simp) _).setNew (by simp) _).setNew (by simp) _).setNew (by simp) _).setNew (by simp) _).setNew (by simp) _
      · have h2 : g < w.heap.size + 1 := by omega
        exact ((((((((HR.out.set (Nat.ne_of_lt h2) _).set (Nat.ne_of_lt hlt) _).set (Nat.ne_of_lt hlt) _).set (Nat.ne_of_lt hlt) _).set (Nat.ne_of_lt hlt) _).set (Nat.ne_of_lt hlt) _).set (Nat.ne_of_lt hlt) _).set (Nat.ne_of_lt hlt) _).set (Nat.ne_of_lt hlt) _
set_option maxHeartbeats 8000000 in
set_option maxRecDepth 100000 in
theorem entryR_1 (w : World) (g : Nat) (l : List UInt8) (s : ByteArray) (hs : s.size ≤ 4096) (h : RdS w g s l false) : Calls Tryd.prog 12 #[.pointer (some ⟨g, 0, none⟩), .int .i64 1] w fun e w' => e = .returned (.agg (entV 1 l).cells.toArray) ∧ Off g w w' ∧ RdS w' g s (entR 1 l) (entO 1 l) := by
  have hlt := h.lt
  have hR := (h.alloc zR).alloc (kR 1)
  have hZ : ((w.alloc zR).alloc (kR 1)).heap[w.heap.size]? = some zR := blk_alloc (blk_new w zR) (kR 1)
  have hE : ((w.alloc zR).alloc (kR 1)).heap[w.heap.size + 1]? = some (kR 1) := by have := blk_new (w.alloc zR) (kR 1); rwa [show (w.alloc zR).heap.size = w.heap.size + 1 by simp] at this
  have hO := ((Off.refl g w).alloc zR).alloc (kR 1)
  have ne1 : w.heap.size ≠ g := Nat.ne_of_gt hlt
  have ne2 : w.heap.size + 1 ≠ g := by omega
  have c1 := nameR_any _ g s l false hs hR
  clear h hR
  go_enter Tryd.func12, Tryd.ntmps12
  go_wp2_with fail
  refine c1.mono ?_
  rintro e w1 ⟨rfl, ho1, hr1⟩
  have hZ1 := ho1.blk hZ ne1
  have hE1 := ho1.blk hE ne2
  have hO1 := hO.trans ho1
  clear c1 hE hZ hO ho1
  obtain ⟨⟨z0, z1, z2, z3, z4, z5, z6, z7⟩, zf⟩ := cells8 hE1
  have hEs : (w1.setCell ⟨w.heap.size + 1, 3, none⟩ (.string (nameB (hdB l)))).heap[w.heap.size + 1]? = some (.cells #[.int .i64 1, .int .i64 0, .int .i64 0, .string (nameB (hdB l)), .string mtS, .string mtS, .string mtS, .string mtS] 30 (0, 0)) := blk_set hE1 3 _
  have hZs := blk_far hZ1 (p := ⟨w.heap.size + 1, 3, none⟩) (by simp) (.string (nameB (hdB l)))
  have hRs := hr1.set (p := ⟨w.heap.size + 1, 3, none⟩) (by simp; omega) (.string (nameB (hdB l)))
  have c2 := next_any _ g s _ _ hs hRs
  have HE := Aside0.mk hEs
  have HZ := Aside0.mk hZs
  have HO := Aside0.mk (hO1.setNew (p := ⟨w.heap.size + 1, 3, none⟩) (by simp) (.string (nameB (hdB l))))
  clear hE1 hZ1 hEs hZs hO1 hr1 hRs
  go_wp2_with fail
  refine c2.mono ?_
  rintro e w2 ⟨rfl, ho2, i, q1, q2, q3⟩
  have hZ2 := ho2.blk HZ.out ne1
  have hE2 := ho2.blk HE.out ne2
  have hO2 := HO.out.trans ho2
  clear c2 ho2 z0 z1 z2 z3 z4 z5 z6 z7 zf
  obtain ⟨⟨z0, z1, z2, z3, z4, z5, z6, z7⟩, zf⟩ := cells8 hE2
  obtain ⟨⟨y0, y1, y2, y3, y4, y5, y6, y7⟩, yf⟩ := cells8 hZ2
  have r0 : w2.cell? ⟨g, 0, none⟩ = some (.string s) := blk_cell q1 0
  have r1 : w2.cell? ⟨g, 1, none⟩ = some (.int .i64 (i : Int)) := blk_cell q1 1
  have r2 : ∃ b, w2.cell? ⟨g, 2, none⟩ = some (.bool b) := ⟨_, blk_cell q1 2⟩
  obtain ⟨bo, r2⟩ := r2
  have rf := fun j => blk_frozen q1 j
  have hb1 : (hdB l.tail : Int) < 256 := by have := hdB_lt l.tail; omega
  have hb0 : (0 : Int) ≤ (hdB l.tail : Int) := Int.natCast_nonneg _
  have hi0 : (0 : Int) ≤ (i : Int) := by omega
  have hi1 : (i : Int) ≤ 4096 := by omega
  have hlen : l.tail.tail.length = s.size - i := by rw [← q3, List.length_drop, ← L_size]
  have hsum : IntKind.i64.wrap ((i : Int) + (hdB l.tail : Int)) = (i : Int) + (hdB l.tail : Int) := IntWalk.i64_in _ (by omega)
  have HE2 := Aside0.mk hE2
  have HZ2 := Aside0.mk hZ2
  have HO2 := Aside0.mk hO2
  have HQ := Aside0.mk q1
  have HD := Aside0.mk q3
  have HL := Aside0.mk hlen
  have ne3 : g ≠ w.heap.size + 1 := by omega
  clear hE2 hZ2 hO2 q1 q3 hlen
  by_cases hm : i + hdB l.tail ≤ s.size
  · have hg : decide ((i : Int) + (hdB l.tail : Int) > (s.size : Int)) = false := decide_eq_false (by omega)
    go_wp2_with fail
    go_quiet (fail)
    go_wp2_with fail
    have HQ' := Aside0.mk (blk_drewN HQ.out nq)
    have HE' := Aside0.mk (blk_drewN HE2.out nq)
    have HZ' := Aside0.mk (blk_drewN HZ2.out nq)
    have HO' := Aside0.mk (HO2.out.drewN nq)
    clear HQ HE2 HZ2 HO2 r0 r1 r2 rf z0 z1 z2 z3 z4 z5 z6 z7 zf y0 y1 y2 y3 y4 y5 y6 y7 yf HE HZ HO
    generalize w2.drewN nq = wq at *
    have r0 : wq.cell? ⟨g, 0, none⟩ = some (.string s) := blk_cell HQ'.out 0
    have r1 : wq.cell? ⟨g, 1, none⟩ = some (.int .i64 (i : Int)) := blk_cell HQ'.out 1
    have rf := blk_frozen HQ'.out 1
    have z4 : wq.cell? ⟨w.heap.size + 1, 4, none⟩ = some (.string mtS) := blk_cell HE'.out 4
    have zf := blk_frozen HE'.out 4
    have s1 : (i : Int) + (hdB l.tail : Int) ≤ (s.size : Int) := by omega
    have s2 : (i : Int) ≤ (i : Int) + (hdB l.tail : Int) := by omega
    have s3 : (0 : Int) ≤ (i : Int) + (hdB l.tail : Int) := by omega
    have s4 : ((i : Int) + (hdB l.tail : Int)).toNat = i + hdB l.tail := by omega
    have hstr : s.extract i (i + hdB l.tail) = ⟨(textR l.tail).toArray⟩ := by
      apply L_ext
      rw [L_extract, HD.out, L_mk]
      unfold textR
      rw [if_pos (by rw [HL.out]; omega)]
      congr 1
      omega
    have HS := Aside0.mk hstr
    clear hstr
    obtain ⟨⟨z0, z1, z2, z3, _, z5, z6, z7⟩, zf'⟩ := cells8 HE'.out
    obtain ⟨⟨y0, y1, y2, y3, y4, y5, y6, y7⟩, yf⟩ := cells8 HZ'.out
    have ne4 : w.heap.size ≠ w.heap.size + 1 := by omega
    go_region
    go_wp2_with fail
    rw [HS.out]
    refine bodyPost_ret (v := .agg (entV 1 l).cells.toArray) (by simp [results, Tryd.results12, go_sem, y0, y1, y2, y3, y4, y5, y6, y7]; rfl) rfl ⟨rfl, ?_, ?_⟩
    · have h2 : g < w.heap.size + 1 := by omega
      have hOO := HO'.out.setNew (p := ⟨w.heap.size + 1, 4, none⟩) (by simp) (.string ⟨(textR l.tail).toArray⟩)
      refine Off.drew ?_
      refine Off.setNew ?_ (Nat.le_refl _) _
      refine Off.setNew ?_ (Nat.le_refl _) _
      refine Off.setNew ?_ (Nat.le_refl _) _
      refine Off.setNew ?_ (Nat.le_refl _) _
      refine Off.setNew ?_ (Nat.le_refl _) _
      refine Off.setNew ?_ (Nat.le_refl _) _
      refine Off.setNew ?_ (Nat.le_refl _) _
      refine Off.setNew ?_ (Nat.le_refl _) _
      exact hOO.set 1 _
    · have h2 : g < w.heap.size + 1 := by omega
      have q := blk_far HQ'.out (p := ⟨w.heap.size + 1, 4, none⟩) ne3 (.string ⟨(textR l.tail).toArray⟩)
      have q2 := blk_set q 1 (.int .i64 ((i : Int) + (hdB l.tail : Int)))
      have hRR : RdS ((wq.setCell ⟨w.heap.size + 1, 4, none⟩ (.string ⟨(textR l.tail).toArray⟩)).setCell ⟨g, 1, none⟩ (.int .i64 ((i : Int) + (hdB l.tail : Int)))) g s (entR 1 l) (entO 1 l) := by
        have e1 : entO 1 l = (false || l.isEmpty || l.tail.isEmpty) := by
          show (l.isEmpty || lackR l.tail) = _
          unfold lackR
          rw [decide_eq_true (by rw [HL.out]; omega)]
          simp
        have e2 : entR 1 l = (L s).drop (i + hdB l.tail) := by
          show restR l.tail = _
          unfold restR
          rw [if_pos (by rw [HL.out]; omega), ← HD.out, List.drop_drop]
        rw [e1, e2]
        exact ⟨i + hdB l.tail, q2, by omega, rfl⟩
      refine RdS.drew ?_
      refine RdS.set ?_ (Nat.ne_of_lt hlt) _
      refine RdS.set ?_ (Nat.ne_of_lt hlt) _
      refine RdS.set ?_ (Nat.ne_of_lt hlt) _
      refine RdS.set ?_ (Nat.ne_of_lt hlt) _
      refine RdS.set ?_ (Nat.ne_of_lt hlt) _
      refine RdS.set ?_ (Nat.ne_of_lt hlt) _
      refine RdS.set ?_ (Nat.ne_of_lt hlt) _
      refine RdS.set ?_ (Nat.ne_of_lt hlt) _
      exact hRR
  · have hg : decide ((i : Int) + (hdB l.tail : Int) > (s.size : Int)) = true := decide_eq_true (by omega)
    have q2' := q2
    have hN : [Value.int .i64 1, .int .i64 0, .int .i64 0, .string (nameB (hdB l)), .string mtS, .string mtS, .string mtS, .string mtS] = (entV 1 l).cells := by
      have : textR l.tail = [] := by
        unfold textR
        rw [if_neg (by rw [HL.out]; omega)]
      show _ = [Value.int .i64 1, .int .i64 0, .int .i64 0, .string (nameB (hdB l)), .string ⟨(textR l.tail).toArray⟩, .string mtS, .string mtS, .string mtS]
      rw [this]
    have HN := Aside0.mk hN
    clear hN
    go_wp2_with fail
    go_quiet (fail)
    go_wp2_with fail
    refine bodyPost_ret (v := .agg (entV 1 l).cells.toArray) (by simp [results, Tryd.results12, go_sem, y0, y1, y2, y3, y4, y5, y6, y7]; exact HN.out) rfl ⟨rfl, ?_, ?_⟩
    · refine Off.setNew ?_ (Nat.le_refl _) _
      refine Off.setNew ?_ (Nat.le_refl _) _
      refine Off.setNew ?_ (Nat.le_refl _) _
      refine Off.setNew ?_ (Nat.le_refl _) _
      refine Off.setNew ?_ (Nat.le_refl _) _
      refine Off.setNew ?_ (Nat.le_refl _) _
      refine Off.setNew ?_ (Nat.le_refl _) _
      refine Off.setNew ?_ (Nat.le_refl _) _
      exact (HO2.out.drewN nq).set 2 _
    · have q2 := blk_set (blk_drewN HQ.out nq) 2 (.bool true)
      have hRR : RdS ((w2.drewN nq).setCell ⟨g, 2, none⟩ (.bool true)) g s (entR 1 l) (entO 1 l) := by
        have hmm : ¬ hdB l.tail ≤ l.tail.tail.length := by rw [HL.out]; omega
        have e1 : entO 1 l = true := by
          show (l.isEmpty || lackR l.tail) = _
          unfold lackR
          rw [decide_eq_false hmm]
          simp
        have e2 : entR 1 l = l.tail.tail := by
          show restR l.tail = _
          unfold restR
          rw [if_neg hmm]
        rw [e1, e2]
        exact ⟨i, q2, q2', HD.out⟩
      refine RdS.set ?_ (Nat.ne_of_lt hlt) _
      refine RdS.set ?_ (Nat.ne_of_lt hlt) _
      refine RdS.set ?_ (Nat.ne_of_lt hlt) _
      refine RdS.set ?_ (Nat.ne_of_lt hlt) _
      refine RdS.set ?_ (Nat.ne_of_lt hlt) _
      refine RdS.set ?_ (Nat.ne_of_lt hlt) _
      refine RdS.set ?_ (Nat.ne_of_lt hlt) _
      refine RdS.set ?_ (Nat.ne_of_lt hlt) _
      exact hRR
end Go.Proofs.YtgiobiljneijiaaDoor.G
