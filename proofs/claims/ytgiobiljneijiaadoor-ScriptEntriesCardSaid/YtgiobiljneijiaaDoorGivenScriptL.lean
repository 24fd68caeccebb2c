/- The laws of script: awake, ScriptDecodes. -/
import Derived.Test.YtgiobiljneijiaaDoorGivenScriptE
set_option linter.unusedVariables false
set_option linter.unusedSimpArgs false
namespace Go.Proofs.YtgiobiljneijiaaDoor.G
open Go.Shelf Go.RowKit Go.Lib Go.Proofs Go.Proofs.YtgiobiljneijiaaDoor.Pure Go.Proofs.YtgiobiljneijiaaDoorW.PrintWords Go.Proofs.YtgiobiljneijiaaDoorW.PrintLast Go.Proofs.YtgiobiljneijiaaDoorW.PrintMore
theorem ent_at {w : World} {A : Option Addr} {n : Nat} {xs : List Ent} (h : Kd.C kEnt w A n xs) (i : Nat) (x : Ent) (hx : xs[i]? = some x) : ∃ ad, A = some ad ∧ w.cell? (ad.add (i * 8)) = some (.int .i64 x.kind) ∧ w.cell? ⟨(ad.add (i * 8)).block, (ad.add (i * 8)).off + 1, none⟩ = some (.int .i64 x.what) ∧ w.cell? ⟨(ad.add (i * 8)).block, (ad.add (i * 8)).off + 2, none⟩ = some (.int .i64 x.size) ∧
    w.cell? ⟨(ad.add (i * 8)).block, (ad.add (i * 8)).off + 3, none⟩ = some (.string x.name) ∧ w.cell? ⟨(ad.add (i * 8)).block, (ad.add (i * 8)).off + 4, none⟩ = some (.string x.text) ∧ w.cell? ⟨(ad.add (i * 8)).block, (ad.add (i * 8)).off + 5, none⟩ = some (.string x.n0) ∧ w.cell? ⟨(ad.add (i * 8)).block, (ad.add (i * 8)).off + 6, none⟩ = some (.string x.n1) ∧ w.cell? ⟨(ad.add (i * 8)).block, (ad.add (i * 8)).off + 7, none⟩ = some (.string x.n2) := by
  obtain ⟨h1, h2, h3⟩ := h
  have hi : i < n := by have := (List.getElem?_eq_some_iff.1 hx).1; omega
  obtain ⟨ad, e, hc0⟩ := h3 (by omega)
  obtain ⟨c, hl, hK, hc⟩ := hc0 i x hx
  have hK' : c = x.cells := hK
  subst hK'
  refine ⟨ad, e, ?_, ?_, ?_, ?_, ?_, ?_, ?_, ?_⟩
  · exact hc 0 _ rfl
  · rw [← add_field _ _ 1 (by omega)]; exact hc 1 _ rfl
  · rw [← add_field _ _ 2 (by omega)]; exact hc 2 _ rfl
  · rw [← add_field _ _ 3 (by omega)]; exact hc 3 _ rfl
  · rw [← add_field _ _ 4 (by omega)]; exact hc 4 _ rfl
  · rw [← add_field _ _ 5 (by omega)]; exact hc 5 _ rfl
  · rw [← add_field _ _ 6 (by omega)]; exact hc 6 _ rfl
  · rw [← add_field _ _ 7 (by omega)]; exact hc 7 _ rfl
set_option maxRecDepth 100000 in
theorem arr_eq (d : Nat) (a b c : ByteArray) (w : World) : (Op.equalIn (d + 2) 28 (.agg #[.string a, .string b, .string c]) (.agg #[.string a, .string b, .string c])).run Tryd.prog w = Result.ok true w := by
  have hu := Tryd.underlying28
  have h9 := Tryd.underlying9
  unfold Op.equalIn
  simp [go_sem, List.range']
theorem ent_neqR (x : Ent) (w : World) : (Go.binOp .neq 30 (Value.agg #[.int .i64 x.kind, .int .i64 x.what, .int .i64 x.size, .string x.name, .string x.text, .string x.n0, .string x.n1, .string x.n2]) (Value.agg #[.int .i64 x.kind, .int .i64 x.what, .int .i64 x.size, .string x.name, .string x.text, .string x.n0, .string x.n1, .string x.n2])).run Tryd.prog w = Result.ok (Value.bool false) w := by
  rw [run_neq_struct]
  have ha := arr_eq 9997 x.n0 x.n1 x.n2 w
  simp [go_sem, ha]
theorem ent_neq (x : Ent) (w : World) : (Go.binOp .neq 31 (Value.agg #[.int .i64 x.kind, .int .i64 x.what, .int .i64 x.size, .string x.name, .string x.text, .string x.n0, .string x.n1, .string x.n2]) (Value.agg #[.int .i64 x.kind, .int .i64 x.what, .int .i64 x.size, .string x.name, .string x.text, .string x.n0, .string x.n1, .string x.n2])).run Tryd.prog w = Result.ok (Value.bool false) w := by
  rw [run_neq_struct]
  have ha := arr_eq 9997 x.n0 x.n1 x.n2 w
  simp [go_sem, ha]
theorem awake_list : decodeL [9, 2, 4, 9] = [⟨2, 1, 0, ⟨#[102, 49]⟩, mtS, mtS, mtS, mtS⟩] := by
  rw [decodeL_odd 9 _ (by decide)]
  rw [decodeL_some 2 _ (by decide) (x := ⟨2, 1, 0, ⟨#[102, 49]⟩, mtS, mtS, mtS, mtS⟩) (r := []) rfl, decodeL_nil]
set_option maxHeartbeats 8000000 in
set_option maxRecDepth 1000000 in
theorem awake22 (w : World) : Calls Tryd.prog 6 #[] w fun e w' => e = .returned (.bool true) ∧ Below w.heap.size w w' := by
  have hb1 : Below w.heap.size w (w.alloc (.cells #[.int .u8 9, .int .u8 2, .int .u8 4, .int .u8 9] 5)) := (Below.refl w.heap.size w).alloc (Nat.le_refl _) _
  have cD := decode_calls (w.alloc (.cells #[.int .u8 9, .int .u8 2, .int .u8 4, .int .u8 9] 5)) (some ⟨w.heap.size, 0, none⟩) 4 [9, 2, 4, 9] (fun j b hj => by
    have h := blk_new w (.cells #[.int .u8 9, .int .u8 2, .int .u8 4, .int .u8 9] 5)
    refine ⟨_, rfl, by simp, ?_⟩
    rw [Go.Proofs.YtgiobiljneijiaaDoorW.PrintWords.add_plain, blk_cell h]
    match j, hj with
    | 0, hj => simp at hj; subst hj; rfl
    | 1, hj => simp at hj; subst hj; rfl
    | 2, hj => simp at hj; subst hj; rfl
    | 3, hj => simp at hj; subst hj; rfl
    | j + 4, hj => simp at hj) (by decide) (by decide) (by decide)
  rw [show ([9, 2, 4, 9] : List UInt8).take 4096 = [9, 2, 4, 9] from rfl, awake_list] at cD
  have HB := Aside0.mk hb1
  clear hb1
  go_enter Tryd.func6, Tryd.ntmps6
  go_wp2_with fail
  refine cD.mono ?_
  rintro e w1 ⟨v, rfl, hr, hb⟩
  obtain ⟨A, c, rfl, hl, hC⟩ := Kd.R_reads hr
  obtain ⟨ad, rfl, z0, z1, z2, z3, z4, z5, z6, z7⟩ := ent_at hC 0 _ rfl
  have HB2 := Aside0.mk (HB.out.trans (hb.mono HB.out.size))
  clear cD hr hC hb HB
  rw [Nat.zero_mul] at z0 z1 z2 z3 z4 z5 z6 z7
  rw [add_zero] at z0 z1 z2 z3 z4 z5 z6 z7
  go_wp2_with fail
  go_ret
  exact ⟨rfl, HB2.out⟩
theorem bytesWorld_grown_ (W : World) (e : TypeId) (s : ByteArray) : W.grownBy (Lib.bytesWorld W e s) none := ⟨rfl, rfl, rfl, by rw [Lib.bytesWorld_size]; omega, fun k hk _ => Lib.bytesWorld_at_old W e s k hk⟩
theorem bytes_at (W : World) (e : TypeId) (s : ByteArray) (hs : s.size ≤ 9223372036854775807) : BytesAt (Lib.bytesWorld W e s) (some ⟨W.heap.size, 0, none⟩) (L s) := by
  intro j b hj
  have hjl : j < s.size := by rw [L_size]; exact (List.getElem?_eq_some_iff.1 hj).1
  obtain ⟨_, _, h⟩ := bytes_reads W e s hs
  obtain ⟨ad, e1, hc⟩ := h (by omega)
  injection e1 with e1
  subst e1
  refine ⟨_, rfl, by show W.heap.size < _; rw [Lib.bytesWorld_size]; omega, ?_⟩
  rw [hc j hjl]
  have : (bytesOf s).getD j 0 = (b.toNat : Int) := by
    have hd : s.data.toList[j]? = some b := hj
    rw [List.getD_eq_getElem?_getD, bytesOf, List.getElem?_map, hd]
    rfl
  rw [this]
set_option maxHeartbeats 8000000 in
set_option maxRecDepth 1000000 in
theorem decodes_any (a : ByteArray) (w : World) (hs : a.size ≤ 140737488351232) : Calls Tryd.prog 3 #[.string a] w fun e w' => e = .returned (.bool true) ∧ Below w.heap.size w w' := by
  by_cases hbig : a.size > 10000
  · have hg : decide ((a.size : Int) > 10000) = true := decide_eq_true (by omega)
    go_enter Tryd.func3, Tryd.ntmps3
    go_wp2_with fail
    refine (awake22 w).mono ?_
    rintro e w1 ⟨rfl, hb1⟩
    go_wp2_with fail
    refine (awake22 w1).mono ?_
    rintro e w2 ⟨rfl, hb2⟩
    go_wp2_with fail
    go_ret
    exact ⟨rfl, hb1.trans (hb2.mono hb1.size)⟩
  · have hg : decide ((a.size : Int) > 10000) = false := decide_eq_false (by omega)
    have hcv := fun W => Lib.run_convert_string_bytes (P := Tryd.prog) W 9 25 5 a Tryd.underlying9 Tryd.underlying25 Tryd.underlying5
    go_enter Tryd.func3, Tryd.ntmps3
    go_wp2_with fail
    refine (awake22 w).mono ?_
    rintro e w1 ⟨rfl, hb1⟩
    have HB1 := Aside0.mk hb1
    clear hb1
    go_wp2_with fail
    have hbw : Below w1.heap.size w1 (Lib.bytesWorld w1 5 a) := (Below.refl _ _).grown (bytesWorld_grown_ w1 5 a) (Nat.le_refl _) (fun k hk => by cases hk)
    have hcap := grownCap_ge w1 a.size 0 5
    have c1 := decode_calls (Lib.bytesWorld w1 5 a) (some ⟨w1.heap.size, 0, none⟩) (grownCap w1 a.size 0 5) (L a) (bytes_at w1 _ a (by omega)) (by rw [← L_size]; exact hcap) (grownCap_le_maxLen w1 a.size 0 _ (by unfold maxLen; omega)) (by rw [← L_size]; exact hs)
    rw [← L_size] at c1
    refine c1.mono ?_
    rintro e w2 ⟨v, rfl, hr, hb2⟩
    have HB2 := Aside0.mk (HB1.out.trans ((hbw.trans (hb2.mono hbw.size)).mono HB1.out.size))
    have HR := Aside0.mk hr
    clear c1 hr hb2 hbw HB1
    go_wp2_with fail
    refine (decodeR_calls w2 a hs).mono ?_
    rintro e w3 ⟨v', rfl, hr', hb3⟩
    have hr2 := Kd.R_below HR.out hb3
    obtain ⟨A, c, rfl, hl, hC⟩ := Kd.R_reads hr2
    obtain ⟨A', c', rfl, hl', hC'⟩ := Kd.R_reads hr'
    have HB3 := Aside0.mk (HB2.out.trans (hb3.mono HB2.out.size))
    clear hr' hb3 hr2 HR HB2
    generalize decodeL ((L a).take 4096) = xs at *
    have HC := Aside0.mk hC
    have HC' := Aside0.mk hC'
    have hm := hC.2.1
    clear hC hC'
    go_wp2_with fail
    go_loopw [26] (fun v26 wr => ∃ i : Nat, i ≤ xs.length ∧ v26 = .int .i64 (i : Int) ∧ Below w3.heap.size w3 wr) (fun v26 _ => xs.length - (RowKit.intOf v26).toNat)
    case atStart => exact ⟨0, by omega, rfl, Below.refl _ _⟩
    case round =>
      obtain ⟨i, hi, rfl, hbr⟩ := hrel
      by_cases hlt : i < xs.length
      · obtain ⟨ad, rfl, z0, z1, z2, z3, z4, z5, z6, z7⟩ := ent_at (Kd.C_below HC.out hbr) i _ (List.getElem?_eq_getElem hlt)
        obtain ⟨ad', rfl, y0, y1, y2, y3, y4, y5, y6, y7⟩ := ent_at (Kd.C_below HC'.out hbr) i _ (List.getElem?_eq_getElem hlt)
        generalize xs[i] = x at *
        have hl0 : decide (i < xs.length) = true := decide_eq_true hlt
        have hl1 : (i : Int) < (xs.length : Int) := by omega
        have hl2 : (0 : Int) ≤ (i : Int) := by omega
        have hne := ent_neqR x
        go_wp2_with fail
        go_quiet (fail)
        go_wp2_with fail
        go_roundw
        case rel => exact ⟨i + 1, by omega, congrArg _ (by omega), pw_below_drewN hbr _⟩
        case measure => simp [RowKit.intOf]; omega
      · have hl0 : decide (i < xs.length) = false := decide_eq_false hlt
        go_wp2_with fail
        go_ret
        exact ⟨rfl, HB3.out.trans (hbr.mono HB3.out.size)⟩
end Go.Proofs.YtgiobiljneijiaaDoor.G
