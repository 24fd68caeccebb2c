/- The law ScriptSkips. -/
import Derived.Test.YtgiobiljneijiaaDoorGivenScriptL
set_option linter.unusedVariables false
set_option linter.unusedSimpArgs false
namespace Go.Proofs.YtgiobiljneijiaaDoor.G
open Go.Shelf Go.RowKit Go.Lib Go.Proofs Go.Proofs.YtgiobiljneijiaaDoor.Pure Go.Proofs.YtgiobiljneijiaaDoorW.PrintWords Go.Proofs.YtgiobiljneijiaaDoorW.PrintLast Go.Proofs.YtgiobiljneijiaaDoorW.PrintMore
/-- A byte, n times. -/
def repB (o : UInt8) (n : Nat) : ByteArray := ⟨(List.replicate n o).toArray⟩
theorem repB_size (o : UInt8) (n : Nat) : (repB o n).size = n := by rw [L_size, repB, L_mk, List.length_replicate]
theorem repB_L (o : UInt8) (n : Nat) : L (repB o n) = List.replicate n o := L_mk _
theorem repB_succ (o : UInt8) (n : Nat) : repB o n ++ repB o 1 = repB o (n + 1) := by
  apply L_ext
  rw [L_append, repB_L, repB_L, repB_L]
  exact List.replicate_succ'.symm
/-- string([]byte{x}) -/
theorem conv_one (x : Int) (h0 : 0 ≤ x) (h : x < 256) (w : World) : (convert 25 9 (.slice (some ⟨w.heap.size, 0, none⟩) 1 1)).run Tryd.prog (w.alloc (.cells #[.int .u8 x] 5)) = .ok (.string (repB (UInt8.ofNat x.toNat) 1)) (w.alloc (.cells #[.int .u8 x] 5)) :=
  conv_row (w.alloc (.cells #[.int .u8 x] 5)) (some ⟨w.heap.size, 0, none⟩) 1 1 [UInt8.ofNat x.toNat] rfl (fun j b hj => by
    cases j with
    | zero =>
      simp at hj
      subst hj
      refine ⟨_, rfl, ?_⟩
      rw [add_zero, blk_cell (blk_new w _) 0]
      have : (((UInt8.ofNat x.toNat).toNat : Nat) : Int) = x := by
        rw [UInt8.toNat_ofNat']
        omega
      rw [this]
      rfl
    | succ j => simp at hj)
/-- Decode of the bytes of a text. -/
theorem decode_str (W : World) (a : ByteArray) (hs : a.size ≤ 140737488351232) : Calls Tryd.prog 7 #[.slice (some ⟨W.heap.size, 0, none⟩) a.size (grownCap W a.size 0 5)] (Lib.bytesWorld W 5 a) fun e w' => ∃ v, e = .returned v ∧ Kd.R kEnt 31 w' W.heap.size (fun _ => True) v (decodeL ((L a).take 4096)) ∧ Below W.heap.size W w' := by
  have hbw : Below W.heap.size W (Lib.bytesWorld W 5 a) := (Below.refl _ _).grown (bytesWorld_grown_ W 5 a) (Nat.le_refl _) (fun k hk => by cases hk)
  have hcap := grownCap_ge W a.size 0 5
  have c1 := decode_calls (Lib.bytesWorld W 5 a) (some ⟨W.heap.size, 0, none⟩) (grownCap W a.size 0 5) (L a) (bytes_at W _ a (by omega)) (by rw [← L_size]; exact hcap) (grownCap_le_maxLen W a.size 0 _ (by unfold maxLen; omega)) (by rw [← L_size]; exact hs)
  rw [← L_size] at c1
  refine c1.mono ?_
  rintro e w2 ⟨v, rfl, hr, hb2⟩
  exact ⟨v, rfl, Kd.R_lower hr hbw.size, hbw.trans (hb2.mono hbw.size)⟩
theorem decode_strN (W : World) (a : ByteArray) (n : Nat) (hn : a.size = n) (hs : n ≤ 140737488351232) : Calls Tryd.prog 7 #[.slice (some ⟨W.heap.size, 0, none⟩) n (grownCap W n 0 5)] (Lib.bytesWorld W 5 a) fun e w' => ∃ v, e = .returned v ∧ Kd.R kEnt 31 w' W.heap.size (fun _ => True) v (decodeL ((L a).take 4096)) ∧ Below W.heap.size W w' := by
  subst hn
  exact decode_str W a hs
theorem skips_x (a : List UInt8) (o : UInt8) (n : Nat) (ha : a.length ≤ 500) (hn : n ≤ 20) (ho : o.toNat < 1 ∨ 3 < o.toNat) : decodeL ((List.replicate n o ++ a).take 4096) = decodeL a := by
  rw [List.take_of_length_le (by rw [List.length_append, List.length_replicate]; omega), decodeL_odds o ho]
theorem skips_y (a : List UInt8) (ha : a.length ≤ 500) : decodeL (((List.replicate 4096 (0 : UInt8)).take (4096 - a.length) ++ a ++ [2, 1, 1]).take 4096) = decodeL a := by
  rw [List.take_replicate, List.take_left' (by rw [List.length_append, List.length_replicate]; omega)]
  exact decodeL_odds 0 (by decide) a _
set_option maxHeartbeats 8000000 in
set_option maxRecDepth 1000000 in
theorem skips_any (a : ByteArray) (x y : Int) (w : World) (hs : a.size ≤ 140737488351232) (hx0 : 0 ≤ x) (hx : x < 256) (hy0 : 0 ≤ y) (hy : y < 256) : Calls Tryd.prog 4 #[.string a, .int .u8 x, .int .u8 y] w fun e w' => e = .returned (.bool true) ∧ Below w.heap.size w w' := by
  by_cases hq : a.size > 500 ∨ (x ≥ 1 ∧ x ≤ 3)
  · by_cases hbig : a.size > 500
    · have hg : decide ((a.size : Int) > 500) = true := decide_eq_true (by omega)
      clear hq
      go_enter Tryd.func4, Tryd.ntmps4
      go_wp2_with fail
      refine (awake22 w).mono ?_
      rintro e w1 ⟨rfl, hb1⟩
      go_wp2_with fail
      refine (awake22 w1).mono ?_
      rintro e w2 ⟨rfl, hb2⟩
      go_wp2_with fail
      go_ret
      exact ⟨rfl, hb1.trans (hb2.mono hb1.size)⟩
    · have hg : decide ((a.size : Int) > 500) = false := decide_eq_false (by omega)
      have hx1 : 1 ≤ x := by omega
      have hx3 : x ≤ 3 := by omega
      clear hq
      go_enter Tryd.func4, Tryd.ntmps4
      go_wp2_with fail
      refine (awake22 w).mono ?_
      rintro e w1 ⟨rfl, hb1⟩
      go_wp2_with fail
      refine (awake22 w1).mono ?_
      rintro e w2 ⟨rfl, hb2⟩
      go_wp2_with fail
      go_ret
      exact ⟨rfl, hb1.trans (hb2.mono hb1.size)⟩
  · have hsm : a.size ≤ 500 := by omega
    have hodd : x < 1 ∨ 3 < x := by omega
    have hg : decide ((a.size : Int) > 500) = false := decide_eq_false (by omega)
    have hcv1 := conv_one x hx0 hx
    obtain ⟨n, hn⟩ : ∃ n : Nat, y % 20 = (n : Int) := ⟨(y % 20).toNat, by omega⟩
    have hn20 : (n : Int) < 20 := by omega
    have hcv := fun W (t : ByteArray) => Lib.run_convert_string_bytes (P := Tryd.prog) W 9 25 5 t Tryd.underlying9 Tryd.underlying25 Tryd.underlying5
    clear hq
    have body : ∀ (d : Bool), decide (x ≥ 1) = d → (d = true → decide (x ≤ 3) = false) → Calls Tryd.prog 4 #[.string a, .int .u8 x, .int .u8 y] w fun e w' => e = .returned (.bool true) ∧ Below w.heap.size w w' := by
      intro d hd1 hd2
      have hod : (UInt8.ofNat x.toNat).toNat < 1 ∨ 3 < (UInt8.ofNat x.toNat).toNat := by rw [UInt8.toNat_ofNat']; omega
      generalize UInt8.ofNat x.toNat = o at *
      have hz1 := repB_size o
      have hz0 := repB_size 0
      have hn0 : (0 : Int) ≤ (n : Int) := by omega
      have HOD := Aside0.mk hod
      have HSU := Aside0.mk (repB_succ o)
      have HSZ := Aside0.mk (repB_succ 0)
      have e00 : ∀ q : UInt8, (⟨#[]⟩ : ByteArray) = repB q 0 := fun _ => rfl
      have E00 := Aside0.mk e00
      have e01 : (⟨#[0]⟩ : ByteArray) = repB 0 1 := rfl
      clear hodd hod e00
      cases d
      rotate_left
      have hd3 := hd2 rfl
      rotate_left
      all_goals
        clear hd2
        go_enter Tryd.func4, Tryd.ntmps4
        go_wp2_with fail
        refine (awake22 w).mono ?_
        rintro e w1 ⟨rfl, hb1⟩
        have HB1 := Aside0.mk hb1
        clear hb1
        go_wp2_with fail
        go_loopw [7, 31] (fun v7 v31 wr => ∃ i : Nat, i ≤ n ∧ v31 = .int .u8 (i : Int) ∧ v7 = .string (repB o i) ∧ Below w.heap.size w wr) (fun _ v31 _ => n - (RowKit.intOf v31).toNat)
        case atStart => exact ⟨0, by omega, rfl, rfl, HB1.out⟩
        case round =>
          obtain ⟨i, hi, rfl, rfl, hbr⟩ := hrel
          have HBR := Aside0.mk hbr
          clear hbr
          by_cases hlt : i < n
          · have hl1 : (i : Int) < (n : Int) := by omega
            have hl2 : (0 : Int) ≤ (i : Int) := by omega
            have hl3 : decide (i < n) = true := decide_eq_true hlt
            go_wp2_with fail
            go_roundw
            case rel => exact ⟨i + 1, by omega, congrArg _ (by omega), by rw [HSU.out], HBR.out.alloc HBR.out.size _⟩
            case measure => simp [RowKit.intOf]; omega
          · obtain rfl : i = n := by omega
            have hl3 : decide (i < i) = false := decide_eq_false (by omega)
            clear HB1
            go_wp2_with fail
            refine (decode_str wr a hs).mono ?_
            rintro e w2 ⟨v1, rfl, hr1, hb2⟩
            have HR1 := Aside0.mk hr1
            have HB2 := Aside0.mk (HBR.out.trans (hb2.mono HBR.out.size))
            clear hr1 hb2
            have hsz1 : (repB o i ++ a).size = i + a.size := by rw [size_append, repB_size]
            have hdx : decodeL ((L (repB o i ++ a)).take 4096) = decodeL (L a) := by rw [L_append, repB_L]; exact skips_x (L a) o i (by rw [← L_size]; exact hsm) (by omega) HOD.out
            have hdl : decodeL ((L a).take 4096) = decodeL (L a) := by rw [List.take_of_length_le (by rw [← L_size]; omega)]
            have cX := decode_strN w2 (repB o i ++ a) _ hsz1 (by omega)
            rw [hdx] at cX
            rw [hdl] at HR1
            clear hsz1 hdx hdl
            go_wp2_with fail
            refine cX.mono ?_
            rintro e w3 ⟨v2, rfl, hr2, hb3⟩
            have HR1' := Aside0.mk (Kd.R_below HR1.out hb3)
            have HR2 := Aside0.mk hr2
            have HB3 := Aside0.mk (HB2.out.trans (hb3.mono HB2.out.size))
            clear hr2 hb3 HR1 HB2 cX
            go_wp2_with fail
            go_loopw [10] (fun v10 wr => ∃ j : Nat, j ≤ 4096 ∧ v10 = .string (repB 0 j) ∧ Below w3.heap.size w3 wr) (fun v10 _ => 4096 - (match v10 with | .string s => s.size | _ => 0))
            case atStart => exact ⟨0, by omega, rfl, Below.refl _ _⟩
            case round =>
              obtain ⟨j, hj, rfl, hbr⟩ := hrel
              have HBR' := Aside0.mk hbr
              clear hbr
              by_cases hlt : j < 4096
              · have hl1 : (j : Int) < 4096 := by omega
                go_wp2_with fail
                go_roundw
                case rel => exact ⟨j + 1, by omega, by rw [HSZ.out], HBR'.out⟩
                case measure =>
                  show 4096 - (repB 0 j ++ repB 0 1).size < 4096 - (repB 0 j).size
                  rw [size_append, repB_size, repB_size]
                  omega
              · obtain rfl : j = 4096 := by omega
                have hszy : ((repB 0 4096).extract 0 (4096 - a.size) ++ a ++ ⟨#[2, 1, 1]⟩).size = 4096 - a.size + a.size + 3 := by
                  rw [size_append, size_append, L_size ((repB 0 4096).extract 0 (4096 - a.size)), L_upto, repB_L, List.length_take, List.length_replicate]
                  have : (⟨#[2, 1, 1]⟩ : ByteArray).size = 3 := rfl
                  omega
                have hdy : decodeL ((L ((repB 0 4096).extract 0 (4096 - a.size) ++ a ++ ⟨#[2, 1, 1]⟩)).take 4096) = decodeL (L a) := by
                  rw [L_append, L_append, L_upto, repB_L, L_size a]
                  exact skips_y (L a) (by rw [← L_size]; exact hsm)
                have cY := decode_strN wr ((repB 0 4096).extract 0 (4096 - a.size) ++ a ++ ⟨#[2, 1, 1]⟩) _ hszy (by omega)
                rw [hdy] at cY
                clear hszy hdy
                go_wp2_with fail
                refine cY.mono ?_
                rintro e w4 ⟨v3, rfl, hr3, hb4⟩
                have q1 := Kd.R_below (Kd.R_below HR1'.out HBR'.out) hb4
                have q2 := Kd.R_below (Kd.R_below HR2.out HBR'.out) hb4
                have HB4 := Aside0.mk ((HB3.out.trans (HBR'.out.mono HB3.out.size)).trans (hb4.mono (Nat.le_trans HB3.out.size HBR'.out.size)))
                obtain ⟨A1, c1, rfl, l1, C1⟩ := Kd.R_reads q1
                obtain ⟨A2, c2, rfl, l2, C2⟩ := Kd.R_reads q2
                obtain ⟨A3, c3, rfl, l3, C3⟩ := Kd.R_reads hr3
                have hm := C1.2.1
                have HC1 := Aside0.mk C1
                have HC2 := Aside0.mk C2
                have HC3 := Aside0.mk C3
                clear q1 q2 C1 C2 C3 hr3 hb4 cY HR1' HR2 HBR' HB3
                generalize decodeL (L a) = xs at *
                go_wp2_with fail
                go_loopw [76] (fun v76 wx => ∃ k : Nat, k ≤ xs.length ∧ v76 = .int .i64 (k : Int) ∧ Below w4.heap.size w4 wx) (fun v76 _ => xs.length - (RowKit.intOf v76).toNat)
                case atStart => exact ⟨0, by omega, rfl, Below.refl _ _⟩
                case round =>
                  obtain ⟨k, hk, rfl, hbx⟩ := hrel
                  by_cases hlk : k < xs.length
                  · obtain ⟨a1, rfl, z0, z1, z2, z3, z4, z5, z6, z7⟩ := ent_at (Kd.C_below HC1.out hbx) k _ (List.getElem?_eq_getElem hlk)
                    obtain ⟨a2, rfl, y0, y1, y2, y3, y4, y5, y6, y7⟩ := ent_at (Kd.C_below HC2.out hbx) k _ (List.getElem?_eq_getElem hlk)
                    obtain ⟨a3, rfl, u0, u1, u2, u3, u4, u5, u6, u7⟩ := ent_at (Kd.C_below HC3.out hbx) k _ (List.getElem?_eq_getElem hlk)
                    generalize xs[k] = en at *
                    have hl0 : decide (k < xs.length) = true := decide_eq_true hlk
                    have hk1 : (k : Int) < (xs.length : Int) := by omega
                    have hk2 : (0 : Int) ≤ (k : Int) := by omega
                    have hne := ent_neq en
                    have HBX := Aside0.mk hbx
                    clear hbx
                    go_wp2_with fail
                    go_quiet (fail)
                    go_wp2_with fail
                    go_roundw
                    case rel => exact ⟨k + 1, by omega, congrArg _ (by omega), pw_below_drewN HBX.out _⟩
                    case measure => simp [RowKit.intOf]; omega
                  · have hl0 : decide (k < xs.length) = false := decide_eq_false hlk
                    go_wp2_with fail
                    go_ret
                    exact ⟨rfl, HB4.out.trans (hbx.mono HB4.out.size)⟩
    exact body _ rfl (fun h => by have := of_decide_eq_true h; exact decide_eq_false (by omega))
end Go.Proofs.YtgiobiljneijiaaDoor.G
