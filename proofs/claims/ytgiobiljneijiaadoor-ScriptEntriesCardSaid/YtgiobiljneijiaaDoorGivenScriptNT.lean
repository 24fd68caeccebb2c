/- The law ScriptEntries, the walk. -/
import Derived.Test.YtgiobiljneijiaaDoorGivenScriptN
set_option linter.unusedVariables false
set_option linter.unusedSimpArgs false
namespace Go.Proofs.YtgiobiljneijiaaDoor.G
open Go.Shelf Go.RowKit Go.Lib Go.Proofs Go.Proofs.YtgiobiljneijiaaDoor.Pure Go.Proofs.YtgiobiljneijiaaDoorW.PrintWords Go.Proofs.YtgiobiljneijiaaDoorW.PrintLast Go.Proofs.YtgiobiljneijiaaDoorW.PrintMore
set_option maxHeartbeats 8000000 in
set_option maxRecDepth 1000000 in
theorem entries_t (A : Option Addr) (c : Nat) (l : List Int) (text : ByteArray) (x y : Int) (w : World) (hr : Kd.C (Kd.int .u8) w A l.length l) (hc : l.length ≤ c) (hl : ∀ x ∈ l, 0 ≤ x ∧ x < 256) (hs : text.size ≤ 140737488351232) (hx0 : 0 ≤ x) (hx : x < 256) (hy0 : 0 ≤ y) (hy : y < 256) (hsm : l.length ≤ 60) (htx : text.size ≤ 200) (hd0 : 3 < y) (hodd : y < 1 ∨ 3 < y) :
    Calls Tryd.prog 5 #[.slice A l.length c, .string text, .int .u8 x, .int .u8 y] w fun e w' => e = .returned (.bool true) ∧ Below w.heap.size w w' := by
  have hg1 : decide ((l.length : Int) > 60) = false := decide_eq_false (by omega)
  have hg2 : decide ((text.size : Int) > 200) = false := decide_eq_false (by omega)
  have htx1 : (text.size : Int) ≤ 200 := by omega
  have htx0 : (0 : Int) ≤ (text.size : Int) := by omega
  have hcv4 : ∀ (n : Int) (W : World), 0 ≤ n → n < 8 → (convert 25 9 (.slice (some ⟨W.heap.size, 0, none⟩) 4 4)).run Tryd.prog (W.alloc (.cells #[.int .u8 y, .int .u8 1, .int .u8 n, .int .u8 (text.size : Int)] 5)) = .ok (.string (u8s [y, 1, n, (text.size : Int)])) (W.alloc (.cells #[.int .u8 y, .int .u8 1, .int .u8 n, .int .u8 (text.size : Int)] 5)) := fun n W h0 h8 => conv_many [y, 1, n, (text.size : Int)] (by simp; omega) 4 rfl W
  have hcv8 : ∀ (n : Int) (W : World), 0 ≤ n → n < 8 → (convert 25 9 (.slice (some ⟨W.heap.size, 0, none⟩) 8 8)).run Tryd.prog (W.alloc (.cells #[.int .u8 2, .int .u8 (n % 3), .int .u8 n, .int .u8 3, .int .u8 n, .int .u8 n, .int .u8 n, .int .u8 x] 5)) = .ok (.string (u8s [2, n % 3, n, 3, n, n, n, x])) (W.alloc (.cells #[.int .u8 2, .int .u8 (n % 3), .int .u8 n, .int .u8 3, .int .u8 n, .int .u8 n, .int .u8 n, .int .u8 x] 5)) := fun n W h0 h8 => conv_many [2, n % 3, n, 3, n, n, n, x] (by simp; omega) 8 rfl W
  have hcv := fun W (t : ByteArray) => Lib.run_convert_string_bytes (P := Tryd.prog) W 9 25 5 t Tryd.underlying9 Tryd.underlying25 Tryd.underlying5
  have hm := hr.2.1
  have HR := Aside0.mk hr
  have HL := Aside0.mk hl
  have HO := Aside0.mk hodd
  clear hr hl hodd
  have hd1 : decide (y ≥ 1) = true := decide_eq_true (by omega)
  have hd3 : decide (y ≤ 3) = false := decide_eq_false (by omega)
  go_enter Tryd.func5, Tryd.ntmps5
  go_wp2_with fail
  refine (awake22 w).mono ?_
  rintro e w1 ⟨rfl, hb1⟩
  have HB1 := Aside0.mk hb1
  clear hb1
  go_wp2_with fail
  go_loopw [9, 42] (fun v9 v42 wr => ∃ i : Nat, i ≤ l.length ∧ v42 = .int .i64 (i : Int) ∧ v9 = .string (accB l text x y i) ∧ Below w.heap.size w wr) (fun _ v42 _ => l.length - (RowKit.intOf v42).toNat)
  case atStart => exact ⟨0, by omega, rfl, rfl, HB1.out⟩
  case round =>
    obtain ⟨i, hi, rfl, rfl, hbr⟩ := hrel
    by_cases hlt : i < l.length
    · obtain ⟨ad, rfl, hcell⟩ := (Kd.reads_of_C (d := (0 : Int)) (Kd.C_below HR.out hbr)).2.2 (by omega)
      have hx1 := hcell i hlt
      have hv := HL.out _ (List.getElem_mem hlt)
      have hnum : numOf l i = l[i] % 8 := by unfold numOf; rw [List.getD_eq_getElem?_getD, List.getElem?_eq_getElem hlt]; rfl
      have hget : l.getD i 0 = l[i] := by rw [List.getD_eq_getElem?_getD, List.getElem?_eq_getElem hlt]; rfl
      rw [hget] at hx1
      have hacc := accB_size l text x y htx i
      have hsucc : accB l text x y (i + 1) = ((accB l text x y i ++ u8s [y, 1, l[i] % 8, (text.size : Int)]) ++ text) ++ u8s [2, (l[i] % 8) % 3, l[i] % 8, 3, l[i] % 8, l[i] % 8, l[i] % 8, x] := by rw [accB, hnum]
      have q4 : (u8s [y, 1, l[i] % 8, (text.size : Int)]).size = 4 := u8s_size _
      have q8 : (u8s [2, (l[i] % 8) % 3, l[i] % 8, 3, l[i] % 8, l[i] % 8, l[i] % 8, x]).size = 8 := u8s_size _
      have c4 := fun W => hcv4 (l[i] % 8) W (by omega) (by omega)
      have c8 := fun W => hcv8 (l[i] % 8) W (by omega) (by omega)
      have hacc2 : (accB l text x y i).size ≤ 12720 := by omega
      have HS := Aside0.mk hsucc
      have HBR := Aside0.mk hbr
      clear hcell hnum hget hacc hsucc hbr hcv4 hcv8 hcv
      generalize l[i] = li at *
      have hl1 : (i : Int) < (l.length : Int) := by omega
      have hl2 : (0 : Int) ≤ (i : Int) := by omega
      have hl3 : decide (i < l.length) = true := decide_eq_true hlt
      have c8' := c8 (wr.alloc (.cells #[.int .u8 y, .int .u8 1, .int .u8 (li % 8), .int .u8 (text.size : Int)] 5))
      rw [alloc_size] at c8'
      have c4' := c4 wr
      clear c4 c8
      go_wp2_with fail
      go_roundw
      case rel => exact ⟨i + 1, by omega, congrArg _ (by omega), by rw [HS.out], (HBR.out.alloc HBR.out.size _).alloc ((HBR.out.alloc HBR.out.size _).size) _⟩
      case measure => simp [RowKit.intOf]; omega
    · obtain rfl : i = l.length := by omega
      have hl3 : decide (l.length < l.length) = false := decide_eq_false (by omega)
      have hacc := accB_size l text x y htx l.length
      have hacc2 : (accB l text x y l.length).size ≤ 12720 := by omega
      have hL := accB_L l text x y HL.out l.length (Nat.le_refl _)
      rw [List.take_length] at hL
      have hdec := decode_big text x y (by unfold u8n; rw [UInt8.toNat_ofNat']; have := HO.out; omega) htx l
      rw [← hL] at hdec
      have HBR := Aside0.mk hbr
      clear hacc hL hbr hcv4 hcv8 HB1
      generalize accB l text x y l.length = bb at *
      by_cases hbig : bb.size > 4096
      · have hb1 : decide ((bb.size : Int) > 4096) = true := decide_eq_true (by omega)
        have HD := Aside0.mk hdec
        clear hdec
        go_wp2_with fail
        go_ret
        exact ⟨rfl, HBR.out⟩
      · have hb1 : decide ((bb.size : Int) > 4096) = false := decide_eq_false (by omega)
        have cD := decode_str wr bb (by omega)
        rw [List.take_of_length_le (by rw [← L_size]; omega), hdec] at cD
        clear hdec
        go_wp2_with fail
        refine cD.mono ?_
        rintro e w2 ⟨v1, rfl, hr1, hb2⟩
        obtain ⟨A1, c1, rfl, l1, C1⟩ := Kd.R_reads hr1
        have hlen := bigE_length text x l
        have hrows := bigE_at text x l
        have HC := Aside0.mk C1
        have HB2 := Aside0.mk (HBR.out.trans (hb2.mono HBR.out.size))
        rw [hlen] at HC
        have hne0 : ((3 * l.length : Nat) : Int) = 3 * (l.length : Int) := by omega
        have HROW := Aside0.mk hrows
        have HR2 := Aside0.mk (Kd.C_below (Kd.C_below HR.out HBR.out) hb2)
        clear hr1 hb2 cD C1 hrows HBR HR
        go_wp2_with fail
        go_loopw [86] (fun v86 wx => ∃ k : Nat, k ≤ l.length ∧ v86 = .int .i64 (k : Int) ∧ Below w2.heap.size w2 wx) (fun v86 _ => l.length - (RowKit.intOf v86).toNat)
        case atStart => exact ⟨0, by omega, rfl, Below.refl _ _⟩
        case round =>
          obtain ⟨k, hk, rfl, hbx⟩ := hrel
          by_cases hlk : k < l.length
          · have hCx := Kd.C_below HC.out hbx
            have r0 := HROW.out k 0 hlk (by omega)
            have r1 := HROW.out k 1 hlk (by omega)
            have r2 := HROW.out k 2 hlk (by omega)
            obtain ⟨ad, hA, z0, z1, z2, z3, z4, z5, z6, z7⟩ := ent_at hCx (3 * k + 0) _ r0
            obtain ⟨ad', hA', y0, y1, y2, y3, y4, y5, y6, y7⟩ := ent_at hCx (3 * k + 1) _ r1
            obtain ⟨ad'', hA'', u0, u1, u2, u3, u4, u5, u6, u7⟩ := ent_at hCx (3 * k + 2) _ r2
            subst hA
            obtain rfl := Option.some.inj hA'
            obtain rfl := Option.some.inj hA''
            obtain ⟨adn, hAn, hcell⟩ := (Kd.reads_of_C (d := (0 : Int)) (Kd.C_below HR2.out hbx)).2.2 (by omega)
            subst hAn
            have hx1 := hcell k hlk
            have hv := HL.out _ (List.getElem_mem hlk)
            have hget : l.getD k 0 = l[k] := by rw [List.getD_eq_getElem?_getD, List.getElem?_eq_getElem hlk]; rfl
            rw [hget] at hx1
            have HBX := Aside0.mk hbx
            clear hCx r0 r1 r2 hA' hA'' hcell hget hbx
            obtain ⟨q, hq⟩ : ∃ q : Nat, l[k] % 8 = (q : Int) := ⟨(l[k] % 8).toNat, by omega⟩
            have hq8 : q < 8 := by omega
            have hN : (u8n (numOf l k)).toNat = q := by
              unfold u8n numOf
              rw [List.getD_eq_getElem?_getD, List.getElem?_eq_getElem hlk, Option.getD_some, hq, Int.toNat_natCast, UInt8.toNat_ofNat']
              omega
            have hX : (((u8n x).toNat : Nat) : Int) = x := by unfold u8n; rw [UInt8.toNat_ofNat']; omega
            dsimp only at z0 z1 z2 z3 z4 z5 z6 z7 y0 y1 y2 y3 y4 y5 y6 y7 u0 u1 u2 u3 u4 u5 u6 u7
            rw [hN] at z3 y1 y3 u5 u6 u7
            rw [hX] at u2
            rw [L_mk'] at z4
            have hw1 : ((q % 3 : Nat) : Int) = (q : Int) % 3 := by omega
            rw [hw1] at y1
            rw [Nat.add_zero] at z0 z1 z2 z3 z4 z5 z6 z7
            clear hN hX hw1
            generalize l[k] = li at *
            have hnl := name_lit q hq8
            have hk1 : (k : Int) < (l.length : Int) := by omega
            have hk2 : (0 : Int) ≤ (k : Int) := by omega
            have hk3 : decide (k < l.length) = true := decide_eq_true hlk
            have hl60 : (l.length : Int) ≤ 60 := by omega
            have hq9 : (q : Int) < 8 := by omega
            have hq0 : (0 : Int) ≤ (q : Int) := by omega
            have w1 : IntKind.i64.wrap (3 * (k : Int)) = 3 * (k : Int) := IntWalk.i64_in _ (by omega)
            have w2' : IntKind.i64.wrap (3 * (k : Int) + 1) = 3 * (k : Int) + 1 := IntWalk.i64_in _ (by omega)
            have w3 : IntKind.i64.wrap (3 * (k : Int) + 2) = 3 * (k : Int) + 2 := IntWalk.i64_in _ (by omega)
            have t1 : (3 * (k : Int)).toNat = 3 * k := by omega
            have t2 : (3 * (k : Int) + 1).toNat = 3 * k + 1 := by omega
            have t3 : (3 * (k : Int) + 2).toNat = 3 * k + 2 := by omega
            have b1 : (3 * (k : Int)) < 3 * (l.length : Int) := by omega
            have b2 : (3 * (k : Int) + 1) < 3 * (l.length : Int) := by omega
            have b3 : (3 * (k : Int) + 2) < 3 * (l.length : Int) := by omega
            have hsl := slice_lit q hq8
            have hez : ((⟨#[48, 49, 50, 51, 52, 53, 54, 55]⟩ : ByteArray).extract q (q + 1)).size = 1 := by
              rw [L_size, L_extract, List.length_take, List.length_drop, ← L_size]
              have : (⟨#[48, 49, 50, 51, 52, 53, 54, 55]⟩ : ByteArray).size = 8 := rfl
              omega
            generalize (⟨#[48, 49, 50, 51, 52, 53, 54, 55]⟩ : ByteArray).extract q (q + 1) = sq at *
            have l00 := World.block_lt_of_cell? wr _ z0
            have l01 : (ad.add (3 * k * 8)).block < wr.heap.size + 1 := by omega
            have l02 : (ad.add (3 * k * 8)).block < wr.heap.size + 1 + 1 := by omega
            have l10 := World.block_lt_of_cell? wr _ y0
            have l11 : (ad.add ((3 * k + 1) * 8)).block < wr.heap.size + 1 := by omega
            have l12 : (ad.add ((3 * k + 1) * 8)).block < wr.heap.size + 1 + 1 := by omega
            have l20 := World.block_lt_of_cell? wr _ u0
            have l21 : (ad.add ((3 * k + 2) * 8)).block < wr.heap.size + 1 := by omega
            have l22 : (ad.add ((3 * k + 2) * 8)).block < wr.heap.size + 1 + 1 := by omega
            have p1 : (0 : Int) ≤ 3 * (k : Int) := by omega
            have p2 : (0 : Int) ≤ 3 * (k : Int) + 1 := by omega
            have p3 : (0 : Int) ≤ 3 * (k : Int) + 2 := by omega
            have HT := Aside0.mk (show ∀ o1 o2 o3 : Obj, (∃ k1 : Nat, k1 ≤ l.length ∧ Value.int .i64 ((k : Int) + 1) = .int .i64 (k1 : Int) ∧ Below w2.heap.size w2 (((wr.alloc o1).alloc o2).alloc o3).drew) ∧ l.length - (RowKit.intOf (.int .i64 ((k : Int) + 1))).toNat < l.length - (RowKit.intOf (.int .i64 (k : Int))).toNat from fun o1 o2 o3 => ⟨⟨k + 1, hlk, congrArg _ (by omega), three_drew HBX.out o1 o2 o3⟩, by simp [RowKit.intOf]; omega⟩)
            clear hcv hc
            go_wp2_with fail
            clear hsl
            have n1 := ent_neq ⟨1, 0, 0, nameB q, text, mtS, mtS, mtS⟩
            have n2 := ent_neq ⟨2, (q : Int) % 3, 0, nameB q, mtS, mtS, mtS, mtS⟩
            have n3 := ent_neq ⟨3, 0, x, mtS, mtS, nameB q, nameB q, nameB q⟩
            dsimp only at n1 n2 n3
            go_region
            all_goals go_wp2_with fail
            all_goals exact HT.out _ _ _
          · obtain rfl : k = l.length := by omega
            have hl3' : decide (l.length < l.length) = false := decide_eq_false (by omega)
            go_wp2_with fail
            go_ret
            exact ⟨rfl, HB2.out.trans (hbx.mono HB2.out.size)⟩
end Go.Proofs.YtgiobiljneijiaaDoor.G
