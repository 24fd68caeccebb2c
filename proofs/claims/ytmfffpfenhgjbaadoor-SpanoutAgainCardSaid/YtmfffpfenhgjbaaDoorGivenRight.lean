/- The given contract of span.Right: whether spans are in normal form (within.all, then the ends). -/
import Derived.Test.YtmfffpfenhgjbaaDoorGivenRightO
import Derived.Test.YtmfffpfenhgjbaaDoorPNormAll
import Derived.BigRegion
set_option linter.unusedVariables false
set_option linter.unusedSimpArgs false
namespace Go.Proofs.YtmfffpfenhgjbaaDoor.G
open Go.RowKit Go.Lib Go.Proofs Go.Proofs.YtmfffpfenhgjbaaDoor.X Go.Proofs.YtmfffpfenhgjbaaDoor.Pure Go.Proofs.YtmfffpfenhgjbaaDoorW.PrintWords Go.Proofs.YtmfffpfenhgjbaaDoorW.PrintLast Go.Proofs.YtmfffpfenhgjbaaDoorW.PrintMore
theorem says_check (w : World) (hT : Tabs w) (s : ByteArray) (hs : s.size ≤ 1000000) : SaysU w s (checkV (L s)) := by
  intro W hW
  have hg := bytesWorld_grown W 5 s
  have hb : Below W.heap.size W (Lib.bytesWorld W 5 s) := (Below.refl _ _).grown hg (Nat.le_refl _) (fun k hk => by cases hk)
  have hC : Kd.C (Kd.int .u8) (Lib.bytesWorld W 5 s) (some ⟨W.heap.size, 0, none⟩) (bytesOf s).length (bytesOf s) := by
    rw [Go.Proofs.YtmfffpfenhgjbaaDoorW.PrintWords.bytesOf_length]
    exact Kd.C_of_reads (d := (0 : Int)) (bytes_reads W 5 s (by omega))
  have c := utf_Check.calls (some ⟨W.heap.size, 0, none⟩) (grownCap W s.size 0 5) (bytesOf s) (checkV (L s)) (Lib.bytesWorld W 5 s) (Tabs.at (Tabs.at hT hW) hb) hC (by rw [Go.Proofs.YtmfffpfenhgjbaaDoorW.PrintWords.bytesOf_length]; exact grownCap_ge W s.size 0 _) (utf_Check_eq s (by omega))
  rw [Go.Proofs.YtmfffpfenhgjbaaDoorW.PrintWords.bytesOf_length] at c
  refine c.mono ?_
  rintro e w' ⟨rfl, hb2⟩
  exact ⟨rfl, hb.trans (Below.mono hb2 hb.size)⟩
def AllV (n : Nat) : Prop := ∀ (e m : Bool) (A : Option Addr) (c : Nat) (l : List S26) (w : World), SizeOf.sizeOf l < n → Tabs w → Kd.C k26 w A l.length l → l.length ≤ c → wtL l ≤ 1000000 →
  Calls Tryd.prog 41 #[.agg #[.bool e, .bool m], .slice A l.length c] w fun x w' => x = .returned (.bool (allV l 0 e m)) ∧ Below w.heap.size w w'
def OneV (n : Nat) : Prop := ∀ (e m : Bool) (k : Int) (s : ByteArray) (A2 : Option Addr) (l2 : List S26) (c2 : Nat) (w : World), SizeOf.sizeOf l2 < n → Tabs w → Kd.C k26 w A2 l2.length l2 → l2.length ≤ c2 → s.size + wtL l2 ≤ 1000000 →
  Calls Tryd.prog 62 #[.agg #[.bool e, .bool m], .agg #[.int .i64 k, .string s, .slice A2 l2.length c2]] w fun x w' => x = .returned (.bool (oneV ⟨k, s, l2⟩ e m)) ∧ Below w.heap.size w w'
theorem says_all {n : Nat} (H : AllV n) (e m : Bool) (A : Option Addr) (c : Nat) (l : List S26) (w : World) (hn : SizeOf.sizeOf l < n) (hT : Tabs w) (hr : Kd.C k26 w A l.length l) (hc : l.length ≤ c) (hw : wtL l ≤ 1000000) :
    SaysR w 41 #[.agg #[.bool e, .bool m], .slice A l.length c] (.bool (allV l 0 e m)) := fun W hW => H e m A c l W hn (Tabs.at hT hW) (Kd.C_below hr hW) hc hw
theorem oneV_of_all (n : Nat) (H : AllV n) : OneV n := by
  intro e m k s A2 l2 c2 w hn hT hr hc hw
  have cU := says_check w hT s (by omega)
  rw [oneV_eq]
  by_cases hu : checkV (L s) = 0
  rotate_left
  · rw [decide_eq_false hu]
    exact one_bad w e m k s A2 l2.length c2 _ hu cU
  rw [hu] at cU
  rw [decide_eq_true hu, Bool.true_and]
  by_cases k1 : k = 1
  · subst k1
    rw [if_pos rfl, empty_len]
    exact one_words w e m s A2 l2.length c2 _ cU (fun W hW => span_text.calls (2 * s.size + 31) s _ W (span_text_eq s (by omega) _ (by omega)))
  rw [if_neg k1]
  by_cases k2 : k = 2
  · subst k2
    rw [if_pos rfl, empty_len]
    have hca : strings_ContainsAny.f s ⟨#[13, 10]⟩ = some ((L s).contains 13 || (L s).contains 10) := by
      unfold strings_ContainsAny.f
      rw [if_pos ⟨by decide, by omega, by decide, by decide⟩]
      show some (Lib.containsAny (L s) [13, 10]) = _
      rw [containsAny_any]
      simp only [List.contains_cons, List.contains_nil, Bool.or_false, any_two]
    refine (one_code w e m s A2 l2.length c2 _ cU (fun W hW => strings_ContainsAny.calls s ⟨#[13, 10]⟩ _ W hca)).mono ?_
    rintro x w' ⟨rfl, hb⟩
    refine ⟨?_, hb⟩
    rw [L_toList]
    have : decide (L s = []) = (L s).isEmpty := by cases L s <;> simp
    rw [this, Bool.not_or]
    simp only [Bool.and_assoc]
  rw [if_neg k2]
  by_cases k3 : k = 3
  · subst k3
    rw [if_pos rfl, some_len]
    refine (one_emph w e m s A2 l2.length c2 _ cU (says_all H true m A2 c2 l2 w hn hT hr hc (by omega))).mono ?_
    rintro x w' ⟨rfl, hb⟩
    refine ⟨?_, hb⟩
    rw [L_toList]
    have : decide (L s = []) = (L s).isEmpty := by cases L s <;> simp
    rw [this]
    simp only [Bool.and_assoc]
  rw [if_neg k3]
  by_cases k4 : k = 4
  · subst k4
    rw [if_pos rfl, some_len]
    refine (one_link w e m s A2 l2.length c2 (destL (L s)) _ cU (fun W hW => span_Dest.calls s _ W (span_dest_eq s)) (says_all H e true A2 c2 l2 w hn hT hr hc (by omega))).mono ?_
    rintro x w' ⟨rfl, hb⟩
    refine ⟨?_, hb⟩
    simp only [Bool.and_assoc]
  · rw [if_neg k4]
    exact one_none w e m k s A2 l2.length c2 k1 k2 k3 k4 cU
theorem allV_at (l : List S26) (i : Nat) (h : i < l.length) (last : Int) (e m : Bool) : allV (l.drop i) last e m = (oneV l[i] e m && !(decide ((l[i]).f0 = last) && decide ((l[i]).f0 ≤ 2)) && allV (l.drop (i + 1)) (l[i]).f0 e m) := by
  rw [List.drop_eq_getElem_cons h, allV_cons]
theorem kids_lt_S (l : List S26) (i : Nat) (h : i < l.length) : SizeOf.sizeOf (l[i]).f2 < SizeOf.sizeOf l := by
  have h1 := List.sizeOf_lt_of_mem (List.getElem_mem h)
  generalize l[i] = x at h1 ⊢
  obtain ⟨a, b, c⟩ := x
  have := S26.mk.sizeOf_spec a b c
  show SizeOf.sizeOf c < _
  omega
theorem wtL_at (l : List S26) (i : Nat) (h : i < l.length) : (l[i]).f1.size + wtL (l[i]).f2 ≤ wtL l := by
  induction l generalizing i with
  | nil => simp at h
  | cons x t ih =>
    rw [wtL_cons]
    cases i with
    | zero => simp only [List.getElem_cons_zero]; omega
    | succ i =>
      have := ih i (by simpa using h)
      simp only [List.getElem_cons_succ]
      omega
set_option maxHeartbeats 8000000 in
set_option maxRecDepth 1000000 in
theorem allV_of_one (n : Nat) (H : OneV n) : AllV (n + 1) := by
  intro e m A c l w hn hT hr hc hw
  have hm : l.length ≤ 9223372036854775807 := hr.2.1
  have hB0 : ∀ o, Below w.heap.size w (w.alloc o) := fun o => (Below.refl _ w).alloc (Nat.le_refl _) o
  go_enter Tryd.func41, Tryd.ntmps41
  go_wp2_with fail
  go_loopw [5, 10] (fun v5 v10 wr => ∃ (i : Nat) (last : Int), v5 = .int .i64 last ∧ v10 = .int .i64 (i : Int) ∧ i ≤ l.length ∧ allV (l.drop i) last e m = allV l 0 e m ∧ Below w.heap.size w wr ∧ wr.heap[w.heap.size]? = some (.cells #[.bool e, .bool m] 46 (0, 0))) (fun _ v10 _ => l.length - (intOf v10).toNat)
  case atStart => exact ⟨0, 0, rfl, rfl, Nat.zero_le _, rfl, hB0 _, blk_new w _⟩
  case round =>
    obtain ⟨i, last, rfl, rfl, hi, hS, hbw, hbox⟩ := hrel
    by_cases hlt : i < l.length
    · obtain ⟨ad, A2, c2, rfl, hx0, hx1, hx2, hl2, hk2⟩ := at_T26 hr (i : Int) (by omega) (by omega)
      have hd : decide ((i : Int) < (l.length : Int)) = true := decide_eq_true (by omega)
      have hi0 : ((0 : Int) ≤ (i : Int)) = True := eq_true (by omega)
      have hi1 : ((i : Int) < (l.length : Int)) = True := eq_true (by omega)
      have hx : rd_T26 l (i : Int) = l[i] := by unfold rd_T26; simp [List.getD, hlt]
      rw [hx] at hx0 hx1 hx2 hl2 hk2
      rw [Int.toNat_natCast] at hx0 hx1 hx2
      have hy0 := (hbw.cell (World.block_lt_of_cell? w _ hx0)).trans hx0
      have hy1 := (hbw.cell (World.block_lt_of_cell? w _ hx1)).trans hx1
      have hy2 := (hbw.cell (World.block_lt_of_cell? w _ hx2)).trans hx2
      clear hx0 hx1 hx2 hx
      have hsm := kids_lt_S l i hlt
      have hwt := wtL_at l i hlt
      have hstep := allV_at l i hlt last e m
      generalize l[i] = x at hy0 hy1 hy2 hl2 hk2 hsm hwt hstep
      obtain ⟨f0, f1, f2⟩ := x
      dsimp only at hy0 hy1 hy2 hl2 hk2 hsm hwt hstep
      have c1 : ∀ W : World, Below w.heap.size w W → Calls Tryd.prog 62 #[.agg #[.bool e, .bool m], .agg #[.int .i64 f0, .string f1, .slice A2 f2.length c2]] W fun x w' => x = .returned (.bool (oneV ⟨f0, f1, f2⟩ e m)) ∧ Below W.heap.size W w' :=
        fun W hW => H e m f0 f1 A2 f2 c2 W (by omega) (Tabs.at hT hW) (Kd.C_below hk2 hW) hl2 (by omega)
      rw [hS] at hstep
      clear hr hk2 hl2 hsm hwt hS H hT hn hw
      have hBo : ∀ o, Below w.heap.size w (wr.alloc o) := fun o => hbw.alloc hbw.size o
      have hbx : ∀ o, (wr.alloc o).heap[w.heap.size]? = some (.cells #[.bool e, .bool m] 46 (0, 0)) := fun o => blk_alloc hbox o
      obtain ⟨p0, p1⟩ := box_two hbox
      have p0' : ∀ o, (wr.alloc o).cell? ⟨w.heap.size, 0, none⟩ = some (.bool e) := fun o => (box_two (hbx o)).1
      have p1' : ∀ o, (wr.alloc o).cell? ⟨w.heap.size, 1, none⟩ = some (.bool m) := fun o => (box_two (hbx o)).2
      generalize oneV ⟨f0, f1, f2⟩ e m = b at c1 hstep
      generalize f2.length = n2 at *
      have HS := Aside0.mk hstep
      have HBX := Aside0.mk hbx
      clear hstep hbx
      have hk1 : i + 1 ≤ l.length := hlt
      have HKI := Aside0.mk (show (i : Int) + 1 = ((i + 1 : Nat) : Int) by omega)
      clear hbw hB0 hbox
      cases b with
      | false =>
        go_wp2_with (go_at_call 62; refine (c1 _ (hBo _)).mono ?_; rintro x w1 ⟨rfl, hb1⟩; have hb2 : Below w.heap.size w w1 := (hBo _).trans (Below.mono hb1 (hBo _).size); have G1 := Aside0.mk (blk_below (HBX.out _) hb1); obtain ⟨z0, z1, z2⟩ := box_three (blk_below (blk_new wr _) hb1))
        go_ret
        exact ⟨by rw [HS.out]; rfl, hb2⟩
      | true =>
        by_cases h1 : f0 = last
        · have e1 : (f0 == last) = true := beq_iff_eq.2 h1
          have d1 : decide (f0 = last) = true := decide_eq_true h1
          by_cases h2 : f0 ≤ 2
          · have e2 : decide (f0 ≤ 2) = true := decide_eq_true h2
            clear h1 h2
            go_wp2_with (go_at_call 62; refine (c1 _ (hBo _)).mono ?_; rintro x w1 ⟨rfl, hb1⟩; have hb2 : Below w.heap.size w w1 := (hBo _).trans (Below.mono hb1 (hBo _).size); have G1 := Aside0.mk (blk_below (HBX.out _) hb1); obtain ⟨z0, z1, z2⟩ := box_three (blk_below (blk_new wr _) hb1))
            go_ret
            exact ⟨by rw [HS.out, d1, e2]; rfl, hb2⟩
          · have e2 : decide (f0 ≤ 2) = false := decide_eq_false h2
            clear h1 h2
            go_wp2_with (go_at_call 62; refine (c1 _ (hBo _)).mono ?_; rintro x w1 ⟨rfl, hb1⟩; have hb2 : Below w.heap.size w w1 := (hBo _).trans (Below.mono hb1 (hBo _).size); have G1 := Aside0.mk (blk_below (HBX.out _) hb1); obtain ⟨z0, z1, z2⟩ := box_three (blk_below (blk_new wr _) hb1))
            go_roundw
            case rel => exact ⟨i + 1, f0, rfl, congrArg _ HKI.out, hk1, by rw [HS.out, d1, e2]; rfl, hb2, G1.out⟩
            case measure => simp [intOf]; omega
        · have e1 : (f0 == last) = false := beq_eq_false_iff_ne.2 h1
          have d1 : decide (f0 = last) = false := decide_eq_false h1
          clear h1
          go_wp2_with (go_at_call 62; refine (c1 _ (hBo _)).mono ?_; rintro x w1 ⟨rfl, hb1⟩; have hb2 : Below w.heap.size w w1 := (hBo _).trans (Below.mono hb1 (hBo _).size); have G1 := Aside0.mk (blk_below (HBX.out _) hb1); obtain ⟨z0, z1, z2⟩ := box_three (blk_below (blk_new wr _) hb1))
          go_roundw
          case rel => exact ⟨i + 1, f0, rfl, congrArg _ HKI.out, hk1, by rw [HS.out, d1]; rfl, hb2, G1.out⟩
          case measure => simp [intOf]; omega
    · have hd : decide ((i : Int) < (l.length : Int)) = false := decide_eq_false (by omega)
      rw [List.drop_eq_nil_of_le (by omega)] at hS
      have HS := Aside0.mk hS
      clear hS
      go_wp2_with fail
      go_ret
      exact ⟨by rw [← HS.out]; simp [allV], hbw⟩
theorem allV_ok : ∀ n, AllV n := by
  intro n
  induction n with
  | zero => intro e m A c l w h; omega
  | succ n ih => exact allV_of_one n (oneV_of_all n ih)
theorem below_drawn_ {w w1 w2 : World} (h : Below w.heap.size w w1) (d : Drawn0 w1 w2) : Below w.heap.size w w2 := h.trans (Below.mono d.below h.size)
theorem edge_says (s : ByteArray) (i : Nat) (h : i < s.size) (W : World) : Calls Tryd.prog 42 #[.int .u8 (((s[i]'h).toNat : Nat) : Int)] W fun e w' => e = .returned (.bool (edgeB (s[i]'h))) ∧ Drawn0 W w' := span_edge.calls _ _ W (edge_eq _)
theorem head_at (s : ByteArray) (h : 0 < s.size) : headE (L s) = edgeB (s[0]'h) := by
  cases hb : L s with
  | nil => rw [L_size, hb] at h; cases h
  | cons b r =>
    have : (L s)[0]'(by rw [hb]; simp) = s[0]'h := rfl
    rw [← this]
    simp only [hb, headE, List.getElem_cons_zero]
theorem last_at (s : ByteArray) (h : 0 < s.size) : lastE (L s) = edgeB (s[s.size - 1]'(by omega)) := by
  have hl := L_size s
  have h0 : 0 < (L s).length := by omega
  have : (L s)[s.size - 1]'(by omega) = s[s.size - 1]'(by omega) := rfl
  unfold lastE
  have e : (L s).reverse = (L s).reverse.head (by simpa using List.length_pos_iff.1 h0) :: (L s).reverse.tail := (List.cons_head_tail _).symm
  rw [e, headE, List.head_reverse, List.getLast_eq_getElem, ← this]
  simp only [hl]
/-- span.Right, of spans up to a size. -/
def span_Right.f (l0 : List S26) : Option Bool := if wtL l0 ≤ 1000000 then some (rightL l0) else none
set_option maxHeartbeats 8000000 in
set_option maxRecDepth 1000000 in
theorem span_Right.calls (A0 : Option Addr) (c0 : Nat) (l0 : List S26) (r : Bool) (w : World) (hT : Tabs w) (hr0 : Kd.C k26 w A0 l0.length l0) (hc0 : l0.length ≤ c0) (h : span_Right.f l0 = some r) :
    Calls Tryd.prog 18 #[.slice A0 l0.length c0] w fun e w' => e = .returned (.bool r) ∧ Below w.heap.size w w' := by
  unfold span_Right.f at h
  by_cases hw : wtL l0 ≤ 1000000
  rotate_left
  · rw [if_neg hw] at h; cases h
  rw [if_pos hw] at h
  obtain rfl := Option.some.inj h
  have cA := allV_ok _ false false A0 c0 l0 w (Nat.lt_succ_self _) hT hr0 hc0 hw
  clear h
  unfold rightL
  go_enter Tryd.func18, Tryd.ntmps18
  go_wp2_with fail
  refine cA.mono ?_
  rintro x w1 ⟨rfl, hb1⟩
  cases ha : allV l0 0 false false with
  | false =>
    go_wp2_with fail
    go_ret
    exact ⟨by rw [ha]; rfl, hb1⟩
  | true =>
    by_cases h0 : l0 = []
    · subst h0
      go_wp2_with fail
      go_ret
      exact ⟨by rw [ha]; rfl, hb1⟩
    · have hlen : 0 < l0.length := List.length_pos_iff.2 h0
      have e0 : ((l0.length : Int) == 0) = false := beq_eq_false_iff_ne.2 (by omega)
      have hr1 := Kd.C_below hr0 hb1
      have hll := wtL_length l0
      have hm := hr0.2.1
      obtain ⟨ad, A2, c2, rfl, x0, x1, x2, hl2, hk2⟩ := at_T26 hr1 0 (by omega) (by omega)
      obtain ⟨ad', A3, c3, hA, y0, y1, y2, hl3, hk3⟩ := at_T26 hr1 (((l0.length - 1 : Nat)) : Int) (by omega) (by omega)
      obtain rfl := Option.some.inj hA
      have hx : rd_T26 l0 0 = l0[0] := by unfold rd_T26; simp [List.getD, hlen]
      have hy : rd_T26 l0 ((l0.length - 1 : Nat) : Int) = l0[l0.length - 1] := by unfold rd_T26; rw [Int.toNat_natCast, List.getD_eq_getElem?_getD, List.getElem?_eq_getElem (by omega)]; rfl
      rw [hx] at x0 x1 x2
      rw [hy] at y0 y1 y2
      rw [Int.toNat_natCast] at y0 y1 y2
      have ea : ad.add ((0 : Int).toNat * 3) = ad := by cases ad; rfl
      rw [ea] at x0 x1 x2
      have lx := World.block_lt_of_cell? w1 _ x0
      have lx1 : ad.block < w1.heap.size + 1 := by omega
      have lx2 : ad.block < w1.heap.size + 1 + 1 := by omega
      have ly := World.block_lt_of_cell? w1 _ y0
      have ly1 : (ad.add ((l0.length - 1) * 3)).block < w1.heap.size + 1 := by omega
      have ly2 : (ad.add ((l0.length - 1) * 3)).block < w1.heap.size + 1 + 1 := by omega
      have hox := all_one _ _ _ _ ha _ (List.getElem_mem hlen)
      have hoy := all_one _ _ _ _ ha _ (List.getElem_mem (by omega : l0.length - 1 < l0.length))
      have hsx := wtL_at l0 0 hlen
      have hsy := wtL_at l0 (l0.length - 1) (by omega)
      have hends : endsOk l0 = (!(decide ((l0[0]).f0 = 1) && headE (L (l0[0]).f1)) && !(decide ((l0[l0.length - 1]).f0 = 1) && lastE (L (l0[l0.length - 1]).f1))) := by
        unfold endsOk
        rw [List.head?_eq_getElem?, List.getElem?_eq_getElem hlen, List.getLast?_eq_getElem?, List.getElem?_eq_getElem (by omega)]
      generalize l0[0] = x at *
      generalize l0[l0.length - 1] = y at *
      obtain ⟨f0, f1, f2⟩ := x
      obtain ⟨g0, g1, g2⟩ := y
      dsimp only at *
      have w1' : IntKind.i64.wrap ((l0.length : Int) - 1) = ((l0.length - 1 : Nat) : Int) := by rw [IntWalk.i64_in _ (by omega)]; omega
      have t1 : (((l0.length - 1 : Nat)) : Int) < (l0.length : Int) := by omega
      go_wp2_with fail
      go_region
      have hbW := below_drew1 (below_alloc (below_alloc hb1 (.cells #[.int .i64 f0, .string f1, .slice A2 f2.length c2] 26)) (.cells #[.int .i64 g0, .string g1, .slice A3 g2.length c3] 26))
      have k1 := blk_drew (blk_alloc (blk_new w1 (.cells #[.int .i64 f0, .string f1, .slice A2 f2.length c2] 26)) (.cells #[.int .i64 g0, .string g1, .slice A3 g2.length c3] 26))
      have k2 := blk_drew (blk_new (w1.alloc (.cells #[.int .i64 f0, .string f1, .slice A2 f2.length c2] 26)) (.cells #[.int .i64 g0, .string g1, .slice A3 g2.length c3] 26))
      rw [alloc_size] at k2
      generalize ((w1.alloc (.cells #[.int .i64 f0, .string f1, .slice A2 f2.length c2] 26)).alloc (.cells #[.int .i64 g0, .string g1, .slice A3 g2.length c3] 26)).drew = W at *
      generalize w1.heap.size + 1 = b2 at *
      generalize w1.heap.size = b1 at *
      rotate_left
      have hbW := below_drew1 (below_alloc (below_alloc hb1 (.cells #[.int .i64 g0, .string g1, .slice A3 g2.length c3] 26)) (.cells #[.int .i64 f0, .string f1, .slice A2 f2.length c2] 26))
      have k2 := blk_drew (blk_alloc (blk_new w1 (.cells #[.int .i64 g0, .string g1, .slice A3 g2.length c3] 26)) (.cells #[.int .i64 f0, .string f1, .slice A2 f2.length c2] 26))
      have k1 := blk_drew (blk_new (w1.alloc (.cells #[.int .i64 g0, .string g1, .slice A3 g2.length c3] 26)) (.cells #[.int .i64 f0, .string f1, .slice A2 f2.length c2] 26))
      rw [alloc_size] at k1
      generalize ((w1.alloc (.cells #[.int .i64 g0, .string g1, .slice A3 g2.length c3] 26)).alloc (.cells #[.int .i64 f0, .string f1, .slice A2 f2.length c2] 26)).drew = W at *
      generalize w1.heap.size + 1 = b1 at *
      generalize w1.heap.size = b2 at *
      rotate_left
      all_goals
        clear lx lx1 lx2 ly ly1 ly2 x0 x1 x2 y0 y1 y2 hk2 hk3 hl2 hl3 hr1 cA
        obtain ⟨z0, z1, z2⟩ := box_three k1
        obtain ⟨u0, u1, u2⟩ := box_three k2
        have hg : g0 = 1 → 0 < g1.size ∧ lastE (L g1) = true ∨ g0 = 1 ∧ 0 < g1.size ∧ lastE (L g1) = false ∨ g0 ≠ 1 := by
          intro h
          have hne := text_ne _ (one_text _ _ _ hoy h)
          have h0 : 0 < g1.size := by rw [L_size]; exact List.length_pos_iff.2 hne
          cases hl : lastE (L g1) with
          | true => exact Or.inl ⟨h0, rfl⟩
          | false => exact Or.inr (Or.inl ⟨h, h0, rfl⟩)
        have hsyb : g1.size ≤ 1000000 := by omega
        clear hsx hll
        by_cases hf : f0 = 1
        · have hne := text_ne _ (one_text _ _ _ hox hf)
          subst hf
          have hsp : 0 < f1.size := by rw [L_size]; exact List.length_pos_iff.2 hne
          rw [head_at f1 hsp] at hends
          clear hox hoy hne
          cases hb : edgeB (f1[0]'hsp) with
          | true =>
            rw [hb] at hends
            have HE := Aside0.mk hends
            clear hends
            have hes := edge_says f1 0 hsp W
            rw [hb] at hes
            go_wp2_with (go_at_call 42; refine hes.mono ?_; rintro x w2 ⟨rfl, hd1⟩; have hb3 := below_drawn_ hbW hd1)
            go_ret
            exact ⟨by rw [ha, HE.out]; rfl, hb3⟩
          | false =>
            rw [hb] at hends
            have hes := edge_says f1 0 hsp W
            rw [hb] at hes
            by_cases hg1 : g0 = 1
            · subst hg1
              obtain hgp : 0 < g1.size := by rcases hg rfl with h | h | h <;> first | exact h.1 | exact h.2.1 | exact absurd rfl h
              have hw : wrap64 ((g1.size : Int) - 1) = ((g1.size - 1 : Nat) : Int) := by rw [Go.Proofs.YtmfffpfenhgjbaaDoor.Pure.wrap_small (by omega) (by omega)]; omega
              have hgl : g1.size - 1 < g1.size := by omega
              rw [last_at g1 hgp] at hends
              have HE := Aside0.mk hends
              clear hends hg
              have hes2 := fun W => edge_says g1 (g1.size - 1) hgl W
              generalize edgeB (g1[g1.size - 1]'hgl) = bg at *
              go_wp2_with fail
              refine hes.mono ?_
              rintro x w2 ⟨rfl, hd1⟩
              have hb3 := below_drawn_ hbW hd1
              obtain ⟨v0, v1, v2⟩ := box_three (blk_below k2 hd1.below)
              go_wp2_with fail
              refine (hes2 _).mono ?_
              rintro x w3 ⟨rfl, hd2⟩
              have hb4 := below_drawn_ hb3 hd2
              go_wp2_with fail
              go_ret
              exact ⟨by rw [ha, HE.out]; cases bg <;> rfl, hb4⟩
            · have e2 : (g0 == 1) = false := beq_eq_false_iff_ne.2 hg1
              have e3 : (g0 != 1) = true := bne_iff_ne.2 hg1
              rw [decide_eq_false hg1] at hends
              have HE := Aside0.mk hends
              clear hends hg hg1
              go_wp2_with (go_at_call 42; refine hes.mono ?_; rintro x w2 ⟨rfl, hd1⟩; have hb3 := below_drawn_ hbW hd1; obtain ⟨u0, u1, u2⟩ := box_three (blk_below k2 hd1.below))
              go_ret
              exact ⟨by rw [ha, HE.out]; rfl, hb3⟩
        · have e1 : (f0 == 1) = false := beq_eq_false_iff_ne.2 hf
          rw [decide_eq_false hf] at hends
          by_cases hg1 : g0 = 1
          · subst hg1
            obtain hgp : 0 < g1.size := by rcases hg rfl with h | h | h <;> first | exact h.1 | exact h.2.1 | exact absurd rfl h
            have hw : wrap64 ((g1.size : Int) - 1) = ((g1.size - 1 : Nat) : Int) := by rw [Go.Proofs.YtmfffpfenhgjbaaDoor.Pure.wrap_small (by omega) (by omega)]; omega
            have hgl : g1.size - 1 < g1.size := by omega
            rw [last_at g1 hgp] at hends
            have HE := Aside0.mk hends
            clear hends hg
            have hes2 := fun W => edge_says g1 (g1.size - 1) hgl W
            generalize edgeB (g1[g1.size - 1]'hgl) = bg at *
            go_wp2_with fail
            refine (hes2 _).mono ?_
            rintro x w3 ⟨rfl, hd2⟩
            have hb4 := below_drawn_ hbW hd2
            go_wp2_with fail
            go_ret
            exact ⟨by rw [ha, HE.out]; cases bg <;> rfl, hb4⟩
          · have e2 : (g0 == 1) = false := beq_eq_false_iff_ne.2 hg1
            have e3 : (g0 != 1) = true := bne_iff_ne.2 hg1
            rw [decide_eq_false hg1] at hends
            have HE := Aside0.mk hends
            clear hends hg hg1
            go_wp2_with fail
            go_ret
            exact ⟨by rw [ha, HE.out]; rfl, hbW⟩
end Go.Proofs.YtmfffpfenhgjbaaDoor.G
