/- Words for the laws of this seat, several texts behind one another. -/
import Derived.Test.YtmfffpfenhgjbaaDoorPRead
import Derived.Test.YtmfffpfenhgjbaaDoorWAll
import Derived.Outline
import Derived.Test.YtmfffpfenhgjbaaDoorPReadAll
import Derived.Test.YtmfffpfenhgjbaaDoorGivenTabs
import Derived.Deep.RegionHeld3
import Derived.BigRegion
/-! GivenPut -/
set_option linter.unusedVariables false
set_option linter.unusedSimpArgs false
namespace Go.Proofs.YtmfffpfenhgjbaaDoor.G
open Go.RowKit Go.Lib Go.Proofs Go.Proofs.YtmfffpfenhgjbaaDoor.X Go.Proofs.YtmfffpfenhgjbaaDoor.Pure Go.Proofs.YtmfffpfenhgjbaaDoorW.PrintWords Go.Proofs.YtmfffpfenhgjbaaDoorW.PrintLast Go.Proofs.YtmfffpfenhgjbaaDoorW.PrintMore
theorem alloc_size (w : World) (o : Obj) : (w.alloc o).heap.size = w.heap.size + 1 := by simp
theorem gate_st {P : Program} {ops : Array Oper} {rest : List Oper} {o : Oper} {a : Act} {Q : Exit → Act → World → Prop} {W : World} {t : TypeId} {p : Tmp} {v : Operand} (_ho : o.op = .store t (.tmp p) v) (h : wpList P ops Q (o :: rest) a W) : wpList P ops Q (o :: rest) a W := h
/-- What a row that may grow is afterwards: its own block, or a new one. -/
def Moved (w w' : World) (v v1 : Value) : Prop := v1.ownBlock = v.ownBlock ∨ ∃ b, v1.ownBlock = some b ∧ w.heap.size ≤ b
theorem infoSP : (Tryd.prog.info? 26).map (fun i => (i.zero, i.size, i.bytes)) = some (some (.agg #[.int .i64 0, .string ⟨#[]⟩, .slice none 0 0]), 3, 48) := by kernel_rfl
theorem putL_new (xs : List Sp) (s : ByteArray) (h : ∀ x, xs.getLast? = some x → x.f0 ≠ 1) : putL xs (L s) = xs ++ [⟨1, s, []⟩] := by
  induction xs with
  | nil => rfl
  | cons x t ih =>
    cases t with
    | nil =>
      have := h x rfl
      show (if x.f0 = 1 then _ else _) = _
      rw [if_neg this]
      rfl
    | cons y t =>
      show x :: putL (y :: t) (L s) = _
      rw [ih (fun z hz => h z (by rw [← hz]; rfl))]
      rfl
theorem putL_old (xs : List Sp) (s : ByteArray) (x : Sp) (hx : xs.getLast? = some x) (h1 : x.f0 = 1) : putL xs (L s) = xs.set (xs.length - 1) ⟨1, x.f1 ++ s, x.f2⟩ := by
  induction xs with
  | nil => cases hx
  | cons y t ih =>
    cases t with
    | nil =>
      obtain rfl : y = x := by simpa using hx
      show (if y.f0 = 1 then _ else _) = _
      rw [if_pos h1]
      show [(⟨1, ⟨(L y.f1 ++ L s).toArray⟩, y.f2⟩ : Sp)] = [⟨1, y.f1 ++ s, y.f2⟩]
      rw [← L_append]
      rfl
    | cons z t =>
      show y :: putL (z :: t) (L s) = _
      rw [ih (by rw [← hx]; rfl)]
      rfl
set_option maxHeartbeats 8000000 in
set_option maxRecDepth 1000000 in
theorem put_new (base : Nat) (ok : Nat → Prop) (v : Value) (xs : List Sp) (s : ByteArray) (w : World) (hb : base ≤ w.heap.size) (hok : ∀ k, w.heap.size ≤ k → ok k)
    (HO : Kd.R k26 26 w base ok v xs) (hl : xs.length ≤ 1000000000) (hx : ∀ x, xs.getLast? = some x → x.f0 ≠ 1) :
    Calls Tryd.prog 64 #[v, .string s] w fun e w' => ∃ v1, e = .returned v1 ∧ Kd.R k26 26 w' base ok v1 (putL xs (L s)) ∧ Below base w w' ∧ w.grownBy w' v.ownBlock ∧ Moved w w' v v1 := by
  rw [putL_new xs s hx]
  have hm : k26.M w base (fun _ => False) ⟨1, s, []⟩ [.int .i64 1, .string s, .slice none 0 0] := k26_mkM w base _ ⟨1, s, []⟩ (Kd.R_nil _ _ _ _ _)
  have HM := Aside0.mk hm
  have HOK := Aside0.mk hok
  have HBB := Aside0.mk hb
  have HL := Aside0.mk (show (xs.length + 1) * 48 ≤ 140737488355328 by omega)
  clear hm hok hb
  rcases Nat.eq_zero_or_pos xs.length with h0 | h0
  · obtain rfl := List.eq_nil_of_length_eq_zero h0
    obtain ⟨A, c, rfl⟩ := Kd.R_slice HO
    simp only [List.length_nil] at HO ⊢
    have HR := Aside0.mk HO
    have hw1 : IntKind.i64.wrap ((0 : Int) - 1) = -1 := IntWalk.i64_in _ (by omega)
    clear hx HO h0
    go_enter Tryd.func64, Tryd.ntmps64
    go_wp2_with ((with_reducible refine gate_builtin (b := .append) (xs := #[.tmp 29, .tmp 32]) rfl ?_); at_builtin; refine Kd.R_append k26 (w0 := w) base rfl (.tmp 29) (.tmp 32) 22 26 _ 48 rfl Tryd.underlying22 infoSP rfl (by decide) (by decide) (.slice A 0 c) [] ⟨1, s, []⟩ [.int .i64 1, .string s, .slice none 0 0] ok (fun _ => False) rfl rfl HM.out (fun _ hk => hk.elim) HOK.out HR.out (Below.refl _ _) HBB.out HL.out ?_; intro v1 w1 HR1 hb1 hg1 hat1)
    go_ret
    exact ⟨v1, rfl, HR1, hb1, hg1, hat1⟩
  · obtain ⟨g, cap, rfl, hbg, hgl, cells, hcell⟩ := Kd.R_form HO h0
    obtain ⟨x, hlast⟩ : ∃ x, xs.getLast? = some x := ⟨_, List.getLast?_eq_some_getLast (List.length_pos_iff.1 h0)⟩
    have hne := hx x hlast
    have hget : xs.getD (((xs.length - 1 : Nat) : Int)).toNat z26 = x := by
      rw [Int.toNat_natCast, List.getD_eq_getElem?_getD, ← List.getLast?_eq_getElem?, hlast]; rfl
    obtain ⟨cs, hcl, hcm, hcc, _⟩ := Kd.R_elem HO z26 ((xs.length - 1 : Nat) : Int) (by omega) (by omega)
    rw [hget] at hcm
    obtain ⟨v2, rfl, hr2⟩ := k26_openM hcm
    have y0 := hcc 0 _ rfl
    rw [Int.toNat_natCast] at y0
    change w.cell? ⟨g, (xs.length - 1) * 3, none⟩ = _ at y0
    have HR := Aside0.mk HO
    have hw1 : IntKind.i64.wrap ((xs.length : Int) - 1) = ((xs.length - 1 : Nat) : Int) := by rw [IntWalk.i64_in _ (by omega)]; omega
    have e1 : (x.f0 == 1) = false := beq_eq_false_iff_ne.2 hne
    have d1 : decide (((xs.length - 1 : Nat) : Int) ≥ 0) = true := decide_eq_true (by omega)
    have i1 : (((xs.length - 1 : Nat) : Int) < (xs.length : Int)) = True := eq_true (by omega)
    have i0 : ((0 : Int) ≤ ((xs.length - 1 : Nat) : Int)) = True := eq_true (by omega)
    have a1 : (Addr.mk g 0 none).add ((xs.length - 1) * 3) = ⟨g, (xs.length - 1) * 3, none⟩ := Go.Proofs.YtmfffpfenhgjbaaDoorW.PrintWords.add_plain _ _
    clear hx HO hcc hcm hr2 hne hlast hget hcl hcell
    go_enter Tryd.func64, Tryd.ntmps64
    go_wp2_with ((with_reducible refine gate_builtin (b := .append) (xs := #[.tmp 29, .tmp 32]) rfl ?_); at_builtin; refine Kd.R_append k26 (w0 := w) base rfl (.tmp 29) (.tmp 32) 22 26 _ 48 rfl Tryd.underlying22 infoSP rfl (by decide) (by decide) (.slice (some ⟨g, 0, none⟩) xs.length cap) xs ⟨1, s, []⟩ [.int .i64 1, .string s, .slice none 0 0] ok (fun _ => False) rfl rfl HM.out (fun _ hk => hk.elim) HOK.out HR.out (Below.refl _ _) HBB.out HL.out ?_; intro v1 w1 HR1 hb1 hg1 hat1)
    go_ret
    exact ⟨v1, rfl, HR1, hb1, hg1, hat1⟩
set_option maxHeartbeats 8000000 in
set_option maxRecDepth 1000000 in
theorem put_old (base : Nat) (ok : Nat → Prop) (v : Value) (xs : List Sp) (s : ByteArray) (w : World) (hb : base ≤ w.heap.size) (hok : ∀ k, w.heap.size ≤ k → ok k)
    (HO : Kd.R k26 26 w base ok v xs) (hl : xs.length ≤ 1000000000) (x : Sp) (hx : xs.getLast? = some x) (h1 : x.f0 = 1) (hs : x.f1.size + s.size ≤ 140737488351232) :
    Calls Tryd.prog 64 #[v, .string s] w fun e w' => ∃ v1, e = .returned v1 ∧ Kd.R k26 26 w' base ok v1 (putL xs (L s)) ∧ Below base w w' ∧ w.grownBy w' v.ownBlock ∧ Moved w w' v v1 := by
  rw [putL_old xs s x hx h1]
  have h0 : 0 < xs.length := by cases xs with | nil => cases hx | cons a t => simp
  obtain ⟨g, cap, rfl, hbg, hgl, cells, hcell⟩ := Kd.R_form HO h0
  have hget : xs.getD (((xs.length - 1 : Nat) : Int)).toNat z26 = x := by
    rw [Int.toNat_natCast, List.getD_eq_getElem?_getD, ← List.getLast?_eq_getElem?, hx]; rfl
  obtain ⟨cs, hcl, hcm, hcc, hfz⟩ := Kd.R_elem HO z26 ((xs.length - 1 : Nat) : Int) (by omega) (by omega)
  rw [hget] at hcm
  obtain ⟨v2, rfl, hr2⟩ := k26_openM hcm
  have y0 := hcc 0 _ rfl
  have y1 := hcc 1 _ rfl
  have HCC := Aside0.mk hcc
  rw [Int.toNat_natCast] at y0 y1
  change w.cell? ⟨g, (xs.length - 1) * 3, none⟩ = _ at y0
  change w.cell? ⟨g, (xs.length - 1) * 3 + 1, none⟩ = _ at y1
  have HM := Aside0.mk (k26_mkM w base _ ⟨1, x.f1 ++ s, x.f2⟩ hr2)
  have HR := Aside0.mk HO
  have hw1 : IntKind.i64.wrap ((xs.length : Int) - 1) = ((xs.length - 1 : Nat) : Int) := by rw [IntWalk.i64_in _ (by omega)]; omega
  have d1 : decide (((xs.length - 1 : Nat) : Int) ≥ 0) = true := decide_eq_true (by omega)
  have i1 : (((xs.length - 1 : Nat) : Int) < (xs.length : Int)) = True := eq_true (by omega)
  have i0 : ((0 : Int) ≤ ((xs.length - 1 : Nat) : Int)) = True := eq_true (by omega)
  have I1 := Aside0.mk (show ((xs.length - 1 : Nat) : Int) < (xs.length : Int) by omega)
  have a1 : (Addr.mk g 0 none).add ((xs.length - 1) * 3) = ⟨g, (xs.length - 1) * 3, none⟩ := Go.Proofs.YtmfffpfenhgjbaaDoorW.PrintWords.add_plain _ _
  obtain ⟨f0, f1, f2⟩ := x
  dsimp only at h1 hs y0 y1 HM
  subst h1
  clear hx HO hcc hcm hr2 hget hcl hcell hfz
  go_enter Tryd.func64, Tryd.ntmps64
  go_wp2_with ((with_reducible refine gate_st (t := 9) (p := 27) rfl ?_); refine Kd.R_store k26 (w0 := w) base rfl rfl 9 (.tmp 27) (.tmp 25) rfl 26 ((xs.length - 1 : Nat) : Int) 1 xs ⟨1, f1 ++ s, f2⟩ (.string (f1 ++ s)) [.string (f1 ++ s)] [.int .i64 1, .string f1, v2] ok (fun k => ok k ∧ k ≠ g) rfl (by rw [Int.toNat_natCast]; rfl) rfl rfl rfl (by intro q hq; cases hq with | head => rfl | tail _ h => cases h) HR.out (Int.natCast_nonneg _) I1.out rfl HCC.out (show 1 + 1 ≤ 3 by decide) HM.out (fun _ hk => hk) (Below.refl _ _) ?_; intro w1 HR1 hb1 hg1)
  go_ret
  refine ⟨_, rfl, ?_, hb1, hg1, Or.inl rfl⟩
  rw [Int.toNat_natCast] at HR1
  exact HR1
/-- spanin.put. -/
theorem put_calls (base : Nat) (ok : Nat → Prop) (v : Value) (xs : List Sp) (s : ByteArray) (w : World) (hb : base ≤ w.heap.size) (hok : ∀ k, w.heap.size ≤ k → ok k)
    (HO : Kd.R k26 26 w base ok v xs) (hl : xs.length ≤ 1000000000) (hs : ∀ x, xs.getLast? = some x → x.f1.size + s.size ≤ 140737488351232) :
    Calls Tryd.prog 64 #[v, .string s] w fun e w' => ∃ v1, e = .returned v1 ∧ Kd.R k26 26 w' base ok v1 (putL xs (L s)) ∧ Below base w w' ∧ w.grownBy w' v.ownBlock ∧ Moved w w' v v1 := by
  cases hx : xs.getLast? with
  | none => exact put_new base ok v xs s w hb hok HO hl (fun x h => by rw [hx] at h; cases h)
  | some x =>
    by_cases h1 : x.f0 = 1
    · exact put_old base ok v xs s w hb hok HO hl x hx h1 (hs x hx)
    · exact put_new base ok v xs s w hb hok HO hl (fun y h => by rw [hx] at h; injection h with h; subst h; exact h1)
end Go.Proofs.YtmfffpfenhgjbaaDoor.G
/-! GivenCode -/
set_option linter.unusedVariables false
set_option linter.unusedSimpArgs false
namespace Go.Proofs.YtmfffpfenhgjbaaDoor.G
open Go.RowKit Go.Lib Go.Proofs Go.Proofs.YtmfffpfenhgjbaaDoor.X Go.Proofs.YtmfffpfenhgjbaaDoor.Pure Go.Proofs.YtmfffpfenhgjbaaDoorW.PrintWords Go.Proofs.YtmfffpfenhgjbaaDoorW.PrintLast Go.Proofs.YtmfffpfenhgjbaaDoorW.PrintMore
/-- What reader.code answers. -/
def codeV (s : ByteArray) (at_ : Nat) (r : Option (List UInt8 × List UInt8)) : Value :=
  match r with
  | some (b, t) => .tuple #[.agg #[.int .i64 2, .string ⟨(stripL b).toArray⟩, .slice none 0 0], .int .i64 ((s.size - t.length : Nat) : Int), .bool true]
  | none => .tuple #[.agg #[.int .i64 0, .string ⟨#[]⟩, .slice none 0 0], .int .i64 (at_ : Int), .bool false]
theorem three_set {wr : World} {g : Nat} {x y z : Value} {t : TypeId} (a b c : Value) (h : wr.heap[g]? = some (.cells #[x, y, z] t (0, 0))) :
    (((wr.setCell ⟨g, 0, none⟩ a).setCell ⟨g, 1, none⟩ b).setCell ⟨g, 2, none⟩ c).cell? ⟨g, 0, none⟩ = some a ∧ (((wr.setCell ⟨g, 0, none⟩ a).setCell ⟨g, 1, none⟩ b).setCell ⟨g, 2, none⟩ c).cell? ⟨g, 1, none⟩ = some b ∧ (((wr.setCell ⟨g, 0, none⟩ a).setCell ⟨g, 1, none⟩ b).setCell ⟨g, 2, none⟩ c).cell? ⟨g, 2, none⟩ = some c := by
  have := blk_set (blk_set (blk_set h 0 a) 1 b) 2 c
  exact ⟨blk_cell this 0, blk_cell this 1, blk_cell this 2⟩
theorem three_below {w wr : World} {g : Nat} (a b c : Value) (h : Below w.heap.size w wr) (hg : w.heap.size ≤ g) : Below w.heap.size w (((wr.setCell ⟨g, 0, none⟩ a).setCell ⟨g, 1, none⟩ b).setCell ⟨g, 2, none⟩ c) :=
  ((h.setCell hg a).setCell hg b).setCell hg c
set_option maxHeartbeats 8000000 in
set_option maxRecDepth 1000000 in
theorem code_calls (s : ByteArray) (p n : Nat) (w : World) (hs : s.size ≤ 1000000) (hp : p + n ≤ s.size) (hn : 0 < n)
    (hstrip : ∀ (b : ByteArray) (W : World), b.size ≤ 1000000 → Calls Tryd.prog 122 #[.string b] W fun e w' => e = .returned (.string ⟨(stripL (L b)).toArray⟩) ∧ Below W.heap.size W w')
    (fuel : Nat) (hf : s.size - (p + n) < fuel) :
    Calls Tryd.prog 93 #[.agg #[.string s], .int .i64 (p : Int), .int .i64 (n : Int)] w fun e w' => e = .returned (codeV s p (codeL n fuel [] ((L s).drop (p + n)))) ∧ Below w.heap.size w w' := by
  have hw0 : IntKind.i64.wrap ((p : Int) + (n : Int)) = ((p + n : Nat) : Int) := by rw [IntWalk.i64_in _ (by omega)]; omega
  have hw0' : wrap64 ((p : Int) + (n : Int)) = ((p + n : Nat) : Int) := by rw [Go.Proofs.YtmfffpfenhgjbaaDoor.Pure.wrap_small (by omega) (by omega)]; omega
  have HS := Aside0.mk hs
  have HP := Aside0.mk hp
  have HF := Aside0.mk hf
  have HST := Aside0.mk hstrip
  clear hstrip hf
  go_enter Tryd.func93, Tryd.ntmps93
  go_wp2_with fail
  go_loopw [9, 10] (fun v9 v10 wr => ∃ (i j : Nat), v9 = .int .i64 (i : Int) ∧ p + n ≤ i ∧ i ≤ s.size ∧ s.size - i < j ∧ codeL n j (((L s).drop (p + n)).take (i - (p + n))) ((L s).drop i) = codeL n fuel [] ((L s).drop (p + n)) ∧ Below w.heap.size w wr ∧ wr.heap[w.heap.size]? = some (.cells #[.string s] 50 (0, 0)) ∧ wr.heap[w.heap.size + 1]? = some (.cells #[.int .i64 0, .string ⟨#[]⟩, .slice none 0 0] 26 (0, 0))) (fun v9 _ _ => s.size - (intOf v9).toNat)
  case atStart =>
    refine ⟨p + n, fuel, rfl, Nat.le_refl _, HP.out, HF.out, by rw [Nat.sub_self, List.take_zero], ?_, ?_, ?_⟩
    · exact ((Below.refl _ w).alloc (Nat.le_refl _) _).alloc ((Below.refl _ w).alloc (Nat.le_refl _) _).size _
    · exact blk_alloc (blk_new w _) _
    · have := blk_new (w.alloc (.cells #[.string s] 50)) (.cells #[.int .i64 0, .string ⟨#[]⟩, .slice none 0 0] 26)
      rwa [alloc_size] at this
  case round =>
    obtain ⟨i, j, rfl, hi0, hi1, hj, hS, hbw, g1, g2⟩ := hrel
    obtain ⟨j, rfl⟩ : ∃ j', j = j' + 1 := ⟨j - 1, by omega⟩
    have q0 := blk_cell g1 0
    obtain ⟨z0, z1, z2⟩ : wr.cell? ⟨w.heap.size + 1, 0, none⟩ = some (.int .i64 0) ∧ wr.cell? ⟨w.heap.size + 1, 1, none⟩ = some (.string ⟨#[]⟩) ∧ wr.cell? ⟨w.heap.size + 1, 2, none⟩ = some (.slice none 0 0) := ⟨blk_cell g2 0, blk_cell g2 1, blk_cell g2 2⟩
    have f2 : ∀ o, wr.frozen? ⟨w.heap.size + 1, o, none⟩ = false := fun o => blk_frozen g2 o
    have HG := Aside0.mk (And.intro g1 g2)
    clear g1 g2
    by_cases hlt : i < s.size
    · have hll : i < (L s).length := by rw [← L_size]; exact hlt
      have hd : decide ((i : Int) < (s.size : Int)) = true := decide_eq_true (by omega)
      have hdr : (L s).drop i = s[i]'hlt :: (L s).drop (i + 1) := List.drop_eq_getElem_cons hll
      rw [hdr, codeL] at hS
      by_cases hc : (s[i]'hlt).toNat = 10
      · have hc1 : ((((s[i]'hlt).toNat : Nat) : Int) != 10) = false := by rw [hc]; rfl
        rw [if_pos hc] at hS
        have HT := Aside0.mk hS
        clear hS hdr
        go_wp2_with fail
        obtain ⟨y0, y1, y2⟩ := three_set (.int .i64 0) (.string ⟨#[]⟩) (.slice none 0 0) HG.out.2
        have hbz := three_below (.int .i64 0) (.string ⟨#[]⟩) (.slice none 0 0) hbw (Nat.le_succ w.heap.size)
        refine bodyPost_ret (v := .tuple #[.agg #[.int .i64 0, .string ⟨#[]⟩, .slice none 0 0], .int .i64 (p : Int), .bool false]) (by simp [results, Tryd.results93, go_sem, y0, y1, y2]) rfl ⟨?_, hbz⟩
        rw [← HT.out]
        rfl
      · have hc1 : ((((s[i]'hlt).toNat : Nat) : Int) != 10) = true := bne_iff_ne.2 (by omega)
        rw [if_neg hc] at hS
        have cT := fun W => spanin_Ticks.calls (s.size + 1) s (i : Int) _ W (Ticks_eq s i _ (by have := HS.out; omega) (Nat.lt_succ_self _))
        rw [hdr] at cT
        have htl := ticksL_le (s[i]'hlt :: (L s).drop (i + 1))
        have htl2 : ticksL (s[i]'hlt :: (L s).drop (i + 1)) ≤ s.size - i := by rw [List.length_cons, List.length_drop, ← L_size] at htl; omega
        rw [← hdr] at cT htl2 hS
        generalize hkk : ticksL ((L s).drop i) = kk at cT htl2 hS
        clear htl
        have HT := Aside0.mk hS
        clear hS hdr
        go_wp2_with fail
        refine (cT wr).mono ?_
        rintro x w1 ⟨rfl, hd1⟩
        have hb1 : Below w.heap.size w w1 := hbw.trans (Below.mono hd1.below hbw.size)
        have k1 := blk_below HG.out.1 hd1.below
        have k2 := blk_below HG.out.2 hd1.below
        have r0 := blk_cell k1 0
        by_cases hkn : kk = n
        · subst hkn
          have e1 : ((kk : Int) == (kk : Int)) = true := beq_self_eq_true _
          have b0 : (0 : Int) ≤ (p : Int) + (kk : Int) := by omega
          have b1 : (p : Int) + (kk : Int) ≤ (i : Int) := by omega
          have b2 : (i : Int) ≤ (s.size : Int) := by omega
          have b3 : ((p : Int) + (kk : Int)).toNat = p + kk := by omega
          have hez : (s.extract (p + kk) i).size ≤ 1000000 := by rw [L_size, L_extract, List.length_take, List.length_drop, ← L_size]; have := HS.out; omega
          have hacc : L (s.extract (p + kk) i) = ((L s).drop (p + kk)).take (i - (p + kk)) := L_extract _ _ _
          have cS := HST.out (s.extract (p + kk) i) w1 hez
          rw [hacc] at cS
          have hsz1 : (i : Int) + (kk : Int) ≤ 1000000 := by have := HS.out; omega
          have HEND := Aside0.mk (show ((s.size - (((L s).drop i).drop kk).length : Nat) : Int) = (i : Int) + (kk : Int) by rw [List.length_drop, List.length_drop, ← L_size]; omega)
          have HT2 := Aside0.mk ((if_pos rfl).symm.trans HT.out)
          clear HT hacc hez z0 z1 z2 f2 q0
          go_wp2_with fail
          refine cS.mono ?_
          rintro x w2 ⟨rfl, hb2⟩
          have hb3 : Below w.heap.size w w2 := hb1.trans (Below.mono hb2 hb1.size)
          have k3 := blk_below k2 hb2
          obtain ⟨z0, z1, z2⟩ : w2.cell? ⟨w.heap.size + 1, 0, none⟩ = some (.int .i64 0) ∧ w2.cell? ⟨w.heap.size + 1, 1, none⟩ = some (.string ⟨#[]⟩) ∧ w2.cell? ⟨w.heap.size + 1, 2, none⟩ = some (.slice none 0 0) := ⟨blk_cell k3 0, blk_cell k3 1, blk_cell k3 2⟩
          have f2 : ∀ o, w2.frozen? ⟨w.heap.size + 1, o, none⟩ = false := fun o => blk_frozen k3 o
          have K3 := Aside0.mk k3
          clear k3 cS
          generalize hgb : (⟨(stripL (((L s).drop (p + kk)).take (i - (p + kk)))).toArray⟩ : ByteArray) = sb at *
          go_wp2_with fail
          obtain ⟨y0, y1, y2⟩ := three_set (.int .i64 2) (.string sb) (.slice none 0 0) K3.out
          have hbz := three_below (.int .i64 2) (.string sb) (.slice none 0 0) hb3 (Nat.le_succ w.heap.size)
          refine bodyPost_ret (v := .tuple #[.agg #[.int .i64 2, .string sb, .slice none 0 0], .int .i64 ((i : Int) + (kk : Int)), .bool true]) (by simp [results, Tryd.results93, go_sem, y0, y1, y2]) rfl ⟨?_, hbz⟩
          rw [← HT2.out, ← hgb, ← HEND.out]
          rfl
        · have e1 : ((kk : Int) == (n : Int)) = false := beq_eq_false_iff_ne.2 (by omega)
          have hmx : (i : Int) + max ((kk : Int) - 1) 0 + 1 = ((i + max kk 1 : Nat) : Int) := by omega
          have HMX := Aside0.mk hmx
          have HT2 := Aside0.mk ((if_neg hkn).symm.trans HT.out)
          have hle : i + max kk 1 ≤ s.size := by omega
          have HCLR := Aside0.mk (And.intro hi0 hle)
          clear hmx
          go_wp2_with fail
          refine ⟨⟨i + max kk 1, j, congrArg _ HMX.out, by omega, hle, by omega, ?_, hb1, k1, k2⟩, ?_⟩
          · rw [← HT2.out]
            congr 1
            · have e1 : i + max kk 1 - (p + n) = (i - (p + n)) + max kk 1 := by omega
              have e2 : (L s).drop i = ((L s).drop (p + n)).drop (i - (p + n)) := by rw [List.drop_drop]; congr 1; omega
              rw [e1, List.take_add, e2]
            · rw [List.drop_drop]
          · rw [HMX.out]; simp only [intOf, Int.toNat_natCast]; omega
    · have hd : decide ((i : Int) < (s.size : Int)) = false := decide_eq_false (by omega)
      rw [show (L s).drop i = [] from List.drop_eq_nil_of_le (by rw [← L_size]; omega), codeL] at hS
      have HT := Aside0.mk hS
      clear hS
      go_wp2_with fail
      obtain ⟨y0, y1, y2⟩ := three_set (.int .i64 0) (.string ⟨#[]⟩) (.slice none 0 0) HG.out.2
      have hbz := three_below (.int .i64 0) (.string ⟨#[]⟩) (.slice none 0 0) hbw (Nat.le_succ w.heap.size)
      refine bodyPost_ret (v := .tuple #[.agg #[.int .i64 0, .string ⟨#[]⟩, .slice none 0 0], .int .i64 (p : Int), .bool false]) (by simp [results, Tryd.results93, go_sem, y0, y1, y2]) rfl ⟨?_, hbz⟩
      rw [← HT.out]
      rfl
end Go.Proofs.YtmfffpfenhgjbaaDoor.G
/-! GivenEncl -/
set_option linter.unusedVariables false
set_option linter.unusedSimpArgs false
namespace Go.Proofs.YtmfffpfenhgjbaaDoor.G
open Go.RowKit Go.Lib Go.Proofs Go.Proofs.YtmfffpfenhgjbaaDoor.X Go.Proofs.YtmfffpfenhgjbaaDoor.Pure Go.Proofs.YtmfffpfenhgjbaaDoorW.PrintWords Go.Proofs.YtmfffpfenhgjbaaDoorW.PrintLast Go.Proofs.YtmfffpfenhgjbaaDoorW.PrintMore
/-- A place behind which so much is left. -/
def toI (s : ByteArray) (l : List UInt8) : Int := ((s.size - l.length : Nat) : Int)
/-- What reader.read answers from a place on. -/
def ReadOk (s : ByteArray) (q : Int) (e k : Bool) (rd : List Sp × List UInt8) : Prop := ∀ W, Tabs W →
  Calls Tryd.prog 43 #[.agg #[.string s], .int .i64 q, .bool e, .bool k] W fun x w' => ∃ v0, x = .returned (.tuple #[v0, .int .i64 (toI s rd.2)]) ∧ Kd.R k26 26 w' W.heap.size (fun j => W.heap.size ≤ j) v0 rd.1 ∧ Below W.heap.size W w'
/-- What reader.enclosed answers. -/
def EnclOk (w : World) (s : ByteArray) (r : Option (Sp × List UInt8)) (x : Ending) (w' : World) : Prop := Below w.heap.size w w' ∧ ∃ (c : Int) (t : ByteArray) (A : Option Addr) (n cc : Nat) (nx : Int) (b : Bool), x = .returned (.tuple #[.agg #[.int .i64 c, .string t, .slice A n cc], .int .i64 nx, .bool b]) ∧
  match r with
  | some (y, l) => b = true ∧ nx = toI s l ∧ y.f0 = c ∧ y.f1 = t ∧ Kd.R k26 26 w' w.heap.size (fun j => w.heap.size ≤ j) (.slice A n cc) y.f2
  | none => b = false
/-- An emphasis, if it is one. -/
def starV (rd : List Sp × List UInt8) : Option (Sp × List UInt8) := match rd.2 with | d :: r => if d.toNat = 42 ∧ rd.1 ≠ [] then some (⟨3, mtP, rd.1⟩, r) else none | [] => none
def Answers (r : Option (Sp × List UInt8)) (y0 : Sp) (nx : Int) (b : Bool) (s : ByteArray) : Prop := match r with | some (y, l) => b = true ∧ nx = toI s l ∧ y = y0 | none => b = false
theorem encl_fin {w W : World} {s : ByteArray} {r : Option (Sp × List UInt8)} {c : Int} {t : ByteArray} {A : Option Addr} {n cc : Nat} {nx : Int} {b : Bool} {kids : List Sp} (hB : Below w.heap.size w W) (hR : Kd.R k26 26 W w.heap.size (fun j => w.heap.size ≤ j) (.slice A n cc) kids)
    (hA : Answers r ⟨c, t, kids⟩ nx b s) : EnclOk w s r (.returned (.tuple #[.agg #[.int .i64 c, .string t, .slice A n cc], .int .i64 nx, .bool b])) W := by
  refine ⟨hB, c, t, A, n, cc, nx, b, rfl, ?_⟩
  cases r with
  | none => exact hA
  | some yl =>
    obtain ⟨y, l⟩ := yl
    obtain ⟨h1, h2, rfl⟩ := hA
    exact ⟨h1, h2, rfl, rfl, hR⟩
theorem far_three {w W : World} {e base : Nat} {v : Value} {kids : List Sp} (a b c : Value) (h : Kd.R k26 e W base (fun j => w.heap.size + 2 ≤ j) v kids) : Kd.R k26 e (((W.setCell ⟨w.heap.size + 1, 0, none⟩ a).setCell ⟨w.heap.size + 1, 1, none⟩ b).setCell ⟨w.heap.size + 1, 2, none⟩ c) base (fun j => w.heap.size ≤ j) v kids :=
  Kd.R_mono (Kd.R_far (Kd.R_far (Kd.R_far h (fun j hj => by show j ≠ w.heap.size + 1; omega) _) (fun j hj => by show j ≠ w.heap.size + 1; omega) _) (fun j hj => by show j ≠ w.heap.size + 1; omega) _) (fun j hj => by omega)
theorem two_kept {w w2 : World} {o o2 : Obj} (hb : Below ((w.alloc o).alloc o2).heap.size ((w.alloc o).alloc o2) w2) : Below w.heap.size w w2 ∧ w2.heap[w.heap.size]? = some o ∧ w2.heap[w.heap.size + 1]? = some o2 := by
  have h1 : Below w.heap.size w ((w.alloc o).alloc o2) := ((Below.refl _ w).alloc (Nat.le_refl _) o).alloc ((Below.refl _ w).alloc (Nat.le_refl _) o).size o2
  refine ⟨h1.trans (Below.mono hb h1.size), blk_below (blk_alloc (blk_new w o) o2) hb, ?_⟩
  have := blk_below (blk_new (w.alloc o) o2) hb
  rwa [alloc_size] at this
/-- The call of reader.read behind the two boxes. -/
theorem ReadOk.at {s : ByteArray} {q : Int} {e k : Bool} {rd : List Sp × List UInt8} (h : ReadOk s q e k rd) (w : World) (hT : Tabs w) (o o2 : Obj) :
    Calls Tryd.prog 43 #[.agg #[.string s], .int .i64 q, .bool e, .bool k] ((w.alloc o).alloc o2) fun x w' => ∃ A c, x = .returned (.tuple #[.slice A rd.1.length c, .int .i64 (toI s rd.2)]) ∧ Kd.R k26 26 w' w.heap.size (fun j => w.heap.size + 2 ≤ j) (.slice A rd.1.length c) rd.1 ∧ Below w.heap.size w w' ∧ w'.heap[w.heap.size]? = some o ∧ w'.heap[w.heap.size + 1]? = some o2 := by
  have h1 : Below w.heap.size w ((w.alloc o).alloc o2) := ((Below.refl _ w).alloc (Nat.le_refl _) o).alloc ((Below.refl _ w).alloc (Nat.le_refl _) o).size o2
  refine (h _ (Tabs.at hT h1)).mono ?_
  rintro x w' ⟨v0, rfl, hr, hb⟩
  obtain ⟨A, c, rfl⟩ := Kd.R_slice hr
  refine ⟨A, c, rfl, ?_, two_kept hb⟩
  rw [alloc_size, alloc_size] at hr
  exact Kd.R_lower hr (by omega)
set_option maxHeartbeats 8000000 in
set_option maxRecDepth 1000000 in
theorem encl_star (s : ByteArray) (p : Nat) (e k : Bool) (w : World) (hT : Tabs w) (hs : s.size ≤ 1000000) (hp : p < s.size) (hc : (s[p]'hp).toNat = 42) (rd : List Sp × List UInt8) (hlen : rd.2.length ≤ s.size) (hdr : (L s).drop (s.size - rd.2.length) = rd.2)
    (hR : ReadOk s ((p : Int) + 1) true k rd) :
    Calls Tryd.prog 65 #[.agg #[.string s], .int .i64 (p : Int), .bool e, .bool k] w (EnclOk w s (starV rd)) := by
  have hc1 : ((((s[p]'hp).toNat : Nat) : Int) == 42) = true := beq_iff_eq.2 (by omega)
  have hp1 : p < 1000000 := by omega
  have cI := fun W => spanin_reader_is.calls s ((s.size - rd.2.length : Nat) : Int) 42 _ W (is_eq s (s.size - rd.2.length) 42)
  rw [hdr] at cI
  have HS := Aside0.mk hs
  clear hs
  go_enter Tryd.func65, Tryd.ntmps65
  go_wp2_with fail
  refine (hR.at w hT _ _).mono ?_
  rintro x w1 ⟨A, c, rfl, hr1, hb1, g1, g2⟩
  have q0 := blk_cell g1 0
  have HR1 := Aside0.mk hr1
  have cI1 := cI w1
  have hto : toI s rd.2 = ((s.size - rd.2.length : Nat) : Int) := rfl
  have hto1 : s.size - rd.2.length ≤ 1000000 := by have := HS.out; omega
  rw [hto]
  generalize hz : s.size - rd.2.length = z at *
  have HZ := Aside0.mk (And.intro hz hlen)
  clear hz
  clear hr1 cI hR hto
  have hz1 : z < 1000001 := by omega
  have hnn : rd.1.length ≤ 9223372036854775807 := (Kd.R_reads' HR1.out).2.2.2.1
  go_wp2_with fail
  refine cI1.mono ?_
  rintro x w2 ⟨rfl, hb2⟩
  have hb3 : Below w.heap.size w w2 := hb1.trans (Below.mono hb2 hb1.size)
  have k3 := blk_below g2 hb2
  have r0 := blk_cell (blk_below g1 hb2) 0
  obtain ⟨z0, z1, z2⟩ : w2.cell? ⟨w.heap.size + 1, 0, none⟩ = some (.int .i64 0) ∧ w2.cell? ⟨w.heap.size + 1, 1, none⟩ = some (.string ⟨#[]⟩) ∧ w2.cell? ⟨w.heap.size + 1, 2, none⟩ = some (.slice none 0 0) := ⟨blk_cell k3 0, blk_cell k3 1, blk_cell k3 2⟩
  have f2 : ∀ o, w2.frozen? ⟨w.heap.size + 1, o, none⟩ = false := fun o => blk_frozen k3 o
  have K3 := Aside0.mk k3
  have HB3 := Aside0.mk hb3
  have HR2 := Aside0.mk (Kd.R_below HR1.out hb2)
  clear cI1 hb1 hb2 hb3 g1 g2 k3 q0
  cases hI : isL rd.2 42 with
  | false =>
    go_wp2_with fail
    obtain ⟨y0, y1, y2⟩ := three_set (.int .i64 3) (.string ⟨#[]⟩) (.slice A rd.1.length c) K3.out
    refine bodyPost_ret (v := .tuple #[.agg #[.int .i64 3, .string ⟨#[]⟩, .slice A rd.1.length c], .int .i64 ((z : Int) + 1), .bool false]) (by simp [results, Tryd.results65, go_sem, y0, y1, y2]) rfl (encl_fin (three_below _ _ _ HB3.out (Nat.le_succ _)) (far_three _ _ _ HR2.out) ?_)
    unfold starV
    cases h2 : rd.2 with
    | nil => rfl
    | cons d r =>
      rw [h2] at hI
      have : ¬ d.toNat = 42 := by intro h; unfold isL at hI; simp [h] at hI
      simp [this, Answers]
  | true =>
    by_cases hn : rd.1 = []
    · have hn0 : rd.1.length = 0 := by rw [hn]; rfl
      have hn1 : decide (0 < rd.1.length) = false := decide_eq_false (by omega)
      have HN := Aside0.mk (And.intro hn hn0)
      clear hn hn0
      go_wp2_with fail
      obtain ⟨y0, y1, y2⟩ := three_set (.int .i64 3) (.string ⟨#[]⟩) (.slice A rd.1.length c) K3.out
      refine bodyPost_ret (v := .tuple #[.agg #[.int .i64 3, .string ⟨#[]⟩, .slice A rd.1.length c], .int .i64 ((z : Int) + 1), .bool false]) (by simp [results, Tryd.results65, go_sem, y0, y1, y2]) rfl (encl_fin (three_below _ _ _ HB3.out (Nat.le_succ _)) (far_three _ _ _ HR2.out) ?_)
      unfold starV
      cases h2 : rd.2 with
      | nil => rfl
      | cons d r => simp [HN.out.1, Answers]
    · have hn0 : 0 < rd.1.length := List.length_pos_iff.2 hn
      have hn1 : decide (0 < rd.1.length) = true := decide_eq_true hn0
      go_wp2_with fail
      obtain ⟨y0, y1, y2⟩ := three_set (.int .i64 3) (.string ⟨#[]⟩) (.slice A rd.1.length c) K3.out
      refine bodyPost_ret (v := .tuple #[.agg #[.int .i64 3, .string ⟨#[]⟩, .slice A rd.1.length c], .int .i64 ((z : Int) + 1), .bool true]) (by simp [results, Tryd.results65, go_sem, y0, y1, y2]) rfl (encl_fin (three_below _ _ _ HB3.out (Nat.le_succ _)) (far_three _ _ _ HR2.out) ?_)
      unfold starV
      cases h2 : rd.2 with
      | nil => rw [h2] at hI; cases hI
      | cons d r =>
        rw [h2] at hI
        have hd : d.toNat = 42 := by unfold isL at hI; simpa using hI
        show Answers (if d.toNat = 42 ∧ rd.1 ≠ [] then some ((⟨3, mtP, rd.1⟩ : Sp), r) else none) _ _ true s
        rw [if_pos ⟨hd, hn⟩]
        refine ⟨rfl, ?_, rfl⟩
        obtain ⟨q1, q2⟩ := HZ.out
        rw [h2, List.length_cons] at q1 q2
        unfold toI
        omega
/-- A link, if it is one. -/
def linkV (D : UInt8 → Bool) (rd : List Sp × List UInt8) : Option (Sp × List UInt8) := match rd.2 with | d :: r => if d.toNat = 93 ∧ rd.1 ≠ [] then (toL D r).map (fun q => (⟨4, ⟨q.1.toArray⟩, rd.1⟩, q.2)) else none | [] => none
set_option maxHeartbeats 8000000 in
set_option maxRecDepth 1000000 in
theorem encl_brack (D : UInt8 → Bool) (s : ByteArray) (p : Nat) (e : Bool) (w : World) (hT : Tabs w) (hs : s.size ≤ 1000000) (hp : p < s.size) (hc : (s[p]'hp).toNat = 91) (rd : List Sp × List UInt8) (hlen : rd.2.length ≤ s.size) (hdr : (L s).drop (s.size - rd.2.length) = rd.2)
    (hR : ReadOk s ((p : Int) + 1) e true rd) (tt : ByteArray) (nx : Int) (ok : Bool)
    (hD : ∀ W, Calls Tryd.prog 92 #[.agg #[.string s], .int .i64 (((s.size - rd.2.length : Nat) : Int) + 1)] W fun e w' => e = .returned (.tuple #[.string tt, .int .i64 nx, .bool ok]) ∧ Below W.heap.size W w')
    (hV : match toL D ((L s).drop (s.size - rd.2.length + 1)) with | some (b, l) => ok = true ∧ tt = ⟨b.toArray⟩ ∧ nx = toI s l | none => ok = false) :
    Calls Tryd.prog 65 #[.agg #[.string s], .int .i64 (p : Int), .bool e, .bool false] w (EnclOk w s (linkV D rd)) := by
  have hc0 : ((((s[p]'hp).toNat : Nat) : Int) == 42) = false := beq_eq_false_iff_ne.2 (by omega)
  have hc1 : ((((s[p]'hp).toNat : Nat) : Int) == 91) = true := beq_iff_eq.2 (by omega)
  have hp1 : p < 1000000 := by omega
  have cI := fun W => spanin_reader_is.calls s ((s.size - rd.2.length : Nat) : Int) 93 _ W (is_eq s (s.size - rd.2.length) 93)
  have hdr2 : ∀ d r, rd.2 = d :: r → (L s).drop (s.size - rd.2.length + 1) = r := fun d r h => by rw [← List.drop_drop, hdr, h]; rfl
  rw [hdr] at cI
  have HV := Aside0.mk (And.intro hV hdr2)
  have HS := Aside0.mk hs
  clear hs hV hdr2
  go_enter Tryd.func65, Tryd.ntmps65
  go_wp2_with fail
  refine (hR.at w hT _ _).mono ?_
  rintro x w1 ⟨A, c, rfl, hr1, hb1, g1, g2⟩
  have q0 := blk_cell g1 0
  have HR1 := Aside0.mk hr1
  have cI1 := cI w1
  have hto : toI s rd.2 = ((s.size - rd.2.length : Nat) : Int) := rfl
  have hto1 : s.size - rd.2.length ≤ 1000000 := by have := HS.out; omega
  rw [hto]
  generalize hz : s.size - rd.2.length = z at *
  have HZ := Aside0.mk (And.intro hz hlen)
  clear hr1 cI hR hto hz hlen hdr
  have hz1 : z < 1000001 := by omega
  have hnn : rd.1.length ≤ 9223372036854775807 := (Kd.R_reads' HR1.out).2.2.2.1
  go_wp2_with fail
  refine cI1.mono ?_
  rintro x w2 ⟨rfl, hb2⟩
  have hb3 : Below w.heap.size w w2 := hb1.trans (Below.mono hb2 hb1.size)
  have k3 := blk_below g2 hb2
  have k4 := blk_below g1 hb2
  have r0 := blk_cell k4 0
  obtain ⟨z0, z1, z2⟩ : w2.cell? ⟨w.heap.size + 1, 0, none⟩ = some (.int .i64 0) ∧ w2.cell? ⟨w.heap.size + 1, 1, none⟩ = some (.string ⟨#[]⟩) ∧ w2.cell? ⟨w.heap.size + 1, 2, none⟩ = some (.slice none 0 0) := ⟨blk_cell k3 0, blk_cell k3 1, blk_cell k3 2⟩
  have f2 : ∀ o, w2.frozen? ⟨w.heap.size + 1, o, none⟩ = false := fun o => blk_frozen k3 o
  have K3 := Aside0.mk k3
  have K4 := Aside0.mk k4
  have HB3 := Aside0.mk hb3
  have HR2 := Aside0.mk (Kd.R_below HR1.out hb2)
  clear cI1 hb1 hb2 hb3 g1 g2 k3 k4 q0
  cases hI : isL rd.2 93 with
  | false =>
    go_wp2_with fail
    obtain ⟨y0, y1, y2⟩ := three_set (.int .i64 0) (.string ⟨#[]⟩) (.slice none 0 0) K3.out
    refine bodyPost_ret (v := .tuple #[.agg #[.int .i64 0, .string ⟨#[]⟩, .slice none 0 0], .int .i64 (p : Int), .bool false]) (by simp [results, Tryd.results65, go_sem, y0, y1, y2]) rfl (encl_fin (kids := []) (three_below _ _ _ HB3.out (Nat.le_succ _)) (Kd.R_nil _ _ _ _ _) ?_)
    unfold linkV
    cases h2 : rd.2 with
    | nil => rfl
    | cons d r =>
      rw [h2] at hI
      have : ¬ d.toNat = 93 := by intro h; unfold isL at hI; simp [h] at hI
      simp [this, Answers]
  | true =>
    by_cases hn : rd.1 = []
    · have hn0 : rd.1.length = 0 := by rw [hn]; rfl
      have hn1 : ((rd.1.length : Int) == 0) = true := by rw [hn0]; rfl
      have HN := Aside0.mk (And.intro hn hn0)
      clear hn hn0
      go_wp2_with fail
      obtain ⟨y0, y1, y2⟩ := three_set (.int .i64 0) (.string ⟨#[]⟩) (.slice none 0 0) K3.out
      refine bodyPost_ret (v := .tuple #[.agg #[.int .i64 0, .string ⟨#[]⟩, .slice none 0 0], .int .i64 (p : Int), .bool false]) (by simp [results, Tryd.results65, go_sem, y0, y1, y2]) rfl (encl_fin (kids := []) (three_below _ _ _ HB3.out (Nat.le_succ _)) (Kd.R_nil _ _ _ _ _) ?_)
      unfold linkV
      cases h2 : rd.2 with
      | nil => rfl
      | cons d r => simp [HN.out.1, Answers]
    · have hn0 : 0 < rd.1.length := List.length_pos_iff.2 hn
      have hn1 : ((rd.1.length : Int) == 0) = false := beq_eq_false_iff_ne.2 (by omega)
      have HN := Aside0.mk (And.intro hn hn0)
      clear hn
      have cD := hD w2
      clear z0 z1 z2 f2
      go_wp2_with fail
      refine cD.mono ?_
      rintro x w3 ⟨rfl, hb4⟩
      have hb5 : Below w.heap.size w w3 := HB3.out.trans (Below.mono hb4 HB3.out.size)
      have k5 := blk_below K3.out hb4
      obtain ⟨z0, z1, z2⟩ : w3.cell? ⟨w.heap.size + 1, 0, none⟩ = some (.int .i64 0) ∧ w3.cell? ⟨w.heap.size + 1, 1, none⟩ = some (.string ⟨#[]⟩) ∧ w3.cell? ⟨w.heap.size + 1, 2, none⟩ = some (.slice none 0 0) := ⟨blk_cell k5 0, blk_cell k5 1, blk_cell k5 2⟩
      have f2 : ∀ o, w3.frozen? ⟨w.heap.size + 1, o, none⟩ = false := fun o => blk_frozen k5 o
      have K5 := Aside0.mk k5
      have HB5 := Aside0.mk hb5
      have HR3 := Aside0.mk (Kd.R_below HR2.out hb4)
      clear cD hb4 hb5 k5 hD
      go_wp2_with fail
      obtain ⟨y0, y1, y2⟩ := three_set (.int .i64 4) (.string tt) (.slice A rd.1.length c) K5.out
      refine bodyPost_ret (v := .tuple #[.agg #[.int .i64 4, .string tt, .slice A rd.1.length c], .int .i64 nx, .bool ok]) (by simp [results, Tryd.results65, go_sem, y0, y1, y2]) rfl (encl_fin (three_below _ _ _ HB5.out (Nat.le_succ _)) (far_three _ _ _ HR3.out) ?_)
      unfold linkV
      cases h2 : rd.2 with
      | nil => rw [h2] at hI; cases hI
      | cons d r =>
        rw [h2] at hI
        have hd : d.toNat = 93 := by unfold isL at hI; simpa using hI
        show Answers (if d.toNat = 93 ∧ rd.1 ≠ [] then (toL D r).map (fun q => ((⟨4, ⟨q.1.toArray⟩, rd.1⟩ : Sp), q.2)) else none) _ _ ok s
        rw [if_pos ⟨hd, HN.out.1⟩]
        have hv := HV.out.1
        rw [HV.out.2 d r h2] at hv
        cases hq : toL D r with
        | none => rw [hq] at hv; exact hv
        | some q =>
          rw [hq] at hv
          obtain ⟨b, l⟩ := q
          obtain ⟨v1, v2, v3⟩ := hv
          subst v2
          exact ⟨v1, v3, rfl⟩
end Go.Proofs.YtmfffpfenhgjbaaDoor.G
/-! GivenEncl2 -/
set_option linter.unusedVariables false
set_option linter.unusedSimpArgs false
namespace Go.Proofs.YtmfffpfenhgjbaaDoor.G
open Go.RowKit Go.Lib Go.Proofs Go.Proofs.YtmfffpfenhgjbaaDoor.X Go.Proofs.YtmfffpfenhgjbaaDoor.Pure Go.Proofs.YtmfffpfenhgjbaaDoorW.PrintWords Go.Proofs.YtmfffpfenhgjbaaDoorW.PrintLast Go.Proofs.YtmfffpfenhgjbaaDoorW.PrintMore
set_option maxHeartbeats 8000000 in
set_option maxRecDepth 1000000 in
theorem encl_none (s : ByteArray) (p : Nat) (e k : Bool) (w : World) (hp : p < s.size) (h1 : (s[p]'hp).toNat ≠ 42) (h2 : (s[p]'hp).toNat = 91 → k = true) (h3 : (s[p]'hp).toNat ≠ 96) :
    Calls Tryd.prog 65 #[.agg #[.string s], .int .i64 (p : Int), .bool e, .bool k] w (EnclOk w s none) := by
  have hc0 : ((((s[p]'hp).toNat : Nat) : Int) == 42) = false := beq_eq_false_iff_ne.2 (by omega)
  have hc3 : ((((s[p]'hp).toNat : Nat) : Int) == 96) = false := beq_eq_false_iff_ne.2 (by omega)
  have hz := ((Below.refl w.heap.size w).alloc (Nat.le_refl _) (.cells #[.string s] 50))
  have HZ := Aside0.mk (hz.alloc hz.size (.cells #[.int .i64 0, .string ⟨#[]⟩, .slice none 0 0] 26))
  clear hz
  by_cases h91 : (s[p]'hp).toNat = 91
  · obtain rfl := h2 h91
    have hc1 : ((((s[p]'hp).toNat : Nat) : Int) == 91) = true := beq_iff_eq.2 (by omega)
    clear h1 h2 h3 h91
    go_enter Tryd.func65, Tryd.ntmps65
    go_wp2_with fail
    have hbn := blk_new (w.alloc (.cells #[.string s] 50)) (.cells #[.int .i64 0, .string ⟨#[]⟩, .slice none 0 0] 26)
    rw [alloc_size] at hbn
    have y0 := blk_cell hbn 0
    have y1 := blk_cell hbn 1
    have y2 := blk_cell hbn 2
    refine bodyPost_ret (v := .tuple #[.agg #[.int .i64 0, .string ⟨#[]⟩, .slice none 0 0], .int .i64 (p : Int), .bool false]) (by simp [results, Tryd.results65, go_sem, y0, y1, y2]) rfl (encl_fin (kids := []) HZ.out (Kd.R_nil _ _ _ _ _) rfl)
  · have hc1 : ((((s[p]'hp).toNat : Nat) : Int) == 91) = false := beq_eq_false_iff_ne.2 (by omega)
    clear h1 h2 h3 h91
    go_enter Tryd.func65, Tryd.ntmps65
    go_wp2_with fail
    have hbn := blk_new (w.alloc (.cells #[.string s] 50)) (.cells #[.int .i64 0, .string ⟨#[]⟩, .slice none 0 0] 26)
    rw [alloc_size] at hbn
    have y0 := blk_cell hbn 0
    have y1 := blk_cell hbn 1
    have y2 := blk_cell hbn 2
    refine bodyPost_ret (v := .tuple #[.agg #[.int .i64 0, .string ⟨#[]⟩, .slice none 0 0], .int .i64 (p : Int), .bool false]) (by simp [results, Tryd.results65, go_sem, y0, y1, y2]) rfl (encl_fin (kids := []) HZ.out (Kd.R_nil _ _ _ _ _) rfl)
set_option maxHeartbeats 8000000 in
set_option maxRecDepth 1000000 in
theorem encl_tick (s : ByteArray) (p n : Nat) (e k : Bool) (w : World) (hs : s.size ≤ 1000000) (hp : p < s.size) (hc : (s[p]'hp).toNat = 96) (r : Option (List UInt8 × List UInt8))
    (hT : ∀ W, Calls Tryd.prog 25 #[.string s, .int .i64 (p : Int)] W fun x w' => x = .returned (.int .i64 (n : Int)) ∧ Drawn0 W w')
    (hC : ∀ W, Calls Tryd.prog 93 #[.agg #[.string s], .int .i64 (p : Int), .int .i64 (n : Int)] W fun x w' => x = .returned (codeV s p r) ∧ Below W.heap.size W w') :
    Calls Tryd.prog 65 #[.agg #[.string s], .int .i64 (p : Int), .bool e, .bool k] w (EnclOk w s (r.map fun q => (⟨2, ⟨(stripL q.1).toArray⟩, []⟩, q.2))) := by
  have hc0 : ((((s[p]'hp).toNat : Nat) : Int) == 42) = false := beq_eq_false_iff_ne.2 (by omega)
  have hc1 : ((((s[p]'hp).toNat : Nat) : Int) == 91) = false := beq_eq_false_iff_ne.2 (by omega)
  have hc3 : ((((s[p]'hp).toNat : Nat) : Int) == 96) = true := beq_iff_eq.2 (by omega)
  obtain ⟨c, t, nx, b, hv, hA⟩ : ∃ (c : Int) (t : ByteArray) (nx : Int) (b : Bool), codeV s p r = .tuple #[.agg #[.int .i64 c, .string t, .slice none 0 0], .int .i64 nx, .bool b] ∧ Answers (r.map fun q => ((⟨2, ⟨(stripL q.1).toArray⟩, []⟩ : Sp), q.2)) ⟨c, t, []⟩ nx b s := by
    cases r with
    | none => exact ⟨_, _, _, _, rfl, rfl⟩
    | some q => exact ⟨_, _, _, _, rfl, rfl, rfl, rfl⟩
  rw [hv] at hC
  have HA := Aside0.mk hA
  clear hA hv hc hs
  have hz := ((Below.refl w.heap.size w).alloc (Nat.le_refl _) (.cells #[.string s] 50))
  have HZ := Aside0.mk (hz.alloc hz.size (.cells #[.int .i64 0, .string ⟨#[]⟩, .slice none 0 0] 26))
  have hbn := blk_new (w.alloc (.cells #[.string s] 50)) (.cells #[.int .i64 0, .string ⟨#[]⟩, .slice none 0 0] 26)
  rw [alloc_size] at hbn
  have hbm := blk_alloc (blk_new w (.cells #[.string s] 50)) (.cells #[.int .i64 0, .string ⟨#[]⟩, .slice none 0 0] 26)
  have HBN := Aside0.mk (And.intro hbm hbn)
  clear hz hbm hbn
  go_enter Tryd.func65, Tryd.ntmps65
  go_wp2_with fail
  generalize hW0 : (w.alloc (.cells #[.string s] 50)).alloc (.cells #[.int .i64 0, .string ⟨#[]⟩, .slice none 0 0] 26) = W0 at *
  have h0 : W0.drew.heap[w.heap.size]? = some (.cells #[.string s] 50 (0, 0)) ∧ W0.drew.heap[w.heap.size + 1]? = some (.cells #[.int .i64 0, .string ⟨#[]⟩, .slice none 0 0] 26 (0, 0)) ∧ Below w.heap.size w W0.drew := ⟨HBN.out.1, HBN.out.2, below_drew1 HZ.out⟩
  have step : ∀ W W' : World, Below W.heap.size W W' → (W.heap[w.heap.size]? = some (.cells #[.string s] 50 (0, 0)) ∧ W.heap[w.heap.size + 1]? = some (.cells #[.int .i64 0, .string ⟨#[]⟩, .slice none 0 0] 26 (0, 0)) ∧ Below w.heap.size w W) → (W'.heap[w.heap.size]? = some (.cells #[.string s] 50 (0, 0)) ∧ W'.heap[w.heap.size + 1]? = some (.cells #[.int .i64 0, .string ⟨#[]⟩, .slice none 0 0] 26 (0, 0)) ∧ Below w.heap.size w W') :=
    fun W W' hb h => ⟨blk_below h.1 hb, blk_below h.2.1 hb, h.2.2.trans (Below.mono hb h.2.2.size)⟩
  go_region_held3 (fun w' => w'.cell? ⟨w.heap.size, 0, none⟩ = some (.string s)) (first | exact blk_cell h0.1 0 | exact blk_cell h1.1 0 | exact blk_cell h2.1 0 | exact blk_cell (blk_far (p := ⟨w.heap.size + 1, 2, none⟩) (blk_far (p := ⟨w.heap.size + 1, 1, none⟩) (blk_far (p := ⟨w.heap.size + 1, 0, none⟩) h2.1 (Nat.ne_of_lt (Nat.lt_succ_self _)) _) (Nat.ne_of_lt (Nat.lt_succ_self _)) _) (Nat.ne_of_lt (Nat.lt_succ_self _)) _) 0)
    ((first | (go_at_call 25; refine (hT _).mono ?_; rintro _ wt ⟨rfl, hd1⟩; have h1 := step _ _ hd1.below h0) | (go_at_call 93; refine (hC _).mono ?_; rintro _ wc ⟨rfl, hb1⟩; have h2 := step _ _ hb1 h1; have u0 := blk_cell h2.2.1 0; have u1 := blk_cell h2.2.1 1; have u2 := blk_cell h2.2.1 2; have f2 : ∀ o, wc.frozen? ⟨w.heap.size + 1, o, none⟩ = false := fun o => blk_frozen h2.2.1 o)))
  go_wp2_with fail
  obtain ⟨y0, y1, y2⟩ := three_set (.int .i64 c) (.string t) (.slice none 0 0) h2.2.1
  refine bodyPost_ret (v := .tuple #[.agg #[.int .i64 c, .string t, .slice none 0 0], .int .i64 nx, .bool b]) (by simp [results, Tryd.results65, go_sem, y0, y1, y2]) rfl (encl_fin (kids := []) (three_below _ _ _ h2.2.2 (Nat.le_succ _)) (Kd.R_nil _ _ _ _ _) HA.out)
end Go.Proofs.YtmfffpfenhgjbaaDoor.G
/-! GivenEncl3 -/
set_option linter.unusedVariables false
set_option linter.unusedSimpArgs false
namespace Go.Proofs.YtmfffpfenhgjbaaDoor.G
open Go.RowKit Go.Lib Go.Proofs Go.Proofs.YtmfffpfenhgjbaaDoor.X Go.Proofs.YtmfffpfenhgjbaaDoor.Pure Go.Proofs.YtmfffpfenhgjbaaDoorW.PrintWords Go.Proofs.YtmfffpfenhgjbaaDoorW.PrintLast Go.Proofs.YtmfffpfenhgjbaaDoorW.PrintMore
theorem rest_facts (s : ByteArray) (i : Nat) (e k : Bool) : (rdL dstB e k [] ((L s).drop i)).2.length ≤ s.size ∧ (L s).drop (s.size - (rdL dstB e k [] ((L s).drop i)).2.length) = (rdL dstB e k [] ((L s).drop i)).2 := by
  have h := (rdL_suf dstB e k [] ((L s).drop i)).trans (List.drop_suffix i (L s))
  have h1 := h.length_le
  have h2 := suf_drop h
  rw [← L_size] at h1 h2
  exact ⟨h1, h2⟩
section
variable (D : UInt8 → Bool) (R : Bool → Bool → List UInt8 → List Sp × List UInt8) (e k : Bool) (c : UInt8) (t : List UInt8)
theorem enclL_42 (h : c.toNat = 42) : enclL D R e k (c :: t) = starV (R true k t) := by
  unfold enclL
  exact if_pos h
theorem enclL_91 (h : c.toNat = 91) : enclL D R e false (c :: t) = linkV D (R e true t) := by
  unfold enclL
  exact (if_neg (by omega)).trans (if_pos ⟨h, rfl⟩)
theorem enclL_96 (h : c.toNat = 96) : enclL D R e k (c :: t) = (codeL (ticksL (c :: t)) ((c :: t).length) [] ((c :: t).drop (ticksL (c :: t)))).map (fun p => (⟨2, ⟨(stripL p.1).toArray⟩, []⟩, p.2)) := by
  unfold enclL
  exact (if_neg (by omega)).trans ((if_neg (fun q => by omega)).trans (if_pos h))
theorem enclL_no (h : c.toNat ≠ 42) (h2 : ¬ (c.toNat = 91 ∧ k = false)) (h3 : c.toNat ≠ 96) : enclL D R e k (c :: t) = none := by
  unfold enclL
  exact (if_neg h).trans ((if_neg h2).trans (if_neg h3))
end
theorem encl_calls (s : ByteArray) (i : Nat) (e k : Bool) (w : World) (hT : Tabs w) (hs : s.size ≤ 1000000) (hi : i < s.size) (hend : endB e k (s[i]'hi) = false)
    (hR : ∀ e k, ReadOk s ((i : Int) + 1) e k (rdL dstB e k [] ((L s).drop (i + 1)))) :
    Calls Tryd.prog 65 #[.agg #[.string s], .int .i64 (i : Int), .bool e, .bool k] w (EnclOk w s (enclL dstB (fun e k l => rdL dstB e k [] l) e k ((L s).drop i))) := by
  have hll : i < (L s).length := by rw [← L_size]; exact hi
  have hdr : (L s).drop i = s[i]'hi :: (L s).drop (i + 1) := List.drop_eq_getElem_cons hll
  have hto := fun (W : World) => Ticks_eq s i (s.size + 1) (by omega) (Nat.lt_succ_self _)
  by_cases h42 : (s[i]'hi).toNat = 42
  · rw [hdr, enclL_42 _ _ _ _ _ _ h42]
    have hf := rest_facts s (i + 1) true k
    exact encl_star s i e k w hT hs hi h42 _ hf.1 hf.2 (hR true k)
  by_cases h91 : (s[i]'hi).toNat = 91 ∧ k = false
  · obtain ⟨h91, rfl⟩ := h91
    rw [hdr, enclL_91 _ _ _ _ _ h91]
    show Calls _ _ _ _ (EnclOk w s (linkV dstB (rdL dstB e true [] ((L s).drop (i + 1)))))
    have hf := rest_facts s (i + 1) e true
    have hR' := hR e true
    generalize rdL dstB e true [] ((L s).drop (i + 1)) = rd at hf hR' ⊢
    obtain ⟨t, nx, ok, hd, hv⟩ := dest_eq s (s.size - rd.2.length + 1) (s.size + 1) hs (Nat.lt_succ_self _)
    have hcast : ((s.size - rd.2.length + 1 : Nat) : Int) = ((s.size - rd.2.length : Nat) : Int) + 1 := by omega
    rw [hcast] at hd
    exact encl_brack dstB s i e w hT hs hi h91 rd hf.1 hf.2 hR' t nx ok (fun W => spanin_reader_dest.calls (s.size + 1) s _ t nx ok W hd) hv
  by_cases h96 : (s[i]'hi).toNat = 96
  · have e1 := enclL_96 dstB (fun e k l => rdL dstB e k [] l) e k _ ((L s).drop (i + 1)) h96
    rw [← hdr] at e1
    rw [e1]
    have htl := ticksL_le ((L s).drop i)
    have htp : 0 < ticksL ((L s).drop i) := by rw [hdr, ticksL, if_pos h96]; omega
    rw [List.length_drop, ← L_size] at htl
    refine encl_tick s i (ticksL ((L s).drop i)) e k w hs hi h96 _ (fun W => spanin_Ticks.calls (s.size + 1) s (i : Int) _ W (hto W)) (fun W => ?_)
    rw [List.drop_drop, List.length_drop, ← L_size]
    exact code_calls s i (ticksL ((L s).drop i)) W hs (by omega) htp (fun b W hb => spanin_strip.calls b _ W (strip_eq b hb)) (s.size - i) (by omega)
  · rw [hdr, enclL_no _ _ _ _ _ _ h42 h91 h96]
    refine encl_none s i e k w hi h42 (fun h => ?_) h96
    cases k with
    | true => rfl
    | false => exact absurd ⟨h, rfl⟩ h91
end Go.Proofs.YtmfffpfenhgjbaaDoor.G
/-! GivenReadA -/
set_option linter.unusedVariables false
set_option linter.unusedSimpArgs false
namespace Go.Proofs.YtmfffpfenhgjbaaDoor.G
open Go.RowKit Go.Lib Go.Proofs Go.Proofs.YtmfffpfenhgjbaaDoor.X Go.Proofs.YtmfffpfenhgjbaaDoor.Pure Go.Proofs.YtmfffpfenhgjbaaDoorW.PrintWords Go.Proofs.YtmfffpfenhgjbaaDoorW.PrintLast Go.Proofs.YtmfffpfenhgjbaaDoorW.PrintMore
/-- Where the loop of reader.read stands. -/
structure ReadAt (w : World) (s : ByteArray) (q : Nat) (e k : Bool) (i : Nat) (acc : List Sp) (v : Value) (wr : World) : Prop where
  lo : q ≤ i
  hi : i ≤ s.size
  row : Kd.R k26 26 wr w.heap.size (fun j => w.heap.size ≤ j) v acc
  rd : rdL dstB e k acc ((L s).drop i) = rdL dstB e k [] ((L s).drop q)
  len : acc.length ≤ i - q
  last : ∀ x, acc.getLast? = some x → x.f1.size ≤ 1000000 + i
  below : Below w.heap.size w wr
  box : wr.heap[w.heap.size]? = some (.cells #[.string s] 50 (0, 0))
/-- Where it ends. -/
theorem ReadAt.done {w wr : World} {s : ByteArray} {q i : Nat} {e k : Bool} {acc : List Sp} {v : Value} (h : ReadAt w s q e k i acc v wr) (hr : (acc, (L s).drop i) = rdL dstB e k [] ((L s).drop q)) :
    ∃ v0, Ending.returned (.tuple #[v, .int .i64 (i : Int)]) = Ending.returned (.tuple #[v0, .int .i64 (toI s (rdL dstB e k [] ((L s).drop q)).2)]) ∧ Kd.R k26 26 wr w.heap.size (fun j => w.heap.size ≤ j) v0 (rdL dstB e k [] ((L s).drop q)).1 ∧ Below w.heap.size w wr := by
  rw [← hr]
  refine ⟨v, ?_, h.row, h.below⟩
  have h1 := h.hi
  have : toI s ((L s).drop i) = (i : Int) := by unfold toI; rw [List.length_drop, ← L_size]; omega
  rw [this]
theorem putL_length (b : List UInt8) : ∀ acc : List Sp, (putL acc b).length ≤ acc.length + 1
  | [] => Nat.le_refl _
  | [x] => by
    show (if x.f0 = 1 then _ else _ : List Sp).length ≤ _
    split <;> simp
  | x :: y :: t => by
    have := putL_length b (y :: t)
    show (x :: putL (y :: t) b).length ≤ _
    rw [List.length_cons, List.length_cons]
    omega
theorem putL_last (b : List UInt8) (n : Nat) : ∀ acc : List Sp, (∀ x, acc.getLast? = some x → x.f1.size ≤ n) → ∀ x, (putL acc b).getLast? = some x → x.f1.size ≤ n + b.length
  | [], _, x, h => by
    obtain rfl : tx b = x := by simpa [putL] using h
    show (⟨b.toArray⟩ : ByteArray).size ≤ _
    rw [L_size, L_mk]; omega
  | [y], hl, x, h => by
    have h1 := hl y rfl
    unfold putL at h
    split at h
    · obtain rfl : (⟨1, ⟨(L y.f1 ++ b).toArray⟩, y.f2⟩ : Sp) = x := by simpa using h
      show (⟨(L y.f1 ++ b).toArray⟩ : ByteArray).size ≤ _
      rw [L_size, L_mk, List.length_append, ← L_size]; omega
    · obtain rfl : tx b = x := by simpa using h
      show (⟨b.toArray⟩ : ByteArray).size ≤ _
      rw [L_size, L_mk]; omega
  | y :: z :: t, hl, x, h => by
    refine putL_last b n (z :: t) (fun x hx => hl x (by rw [← hx]; rfl)) x ?_
    rw [← h]
    show _ = (y :: putL (z :: t) b).getLast?
    cases hp : putL (z :: t) b with
    | nil => cases t <;> simp [putL] at hp <;> split at hp <;> cases hp
    | cons p r => rfl
section
variable {w wr : World} {s : ByteArray} {q i : Nat} {e k : Bool} {acc : List Sp} {v : Value}
theorem ReadAt.moved (h : ReadAt w s q e k i acc v wr) {w1 : World} (hb : Below wr.heap.size wr w1) : ReadAt w s q e k i acc v w1 :=
  ⟨h.lo, h.hi, Kd.R_below h.row hb, h.rd, h.len, h.last, h.below.trans (Below.mono hb h.below.size), blk_below h.box hb⟩
theorem ReadAt.box_grown (h : ReadAt w s q e k i acc v wr) {w1 : World} (hg : wr.grownBy w1 v.ownBlock) : w1.heap[w.heap.size]? = some (.cells #[.string s] 50 (0, 0)) :=
  (hg.block w.heap.size (blk_lt h.box) (Kd.R_ne h.row h.box (by decide))).trans h.box
theorem ReadAt.put (h : ReadAt w s q e k i acc v wr) {w1 : World} {v1 : Value} {b : List UInt8} {i' : Nat} (hrow : Kd.R k26 26 w1 w.heap.size (fun j => w.heap.size ≤ j) v1 (putL acc b)) (hb : Below w.heap.size wr w1) (hg : wr.grownBy w1 v.ownBlock)
    (h1 : i < i') (h2 : i' ≤ s.size) (h3 : b.length ≤ i' - i) (hrd : rdL dstB e k (putL acc b) ((L s).drop i') = rdL dstB e k [] ((L s).drop q)) : ReadAt w s q e k i' (putL acc b) v1 w1 := by
  have hlo := h.lo
  have hlen := h.len
  refine ⟨by omega, h2, hrow, hrd, ?_, ?_, h.below.trans hb, h.box_grown hg⟩
  · have := putL_length b acc; omega
  · intro x hx
    have := putL_last b (1000000 + i) acc h.last x hx
    omega
theorem ReadAt.app (h : ReadAt w s q e k i acc v wr) {w1 : World} {v1 : Value} {x : Sp} {i' : Nat} (hrow : Kd.R k26 26 w1 w.heap.size (fun j => w.heap.size ≤ j) v1 (acc ++ [x])) (hb : Below w.heap.size wr w1) (hg : wr.grownBy w1 v.ownBlock)
    (h1 : i < i') (h2 : i' ≤ s.size) (h3 : x.f1.size ≤ 1000000) (hrd : rdL dstB e k (acc ++ [x]) ((L s).drop i') = rdL dstB e k [] ((L s).drop q)) : ReadAt w s q e k i' (acc ++ [x]) v1 w1 := by
  have hlo := h.lo
  have hlen := h.len
  refine ⟨by omega, h2, hrow, hrd, ?_, ?_, h.below.trans hb, h.box_grown hg⟩
  · rw [List.length_append, List.length_singleton]; omega
  · intro y hy
    rw [List.getLast?_append] at hy
    obtain rfl : x = y := by simpa using hy
    omega
end
end Go.Proofs.YtmfffpfenhgjbaaDoor.G
/-! GivenRead -/
set_option linter.unusedVariables false
set_option linter.unusedSimpArgs false
namespace Go.Proofs.YtmfffpfenhgjbaaDoor.G
open Go.RowKit Go.Lib Go.Proofs Go.Proofs.YtmfffpfenhgjbaaDoor.X Go.Proofs.YtmfffpfenhgjbaaDoor.Pure Go.Proofs.YtmfffpfenhgjbaaDoorW.PrintWords Go.Proofs.YtmfffpfenhgjbaaDoorW.PrintLast Go.Proofs.YtmfffpfenhgjbaaDoorW.PrintMore
set_option maxHeartbeats 8000000 in
set_option maxRecDepth 1000000 in
theorem read_loop (s : ByteArray) (q : Nat) (e k : Bool) (w : World) (hT : Tabs w) (hs : s.size ≤ 1000000) (hq : q ≤ s.size)
    (hR : ∀ i, q ≤ i → i < s.size → ∀ e k, ReadOk s ((i : Int) + 1) e k (rdL dstB e k [] ((L s).drop (i + 1)))) :
    Calls Tryd.prog 43 #[.agg #[.string s], .int .i64 (q : Int), .bool e, .bool k] w fun x w' => ∃ v0, x = .returned (.tuple #[v0, .int .i64 (toI s (rdL dstB e k [] ((L s).drop q)).2)]) ∧ Kd.R k26 26 w' w.heap.size (fun j => w.heap.size ≤ j) v0 (rdL dstB e k [] ((L s).drop q)).1 ∧ Below w.heap.size w w' := by
  have HS := Aside0.mk hs
  have HT := Aside0.mk hT
  have HR := Aside0.mk hR
  have HQ := Aside0.mk hq
  clear hs hT hR hq
  go_enter Tryd.func43, Tryd.ntmps43
  go_wp2_with fail
  go_loopw [1, 10] (fun v1 v10 wr => ∃ (i : Nat) (acc : List Sp), v1 = .int .i64 (i : Int) ∧ ReadAt w s q e k i acc v10 wr) (fun v1 _ _ => s.size - (intOf v1).toNat)
  case atStart => exact ⟨q, [], rfl, ⟨Nat.le_refl _, HQ.out, Kd.R_nil _ _ _ _ _, rfl, Nat.zero_le _, (fun x h => by cases h), (Below.refl _ w).alloc (Nat.le_refl _) _, blk_new w _⟩⟩
  case round =>
    obtain ⟨i, acc, rfl, hat⟩ := hrel
    have q0 := blk_cell hat.box 0
    have hi1 := hat.hi
    have HA := Aside0.mk hat
    obtain ⟨A, c, rfl⟩ := Kd.R_slice hat.row
    clear hat
    by_cases hlt : i < s.size
    · have hll : i < (L s).length := by rw [← L_size]; exact hlt
      have hd : decide ((i : Int) < (s.size : Int)) = true := decide_eq_true (by omega)
      have hdr : (L s).drop i = s[i]'hlt :: (L s).drop (i + 1) := List.drop_eq_getElem_cons hll
      have hS := HA.out.rd
      rw [hdr, rdL_cons] at hS
      cases hend : endB e k (s[i]'hlt) with
      | true =>
        rw [hend, if_pos rfl, ← hdr] at hS
        have HE := Aside0.mk hS
        clear hS hdr
        have hcase : ((s[i]'hlt).toNat = 42 ∧ e = true) ∨ ((s[i]'hlt).toNat ≠ 42 ∧ (s[i]'hlt).toNat = 93 ∧ k = true) ∨ ((s[i]'hlt).toNat = 42 ∧ e = false ∧ (s[i]'hlt).toNat = 93) := by
          unfold endB at hend
          by_cases h42 : (s[i]'hlt).toNat = 42
          · cases e with
            | true => exact Or.inl ⟨h42, rfl⟩
            | false => rw [h42] at hend; simp at hend
          · exact Or.inr (Or.inl ⟨h42, by simpa [h42] using hend⟩)
        rcases hcase with ⟨h42, rfl⟩ | ⟨h42, h93, rfl⟩ | ⟨h42, _, h93⟩
        · have hc0 : ((((s[i]'hlt).toNat : Nat) : Int) == 42) = true := beq_iff_eq.2 (by omega)
          clear hend h42
          go_wp2_with fail
          refine bodyPost_ret (v := .tuple #[.slice A acc.length c, .int .i64 (i : Int)]) (by simp [results, Tryd.results43, go_sem]) rfl (HA.out.done HE.out)
        · have hc0 : ((((s[i]'hlt).toNat : Nat) : Int) == 42) = false := beq_eq_false_iff_ne.2 (by omega)
          have hc1 : ((((s[i]'hlt).toNat : Nat) : Int) == 93) = true := beq_iff_eq.2 (by omega)
          clear hend h42 h93
          go_wp2_with fail
          refine bodyPost_ret (v := .tuple #[.slice A acc.length c, .int .i64 (i : Int)]) (by simp [results, Tryd.results43, go_sem]) rfl (HA.out.done HE.out)
        · omega
      | false =>
        rw [hend, if_neg (by decide)] at hS
        have hput : ∀ (b : ByteArray) (W : World) (v : Value) (acc : List Sp) (i : Nat), ReadAt w s q e k i acc v W → b.size ≤ 1000000 → Calls Tryd.prog 64 #[v, .string b] W fun x w' => ∃ v1, x = .returned v1 ∧ Kd.R k26 26 w' w.heap.size (fun j => w.heap.size ≤ j) v1 (putL acc (L b)) ∧ Below w.heap.size W w' ∧ W.grownBy w' v.ownBlock ∧ Moved W w' v v1 := by
          intro b W v acc i h hb
          have h1 := h.hi
          have h2 := h.len
          have h3 := HS.out
          exact put_calls w.heap.size _ v acc b W h.below.size (fun j hj => Nat.le_trans h.below.size hj) h.row (by omega) (fun x hx => by have := h.last x hx; omega)
        by_cases hesc : (s[i]'hlt).toNat = 92 ∧ ∃ h1 : i + 1 < s.size, markB (s[i + 1]'h1) = true
        · obtain ⟨h92, h1, hmk⟩ := hesc
          have hc0 : ((((s[i]'hlt).toNat : Nat) : Int) == 42) = false := beq_eq_false_iff_ne.2 (by omega)
          have hc1 : ((((s[i]'hlt).toNat : Nat) : Int) == 93) = false := beq_eq_false_iff_ne.2 (by omega)
          have hc2 : ((((s[i]'hlt).toNat : Nat) : Int) == 92) = true := beq_iff_eq.2 (by omega)
          have hd1 : decide ((i : Int) + 1 < (s.size : Int)) = true := decide_eq_true (by omega)
          have hi2 : i < 1000000 := by have := HS.out; omega
          have hcE := fun W => utf_Escapes.calls 9 _ _ W (escapes_eq (s[i + 1]'h1) 0)
          rw [hmk] at hcE
          have hesc : escL (s[i]'hlt :: (L s).drop (i + 1)) = some (s[i + 1]'h1, (L s).drop (i + 2)) := by
            have hl1 : i + 1 < (L s).length := by rw [← L_size]; exact h1
            rw [show (L s).drop (i + 1) = s[i + 1]'h1 :: (L s).drop (i + 2) from List.drop_eq_getElem_cons hl1]
            exact if_pos ⟨h92, hmk⟩
          rw [hesc] at hS
          have HE := Aside0.mk hS
          have hxb : L (s.extract (i + 1) (i + 2)) = [s[i + 1]'h1] := by
            have hl1 : i + 1 < (L s).length := by rw [← L_size]; exact h1
            rw [L_extract, List.drop_eq_getElem_cons hl1, show i + 2 - (i + 1) = 1 from by omega]
            rfl
          have hxz : (s.extract (i + 1) (i + 2)).size ≤ 1000000 := by rw [L_size, hxb, List.length_singleton]; omega
          have b0 : (0 : Int) ≤ (i : Int) + 1 := by omega
          have b1 : (i : Int) + 1 ≤ (i : Int) + 2 := by omega
          have b2 : (i : Int) + 2 ≤ (s.size : Int) := by omega
          have b3 : ((i : Int) + 1).toNat = i + 1 := by omega
          have b4 : ((i : Int) + 2).toNat = i + 2 := by omega
          clear hend h92 hS hdr hesc
          go_wp2_with fail
          refine (hcE _).mono ?_
          rintro x w1 ⟨rfl, hdr1⟩
          have HA1 := Aside0.mk (HA.out.moved hdr1.below)
          have r0 := blk_cell HA1.out.box 0
          have cP := hput (s.extract (i + 1) (i + 2)) w1 _ _ _ HA1.out hxz
          clear hcE q0
          go_wp2_with fail
          refine cP.mono ?_
          rintro x w2 ⟨v1, rfl, hr2, hb2, hg2, _⟩
          rw [hxb] at hr2
          have HA2 := Aside0.mk (HA1.out.put hr2 hb2 hg2 (i' := i + 2) (by omega) (by omega) (by rw [List.length_singleton]; omega) HE.out)
          have HKI := Aside0.mk (show (i : Int) + 2 = ((i + 2 : Nat) : Int) by omega)
          clear cP hr2 hb2 hg2
          go_wp2_with fail
          go_roundw
          case rel => exact ⟨i + 2, _, congrArg _ HKI.out, HA2.out⟩
          case measure => simp [intOf]; omega
        · have hHR := fun e k => HR.out i HA.out.lo hlt e k
          have hencl : ∀ (W : World), Below w.heap.size w W → Calls Tryd.prog 65 #[.agg #[.string s], .int .i64 (i : Int), .bool e, .bool k] W (EnclOk W s (enclL dstB (fun e k l => rdL dstB e k [] l) e k ((L s).drop i))) := fun W hW => encl_calls s i e k W (Tabs.at HT.out hW) HS.out hlt hend hHR
          have hescn : escL (s[i]'hlt :: (L s).drop (i + 1)) = none := by
            by_cases h1 : i + 1 < s.size
            · have hl1 : i + 1 < (L s).length := by rw [← L_size]; exact h1
              rw [show (L s).drop (i + 1) = s[i + 1]'h1 :: (L s).drop (i + 2) from List.drop_eq_getElem_cons hl1]
              exact if_neg (fun h => hesc ⟨h.1, h1, h.2⟩)
            · rw [List.drop_eq_nil_of_le (by rw [← L_size]; omega)]
              rfl
          rw [hescn, ← hdr] at hS
          have HE := Aside0.mk hS
          have hi2 : i < 1000000 := by have := HS.out; omega
          clear hS hescn hHR
          have hcase : ((s[i]'hlt).toNat = 42 ∧ e = false) ∨ ((s[i]'hlt).toNat = 93 ∧ k = false) ∨ ((s[i]'hlt).toNat = 92 ∧ ¬ i + 1 < s.size) ∨ ((s[i]'hlt).toNat ≠ 42 ∧ (s[i]'hlt).toNat ≠ 93 ∧ (s[i]'hlt).toNat ≠ 92) ∨ ((s[i]'hlt).toNat = 92 ∧ i + 1 < s.size) := by
            unfold endB at hend
            by_cases h42 : (s[i]'hlt).toNat = 42
            · cases e with
              | false => exact Or.inl ⟨h42, rfl⟩
              | true => rw [h42] at hend; simp at hend
            · by_cases h93 : (s[i]'hlt).toNat = 93
              · cases k with
                | false => exact Or.inr (Or.inl ⟨h93, rfl⟩)
                | true => rw [h93] at hend; simp at hend
              · by_cases h92 : (s[i]'hlt).toNat = 92
                · by_cases h1 : i + 1 < s.size
                  · exact Or.inr (Or.inr (Or.inr (Or.inr ⟨h92, h1⟩)))
                  · exact Or.inr (Or.inr (Or.inl ⟨h92, h1⟩))
                · exact Or.inr (Or.inr (Or.inr (Or.inl ⟨h42, h93, h92⟩)))
          clear hend
          rcases hcase with ⟨h42, rfl⟩ | ⟨h93, rfl⟩ | ⟨h92, h1⟩ | ⟨h42, h93, h92⟩ | ⟨h92, h1⟩
          · have hc0 : ((((s[i]'hlt).toNat : Nat) : Int) == 42) = true := beq_iff_eq.2 (by omega)
            have hc2 : ((((s[i]'hlt).toNat : Nat) : Int) == 92) = false := beq_eq_false_iff_ne.2 (by omega)
            have hc1 : ((((s[i]'hlt).toNat : Nat) : Int) == 93) = false := beq_eq_false_iff_ne.2 (by omega)
            clear h42 hesc
            go_wp2_with fail
            refine (hencl wr HA.out.below).mono ?_
            rintro x w1 ⟨hb1, c1, t1, A1, n1, cc1, nx, b, rfl, hm⟩
            have HA1 := Aside0.mk (HA.out.moved hb1)
            have r0 : ∀ o, (w1.alloc o).cell? ⟨w.heap.size, 0, none⟩ = some (.string s) := fun o => blk_cell (blk_alloc HA1.out.box o) 0
            have hbo : ∀ o, Below w1.heap.size w1 (w1.alloc o) := fun o => (Below.refl _ _).alloc (Nat.le_refl _) o
            cases hx : enclL dstB (fun e k l => rdL dstB e k [] l) false k ((L s).drop i) with
            | none =>
              rw [hx] at hm
              obtain rfl := hm
              have hPl := fun W => spanin_reader_plain.calls (s.size + 1) s (i : Int) _ W (plain_eq_ s i _ (by have := HS.out; omega) (Nat.lt_succ_self _))
              have hE2 := HE.out
              rw [hx] at hE2
              have htl := ticksL_le ((L s).drop i)
              rw [List.length_drop, ← L_size] at htl
              have hm1 : 1 ≤ max 1 (ticksL ((L s).drop i)) := by omega
              have hm2 : i + max 1 (ticksL ((L s).drop i)) ≤ s.size := by omega
              simp only [] at hE2
              generalize max 1 (ticksL ((L s).drop i)) = m at *
              have HE2 := Aside0.mk hE2
              have HO := Aside0.mk (fun o => HA1.out.moved (hbo o))
              clear htl hE2 hencl hx
              go_wp2_with fail
              refine (hPl _).mono ?_
              rintro x w2 ⟨rfl, hb2⟩
              have HA2 := Aside0.mk ((HO.out _).moved hb2)
              have r1 := blk_cell HA2.out.box 0
              have hxb : L (s.extract i (i + m)) = ((L s).drop i).take m := by rw [L_extract, show i + m - i = m from by omega]
              have hxz : (s.extract i (i + m)).size ≤ 1000000 := by rw [L_size, hxb, List.length_take, List.length_drop, ← L_size]; have := HS.out; omega
              have hxl : (((L s).drop i).take m).length ≤ i + m - i := by rw [List.length_take]; omega
              have cP := hput (s.extract i (i + m)) w2 _ _ _ HA2.out hxz
              have b1 : (i : Int) ≤ (i : Int) + (m : Int) := by omega
              have b2 : (i : Int) + (m : Int) ≤ (s.size : Int) := by omega
              have b3 : ((i : Int) + (m : Int)).toNat = i + m := by omega
              have hm3 : (m : Int) ≤ 1000000 := by have := HS.out; omega
              clear hPl r0 q0 hxz
              go_wp2_with fail
              refine cP.mono ?_
              rintro x w3 ⟨v1, rfl, hr3, hb3, hg3, _⟩
              rw [hxb] at hr3
              have HA3 := Aside0.mk (HA2.out.put hr3 hb3 hg3 (i' := i + m) (by omega) (by omega) hxl (by rw [← List.drop_drop]; exact HE2.out))
              have HKI := Aside0.mk (show (i : Int) + (m : Int) = ((i + m : Nat) : Int) by omega)
              clear cP hr3 hb3 hg3
              go_wp2_with fail
              go_roundw
              case rel => exact ⟨i + m, _, congrArg _ HKI.out, HA3.out⟩
              case measure => rw [HKI.out]; simp only [intOf, Int.toNat_natCast]; omega
            | some yl =>
              obtain ⟨y, l⟩ := yl
              rw [hx] at hm
              obtain ⟨rfl, hnx, rfl, rfl, hkr⟩ := hm
              have hE2 := HE.out
              rw [hx] at hE2
              simp only [] at hE2
              have hsf := enclL_suf (fun e k t _ => rdL_suf dstB e k [] t) hx
              have hlt2 := enclL_lt (fun e k t _ => rdL_le dstB e k [] t) hx
              have hsu := suf_drop (hsf.1.trans (List.drop_suffix i (L s)))
              rw [← L_size] at hsu
              have hsz1 := hsf.2
              rw [List.length_drop, ← L_size] at hlt2 hsz1
              have HO := Aside0.mk (fun o => HA1.out.moved (hbo o))
              have HE2 := Aside0.mk (And.intro hE2 (And.intro hsu (And.intro hlt2 hsz1)))
              have HMM := Aside0.mk (k26_mkM (w1.alloc (.cells #[.int .i64 y.f0, .string y.f1, .slice A1 n1 cc1] 26)) w.heap.size (fun j => wr.heap.size ≤ j) y (Kd.R_lower (Kd.R_alloc hkr _) HA.out.below.size))
              have HOKP := Aside0.mk (show ∀ j, wr.heap.size ≤ j → w.heap.size ≤ j ∧ some j ≠ (Value.slice A acc.length c).ownBlock from fun j hj => ⟨Nat.le_trans HA.out.below.size hj, fun he => by have := Kd.R_lt HA.out.row j he.symm; omega⟩)
              have HLL := Aside0.mk (show (acc.length + 1) * 48 ≤ 140737488355328 by have := HA.out.len; omega)
              clear hencl hx hE2 hsf hlt2 hsu hsz1 hkr hput
              go_wp2_with ((with_reducible refine gate_builtin (b := .append) (xs := #[.tmp 76, .tmp 78]) rfl ?_); at_builtin; refine Kd.R_append k26 (w0 := (w1.alloc (.cells #[.int .i64 y.f0, .string y.f1, .slice A1 n1 cc1] 26))) w.heap.size rfl (.tmp 76) (.tmp 78) 22 26 _ 48 rfl Tryd.underlying22 infoSP rfl (by decide) (by decide) (.slice A acc.length c) acc y [.int .i64 y.f0, .string y.f1, .slice A1 n1 cc1] (fun j => w.heap.size ≤ j) (fun j => wr.heap.size ≤ j) rfl (by rw [alloc_size]; rfl) HMM.out HOKP.out (fun j hj => Nat.le_trans (HO.out _).below.size hj) (HO.out _).row (Below.refl _ _) (HO.out _).below.size HLL.out ?_; intro v1 w3 hr3 hb3 hg3 _)
              obtain ⟨k1, k2, k3, k4⟩ := HE2.out
              have k5 := HS.out
              refine ⟨⟨s.size - l.length, acc ++ [y], rfl, (HO.out _).app hr3 hb3 hg3 (by omega) (by omega) (by omega) (by rw [k2]; exact k1)⟩, ?_⟩
              unfold toI
              simp only [intOf, Int.toNat_natCast]
              omega
          · have hc0 : ((((s[i]'hlt).toNat : Nat) : Int) == 42) = false := beq_eq_false_iff_ne.2 (by omega)
            have hc1 : ((((s[i]'hlt).toNat : Nat) : Int) == 93) = true := beq_iff_eq.2 (by omega)
            have hc2 : ((((s[i]'hlt).toNat : Nat) : Int) == 92) = false := beq_eq_false_iff_ne.2 (by omega)
            clear h93 hesc
            go_wp2_with fail
            refine (hencl wr HA.out.below).mono ?_
            rintro x w1 ⟨hb1, c1, t1, A1, n1, cc1, nx, b, rfl, hm⟩
            have HA1 := Aside0.mk (HA.out.moved hb1)
            have r0 : ∀ o, (w1.alloc o).cell? ⟨w.heap.size, 0, none⟩ = some (.string s) := fun o => blk_cell (blk_alloc HA1.out.box o) 0
            have hbo : ∀ o, Below w1.heap.size w1 (w1.alloc o) := fun o => (Below.refl _ _).alloc (Nat.le_refl _) o
            cases hx : enclL dstB (fun e k l => rdL dstB e k [] l) e false ((L s).drop i) with
            | none =>
              rw [hx] at hm
              obtain rfl := hm
              have hPl := fun W => spanin_reader_plain.calls (s.size + 1) s (i : Int) _ W (plain_eq_ s i _ (by have := HS.out; omega) (Nat.lt_succ_self _))
              have hE2 := HE.out
              rw [hx] at hE2
              have htl := ticksL_le ((L s).drop i)
              rw [List.length_drop, ← L_size] at htl
              have hm1 : 1 ≤ max 1 (ticksL ((L s).drop i)) := by omega
              have hm2 : i + max 1 (ticksL ((L s).drop i)) ≤ s.size := by omega
              simp only [] at hE2
              generalize max 1 (ticksL ((L s).drop i)) = m at *
              have HE2 := Aside0.mk hE2
              have HO := Aside0.mk (fun o => HA1.out.moved (hbo o))
              clear htl hE2 hencl hx
              go_wp2_with fail
              refine (hPl _).mono ?_
              rintro x w2 ⟨rfl, hb2⟩
              have HA2 := Aside0.mk ((HO.out _).moved hb2)
              have r1 := blk_cell HA2.out.box 0
              have hxb : L (s.extract i (i + m)) = ((L s).drop i).take m := by rw [L_extract, show i + m - i = m from by omega]
              have hxz : (s.extract i (i + m)).size ≤ 1000000 := by rw [L_size, hxb, List.length_take, List.length_drop, ← L_size]; have := HS.out; omega
              have hxl : (((L s).drop i).take m).length ≤ i + m - i := by rw [List.length_take]; omega
              have cP := hput (s.extract i (i + m)) w2 _ _ _ HA2.out hxz
              have b1 : (i : Int) ≤ (i : Int) + (m : Int) := by omega
              have b2 : (i : Int) + (m : Int) ≤ (s.size : Int) := by omega
              have b3 : ((i : Int) + (m : Int)).toNat = i + m := by omega
              have hm3 : (m : Int) ≤ 1000000 := by have := HS.out; omega
              clear hPl r0 q0 hxz
              go_wp2_with fail
              refine cP.mono ?_
              rintro x w3 ⟨v1, rfl, hr3, hb3, hg3, _⟩
              rw [hxb] at hr3
              have HA3 := Aside0.mk (HA2.out.put hr3 hb3 hg3 (i' := i + m) (by omega) (by omega) hxl (by rw [← List.drop_drop]; exact HE2.out))
              have HKI := Aside0.mk (show (i : Int) + (m : Int) = ((i + m : Nat) : Int) by omega)
              clear cP hr3 hb3 hg3
              go_wp2_with fail
              go_roundw
              case rel => exact ⟨i + m, _, congrArg _ HKI.out, HA3.out⟩
              case measure => rw [HKI.out]; simp only [intOf, Int.toNat_natCast]; omega
            | some yl =>
              obtain ⟨y, l⟩ := yl
              rw [hx] at hm
              obtain ⟨rfl, hnx, rfl, rfl, hkr⟩ := hm
              have hE2 := HE.out
              rw [hx] at hE2
              simp only [] at hE2
              have hsf := enclL_suf (fun e k t _ => rdL_suf dstB e k [] t) hx
              have hlt2 := enclL_lt (fun e k t _ => rdL_le dstB e k [] t) hx
              have hsu := suf_drop (hsf.1.trans (List.drop_suffix i (L s)))
              rw [← L_size] at hsu
              have hsz1 := hsf.2
              rw [List.length_drop, ← L_size] at hlt2 hsz1
              have HO := Aside0.mk (fun o => HA1.out.moved (hbo o))
              have HE2 := Aside0.mk (And.intro hE2 (And.intro hsu (And.intro hlt2 hsz1)))
              have HMM := Aside0.mk (k26_mkM (w1.alloc (.cells #[.int .i64 y.f0, .string y.f1, .slice A1 n1 cc1] 26)) w.heap.size (fun j => wr.heap.size ≤ j) y (Kd.R_lower (Kd.R_alloc hkr _) HA.out.below.size))
              have HOKP := Aside0.mk (show ∀ j, wr.heap.size ≤ j → w.heap.size ≤ j ∧ some j ≠ (Value.slice A acc.length c).ownBlock from fun j hj => ⟨Nat.le_trans HA.out.below.size hj, fun he => by have := Kd.R_lt HA.out.row j he.symm; omega⟩)
              have HLL := Aside0.mk (show (acc.length + 1) * 48 ≤ 140737488355328 by have := HA.out.len; omega)
              clear hencl hx hE2 hsf hlt2 hsu hsz1 hkr hput
              go_wp2_with ((with_reducible refine gate_builtin (b := .append) (xs := #[.tmp 76, .tmp 78]) rfl ?_); at_builtin; refine Kd.R_append k26 (w0 := (w1.alloc (.cells #[.int .i64 y.f0, .string y.f1, .slice A1 n1 cc1] 26))) w.heap.size rfl (.tmp 76) (.tmp 78) 22 26 _ 48 rfl Tryd.underlying22 infoSP rfl (by decide) (by decide) (.slice A acc.length c) acc y [.int .i64 y.f0, .string y.f1, .slice A1 n1 cc1] (fun j => w.heap.size ≤ j) (fun j => wr.heap.size ≤ j) rfl (by rw [alloc_size]; rfl) HMM.out HOKP.out (fun j hj => Nat.le_trans (HO.out _).below.size hj) (HO.out _).row (Below.refl _ _) (HO.out _).below.size HLL.out ?_; intro v1 w3 hr3 hb3 hg3 _)
              obtain ⟨k1, k2, k3, k4⟩ := HE2.out
              have k5 := HS.out
              refine ⟨⟨s.size - l.length, acc ++ [y], rfl, (HO.out _).app hr3 hb3 hg3 (by omega) (by omega) (by omega) (by rw [k2]; exact k1)⟩, ?_⟩
              unfold toI
              simp only [intOf, Int.toNat_natCast]
              omega
          · have hc0 : ((((s[i]'hlt).toNat : Nat) : Int) == 42) = false := beq_eq_false_iff_ne.2 (by omega)
            have hc1 : ((((s[i]'hlt).toNat : Nat) : Int) == 93) = false := beq_eq_false_iff_ne.2 (by omega)
            have hc2 : ((((s[i]'hlt).toNat : Nat) : Int) == 92) = true := beq_iff_eq.2 (by omega)
            have hd1 : decide ((i : Int) + 1 < (s.size : Int)) = false := decide_eq_false (by omega)
            clear h92 hesc
            go_wp2_with fail
            refine (hencl wr HA.out.below).mono ?_
            rintro x w1 ⟨hb1, c1, t1, A1, n1, cc1, nx, b, rfl, hm⟩
            have HA1 := Aside0.mk (HA.out.moved hb1)
            have r0 : ∀ o, (w1.alloc o).cell? ⟨w.heap.size, 0, none⟩ = some (.string s) := fun o => blk_cell (blk_alloc HA1.out.box o) 0
            have hbo : ∀ o, Below w1.heap.size w1 (w1.alloc o) := fun o => (Below.refl _ _).alloc (Nat.le_refl _) o
            cases hx : enclL dstB (fun e k l => rdL dstB e k [] l) e k ((L s).drop i) with
            | none =>
              rw [hx] at hm
              obtain rfl := hm
              have hPl := fun W => spanin_reader_plain.calls (s.size + 1) s (i : Int) _ W (plain_eq_ s i _ (by have := HS.out; omega) (Nat.lt_succ_self _))
              have hE2 := HE.out
              rw [hx] at hE2
              have htl := ticksL_le ((L s).drop i)
              rw [List.length_drop, ← L_size] at htl
              have hm1 : 1 ≤ max 1 (ticksL ((L s).drop i)) := by omega
              have hm2 : i + max 1 (ticksL ((L s).drop i)) ≤ s.size := by omega
              simp only [] at hE2
              generalize max 1 (ticksL ((L s).drop i)) = m at *
              have HE2 := Aside0.mk hE2
              have HO := Aside0.mk (fun o => HA1.out.moved (hbo o))
              clear htl hE2 hencl hx
              go_wp2_with fail
              refine (hPl _).mono ?_
              rintro x w2 ⟨rfl, hb2⟩
              have HA2 := Aside0.mk ((HO.out _).moved hb2)
              have r1 := blk_cell HA2.out.box 0
              have hxb : L (s.extract i (i + m)) = ((L s).drop i).take m := by rw [L_extract, show i + m - i = m from by omega]
              have hxz : (s.extract i (i + m)).size ≤ 1000000 := by rw [L_size, hxb, List.length_take, List.length_drop, ← L_size]; have := HS.out; omega
              have hxl : (((L s).drop i).take m).length ≤ i + m - i := by rw [List.length_take]; omega
              have cP := hput (s.extract i (i + m)) w2 _ _ _ HA2.out hxz
              have b1 : (i : Int) ≤ (i : Int) + (m : Int) := by omega
              have b2 : (i : Int) + (m : Int) ≤ (s.size : Int) := by omega
              have b3 : ((i : Int) + (m : Int)).toNat = i + m := by omega
              have hm3 : (m : Int) ≤ 1000000 := by have := HS.out; omega
              clear hPl r0 q0 hxz
              go_wp2_with fail
              refine cP.mono ?_
              rintro x w3 ⟨v1, rfl, hr3, hb3, hg3, _⟩
              rw [hxb] at hr3
              have HA3 := Aside0.mk (HA2.out.put hr3 hb3 hg3 (i' := i + m) (by omega) (by omega) hxl (by rw [← List.drop_drop]; exact HE2.out))
              have HKI := Aside0.mk (show (i : Int) + (m : Int) = ((i + m : Nat) : Int) by omega)
              clear cP hr3 hb3 hg3
              go_wp2_with fail
              go_roundw
              case rel => exact ⟨i + m, _, congrArg _ HKI.out, HA3.out⟩
              case measure => rw [HKI.out]; simp only [intOf, Int.toNat_natCast]; omega
            | some yl =>
              obtain ⟨y, l⟩ := yl
              rw [hx] at hm
              obtain ⟨rfl, hnx, rfl, rfl, hkr⟩ := hm
              have hE2 := HE.out
              rw [hx] at hE2
              simp only [] at hE2
              have hsf := enclL_suf (fun e k t _ => rdL_suf dstB e k [] t) hx
              have hlt2 := enclL_lt (fun e k t _ => rdL_le dstB e k [] t) hx
              have hsu := suf_drop (hsf.1.trans (List.drop_suffix i (L s)))
              rw [← L_size] at hsu
              have hsz1 := hsf.2
              rw [List.length_drop, ← L_size] at hlt2 hsz1
              have HO := Aside0.mk (fun o => HA1.out.moved (hbo o))
              have HE2 := Aside0.mk (And.intro hE2 (And.intro hsu (And.intro hlt2 hsz1)))
              have HMM := Aside0.mk (k26_mkM (w1.alloc (.cells #[.int .i64 y.f0, .string y.f1, .slice A1 n1 cc1] 26)) w.heap.size (fun j => wr.heap.size ≤ j) y (Kd.R_lower (Kd.R_alloc hkr _) HA.out.below.size))
              have HOKP := Aside0.mk (show ∀ j, wr.heap.size ≤ j → w.heap.size ≤ j ∧ some j ≠ (Value.slice A acc.length c).ownBlock from fun j hj => ⟨Nat.le_trans HA.out.below.size hj, fun he => by have := Kd.R_lt HA.out.row j he.symm; omega⟩)
              have HLL := Aside0.mk (show (acc.length + 1) * 48 ≤ 140737488355328 by have := HA.out.len; omega)
              clear hencl hx hE2 hsf hlt2 hsu hsz1 hkr hput
              go_wp2_with ((with_reducible refine gate_builtin (b := .append) (xs := #[.tmp 76, .tmp 78]) rfl ?_); at_builtin; refine Kd.R_append k26 (w0 := (w1.alloc (.cells #[.int .i64 y.f0, .string y.f1, .slice A1 n1 cc1] 26))) w.heap.size rfl (.tmp 76) (.tmp 78) 22 26 _ 48 rfl Tryd.underlying22 infoSP rfl (by decide) (by decide) (.slice A acc.length c) acc y [.int .i64 y.f0, .string y.f1, .slice A1 n1 cc1] (fun j => w.heap.size ≤ j) (fun j => wr.heap.size ≤ j) rfl (by rw [alloc_size]; rfl) HMM.out HOKP.out (fun j hj => Nat.le_trans (HO.out _).below.size hj) (HO.out _).row (Below.refl _ _) (HO.out _).below.size HLL.out ?_; intro v1 w3 hr3 hb3 hg3 _)
              obtain ⟨k1, k2, k3, k4⟩ := HE2.out
              have k5 := HS.out
              refine ⟨⟨s.size - l.length, acc ++ [y], rfl, (HO.out _).app hr3 hb3 hg3 (by omega) (by omega) (by omega) (by rw [k2]; exact k1)⟩, ?_⟩
              unfold toI
              simp only [intOf, Int.toNat_natCast]
              omega
          · have hc0 : ((((s[i]'hlt).toNat : Nat) : Int) == 42) = false := beq_eq_false_iff_ne.2 (by omega)
            have hc1 : ((((s[i]'hlt).toNat : Nat) : Int) == 93) = false := beq_eq_false_iff_ne.2 (by omega)
            have hc2 : ((((s[i]'hlt).toNat : Nat) : Int) == 92) = false := beq_eq_false_iff_ne.2 (by omega)
            clear h42 h93 h92 hesc
            go_wp2_with fail
            refine (hencl wr HA.out.below).mono ?_
            rintro x w1 ⟨hb1, c1, t1, A1, n1, cc1, nx, b, rfl, hm⟩
            have HA1 := Aside0.mk (HA.out.moved hb1)
            have r0 : ∀ o, (w1.alloc o).cell? ⟨w.heap.size, 0, none⟩ = some (.string s) := fun o => blk_cell (blk_alloc HA1.out.box o) 0
            have hbo : ∀ o, Below w1.heap.size w1 (w1.alloc o) := fun o => (Below.refl _ _).alloc (Nat.le_refl _) o
            cases hx : enclL dstB (fun e k l => rdL dstB e k [] l) e k ((L s).drop i) with
            | none =>
              rw [hx] at hm
              obtain rfl := hm
              have hPl := fun W => spanin_reader_plain.calls (s.size + 1) s (i : Int) _ W (plain_eq_ s i _ (by have := HS.out; omega) (Nat.lt_succ_self _))
              have hE2 := HE.out
              rw [hx] at hE2
              have htl := ticksL_le ((L s).drop i)
              rw [List.length_drop, ← L_size] at htl
              have hm1 : 1 ≤ max 1 (ticksL ((L s).drop i)) := by omega
              have hm2 : i + max 1 (ticksL ((L s).drop i)) ≤ s.size := by omega
              simp only [] at hE2
              generalize max 1 (ticksL ((L s).drop i)) = m at *
              have HE2 := Aside0.mk hE2
              have HO := Aside0.mk (fun o => HA1.out.moved (hbo o))
              clear htl hE2 hencl hx
              go_wp2_with fail
              refine (hPl _).mono ?_
              rintro x w2 ⟨rfl, hb2⟩
              have HA2 := Aside0.mk ((HO.out _).moved hb2)
              have r1 := blk_cell HA2.out.box 0
              have hxb : L (s.extract i (i + m)) = ((L s).drop i).take m := by rw [L_extract, show i + m - i = m from by omega]
              have hxz : (s.extract i (i + m)).size ≤ 1000000 := by rw [L_size, hxb, List.length_take, List.length_drop, ← L_size]; have := HS.out; omega
              have hxl : (((L s).drop i).take m).length ≤ i + m - i := by rw [List.length_take]; omega
              have cP := hput (s.extract i (i + m)) w2 _ _ _ HA2.out hxz
              have b1 : (i : Int) ≤ (i : Int) + (m : Int) := by omega
              have b2 : (i : Int) + (m : Int) ≤ (s.size : Int) := by omega
              have b3 : ((i : Int) + (m : Int)).toNat = i + m := by omega
              have hm3 : (m : Int) ≤ 1000000 := by have := HS.out; omega
              clear hPl r0 q0 hxz
              go_wp2_with fail
              refine cP.mono ?_
              rintro x w3 ⟨v1, rfl, hr3, hb3, hg3, _⟩
              rw [hxb] at hr3
              have HA3 := Aside0.mk (HA2.out.put hr3 hb3 hg3 (i' := i + m) (by omega) (by omega) hxl (by rw [← List.drop_drop]; exact HE2.out))
              have HKI := Aside0.mk (show (i : Int) + (m : Int) = ((i + m : Nat) : Int) by omega)
              clear cP hr3 hb3 hg3
              go_wp2_with fail
              go_roundw
              case rel => exact ⟨i + m, _, congrArg _ HKI.out, HA3.out⟩
              case measure => rw [HKI.out]; simp only [intOf, Int.toNat_natCast]; omega
            | some yl =>
              obtain ⟨y, l⟩ := yl
              rw [hx] at hm
              obtain ⟨rfl, hnx, rfl, rfl, hkr⟩ := hm
              have hE2 := HE.out
              rw [hx] at hE2
              simp only [] at hE2
              have hsf := enclL_suf (fun e k t _ => rdL_suf dstB e k [] t) hx
              have hlt2 := enclL_lt (fun e k t _ => rdL_le dstB e k [] t) hx
              have hsu := suf_drop (hsf.1.trans (List.drop_suffix i (L s)))
              rw [← L_size] at hsu
              have hsz1 := hsf.2
              rw [List.length_drop, ← L_size] at hlt2 hsz1
              have HO := Aside0.mk (fun o => HA1.out.moved (hbo o))
              have HE2 := Aside0.mk (And.intro hE2 (And.intro hsu (And.intro hlt2 hsz1)))
              have HMM := Aside0.mk (k26_mkM (w1.alloc (.cells #[.int .i64 y.f0, .string y.f1, .slice A1 n1 cc1] 26)) w.heap.size (fun j => wr.heap.size ≤ j) y (Kd.R_lower (Kd.R_alloc hkr _) HA.out.below.size))
              have HOKP := Aside0.mk (show ∀ j, wr.heap.size ≤ j → w.heap.size ≤ j ∧ some j ≠ (Value.slice A acc.length c).ownBlock from fun j hj => ⟨Nat.le_trans HA.out.below.size hj, fun he => by have := Kd.R_lt HA.out.row j he.symm; omega⟩)
              have HLL := Aside0.mk (show (acc.length + 1) * 48 ≤ 140737488355328 by have := HA.out.len; omega)
              clear hencl hx hE2 hsf hlt2 hsu hsz1 hkr hput
              go_wp2_with ((with_reducible refine gate_builtin (b := .append) (xs := #[.tmp 76, .tmp 78]) rfl ?_); at_builtin; refine Kd.R_append k26 (w0 := (w1.alloc (.cells #[.int .i64 y.f0, .string y.f1, .slice A1 n1 cc1] 26))) w.heap.size rfl (.tmp 76) (.tmp 78) 22 26 _ 48 rfl Tryd.underlying22 infoSP rfl (by decide) (by decide) (.slice A acc.length c) acc y [.int .i64 y.f0, .string y.f1, .slice A1 n1 cc1] (fun j => w.heap.size ≤ j) (fun j => wr.heap.size ≤ j) rfl (by rw [alloc_size]; rfl) HMM.out HOKP.out (fun j hj => Nat.le_trans (HO.out _).below.size hj) (HO.out _).row (Below.refl _ _) (HO.out _).below.size HLL.out ?_; intro v1 w3 hr3 hb3 hg3 _)
              obtain ⟨k1, k2, k3, k4⟩ := HE2.out
              have k5 := HS.out
              refine ⟨⟨s.size - l.length, acc ++ [y], rfl, (HO.out _).app hr3 hb3 hg3 (by omega) (by omega) (by omega) (by rw [k2]; exact k1)⟩, ?_⟩
              unfold toI
              simp only [intOf, Int.toNat_natCast]
              omega
          · have hc0 : ((((s[i]'hlt).toNat : Nat) : Int) == 42) = false := beq_eq_false_iff_ne.2 (by omega)
            have hc1 : ((((s[i]'hlt).toNat : Nat) : Int) == 93) = false := beq_eq_false_iff_ne.2 (by omega)
            have hc2 : ((((s[i]'hlt).toNat : Nat) : Int) == 92) = true := beq_iff_eq.2 (by omega)
            have hd1 : decide ((i : Int) + 1 < (s.size : Int)) = true := decide_eq_true (by omega)
            have hmk : markB (s[i + 1]'h1) = false := by
              cases hm : markB (s[i + 1]'h1) with
              | false => rfl
              | true => exact absurd ⟨h92, h1, hm⟩ hesc
            have hcE := fun W => utf_Escapes.calls 9 _ _ W (escapes_eq (s[i + 1]'h1) 0)
            rw [hmk] at hcE
            clear h92 hesc hmk
            go_wp2_with fail
            refine (hcE _).mono ?_
            rintro x wq ⟨rfl, hdr1⟩
            have HAq := Aside0.mk (HA.out.moved hdr1.below)
            clear HA
            have HA := HAq
            have q1 := blk_cell HA.out.box 0
            clear hcE q0 HAq
            go_wp2_with fail
            refine (hencl wq HA.out.below).mono ?_
            rintro x w1 ⟨hb1, c1, t1, A1, n1, cc1, nx, b, rfl, hm⟩
            have HA1 := Aside0.mk (HA.out.moved hb1)
            have r0 : ∀ o, (w1.alloc o).cell? ⟨w.heap.size, 0, none⟩ = some (.string s) := fun o => blk_cell (blk_alloc HA1.out.box o) 0
            have hbo : ∀ o, Below w1.heap.size w1 (w1.alloc o) := fun o => (Below.refl _ _).alloc (Nat.le_refl _) o
            cases hx : enclL dstB (fun e k l => rdL dstB e k [] l) e k ((L s).drop i) with
            | none =>
              rw [hx] at hm
              obtain rfl := hm
              have hPl := fun W => spanin_reader_plain.calls (s.size + 1) s (i : Int) _ W (plain_eq_ s i _ (by have := HS.out; omega) (Nat.lt_succ_self _))
              have hE2 := HE.out
              rw [hx] at hE2
              have htl := ticksL_le ((L s).drop i)
              rw [List.length_drop, ← L_size] at htl
              have hm1 : 1 ≤ max 1 (ticksL ((L s).drop i)) := by omega
              have hm2 : i + max 1 (ticksL ((L s).drop i)) ≤ s.size := by omega
              simp only [] at hE2
              generalize max 1 (ticksL ((L s).drop i)) = m at *
              have HE2 := Aside0.mk hE2
              have HO := Aside0.mk (fun o => HA1.out.moved (hbo o))
              clear htl hE2 hencl hx
              go_wp2_with fail
              refine (hPl _).mono ?_
              rintro x w2 ⟨rfl, hb2⟩
              have HA2 := Aside0.mk ((HO.out _).moved hb2)
              have r1 := blk_cell HA2.out.box 0
              have hxb : L (s.extract i (i + m)) = ((L s).drop i).take m := by rw [L_extract, show i + m - i = m from by omega]
              have hxz : (s.extract i (i + m)).size ≤ 1000000 := by rw [L_size, hxb, List.length_take, List.length_drop, ← L_size]; have := HS.out; omega
              have hxl : (((L s).drop i).take m).length ≤ i + m - i := by rw [List.length_take]; omega
              have cP := hput (s.extract i (i + m)) w2 _ _ _ HA2.out hxz
              have b1 : (i : Int) ≤ (i : Int) + (m : Int) := by omega
              have b2 : (i : Int) + (m : Int) ≤ (s.size : Int) := by omega
              have b3 : ((i : Int) + (m : Int)).toNat = i + m := by omega
              have hm3 : (m : Int) ≤ 1000000 := by have := HS.out; omega
              clear hPl r0 q1 hxz
              go_wp2_with fail
              refine cP.mono ?_
              rintro x w3 ⟨v1, rfl, hr3, hb3, hg3, _⟩
              rw [hxb] at hr3
              have HA3 := Aside0.mk (HA2.out.put hr3 hb3 hg3 (i' := i + m) (by omega) (by omega) hxl (by rw [← List.drop_drop]; exact HE2.out))
              have HKI := Aside0.mk (show (i : Int) + (m : Int) = ((i + m : Nat) : Int) by omega)
              clear cP hr3 hb3 hg3
              go_wp2_with fail
              go_roundw
              case rel => exact ⟨i + m, _, congrArg _ HKI.out, HA3.out⟩
              case measure => rw [HKI.out]; simp only [intOf, Int.toNat_natCast]; omega
            | some yl =>
              obtain ⟨y, l⟩ := yl
              rw [hx] at hm
              obtain ⟨rfl, hnx, rfl, rfl, hkr⟩ := hm
              have hE2 := HE.out
              rw [hx] at hE2
              simp only [] at hE2
              have hsf := enclL_suf (fun e k t _ => rdL_suf dstB e k [] t) hx
              have hlt2 := enclL_lt (fun e k t _ => rdL_le dstB e k [] t) hx
              have hsu := suf_drop (hsf.1.trans (List.drop_suffix i (L s)))
              rw [← L_size] at hsu
              have hsz1 := hsf.2
              rw [List.length_drop, ← L_size] at hlt2 hsz1
              have HO := Aside0.mk (fun o => HA1.out.moved (hbo o))
              have HE2 := Aside0.mk (And.intro hE2 (And.intro hsu (And.intro hlt2 hsz1)))
              have HMM := Aside0.mk (k26_mkM (w1.alloc (.cells #[.int .i64 y.f0, .string y.f1, .slice A1 n1 cc1] 26)) w.heap.size (fun j => wq.heap.size ≤ j) y (Kd.R_lower (Kd.R_alloc hkr _) HA.out.below.size))
              have HOKP := Aside0.mk (show ∀ j, wq.heap.size ≤ j → w.heap.size ≤ j ∧ some j ≠ (Value.slice A acc.length c).ownBlock from fun j hj => ⟨Nat.le_trans HA.out.below.size hj, fun he => by have := Kd.R_lt HA.out.row j he.symm; omega⟩)
              have HLL := Aside0.mk (show (acc.length + 1) * 48 ≤ 140737488355328 by have := HA.out.len; omega)
              clear hencl hx hE2 hsf hlt2 hsu hsz1 hkr hput
              go_wp2_with ((with_reducible refine gate_builtin (b := .append) (xs := #[.tmp 76, .tmp 78]) rfl ?_); at_builtin; refine Kd.R_append k26 (w0 := (w1.alloc (.cells #[.int .i64 y.f0, .string y.f1, .slice A1 n1 cc1] 26))) w.heap.size rfl (.tmp 76) (.tmp 78) 22 26 _ 48 rfl Tryd.underlying22 infoSP rfl (by decide) (by decide) (.slice A acc.length c) acc y [.int .i64 y.f0, .string y.f1, .slice A1 n1 cc1] (fun j => w.heap.size ≤ j) (fun j => wq.heap.size ≤ j) rfl (by rw [alloc_size]; rfl) HMM.out HOKP.out (fun j hj => Nat.le_trans (HO.out _).below.size hj) (HO.out _).row (Below.refl _ _) (HO.out _).below.size HLL.out ?_; intro v1 w3 hr3 hb3 hg3 _)
              obtain ⟨k1, k2, k3, k4⟩ := HE2.out
              have k5 := HS.out
              refine ⟨⟨s.size - l.length, acc ++ [y], rfl, (HO.out _).app hr3 hb3 hg3 (by omega) (by omega) (by omega) (by rw [k2]; exact k1)⟩, ?_⟩
              unfold toI
              simp only [intOf, Int.toNat_natCast]
              omega
    · have hd : decide ((i : Int) < (s.size : Int)) = false := decide_eq_false (by omega)
      have hS := HA.out.rd
      rw [show (L s).drop i = [] from List.drop_eq_nil_of_le (by rw [← L_size]; omega), rdL_nil] at hS
      have HE := Aside0.mk (show (acc, (L s).drop i) = rdL dstB e k [] ((L s).drop q) by rw [List.drop_eq_nil_of_le (by rw [← L_size]; omega : (L s).length ≤ i)]; exact hS)
      clear hS
      go_wp2_with fail
      refine bodyPost_ret (v := .tuple #[.slice A acc.length c, .int .i64 (i : Int)]) (by simp [results, Tryd.results43, go_sem]) rfl (HA.out.done HE.out)
/-- What is read from any place on. -/
theorem read_ok (s : ByteArray) (hs : s.size ≤ 1000000) : ∀ (d q : Nat), q + d = s.size → ∀ e k, ReadOk s (q : Int) e k (rdL dstB e k [] ((L s).drop q)) := by
  intro d
  induction d using Nat.strongRecOn with
  | ind d ih =>
    intro q hq e k W hT
    refine read_loop s q e k W hT hs (by omega) (fun i h1 h2 e' k' => ?_)
    have := ih (s.size - (i + 1)) (by omega) (i + 1) (by omega) e' k'
    rwa [show ((i + 1 : Nat) : Int) = (i : Int) + 1 by omega] at this
def spanin_reader_read.f (a0 : ByteArray) (a1 : Int) (e k : Bool) : Option (List Sp × Int) :=
  if a0.size ≤ 1000000 ∧ 0 ≤ a1 ∧ a1 ≤ (a0.size : Int) then some ((rdL dstB e k [] ((L a0).drop a1.toNat)).1, toI a0 (rdL dstB e k [] ((L a0).drop a1.toNat)).2) else none
theorem spanin_reader_read.calls (a0 : ByteArray) (a1 : Int) (a2 a3 : Bool) (r1 : List Sp) (r2 : Int) (w : World) (hT : Tabs w) (h : spanin_reader_read.f a0 a1 a2 a3 = some (r1, r2)) :
    Calls Tryd.prog 43 #[.agg #[.string a0], .int .i64 a1, .bool a2, .bool a3] w fun e w' => ∃ v0, e = .returned (.tuple #[v0, .int .i64 r2]) ∧ Kd.R k26 26 w' w.heap.size (fun _ => True) v0 r1 ∧ Below w.heap.size w w' := by
  unfold spanin_reader_read.f at h
  split at h
  · rename_i hc
    obtain ⟨h1, h2, h3⟩ := hc
    obtain ⟨rfl, rfl⟩ := Prod.mk.inj (Option.some.inj h)
    obtain ⟨q, rfl⟩ : ∃ q : Nat, a1 = (q : Int) := ⟨a1.toNat, by omega⟩
    rw [Int.toNat_natCast]
    refine (read_ok a0 h1 (a0.size - q) q (by omega) a2 a3 w hT).mono ?_
    rintro e w' ⟨v0, rfl, hr, hb⟩
    exact ⟨v0, rfl, Kd.R_mono hr (fun _ _ => trivial), hb⟩
  · cases h
end Go.Proofs.YtmfffpfenhgjbaaDoor.G
