/- The contract of the reference's text: text behind spans. -/
import Derived.Test.YtmfffpfenhgjbaaDoorGivenReadAll
import Derived.ArgAppend
set_option linter.unusedVariables false
set_option linter.unusedSimpArgs false
namespace Go.Proofs.YtmfffpfenhgjbaaDoor.G
open Go.RowKit Go.Lib Go.Proofs Go.Proofs.YtmfffpfenhgjbaaDoor.X Go.Proofs.YtmfffpfenhgjbaaDoor.Pure Go.Proofs.YtmfffpfenhgjbaaDoorW.PrintWords Go.Proofs.YtmfffpfenhgjbaaDoorW.PrintLast Go.Proofs.YtmfffpfenhgjbaaDoorW.PrintMore
/-- append onto a full slice of a row: always a new row. -/
theorem R_append_cut_step {P : Program} {ops : Array Oper} {o : Oper} {a : Act} {Q : Exit → Act → World → Prop} {Kc : Act → World → Prop} {α : Type} (d : Kd α) {w0 W : World} (base : Nat) (hw : Region.wanted o (yielded ops a.tmps) = true) (s x : Operand) (t e : TypeId) (z : Value) (bytes : Nat)
    (ho : o.op = .call { callee := .builtin .append, args := #[s, x], argTypes := #[t, t] })
    (ht : P.underlying t = some (.slice e)) (hinfo : (P.info? e).map (fun i => (i.zero, i.size, i.bytes)) = some (some z, d.sz, bytes)) (hz : z.cells.size = d.sz) (hs0 : 0 < d.sz) (hb0 : 0 < bytes)
    (g n cap m : Nat) (xs : List α) (hm : m ≤ xs.length) (p : α) (cs : List Value) (ok okp : Nat → Prop) (hs : a.eval s = .slice (some ⟨g, 0, none⟩) m m) (hx : a.eval x = .slice (some ⟨W.heap.size, 0, none⟩) 1 1) (hp : d.M W base okp p cs) (hokp : ∀ k, okp k → ok k ∧ k ≠ g) (hfresh : ∀ k, W.heap.size ≤ k → ok k)
    (HO : d.R e W base ok (.slice (some ⟨g, 0, none⟩) n cap) xs) (HB : Below base w0 W) (hbase : base ≤ W.heap.size) (hl : (m + 1) * bytes ≤ 140737488355328)
    (h : ∀ v1 w1, d.R e w1 base ok v1 (xs.take m ++ [p]) → Below base w0 w1 → W.grownBy w1 none → (∃ b, v1.ownBlock = some b ∧ W.heap.size ≤ b) → Kc (a.put o.dst v1) w1) :
    if Region.wanted o (yielded ops a.tmps) = true then Oper.wp P o a (W.alloc (.cells cs.toArray e)) Kc Q else Kc (a.put o.dst undef) (W.alloc (.cells cs.toArray e)) := by
  obtain ⟨h0, inner, hown, hr⟩ := Kd.R_take HO hm
  rw [List.length_take, Nat.min_eq_left hm] at hown
  obtain ⟨i0, hi, hzz⟩ := Option.map_eq_some_iff.1 hinfo
  simp only [Prod.mk.injEq] at hzz
  obtain ⟨hz0, hz1, hz2⟩ := hzz
  have hlen : m + 1 ≤ 140737488355328 := Nat.le_trans (Nat.le_mul_of_pos_right _ hb0) hl
  have hnews := (show ∀ j u, cs[j]? = some u → (W.alloc (.cells cs.toArray e)).cell? ((⟨W.heap.size, 0, none⟩ : Addr).add j) = some u by
    simpa using World.news_of_block (cs := cs.toArray) (t := e) (fr := (0, 0)) (heap_alloc_new W (.cells cs.toArray e)))
  have hcl := d.K_len (d.K_of_M hp)
  obtain ⟨v1, w1, hrun, hown1, hg1⟩ := run_append_arg_grows (P := P) (W.alloc (.cells cs.toArray e)) t o.type e i0 z d.sz bytes ht hi hz0 hz1 hz2 hz hs0 ⟨g, 0, none⟩ m m inner hown.1 ((hown.alloc _).cells rfl)
    ⟨W.heap.size, 0, none⟩ 1 1 cs (by rw [hcl]; simp) hnews (Nat.lt_succ_self _) (by simp only [maxLen]; omega) hl
  have hg : W.grownBy w1 none := World.grownBy.trans (World.grownBy_alloc W _ _) hg1
  have hnew : ∃ b, v1.ownBlock = some b ∧ W.heap.size ≤ b := by
    rcases hown1.2 with ⟨_, h⟩ | ⟨b, cp, cur, rfl, hb, _⟩
    · omega
    · refine ⟨b, rfl, ?_⟩
      have hz : (W.alloc (.cells cs.toArray e)).heap.size = W.heap.size + 1 := by simp
      omega
  rw [if_pos hw]
  unfold Oper.wp execOp
  simp only [ho, resolve, invoke, builtin, Sem.run_bind, Sem.run_pure, Result.andThen_ok, List.map_toArray, List.map_cons, List.map_nil, hs, hx, hrun]
  refine h v1 w1 ?_ ((HB.alloc hbase _).grown hg1 (by simp; omega) (fun k hk => by cases hk)) hg hnew
  have hown2 : w1.ownsRow base e d.sz v1 (m + 1) (inner ++ cs) := own_weaken hown1 (by simp; omega)
  have hR := Kd.R_appended (d := d) (v := .slice (some ⟨g, 0, none⟩) m cap) (xs := xs.take m) (p := p) (w1 := w1) (v1 := v1) (inner := inner) (cs := cs) (okp := okp) h0 hr hp (fun k hk => ⟨(hokp k hk).1, fun he => (hokp k hk).2 (by simpa [Value.ownBlock] using he)⟩) hfresh (by rw [List.length_take, Nat.min_eq_left hm]; exact hown2) ⟨hg.os, hg.tape, hg.output, hg.size, fun k hk _ => hg.block k hk (by simp)⟩ (.inr hnew)
  exact hR
set_option maxHeartbeats 8000000 in
set_option maxRecDepth 1000000 in
theorem text_old (base : Nat) (ok : Nat → Prop) (v : Value) (xs : List Sp) (s : ByteArray) (w : World) (hb : base ≤ w.heap.size) (hok : ∀ k, w.heap.size ≤ k → ok k)
    (HO : Kd.R k26 26 w base ok v xs) (hl : xs.length ≤ 1000000000) (x : Sp) (hx : xs.getLast? = some x) (h1 : x.f0 = 1) (hs : x.f1.size + s.size ≤ 140737488351232) :
    Calls Tryd.prog 68 #[v, .string s] w fun e w' => ∃ v1, e = .returned v1 ∧ Kd.R k26 26 w' base ok v1 (putL xs (L s)) ∧ Below base w w' ∧ w.grownBy w' v.ownBlock ∧ Moved w w' v v1 := by
  rw [putL_old xs s x hx h1]
  have h0 : 0 < xs.length := by cases xs with | nil => cases hx | cons a t => simp
  obtain ⟨g, cap, rfl, hbg, hgl, cells, hcell⟩ := Kd.R_form HO h0
  have hget : xs.getD (((xs.length - 1 : Nat) : Int)).toNat z26 = x := by
    rw [Int.toNat_natCast, List.getD_eq_getElem?_getD, ← List.getLast?_eq_getElem?, hx]; rfl
  obtain ⟨cs, hcl, hcm, hcc, hfz⟩ := Kd.R_elem HO z26 ((xs.length - 1 : Nat) : Int) (by omega) (by omega)
  rw [hget] at hcm
  obtain ⟨v2, rfl, hr2⟩ := k26_openM hcm
  obtain ⟨A2, c2, rfl⟩ := Kd.R_slice hr2
  have y0 := hcc 0 _ rfl
  have y1 := hcc 1 _ rfl
  have y2 := hcc 2 _ rfl
  rw [Int.toNat_natCast] at y0 y1 y2
  change w.cell? ⟨g, (xs.length - 1) * 3, none⟩ = _ at y0
  change w.cell? ⟨g, (xs.length - 1) * 3 + 1, none⟩ = _ at y1
  change w.cell? ⟨g, (xs.length - 1) * 3 + 2, none⟩ = _ at y2
  have HR := Aside0.mk HO
  have HR2 := Aside0.mk hr2
  have hw1 : IntKind.i64.wrap ((xs.length : Int) - 1) = ((xs.length - 1 : Nat) : Int) := by rw [IntWalk.i64_in _ (by omega)]; omega
  have d1 : decide ((xs.length : Int) > 0) = true := decide_eq_true (by omega)
  have i1 : (((xs.length - 1 : Nat) : Int) < (xs.length : Int)) = True := eq_true (by omega)
  have i0 : ((0 : Int) ≤ ((xs.length - 1 : Nat) : Int)) = True := eq_true (by omega)
  have I1 := Aside0.mk (show ((xs.length - 1 : Nat) : Int) < (xs.length : Int) by omega)
  have a1 : (Addr.mk g 0 none).add ((xs.length - 1) * 3) = ⟨g, (xs.length - 1) * 3, none⟩ := Go.Proofs.YtmfffpfenhgjbaaDoorW.PrintWords.add_plain _ _
  have hcap : xs.length ≤ cap := by
    obtain ⟨A', c', he, hle, _⟩ := Kd.R_reads HO
    injection he with _ _ he
    omega
  have e1 : (xs.length ≤ cap + 1) = True := eq_true (by omega)
  have e2 : (xs.length ≤ xs.length - 1 + 1) = True := eq_true (by omega)
  have HOK := Aside0.mk hok
  obtain ⟨f0, f1, f2⟩ := x
  dsimp only at h1 hs y0 y1 y2 HR2
  subst h1
  generalize f2.length = n2 at *
  clear hx HO hcc hcm hr2 hget hcl hcell hfz hok
  go_enter Tryd.func68, Tryd.ntmps68
  go_wp2_with fail
  refine start_ (n := 12) (S := fun _ => True) (ds := []) #[false, false, false, false, false, false, false, false, false, false, false, false] (by kernel_rfl) rfl rfl trivial (fun hHeld => ?_)
  have f0 := blk_cell (blk_drew (blk_new w (.cells #[.int .i64 1, .string (f1 ++ s), .slice A2 n2 c2] 26))) 0
  have f1_ := blk_cell (blk_drew (blk_new w (.cells #[.int .i64 1, .string (f1 ++ s), .slice A2 n2 c2] 26))) 1
  have f2_ := blk_cell (blk_drew (blk_new w (.cells #[.int .i64 1, .string (f1 ++ s), .slice A2 n2 c2] 26))) 2
  have HB1 := Aside0.mk (below_drew1 (below_alloc (Below.refl w.heap.size w) (.cells #[.int .i64 1, .string (f1 ++ s), .slice A2 n2 c2] 26)))
  have HG1 := Aside0.mk (show w.grownBy (w.alloc (.cells #[.int .i64 1, .string (f1 ++ s), .slice A2 n2 c2] 26)).drew none from
    ⟨(World.grownBy_alloc w (.cells #[.int .i64 1, .string (f1 ++ s), .slice A2 n2 c2] 26) none).os, (World.grownBy_alloc w (.cells #[.int .i64 1, .string (f1 ++ s), .slice A2 n2 c2] 26) none).tape, (World.grownBy_alloc w (.cells #[.int .i64 1, .string (f1 ++ s), .slice A2 n2 c2] 26) none).output, (World.grownBy_alloc w (.cells #[.int .i64 1, .string (f1 ++ s), .slice A2 n2 c2] 26) none).size, (World.grownBy_alloc w (.cells #[.int .i64 1, .string (f1 ++ s), .slice A2 n2 c2] 26) none).block⟩)
  generalize (w.alloc (.cells #[.int .i64 1, .string (f1 ++ s), .slice A2 n2 c2] 26)).drew = W1 at f0 f1_ f2_ HB1 HG1 ⊢
  refine pure_ (i := 0) (N := some 30) (v := ?_) (a' := ?_) #[true, false, false, false, false, false, false, false, false, false, false, false] rfl rfl (by kernel_rfl) (fun _ _ _ h => h) (Or.inl ⟨by rfl, ?_⟩) ?_ ?_
  rotate_left
  · intro w'; go_simp; with_reducible rfl
  rotate_left
  · simp only [Act.put, List.setIfInBounds_toArray, List.set_cons_zero, List.set_cons_succ, i64_w, i32_w]; rfl
  refine pure_ (i := 1) (N := some 31) (v := ?_) (a' := ?_) #[true, true, false, false, false, false, false, false, false, false, false, false] rfl rfl (by kernel_rfl) (fun _ _ _ h => h) (Or.inl ⟨by rfl, ?_⟩) ?_ ?_
  rotate_left
  · intro w'; go_simp; with_reducible rfl
  rotate_left
  · simp only [Act.put, List.setIfInBounds_toArray, List.set_cons_zero, List.set_cons_succ, i64_w, i32_w]; rfl
  refine pure_ (i := 2) (N := some 32) (v := ?_) (a' := ?_) #[true, true, true, false, false, false, false, false, false, false, false, false] rfl rfl (by kernel_rfl) (fun _ _ _ h => h) (Or.inl ⟨by rfl, ?_⟩) ?_ ?_
  rotate_left
  · intro w'; go_simp; with_reducible rfl
  rotate_left
  · simp only [Act.put, List.setIfInBounds_toArray, List.set_cons_zero, List.set_cons_succ, i64_w, i32_w]; rfl
  refine pure_ (i := 3) (N := some 33) (v := ?_) (a' := ?_) #[true, true, true, true, false, false, false, false, false, false, false, false] rfl rfl (by kernel_rfl) (fun _ _ _ h => h) (Or.inl ⟨by rfl, ?_⟩) ?_ ?_
  rotate_left
  · intro w'; go_simp; with_reducible rfl
  rotate_left
  · simp only [Act.put, List.setIfInBounds_toArray, List.set_cons_zero, List.set_cons_succ, i64_w, i32_w]; rfl
  refine pure_ (i := 4) (N := some 34) (v := ?_) (a' := ?_) #[true, true, true, true, true, false, false, false, false, false, false, false] rfl rfl (by kernel_rfl) (fun _ _ _ h => h) (Or.inl ⟨by rfl, ?_⟩) ?_ ?_
  rotate_left
  · intro w'; go_simp; with_reducible rfl
  rotate_left
  · simp only [Act.put, List.setIfInBounds_toArray, List.set_cons_zero, List.set_cons_succ, i64_w, i32_w]; rfl
  refine pure_ (i := 5) (N := some 35) (v := ?_) (a' := ?_) #[true, true, true, true, true, true, false, false, false, false, false, false] rfl rfl (by kernel_rfl) (fun _ _ _ h => h) (Or.inl ⟨by rfl, ?_⟩) ?_ ?_
  rotate_left
  · intro w'; go_simp; with_reducible rfl
  rotate_left
  · simp only [Act.put, List.setIfInBounds_toArray, List.set_cons_zero, List.set_cons_succ, i64_w, i32_w]; rfl
  refine pure_ (i := 6) (N := some 36) (v := ?_) (a' := ?_) #[true, true, true, true, true, true, true, false, false, false, false, false] rfl rfl (by kernel_rfl) (fun _ _ _ h => h) (Or.inl ⟨by rfl, ?_⟩) ?_ ?_
  rotate_left
  · intro w'; go_simp; with_reducible rfl
  rotate_left
  · simp only [Act.put, List.setIfInBounds_toArray, List.set_cons_zero, List.set_cons_succ, i64_w, i32_w]; rfl
  refine pure_ (i := 7) (N := some 37) (v := ?_) (a' := ?_) #[true, true, true, true, true, true, true, true, false, false, false, false] rfl rfl (by kernel_rfl) (fun _ _ _ h => h) (Or.inl ⟨by rfl, ?_⟩) ?_ ?_
  rotate_left
  · intro w'; go_simp; with_reducible rfl
  rotate_left
  · simp only [Act.put, List.setIfInBounds_toArray, List.set_cons_zero, List.set_cons_succ, i64_w, i32_w]; rfl
  refine one_ (i := 8) (N := some 38) #[true, true, true, true, true, true, true, true, true, false, false, false] rfl rfl (by kernel_rfl) (by decide) (fun K hK => ?_)
  refine event_step (v := .agg #[.int .i64 1, .string (f1 ++ s), .slice A2 n2 c2]) (w1 := W1) rfl (by first | (go_simp; done) | (go_simp; rfl)) ?_
  refine hK.out _ _ trivial (fun hHeld => ?_)
  clear hK K
  refine norm_ (a' := ?_) ?_ ?_
  rotate_left
  · simp only [Act.put, List.setIfInBounds_toArray, List.set_cons_zero, List.set_cons_succ, i64_w, i32_w]; rfl
  refine one_ (i := 9) (N := some 39) #[true, true, true, true, true, true, true, true, true, true, false, false] rfl rfl (by kernel_rfl) (by decide) (fun K hK => ?_)
  refine event_step (v := .slice (some ⟨W1.heap.size, 0, none⟩) 1 1) (w1 := W1.alloc (.cells #[.int .i64 1, .string (f1 ++ s), .slice A2 n2 c2] 26)) rfl (by first | (go_simp; done) | (go_simp; rfl)) ?_
  refine hK.out _ _ trivial (fun hHeld => ?_)
  clear hK K
  refine norm_ (a' := ?_) ?_ ?_
  rotate_left
  · simp only [Act.put, List.setIfInBounds_toArray, List.set_cons_zero, List.set_cons_succ, i64_w, i32_w]; rfl
  refine one_ (i := 10) (N := some 40) #[true, true, true, true, true, true, true, true, true, true, true, false] rfl rfl (by kernel_rfl) (by decide) (fun K hK => ?_)
  have HM := Aside0.mk (k26_mkM W1 base (fun k => ok k ∧ k ≠ g) ⟨1, f1 ++ s, f2⟩ (Kd.R_below HR2.out HB1.out))
  have HR1 := Aside0.mk (Kd.R_below HR.out HB1.out)
  have HL := Aside0.mk (show ((xs.length - 1) + 1) * 48 ≤ 140737488355328 by omega)
  have hz1 := HB1.out.size
  refine R_append_cut_step k26 (w0 := w) base rfl (.tmp 37) (.tmp 39) 22 26 _ 48 rfl Tryd.underlying22 infoSP rfl (by decide) (by decide) g xs.length cap (xs.length - 1) xs (Nat.sub_le _ _) ⟨1, f1 ++ s, f2⟩ [.int .i64 1, .string (f1 ++ s), .slice A2 n2 c2] ok (fun k => ok k ∧ k ≠ g) rfl rfl HM.out (fun _ hk => hk) (fun k hk => HOK.out k (Nat.le_trans hz1 hk)) HR1.out (Below.mono HB1.out hb) (Nat.le_trans hb hz1) HL.out ?_
  intro v1 w1 HR2_ hb2 hg2 hat2
  refine hK.out _ _ trivial (fun hHeld => ?_)
  clear hK K
  refine norm_ (a' := ?_) ?_ ?_
  rotate_left
  · simp only [Act.put, List.setIfInBounds_toArray, List.set_cons_zero, List.set_cons_succ, i64_w, i32_w]; rfl
  refine pure_ (i := 11) (N := some 4) (v := ?_) (a' := ?_) #[true, true, true, true, true, true, true, true, true, true, true, true] rfl rfl (by kernel_rfl) (fun _ _ _ h => h) (Or.inl ⟨by rfl, ?_⟩) ?_ ?_
  rotate_left
  · intro w'; go_simp; with_reducible rfl
  rotate_left
  · simp only [Act.put, List.setIfInBounds_toArray, List.set_cons_zero, List.set_cons_succ, i64_w, i32_w]; rfl
  refine done_ (by kernel_rfl) ?_
  go_wp2_with fail
  go_ret
  refine ⟨v1, rfl, ?_, hb2, ?_, ?_⟩
  · rw [List.set_eq_take_append_cons_drop, if_pos (by omega), List.drop_eq_nil_of_le (by omega)]
    exact HR2_
  · have hg := World.grownBy.trans HG1.out hg2
    exact ⟨hg.os, hg.tape, hg.output, hg.size, fun k hk _ => hg.block k hk (by simp)⟩
  · obtain ⟨b, hbb, hbl⟩ := hat2
    exact .inr ⟨b, hbb, Nat.le_trans hz1 hbl⟩
set_option maxHeartbeats 8000000 in
set_option maxRecDepth 1000000 in
theorem text_new (base : Nat) (ok : Nat → Prop) (v : Value) (xs : List Sp) (s : ByteArray) (w : World) (hb : base ≤ w.heap.size) (hok : ∀ k, w.heap.size ≤ k → ok k)
    (HO : Kd.R k26 26 w base ok v xs) (hl : xs.length ≤ 1000000000) (hx : ∀ x, xs.getLast? = some x → x.f0 ≠ 1) :
    Calls Tryd.prog 68 #[v, .string s] w fun e w' => ∃ v1, e = .returned v1 ∧ Kd.R k26 26 w' base ok v1 (putL xs (L s)) ∧ Below base w w' ∧ w.grownBy w' v.ownBlock ∧ Moved w w' v v1 := by
  rw [putL_new xs s hx]
  have hm : k26.M w base (fun _ => False) ⟨1, s, []⟩ [.int .i64 1, .string s, .slice none 0 0] := k26_mkM w base _ ⟨1, s, []⟩ (Kd.R_nil _ _ _ _ _)
  have HM := Aside0.mk hm
  have HOK := Aside0.mk hok
  have HBB := Aside0.mk hb
  have HL := Aside0.mk (show (xs.length + 1) * 48 ≤ 140737488355328 by omega)
  clear hm hok hb
  rcases Nat.eq_zero_or_pos xs.length with h0 | h0
  · obtain rfl := List.eq_nil_of_length_eq_zero h0
    obtain ⟨A, c, rfl⟩ := Kd.R_slice HO
    simp only [List.length_nil] at HO ⊢
    have HR := Aside0.mk HO
    have hw1 : IntKind.i64.wrap ((0 : Int) - 1) = -1 := IntWalk.i64_in _ (by omega)
    clear hx HO h0
    go_enter Tryd.func68, Tryd.ntmps68
    go_wp2_with ((with_reducible refine gate_builtin (b := .append) (xs := #[.tmp 41, .tmp 44]) rfl ?_); at_builtin; refine Kd.R_append k26 (w0 := w) base rfl (.tmp 41) (.tmp 44) 22 26 _ 48 rfl Tryd.underlying22 infoSP rfl (by decide) (by decide) (.slice A 0 c) [] ⟨1, s, []⟩ [.int .i64 1, .string s, .slice none 0 0] ok (fun _ => False) rfl rfl HM.out (fun _ hk => hk.elim) HOK.out HR.out (Below.refl _ _) HBB.out HL.out ?_; intro v1 w1 HR1 hb1 hg1 hat1)
    go_ret
    exact ⟨v1, rfl, HR1, hb1, hg1, hat1⟩
  · obtain ⟨g, cap, rfl, hbg, hgl, cells, hcell⟩ := Kd.R_form HO h0
    obtain ⟨x, hlast⟩ : ∃ x, xs.getLast? = some x := ⟨_, List.getLast?_eq_some_getLast (List.length_pos_iff.1 h0)⟩
    have hne := hx x hlast
    have hget : xs.getD (((xs.length - 1 : Nat) : Int)).toNat z26 = x := by
      rw [Int.toNat_natCast, List.getD_eq_getElem?_getD, ← List.getLast?_eq_getElem?, hlast]; rfl
    obtain ⟨cs, hcl, hcm, hcc, _⟩ := Kd.R_elem HO z26 ((xs.length - 1 : Nat) : Int) (by omega) (by omega)
    rw [hget] at hcm
    obtain ⟨v2, rfl, hr2⟩ := k26_openM hcm
    have y0 := hcc 0 _ rfl
    rw [Int.toNat_natCast] at y0
    change w.cell? ⟨g, (xs.length - 1) * 3, none⟩ = _ at y0
    have HR := Aside0.mk HO
    have hw1 : IntKind.i64.wrap ((xs.length : Int) - 1) = ((xs.length - 1 : Nat) : Int) := by rw [IntWalk.i64_in _ (by omega)]; omega
    have e1 : (x.f0 == 1) = false := beq_eq_false_iff_ne.2 hne
    have d1 : decide (((xs.length - 1 : Nat) : Int) ≥ 0) = true := decide_eq_true (by omega)
    have i1 : (((xs.length - 1 : Nat) : Int) < (xs.length : Int)) = True := eq_true (by omega)
    have i0 : ((0 : Int) ≤ ((xs.length - 1 : Nat) : Int)) = True := eq_true (by omega)
    have a1 : (Addr.mk g 0 none).add ((xs.length - 1) * 3) = ⟨g, (xs.length - 1) * 3, none⟩ := Go.Proofs.YtmfffpfenhgjbaaDoorW.PrintWords.add_plain _ _
    clear hx HO hcc hcm hr2 hne hlast hget hcl hcell
    go_enter Tryd.func68, Tryd.ntmps68
    go_wp2_with ((with_reducible refine gate_builtin (b := .append) (xs := #[.tmp 41, .tmp 44]) rfl ?_); at_builtin; refine Kd.R_append k26 (w0 := w) base rfl (.tmp 41) (.tmp 44) 22 26 _ 48 rfl Tryd.underlying22 infoSP rfl (by decide) (by decide) (.slice (some ⟨g, 0, none⟩) xs.length cap) xs ⟨1, s, []⟩ [.int .i64 1, .string s, .slice none 0 0] ok (fun _ => False) rfl rfl HM.out (fun _ hk => hk.elim) HOK.out HR.out (Below.refl _ _) HBB.out HL.out ?_; intro v1 w1 HR1 hb1 hg1 hat1)
    go_ret
    exact ⟨v1, rfl, HR1, hb1, hg1, hat1⟩
/-- The reference's text. -/
theorem text_calls (base : Nat) (ok : Nat → Prop) (v : Value) (xs : List Sp) (s : ByteArray) (w : World) (hb : base ≤ w.heap.size) (hok : ∀ k, w.heap.size ≤ k → ok k)
    (HO : Kd.R k26 26 w base ok v xs) (hl : xs.length ≤ 1000000000) (hs : ∀ x, xs.getLast? = some x → x.f1.size + s.size ≤ 140737488351232) :
    Calls Tryd.prog 68 #[v, .string s] w fun e w' => ∃ v1, e = .returned v1 ∧ Kd.R k26 26 w' base ok v1 (putL xs (L s)) ∧ Below base w w' ∧ w.grownBy w' v.ownBlock ∧ Moved w w' v v1 := by
  cases hx : xs.getLast? with
  | none => exact text_new base ok v xs s w hb hok HO hl (fun x h => by rw [hx] at h; cases h)
  | some x =>
    by_cases h1 : x.f0 = 1
    · exact text_old base ok v xs s w hb hok HO hl x hx h1 (hs x hx)
    · exact text_new base ok v xs s w hb hok HO hl (fun y h => by rw [hx] at h; injection h with h; subst h; exact h1)
end Go.Proofs.YtmfffpfenhgjbaaDoor.G
