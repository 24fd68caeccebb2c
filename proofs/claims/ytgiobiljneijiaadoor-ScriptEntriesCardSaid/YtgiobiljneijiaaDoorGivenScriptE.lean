/- The contract of the reference's Decode: the entries that bytes tell. -/
import Derived.Test.YtgiobiljneijiaaDoorGivenScriptR
set_option linter.unusedVariables false
set_option linter.unusedSimpArgs false
namespace Go.Proofs.YtgiobiljneijiaaDoor.G
open Go.Shelf Go.RowKit Go.Lib Go.Proofs Go.Proofs.YtgiobiljneijiaaDoor.Pure Go.Proofs.YtgiobiljneijiaaDoorW.PrintWords Go.Proofs.YtgiobiljneijiaaDoorW.PrintLast Go.Proofs.YtgiobiljneijiaaDoorW.PrintMore
theorem infoF : (Tryd.prog.info? 30).map (fun i => (i.zero, i.size, i.bytes)) = some (some (.agg #[.int .i64 0, .int .i64 0, .int .i64 0, .string ⟨#[]⟩, .string ⟨#[]⟩, .string ⟨#[]⟩, .string ⟨#[]⟩, .string ⟨#[]⟩]), 8, 104) := by kernel_rfl
theorem R_offR {W w1 : World} {g base : Nat} {ok : Nat → Prop} {v : Value} {xs : List Ent} {cells : Array Value} (h : Kd.R kEnt 30 W base ok v xs) (ho : Off g W w1) (hg : W.heap[g]? = some (.cells cells 42 (0, 0))) : Kd.R kEnt 30 w1 base ok v xs :=
  Kd.R_mono (Kd.R_keep (Kd.R_types h hg (fun q hq => by
    have : q = 30 := by simpa [kEnt] using hq
    subst this
    decide)) ⟨ho.size, fun i hi hne _ => ho.block i hi hne⟩ (fun k hk => hk.2)) (fun k hk => hk.1)
/-- An append leaves the reader as it was. -/
theorem RdS.grown {w w' : World} {g base : Nat} {s : ByteArray} {l : List UInt8} {o : Bool} {ok : Nat → Prop} {v : Value} {xs : List Ent} (h : RdS w g s l o) (hr : Kd.R kEnt 30 w base ok v xs) (hg : w.grownBy w' v.ownBlock) : RdS w' g s l o := by
  obtain ⟨cells, hc⟩ := h.cells_at
  have hne := Kd.R_ne hr hc (by decide)
  exact h.keep (hg.block g h.lt hne)
set_option maxHeartbeats 8000000 in
set_option maxRecDepth 1000000 in
theorem decodeR_calls (w : World) (s : ByteArray) (hlen : s.size ≤ 140737488351232) :
    Calls Tryd.prog 8 #[.string s] w fun e w' => ∃ v, e = .returned v ∧ Kd.R kEnt 30 w' w.heap.size (fun _ => True) v (decodeL ((L s).take 4096)) ∧ Below w.heap.size w w' := by
  obtain ⟨t, ht⟩ : ∃ t : ByteArray, (t = s.extract 0 4096 ∧ 4096 < s.size) ∨ (t = s ∧ s.size ≤ 4096) := by
    rcases Nat.lt_or_ge 4096 s.size with h | h
    · exact ⟨_, Or.inl ⟨rfl, h⟩⟩
    · exact ⟨s, Or.inr ⟨rfl, h⟩⟩
  have hts : (L s).take 4096 = L t ∧ t.size ≤ 4096 := by
    rcases ht with ⟨rfl, h⟩ | ⟨rfl, h⟩
    · rw [L_upto]; exact ⟨rfl, by rw [L_size, L_upto, List.length_take]; omega⟩
    · exact ⟨List.take_of_length_le (by rw [← L_size]; exact h), h⟩
  rw [hts.1]
  have hsz := hts.2
  have hR : RdS (w.alloc (.cells #[.string t, .int .i64 0, .bool false] 42)) w.heap.size t (L t) false := ⟨0, blk_new w _, Nat.zero_le _, rfl⟩
  have hBB : Below w.heap.size w (w.alloc (.cells #[.string t, .int .i64 0, .bool false] 42)) := (Below.refl w.heap.size w).alloc (Nat.le_refl _) _
  have hql : (L t).length ≤ 4096 := by rw [← L_size]; exact hsz
  have hsl : t.size = (L t).length := L_size t
  generalize hq : L t = q at *
  have HR := Aside0.mk hR
  have HBB := Aside0.mk hBB
  have HSL := Aside0.mk hsl
  have HQ := Aside0.mk hq
  clear hR hBB hts hsl hq
  have H0 : Aside0 (kEnt.R 30 (w.alloc (.cells #[.string t, .int .i64 0, .bool false] 42)) w.heap.size (fun _ => True) (.slice none 0 0) []) := Aside0.mk (Kd.R_nil _ _ _ _ _)
  rcases ht with ⟨ht, hm⟩ | ⟨ht, hm⟩
  have hz : decide ((s.size : Int) > 4096) = true := decide_eq_true (by omega)
  have hz2 : (4096 : Int) ≤ (s.size : Int) := by omega
  have ht' : s.extract 0 4096 = t := ht.symm
  clear ht
  rotate_left
  subst ht
  have hz : decide ((t.size : Int) > 4096) = false := decide_eq_false (by omega)
  rotate_left
  all_goals
    go_enter Tryd.func8, Tryd.ntmps8
    go_wp2_with fail
    go_loopg [4] (q.length + 1) (fun gk v4 wr => ∃ (r : List UInt8) (xs : List Ent), r.length < gk ∧ kEnt.R 30 wr w.heap.size (fun _ => True) v4 xs ∧ RdS wr w.heap.size t r false ∧ xs ++ decodeL r = decodeL q ∧ xs.length + r.length ≤ 4096 ∧ Below w.heap.size w wr)
    case atStart => exact ⟨q, [], by omega, H0.out, HR.out, rfl, by simpa using hql, HBB.out⟩
    case round =>
      obtain ⟨r, xs, hg, hO, hRr, hS, hn, hB⟩ := hrel
      have hsz4 := hsz
      clear hsz
      obtain ⟨g', rfl⟩ : ∃ g', gk = g' + 1 := ⟨gk - 1, by omega⟩
      clear HR HBB H0
      have hsz := hB.size
      obtain ⟨A4, c4, rfl⟩ := Kd.R_slice hO
      cases r with
      | nil =>
        rw [decodeL_nil, List.append_nil] at hS
        obtain ⟨i, h1, h2, h3⟩ := hRr
        have hc0 : wr.cell? ⟨w.heap.size, 1, none⟩ = some (.int .i64 (i : Int)) := blk_cell h1 1
        have hge : decide (i < t.size) = false := decide_eq_false (by
          have := congrArg List.length h3
          rw [List.length_drop, List.length_nil, ← L_size] at this
          omega)
        have HO := Aside0.mk hO
        have HS := Aside0.mk hS
        clear h1 hO hS
        go_wp2_with fail
        go_ret
        exact ⟨_, rfl, by rw [← HS.out]; exact HO.out, hB⟩
      | cons k tl =>
        have hc0 : ∃ i : Nat, wr.cell? ⟨w.heap.size, 1, none⟩ = some (.int .i64 (i : Int)) ∧ i < t.size := by
          obtain ⟨i, h1, h2, h3⟩ := hRr
          refine ⟨i, blk_cell h1 1, ?_⟩
          have := congrArg List.length h3
          rw [List.length_drop, List.length_cons, ← L_size] at this
          omega
        obtain ⟨i, hc0, hil⟩ := hc0
        have hge : decide (i < t.size) = true := decide_eq_true hil
        clear hil
        have k0 : (0 : Int) ≤ (k.toNat : Int) := Int.natCast_nonneg _
        have k1 : (k.toNat : Int) < 256 := byte_lt k
        have c1' := next_any _ _ t _ _ hsz4 hRr
        obtain ⟨cl, hcl⟩ := hRr.cells_at
        have HO := Aside0.mk hO
        have HC := Aside0.mk hcl
        clear hO hcl hRr
        by_cases hk : k.toNat < 1 ∨ 3 < k.toNat
        · rw [decodeL_odd k tl hk] at hS
          have HS := Aside0.mk hS
          clear hS
          rcases hk with hk | hk
          · go_wp2_with fail
            refine c1'.mono ?_
            rintro e w1 ⟨rfl, ho1, hr1⟩
            have HO1 := Aside0.mk (R_offR HO.out ho1 HC.out)
            have HB1 := Aside0.mk (hB.trans (ho1.below hsz))
            have HR1 := Aside0.mk hr1
            clear c1' ho1 hr1
            have e0 : (hdB (k :: tl)) = k.toNat := rfl
            rw [e0]
            go_wp2_with fail
            go_roundg g'
            case measure => omega
            exact ⟨tl, xs, by simp at hg; omega, HO1.out, HR1.out, HS.out, by simp at hn; omega, HB1.out⟩
          · go_wp2_with fail
            refine c1'.mono ?_
            rintro e w1 ⟨rfl, ho1, hr1⟩
            have HO1 := Aside0.mk (R_offR HO.out ho1 HC.out)
            have HB1 := Aside0.mk (hB.trans (ho1.below hsz))
            have HR1 := Aside0.mk hr1
            clear c1' ho1 hr1
            have e0 : (hdB (k :: tl)) = k.toNat := rfl
            rw [e0]
            go_wp2_with fail
            go_roundg g'
            case measure => omega
            exact ⟨tl, xs, by simp at hg; omega, HO1.out, HR1.out, HS.out, by simp at hn; omega, HB1.out⟩
        · rw [decode_more xs k tl hk] at hS
          have HS := Aside0.mk hS
          clear hS
          have hk3 : k.toNat = 1 ∨ k.toNat = 2 ∨ k.toNat = 3 := by omega
          have hent : ∀ W, RdS W w.heap.size t tl false → Calls Tryd.prog 12 #[.pointer (some ⟨w.heap.size, 0, none⟩), .int .i64 (k.toNat : Int)] W fun e w' => e = .returned (.agg (entV k.toNat tl).cells.toArray) ∧ Off w.heap.size W w' ∧ RdS w' w.heap.size t (entR k.toNat tl) (entO k.toNat tl) := by
            intro W hW
            rcases hk3 with h | h | h
            · rw [h]; exact entryR_1 W _ tl t hsz4 hW
            · rw [h]; exact entryR_2 W _ tl t hsz4 hW
            · rw [h]; exact entryR_3 W _ tl t hsz4 hW
          have hlr : (entR k.toNat tl).length ≤ tl.length := ent_le k.toNat tl
          generalize hx : entV k.toNat tl = x at hent HS
          obtain ⟨x0, x1, x2, x3, x4, x5, x6, x7⟩ := x
          change ∀ W, RdS W w.heap.size t tl false → Calls Tryd.prog 12 #[.pointer (some ⟨w.heap.size, 0, none⟩), .int .i64 (k.toNat : Int)] W fun e w' => e = .returned (.agg #[.int .i64 x0, .int .i64 x1, .int .i64 x2, .string x3, .string x4, .string x5, .string x6, .string x7]) ∧ Off w.heap.size W w' ∧ RdS w' w.heap.size t (entR k.toNat tl) (entO k.toNat tl) at hent
          clear hx
          generalize entR k.toNat tl = er at *
          generalize entO k.toNat tl = eo at *
          have hk1 : decide ((k.toNat : Int) < 1) = false := decide_eq_false (by omega)
          have hk2 : decide ((k.toNat : Int) > 3) = false := decide_eq_false (by omega)
          clear hk hk3
          go_wp2_with fail
          refine c1'.mono ?_
          rintro e w1 ⟨rfl, ho1, hr1⟩
          have c2 := hent w1 hr1
          have HO1 := Aside0.mk (R_offR HO.out ho1 HC.out)
          have HB1 := Aside0.mk (hB.trans (ho1.below hsz))
          obtain ⟨cl1, hcl1⟩ := hr1.cells_at
          have HC1 := Aside0.mk hcl1
          clear c1' ho1 hr1 hent hcl1
          have e0 : (hdB (k :: tl)) = k.toNat := rfl
          rw [e0]
          go_wp2_with fail
          refine c2.mono ?_
          rintro e w2 ⟨rfl, ho2, hr2⟩
          have HO2 := Aside0.mk (R_offR HO1.out ho2 HC1.out)
          have HB2 := Aside0.mk (HB1.out.trans (ho2.below (by have := HB1.out.size; omega)))
          have hov : ∀ ob, (w2.alloc ob).cell? ⟨w.heap.size, 2, none⟩ = some (.bool eo) := by
            intro ob
            obtain ⟨i2, h2, _⟩ := hr2.alloc ob
            exact blk_cell h2 2
          have HR2 := Aside0.mk hr2
          clear c2 ho2 hr2
          cases eo with
          | true =>
            go_wp2_with fail
            go_ret
            exact ⟨_, rfl, by rw [← HS.out]; exact Kd.R_alloc HO2.out _, HB2.out.alloc HB2.out.size _⟩
          | false =>
            have HH := Aside0.mk HS.out
            rw [if_neg (by decide)] at HH
            clear HS
            have hB3 := Aside0.mk (HB2.out.alloc HB2.out.size (.cells #[.int .i64 x0, .int .i64 x1, .int .i64 x2, .string x3, .string x4, .string x5, .string x6, .string x7] 30))
            have hO3 := Aside0.mk (Kd.R_alloc HO2.out (.cells #[.int .i64 x0, .int .i64 x1, .int .i64 x2, .string x3, .string x4, .string x5, .string x6, .string x7] 30))
            go_wp2_with ((with_reducible refine gate_builtin (b := .append) (xs := #[.tmp 37, .tmp 39]) rfl ?_); at_builtin; refine Kd.R_append kEnt (w0 := w) w.heap.size rfl (.tmp 37) (.tmp 39) 26 30 _ 104 rfl Tryd.underlying26 infoF rfl (by decide) (by omega) (.slice A4 xs.length c4) xs ⟨x0, x1, x2, x3, x4, x5, x6, x7⟩ [.int .i64 x0, .int .i64 x1, .int .i64 x2, .string x3, .string x4, .string x5, .string x6, .string x7] (fun _ => True) (fun _ => False) rfl (by rw [alloc_size]; rfl) ?aP (fun _ hk => hk.elim) ?aF ?aO ?aB ?aS ?aL ?_; (case aP => exact rfl); (case aB => exact hB3.out); (case aF => exact (fun _ _ => trivial)); (case aO => exact hO3.out); (case aS => exact hB3.out.size); (case aL => omega); intro v1 w3 ho hb hg3 hat; have HO3 := Aside0.mk ho; have HB3 := Aside0.mk hb; have HR3 := Aside0.mk (RdS.grown (HR2.out.alloc _) hO3.out hg3); clear ho hb hg3 hat)
            go_roundg g'
            case measure => omega
            exact ⟨er, _, by simp at hg; omega, HO3.out, HR3.out, HH.out, by simp at hn ⊢; omega, HB3.out⟩
end Go.Proofs.YtgiobiljneijiaaDoor.G
