/- The contract of script.Decode: the entries that bytes tell. -/
import Derived.Test.YtgiobiljneijiaaDoorGivenScript
set_option linter.unusedVariables false
set_option linter.unusedSimpArgs false
namespace Go.Proofs.YtgiobiljneijiaaDoor.G
open Go.Shelf Go.RowKit Go.Lib Go.Proofs Go.Proofs.YtgiobiljneijiaaDoor.Pure Go.Proofs.YtgiobiljneijiaaDoorW.PrintWords Go.Proofs.YtgiobiljneijiaaDoorW.PrintLast Go.Proofs.YtgiobiljneijiaaDoorW.PrintMore
attribute [local go_sem] max2_int min2_int max_two min_two
theorem alloc_size (w : World) (o : Obj) : (w.alloc o).heap.size = w.heap.size + 1 := by simp
/-- Entries in memory. -/
def kEnt : Kd Ent where
  sz := 8
  E := []
  K := fun _ x cs => cs = x.cells
  M := fun _ _ _ x cs => cs = x.cells
  K_len := fun h => by rw [h]; rfl
  K_one := fun h u hu => by
    rw [h] at hu
    simp only [Ent.cells, List.mem_cons, List.not_mem_nil, or_false] at hu
    rcases hu with rfl | rfl | rfl | rfl | rfl | rfl | rfl | rfl <;> rfl
  K_below := fun _ h => h
  K_of_M := fun h => h
  M_mono := fun _ h => h
  M_bound := fun h => h
  M_move := fun _ h => h
  M_lower := fun _ h => h
theorem infoE : (Tryd.prog.info? 31).map (fun i => (i.zero, i.size, i.bytes)) = some (some (.agg #[.int .i64 0, .int .i64 0, .int .i64 0, .string ⟨#[]⟩, .string ⟨#[]⟩, .string ⟨#[]⟩, .string ⟨#[]⟩, .string ⟨#[]⟩]), 8, 104) := by kernel_rfl
theorem R_off {W w1 : World} {g base : Nat} {ok : Nat → Prop} {v : Value} {xs : List Ent} {cells : Array Value} (h : Kd.R kEnt 31 W base ok v xs) (ho : Off g W w1) (hg : W.heap[g]? = some (.cells cells 37 (0, 0))) : Kd.R kEnt 31 w1 base ok v xs :=
  Kd.R_mono (Kd.R_keep (Kd.R_types h hg (fun q hq => by
    have : q = 31 := by simpa [kEnt] using hq
    subst this
    decide)) ⟨ho.size, fun i hi hne _ => ho.block i hi hne⟩ (fun k hk => hk.2)) (fun k hk => hk.1)
theorem Rd.cells_at {w : World} {g : Nat} {l : List UInt8} {o : Bool} (h : Rd w g l o) : ∃ cells, w.heap[g]? = some (.cells cells 37 (0, 0)) := by
  obtain ⟨A, c, h, _⟩ := h
  exact ⟨_, h⟩
/-- An append leaves the reader as it was. -/
theorem Rd.grown {w w' : World} {g base : Nat} {l : List UInt8} {o : Bool} {ok : Nat → Prop} {v : Value} {xs : List Ent} (h : Rd w g l o) (hr : Kd.R kEnt 31 w base ok v xs) (hb : base = g) (hg : w.grownBy w' v.ownBlock) : Rd w' g l o := by
  subst hb
  obtain ⟨cells, hc⟩ := h.cells_at
  have hne := Kd.R_ne hr hc (by decide)
  refine h.keep (fun k hk => hg.block k (by have := h.lt; omega) (fun e => ?_))
  have := Kd.R_base hr k e.symm
  have hk' : k = base := by omega
  subst hk'
  exact hne e
/-- The entries that bytes of a row tell. -/
def BytesAt (w : World) (A : Option Addr) (l : List UInt8) : Prop := ∀ j b, l[j]? = some b → ∃ ad, A = some ad ∧ ad.block < w.heap.size ∧ w.cell? (ad.add j) = some (.int .u8 (b.toNat : Int))
theorem decode_more (xs : List Ent) (k : UInt8) (t : List UInt8) (hk : ¬(k.toNat < 1 ∨ 3 < k.toNat)) : xs ++ decodeL (k :: t) = if entO k.toNat t = true then xs else (xs ++ [entV k.toNat t]) ++ decodeL (entR k.toNat t) := by
  have hs := ent_spec k.toNat t (by omega)
  by_cases ho : entO k.toNat t = true
  · rw [if_pos ho] at hs ⊢
    rw [decodeL_none k t hk hs, List.append_nil]
  · rw [if_neg ho] at hs ⊢
    rw [decodeL_some k t hk hs, List.append_assoc]
    rfl
theorem ent_le (k : Nat) (l : List UInt8) : (entR k l).length ≤ l.length := by
  unfold entR restR
  split
  · split
    · rw [List.length_drop, List.length_tail, List.length_tail]; omega
    · rw [List.length_tail, List.length_tail]; omega
  · split
    · rw [List.length_tail, List.length_tail]; omega
    · rw [List.length_tail, List.length_tail, List.length_tail, List.length_tail]; omega
set_option maxHeartbeats 8000000 in
set_option maxRecDepth 1000000 in
theorem decode_calls (w : World) (A : Option Addr) (c : Nat) (l : List UInt8) (hb : BytesAt w A l) (hl : l.length ≤ c) (hc : c ≤ 9223372036854775807) (hlen : l.length ≤ 140737488351232) :
    Calls Tryd.prog 7 #[.slice A l.length c] w fun e w' => ∃ v, e = .returned v ∧ Kd.R kEnt 31 w' w.heap.size (fun _ => True) v (decodeL (l.take 4096)) ∧ Below w.heap.size w w' := by
  obtain ⟨m, hm⟩ : ∃ m, (m = 4096 ∧ 4096 < l.length) ∨ (m = l.length ∧ l.length ≤ 4096) := by
    rcases Nat.lt_or_ge 4096 l.length with h | h
    · exact ⟨4096, Or.inl ⟨rfl, h⟩⟩
    · exact ⟨l.length, Or.inr ⟨rfl, h⟩⟩
  have hm1 : m ≤ l.length := by omega
  have hm2 : m ≤ 4096 := by omega
  have hm3 : l.take 4096 = l.take m := by
    rcases hm with ⟨rfl, _⟩ | ⟨rfl, h⟩
    · rfl
    · rw [List.take_of_length_le h, List.take_length]
  have hlm : (l.take m).length = m := by rw [List.length_take]; omega
  have hR : Rd (w.alloc (.cells #[.slice A m c, .bool false] 37)) w.heap.size (l.take m) false := by
    refine ⟨A, c, by rw [hlm]; exact blk_new w _, by rw [hlm]; omega, hc, fun j b hj => ?_⟩
    rw [List.getElem?_take] at hj
    split at hj
    · obtain ⟨ad, e, q, hcell⟩ := hb j b hj
      exact ⟨ad, e, q, ((Below.refl w.heap.size w).alloc (Nat.le_refl _) _).cell (p := ad.add j) (by rw [add_block]; exact q) |>.trans hcell⟩
    · cases hj
  have hmc : m ≤ c := by omega
  rw [hm3]
  have hBB : Below w.heap.size w (w.alloc (.cells #[.slice A m c, .bool false] 37)) := (Below.refl w.heap.size w).alloc (Nat.le_refl _) _
  generalize l.take m = q at hR hlm
  generalize l.length = n at *
  have hql : q.length ≤ 4096 := by omega
  have HR := Aside0.mk hR
  have HBB := Aside0.mk hBB
  clear hR hb hm3 hm1 hlm hBB
  have H0 : Aside0 (kEnt.R 31 (w.alloc (.cells #[.slice A m c, .bool false] 37)) w.heap.size (fun _ => True) (.slice none 0 0) []) := Aside0.mk (Kd.R_nil _ _ _ _ _)
  rcases hm with ⟨rfl, hm⟩ | ⟨rfl, hm⟩
  all_goals
    go_enter Tryd.func7, Tryd.ntmps7
    go_wp2_with fail
    go_loopg [4] (q.length + 1) (fun gk v4 wr => ∃ (r : List UInt8) (xs : List Ent), r.length < gk ∧ kEnt.R 31 wr w.heap.size (fun _ => True) v4 xs ∧ Rd wr w.heap.size r false ∧ xs ++ decodeL r = decodeL q ∧ xs.length + r.length ≤ 4096 ∧ Below w.heap.size w wr)
    case atStart => exact ⟨q, [], by omega, H0.out, HR.out, rfl, by simpa using hql, HBB.out⟩
    case round =>
      obtain ⟨r, xs, hg, hO, hRr, hS, hn, hB⟩ := hrel
      obtain ⟨g', rfl⟩ : ∃ g', gk = g' + 1 := ⟨gk - 1, by omega⟩
      clear HR HBB H0
      have hsz := hB.size
      obtain ⟨A4, c4, rfl⟩ := Kd.R_slice hO
      cases r with
      | nil =>
        rw [decodeL_nil, List.append_nil] at hS
        obtain ⟨A1, c1, h1, _⟩ := hRr
        have hc0 : wr.cell? ⟨w.heap.size, 0, none⟩ = some (.slice A1 0 c1) := blk_cell h1 0
        have HO := Aside0.mk hO
        have HS := Aside0.mk hS
        clear h1 hO hS
        go_wp2_with fail
        go_ret
        exact ⟨_, rfl, by rw [← HS.out]; exact HO.out, hB⟩
      | cons k t =>
        have hc0 : ∃ A1 c1, wr.cell? ⟨w.heap.size, 0, none⟩ = some (.slice A1 (t.length + 1) c1) := by
          obtain ⟨A1, c1, h1, _⟩ := hRr
          exact ⟨A1, c1, blk_cell h1 0⟩
        obtain ⟨A1, c1, hc0⟩ := hc0
        have hpos : decide (((t.length + 1 : Nat) : Int) > 0) = true := decide_eq_true (by omega)
        have k0 : (0 : Int) ≤ (k.toNat : Int) := Int.natCast_nonneg _
        have k1 : (k.toNat : Int) < 256 := byte_lt k
        have c1' := one_any _ _ _ _ hRr
        obtain ⟨cl, hcl⟩ := hRr.cells_at
        have HO := Aside0.mk hO
        have HC := Aside0.mk hcl
        clear hO hcl hRr
        by_cases hk : k.toNat < 1 ∨ 3 < k.toNat
        · rw [decodeL_odd k t hk] at hS
          have HS := Aside0.mk hS
          clear hS
          rcases hk with hk | hk
          · go_wp2_with fail
            refine c1'.mono ?_
            rintro e w1 ⟨rfl, ho1, hr1⟩
            have HO1 := Aside0.mk (R_off HO.out ho1 HC.out)
            have HB1 := Aside0.mk (hB.trans (ho1.below hsz))
            have HR1 := Aside0.mk hr1
            clear c1' ho1 hr1
            have e0 : (hdB (k :: t)) = k.toNat := rfl
            rw [e0]
            go_wp2_with fail
            go_roundg g'
            case measure => omega
            exact ⟨t, xs, by simp at hg; omega, HO1.out, HR1.out, HS.out, by simp at hn; omega, HB1.out⟩
          · go_wp2_with fail
            refine c1'.mono ?_
            rintro e w1 ⟨rfl, ho1, hr1⟩
            have HO1 := Aside0.mk (R_off HO.out ho1 HC.out)
            have HB1 := Aside0.mk (hB.trans (ho1.below hsz))
            have HR1 := Aside0.mk hr1
            clear c1' ho1 hr1
            have e0 : (hdB (k :: t)) = k.toNat := rfl
            rw [e0]
            go_wp2_with fail
            go_roundg g'
            case measure => omega
            exact ⟨t, xs, by simp at hg; omega, HO1.out, HR1.out, HS.out, by simp at hn; omega, HB1.out⟩
        · rw [decode_more xs k t hk] at hS
          have HS := Aside0.mk hS
          clear hS
          have hk3 : k.toNat = 1 ∨ k.toNat = 2 ∨ k.toNat = 3 := by omega
          have hent : ∀ W, Rd W w.heap.size t false → Calls Tryd.prog 10 #[.pointer (some ⟨w.heap.size, 0, none⟩), .int .i64 (k.toNat : Int)] W fun e w' => e = .returned (.agg (entV k.toNat t).cells.toArray) ∧ Off w.heap.size W w' ∧ Rd w' w.heap.size (entR k.toNat t) (entO k.toNat t) := by
            intro W hW
            rcases hk3 with h | h | h
            · rw [h]; exact entry_1 W _ t hW
            · rw [h]; exact entry_2 W _ t hW
            · rw [h]; exact entry_3 W _ t hW
          have hlr : (entR k.toNat t).length ≤ t.length := ent_le k.toNat t
          generalize hx : entV k.toNat t = x at hent HS
          obtain ⟨x0, x1, x2, x3, x4, x5, x6, x7⟩ := x
          change ∀ W, Rd W w.heap.size t false → Calls Tryd.prog 10 #[.pointer (some ⟨w.heap.size, 0, none⟩), .int .i64 (k.toNat : Int)] W fun e w' => e = .returned (.agg #[.int .i64 x0, .int .i64 x1, .int .i64 x2, .string x3, .string x4, .string x5, .string x6, .string x7]) ∧ Off w.heap.size W w' ∧ Rd w' w.heap.size (entR k.toNat t) (entO k.toNat t) at hent
          clear hx
          generalize entR k.toNat t = er at *
          generalize entO k.toNat t = eo at *
          have hk1 : decide ((k.toNat : Int) < 1) = false := decide_eq_false (by omega)
          have hk2 : decide ((k.toNat : Int) > 3) = false := decide_eq_false (by omega)
          clear hk hk3
          go_wp2_with fail
          refine c1'.mono ?_
          rintro e w1 ⟨rfl, ho1, hr1⟩
          have c2 := hent w1 hr1
          have HO1 := Aside0.mk (R_off HO.out ho1 HC.out)
          have HB1 := Aside0.mk (hB.trans (ho1.below hsz))
          obtain ⟨cl1, hcl1⟩ := hr1.cells_at
          have HC1 := Aside0.mk hcl1
          clear c1' ho1 hr1 hent hcl1
          have e0 : (hdB (k :: t)) = k.toNat := rfl
          rw [e0]
          go_wp2_with fail
          refine c2.mono ?_
          rintro e w2 ⟨rfl, ho2, hr2⟩
          have HO2 := Aside0.mk (R_off HO1.out ho2 HC1.out)
          have HB2 := Aside0.mk (HB1.out.trans (ho2.below (by have := HB1.out.size; omega)))
          have hov : ∀ ob, (w2.alloc ob).cell? ⟨w.heap.size, 1, none⟩ = some (.bool eo) := by
            intro ob
            obtain ⟨A2, c2, h2, _⟩ := hr2.alloc ob
            exact blk_cell h2 1
          have HR2 := Aside0.mk hr2
          clear c2 ho2 hr2
          cases eo with
          | true =>
            go_wp2_with fail
            go_ret
            exact ⟨_, rfl, by rw [← HS.out]; exact Kd.R_alloc HO2.out _, HB2.out.alloc HB2.out.size _⟩
          | false =>
            have HH := Aside0.mk HS.out
            rw [if_neg (by decide)] at HH
            clear HS
            have hB3 := Aside0.mk (HB2.out.alloc HB2.out.size (.cells #[.int .i64 x0, .int .i64 x1, .int .i64 x2, .string x3, .string x4, .string x5, .string x6, .string x7] 31))
            have hO3 := Aside0.mk (Kd.R_alloc HO2.out (.cells #[.int .i64 x0, .int .i64 x1, .int .i64 x2, .string x3, .string x4, .string x5, .string x6, .string x7] 31))
            go_wp2_with ((with_reducible refine gate_builtin (b := .append) (xs := #[.tmp 35, .tmp 37]) rfl ?_); at_builtin; refine Kd.R_append kEnt (w0 := w) w.heap.size rfl (.tmp 35) (.tmp 37) 23 31 _ 104 rfl Tryd.underlying23 infoE rfl (by decide) (by omega) (.slice A4 xs.length c4) xs ⟨x0, x1, x2, x3, x4, x5, x6, x7⟩ [.int .i64 x0, .int .i64 x1, .int .i64 x2, .string x3, .string x4, .string x5, .string x6, .string x7] (fun _ => True) (fun _ => False) rfl (by rw [alloc_size]; rfl) ?aP (fun _ hk => hk.elim) ?aF ?aO ?aB ?aS ?aL ?_; (case aP => exact rfl); (case aB => exact hB3.out); (case aF => exact (fun _ _ => trivial)); (case aO => exact hO3.out); (case aS => exact hB3.out.size); (case aL => omega); intro v1 w3 ho hb hg3 hat; have HO3 := Aside0.mk ho; have HB3 := Aside0.mk hb; have HR3 := Aside0.mk (Rd.grown (HR2.out.alloc _) hO3.out rfl hg3); clear ho hb hg3 hat)
            go_roundg g'
            case measure => omega
            exact ⟨er, _, by simp at hg; omega, HO3.out, HR3.out, HH.out, by simp at hn ⊢; omega, HB3.out⟩
end Go.Proofs.YtgiobiljneijiaaDoor.G
