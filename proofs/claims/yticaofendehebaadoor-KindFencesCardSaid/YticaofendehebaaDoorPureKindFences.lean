/- The law KindFences, as a statement of bytes. -/
import Derived.Test.YticaofendehebaaDoorPAll
import Derived.Test.YticaofendehebaaDoorX10
set_option linter.unusedSimpArgs false
set_option linter.unusedVariables false
namespace Go.Proofs.YticaofendehebaaDoor.Pure
open Go.RowKit Go.Lib Go.Proofs.YticaofendehebaaDoor.X Go.Proofs.YticaofendehebaaDoor.G Go.Proofs.YticaofendehebaaDoorW.PrintWords Go.Proofs.YticaofendehebaaDoorW.PrintLast Go.Proofs.YticaofendehebaaDoorW.PrintMore
theorem rep_trim (m : Nat) : trim (List.replicate (m + 1) 96) ≠ [] := trim_some (b := 96) (by rw [List.replicate_succ]; exact List.mem_cons_self) (by decide)
theorem rep_headN (m : Nat) (t : List UInt8) (h : ∀ b, t[0]? = some b → b ≠ 35) : headN (List.replicate m 96 ++ t) = 0 := by
  have r : run (List.replicate m 96 ++ t) 35 = 0 := run_zero (fun x hx q => by
    have hx2 : x = 35 := (bN x 35).1 q
    cases m with
    | zero => rw [List.replicate_zero, List.nil_append] at hx; exact h x hx hx2
    | succ m => rw [List.replicate_succ, List.cons_append, List.getElem?_cons_zero] at hx; rw [hx2] at hx; cases hx)
  unfold headN
  rw [r]
  split <;> rfl
theorem rep_run45 (m : Nat) (t : List UInt8) (h : ∀ b, t[0]? = some b → b ≠ 45) : run (List.replicate m 96 ++ t) 45 = 0 := run_zero (fun x hx q => by
  have hx2 : x = 45 := (bN x 45).1 q
  cases m with
  | zero => rw [List.replicate_zero, List.nil_append] at hx; exact h x hx hx2
  | succ m => rw [List.replicate_succ, List.cons_append, List.getElem?_cons_zero] at hx; rw [hx2] at hx; cases hx)
theorem rep_openN (m : Nat) (t : List UInt8) (h : ∀ b, t[0]? = some b → b ≠ 96) : openN (List.replicate m 96 ++ t) = if 3 ≤ m ∧ t.contains 96 = false then m else 0 := by
  have r : run (List.replicate m 96 ++ t) 96 = m := run_rep 96 m t h
  have d : (List.replicate m (96 : UInt8) ++ t).drop m = t := by
    rw [List.drop_append_of_le_length (by rw [List.length_replicate]; exact Nat.le_refl _), List.drop_of_length_le (by rw [List.length_replicate]; exact Nat.le_refl _), List.nil_append]
  unfold openN
  rw [r, d]
/-- A line of backticks, alone, or with something that begins with none behind them: a fence, or none. -/
theorem kind_ticks (m : Nat) (t : List UInt8) (hm : List.replicate m 96 ++ t ≠ []) (h : ∀ b, t[0]? = some b → b = 120) : kindV (List.replicate m 96 ++ t) = 4 ↔ (3 ≤ m ∧ t.contains 96 = false) := by
  have e1 := rep_headN m t (fun b hb => by rw [h b hb]; decide)
  have e2 := rep_run45 m t (fun b hb => by rw [h b hb]; decide)
  have e3 := rep_openN m t (fun b hb => by rw [h b hb]; decide)
  have ht : trim (List.replicate m 96 ++ t) ≠ [] := by
    cases m with
    | succ m => exact trim_some (b := 96) (by rw [List.replicate_succ, List.cons_append]; exact List.mem_cons_self) (by decide)
    | zero =>
      cases t with
      | nil => exact absurd rfl hm
      | cons b t => exact trim_some (b := b) (by rw [List.replicate_zero, List.nil_append]; exact List.mem_cons_self) (by rw [h b rfl]; decide)
  have hlen : (List.replicate m (96 : UInt8) ++ t).length ≠ 0 := fun q => hm (List.eq_nil_of_length_eq_zero q)
  unfold kindV
  rw [if_neg ht, e1, e2, e3, if_neg (by decide : ¬ 0 < 0), if_neg (by omega)]
  by_cases g : 3 ≤ m ∧ t.contains 96 = false
  · rw [if_pos g, if_pos (by omega)]
    exact ⟨fun _ => g, fun _ => rfl⟩
  · rw [if_neg g, if_neg (by decide)]
    constructor
    · intro q
      exfalso
      revert q
      repeat' split
      all_goals decide
    · intro q; exact absurd q g
theorem tmod_small (x : Int) (h : 0 ≤ x ∧ x ≤ 255) : ∃ n : Nat, Int.tmod (wrap64 x) 20 = n ∧ n < 20 := by
  obtain ⟨m, rfl⟩ := Int.eq_ofNat_of_zero_le h.1
  refine ⟨m % 20, ?_, Nat.mod_lt _ (by decide)⟩
  rw [wrap_small (by omega) (by omega)]
  rfl
theorem open_some (s : ByteArray) (l : List UInt8) (hl : L s = l) (k : Nat) (hs : s.size ≤ 1000000) (hk : s.size + 10 < k) : kind_Open.f k s = some (if kindV l = 4 then ((openN l : Int), ⟨(trim (l.drop (openN l))).toArray⟩) else (0, ⟨#[]⟩)) := by
  rw [Open_eq s k hs hk, hl]
theorem trim_x (t : List UInt8) : ∃ r, trim (120 :: t) = 120 :: r := by
  have h : ¬ gapB 120 = true := by decide
  unfold trim
  rw [List.dropWhile_cons, if_neg h, rdrop_cons]
  by_cases g : rdrop gapB t = []
  · rw [if_pos g, if_neg h]; exact ⟨[], rfl⟩
  · rw [if_neg g]; exact ⟨_, rfl⟩
theorem rep_x_run (a : Nat) (t : List UInt8) : run (List.replicate a 96 ++ 120 :: t) 96 = a := run_rep 96 a (120 :: t) (fun b hb => by simp at hb; subst hb; decide)
theorem fences_l1 (s info : ByteArray) (a : Nat) (b : Int) (hLs : L s = List.replicate a 96) (ha : a < 20) (hi : info.size ≤ 1000) (x12 : Int) (x13 : ByteArray)
    (hc : (x12, x13) = if 3 ≤ a ∧ (L info).contains 96 = false then ((a : Int), (⟨(trim (120 :: L info)).toArray⟩ : ByteArray)) else (0, ⟨#[]⟩)) :
    ∀ (d i k : Nat) (x : Bool), i + d = info.size → d + info.size + 100 < k → (x && !((L info).drop i).contains 96) = (!(L info).contains 96) →
    emendationlaw11_KindFences.l1 k info (a : Int) b s x12 x13 x (info.size : Int) (i : Int) = some true := by
  have hsl : info.size = (L info).length := L_size info
  have hsz : s.size = a := by rw [L_size, hLs, List.length_replicate]
  intro d
  induction d with
  | zero =>
    intro i k x hid hk hx
    obtain ⟨k, rfl⟩ : ∃ m, k = m + 1 := ⟨k - 1, by omega⟩
    rw [List.drop_eq_nil_of_le (by omega), show ([] : List UInt8).contains 96 = false from rfl, Bool.not_false, Bool.and_true] at hx
    have hz1 : (s ++ (⟨#[120]⟩ : ByteArray)).size = a + 1 := by rw [size_append, hsz]; rfl
    have hz2 : ((s ++ (⟨#[120]⟩ : ByteArray)) ++ info).size = a + 1 + info.size := by rw [size_append, hz1]
    have hl2 : L ((s ++ (⟨#[120]⟩ : ByteArray)) ++ info) = List.replicate a 96 ++ 120 :: L info := by
      rw [L_append, L_append, hLs, List.append_assoc]; rfl
    have hcl : kind_Closes.f k ((s ++ (⟨#[120]⟩ : ByteArray)) ++ info) b = some false := by
      rw [Closes_eq _ b k (by rw [hz2]; omega) (by rw [hz2]; omega), hl2]
      unfold closesV
      rw [rep_x_run, decide_eq_false (show ¬ a = (List.replicate a (96 : UInt8) ++ 120 :: L info).length by rw [List.length_append, List.length_replicate, List.length_cons]; omega), Bool.and_false]
    have g1 : s.size + 1 ≤ 9223372036854775807 := by omega
    have g2 : (s ++ (⟨#[120]⟩ : ByteArray)).size + info.size ≤ 9223372036854775807 := by rw [hz1]; omega
    rw [emendationlaw11_KindFences.l1, if_neg (by omega)]
    simp only [if_pos g1, if_pos g2, hcl, Option.bind_some, Bool.not_false]
    obtain ⟨r, hr⟩ := trim_x (L info)
    by_cases g : 3 ≤ a ∧ (L info).contains 96 = false
    · rw [if_pos g] at hc
      obtain ⟨rfl, rfl⟩ := Prod.mk.inj hc
      rw [g.2] at hx
      obtain rfl : x = true := hx
      have q13 : (⟨(trim (120 :: L info)).toArray⟩ : ByteArray).size = r.length + 1 := by rw [L_size, L_mk, hr, List.length_cons]
      have qb : bt (⟨(trim (120 :: L info)).toArray⟩ : ByteArray) 0 = 120 := bt_d _ 0 120 r (by rw [L_mk, hr, List.drop_zero])
      rw [if_pos rfl, if_pos (by omega), decide_eq_true (show (a : Int) > 0 by omega), if_pos (show (true == true) = true from rfl), if_neg (by omega), if_pos (by rw [q13]; omega), if_pos (by rw [q13]; omega), qb, if_pos rfl]
    · rw [if_neg g] at hc
      obtain ⟨rfl, rfl⟩ := Prod.mk.inj hc
      by_cases ga : (0 : Int) = (a : Int)
      · obtain rfl : a = 0 := by omega
        rw [if_pos ga, if_neg (by omega)]
        rfl
      · rw [if_neg ga]
        by_cases g3 : (a : Int) ≥ 3
        · have hx2 : x = false := by
            rw [hx]
            cases hcc : (L info).contains 96 with
            | true => rfl
            | false => exact absurd ⟨by omega, hcc⟩ g
          subst hx2
          rw [if_pos g3]
          rfl
        · rw [if_neg g3]
          rfl
  | succ d ih =>
    intro i k x hid hk hx
    obtain ⟨k, rfl⟩ : ∃ m, k = m + 1 := ⟨k - 1, by omega⟩
    have q1 : (i : Int) < (info.size : Int) := by omega
    have hw1 : wrap64 ((i : Int) + 1) = ((i + 1 : Nat) : Int) := by rw [wrap_small (by omega) (by omega)]; omega
    obtain ⟨c, t, hd⟩ : ∃ c t, (L info).drop i = c :: t := by
      rw [List.drop_eq_getElem_cons (by omega)]; exact ⟨_, _, rfl⟩
    have h2 := drop_tail hd
    rw [hd, List.contains_cons] at hx
    rw [emendationlaw11_KindFences.l1, if_pos q1, hw1]
    cases x with
    | false =>
      rw [if_neg (by decide)]
      exact ih (i + 1) k false (by omega) (by omega) (by rw [← hx]; rfl)
    | true =>
      rw [if_pos rfl, if_pos (Int.natCast_nonneg i), if_pos q1, bt_d info i c t hd]
      refine ih (i + 1) k _ (by omega) (by omega) ?_
      rw [h2, ← hx]
      by_cases g : c = 96
      · subst g; simp
      · have e1 : ((c.toNat : Int) != 96) = true := bne_iff_ne.2 (fun q => g ((bN c 96).1 q))
        have e2 : ((96 : UInt8) == c) = false := beq_eq_false_iff_ne.2 (fun q => g q.symm)
        rw [e1, e2]
        rfl
theorem fences_j2 (s info : ByteArray) (a : Nat) (b : Int) (hLs : L s = List.replicate a 96) (ha : a < 20) (hi : info.size ≤ 1000) (k : Nat) (hk : 2 * info.size + 150 < k) : emendationlaw11_KindFences.j2 k info (a : Int) b s false = some true := by
  obtain ⟨k, rfl⟩ : ∃ m, k = m + 1 := ⟨k - 1, by omega⟩
  have hsz : s.size = a := by rw [L_size, hLs, List.length_replicate]
  have hz1 : (s ++ (⟨#[120]⟩ : ByteArray)).size = a + 1 := by rw [size_append, hsz]; rfl
  have hz2 : ((s ++ (⟨#[120]⟩ : ByteArray)) ++ info).size = a + 1 + info.size := by rw [size_append, hz1]
  have hl2 : L ((s ++ (⟨#[120]⟩ : ByteArray)) ++ info) = List.replicate a 96 ++ 120 :: L info := by
    rw [L_append, L_append, hLs, List.append_assoc]; rfl
  have hk4 := kind_ticks a (120 :: L info) (by simp) (fun b hb => by simp at hb; exact hb.symm)
  have hop := rep_openN a (120 :: L info) (fun b hb => by simp at hb; subst hb; decide)
  have hcc : (120 :: L info).contains 96 = (L info).contains 96 := by rw [List.contains_cons]; rfl
  rw [hcc] at hk4 hop
  rw [emendationlaw11_KindFences.j2, if_neg (by decide), if_pos (by omega), if_pos (by rw [hz1]; omega), open_some _ _ hl2 k (by rw [hz2]; omega) (by rw [hz2]; omega), Option.bind_some]
  refine fences_l1 s info a b hLs ha hi _ _ ?_ info.size 0 k true (by omega) (by omega) (by rw [List.drop_zero, Bool.true_and])
  by_cases g : 3 ≤ a ∧ (L info).contains 96 = false
  · have d : (List.replicate a (96 : UInt8) ++ 120 :: L info).drop a = 120 :: L info := by
      rw [List.drop_append_of_le_length (by rw [List.length_replicate]; exact Nat.le_refl _), List.drop_of_length_le (by rw [List.length_replicate]; exact Nat.le_refl _), List.nil_append]
    rw [if_pos g, if_pos (hk4.2 g), hop, if_pos g, d]
  · rw [if_neg g, if_neg (fun q => g (hk4.1 q))]
theorem fences_l0 (info : ByteArray) (hi : info.size ≤ 1000) (a : Nat) (b : Nat) (ha : a < 20) (hb : b < 20) : ∀ (d i k : Nat) (s : ByteArray), i + d = a → d + 2 * info.size + 200 < k → L s = List.replicate i 96 →
    emendationlaw11_KindFences.l0 k info (a : Int) (b : Int) s (a : Int) (i : Int) = some true := by
  intro d
  induction d with
  | zero =>
    intro i k s hid hk hLs
    obtain rfl : i = a := by omega
    obtain ⟨k, rfl⟩ : ∃ m, k = m + 1 := ⟨k - 1, by omega⟩
    have hsz : s.size = i := by rw [L_size, hLs, List.length_replicate]
    have hcl : kind_Closes.f k s (b : Int) = some (decide (i ≥ 1) && decide (i ≥ b)) := by
      have hr : run (List.replicate i 96) 96 = i := run_all 96 i
      rw [Closes_eq _ _ k (by omega) (by omega), hLs]
      unfold closesV
      rw [hr, List.length_replicate, decide_eq_true (rfl : i = i), Bool.and_true]
      congr 2
      · cases i with
        | zero => rfl
        | succ i => rw [List.replicate_succ, decide_eq_true (by omega)]; rfl
      · rw [Bool.eq_iff_iff, decide_eq_true_iff, decide_eq_true_iff]; omega
    have j2 := fences_j2 s info i b hLs ha hi k (by omega)
    have hcc : ([] : List UInt8).contains 96 = false := rfl
    have hop : kind_Open.f k s = some (if 3 ≤ i then (i : Int) else 0, ⟨#[]⟩) := by
      rw [open_some s _ hLs k (by omega) (by omega)]
      by_cases h0 : i = 0
      · subst h0; rfl
      · have hk4 := kind_ticks i [] (by rw [List.append_nil]; intro q; have := congrArg List.length q; rw [List.length_replicate] at this; exact h0 this) (fun b hb => by cases hb)
        have ho := rep_openN i [] (fun b hb => by cases hb)
        rw [List.append_nil] at hk4 ho
        by_cases g : 3 ≤ i
        · rw [if_pos (hk4.2 ⟨g, rfl⟩), ho, if_pos ⟨g, rfl⟩, if_pos g, List.drop_of_length_le (by rw [List.length_replicate]; exact Nat.le_refl _)]
          rfl
        · rw [if_neg (fun q => g (hk4.1 q).1), if_neg g]
    rw [emendationlaw11_KindFences.l0, if_neg (by omega), hop, Option.bind_some, hcl, Option.bind_some]
    dsimp only
    have he : (⟨#[]⟩ : ByteArray).toList = ([] : List UInt8) := by rw [L_toList]; rfl
    have hfin : (if (i : Int) ≥ 1 then (emendationlaw11_KindFences.j2 k info (i : Int) (b : Int) s ((decide (i ≥ 1) && decide (i ≥ b)) != (decide ((i : Int) ≥ (b : Int))))) else (emendationlaw11_KindFences.j2 k info (i : Int) (b : Int) s ((decide (i ≥ 1) && decide (i ≥ b)) != false))) = some true := by
      by_cases g1 : i ≥ 1
      · have : decide ((i : Int) ≥ (b : Int)) = decide (i ≥ b) := by rw [Bool.eq_iff_iff, decide_eq_true_iff, decide_eq_true_iff]; omega
        rw [if_pos (by omega), this, decide_eq_true g1, Bool.true_and, bne_self_eq_false]
        exact j2
      · rw [if_neg (by omega), decide_eq_false g1, Bool.false_and]
        exact j2
    by_cases g : 3 ≤ i
    · rw [if_pos (by omega), if_pos g, beq_self_eq_true, if_neg (by decide), if_pos he]
      exact hfin
    · rw [if_neg (by omega), if_neg g]
      have e : ((0 : Int) == (i : Int)) = ((i : Int) == 0) := Bool.beq_comm
      rw [e, bne_self_eq_false, if_neg (by decide), if_pos he]
      exact hfin
  | succ d ih =>
    intro i k s hid hk hLs
    obtain ⟨k, rfl⟩ : ∃ m, k = m + 1 := ⟨k - 1, by omega⟩
    have hsz : s.size = i := by rw [L_size, hLs, List.length_replicate]
    have hw1 : wrap64 ((i : Int) + 1) = ((i + 1 : Nat) : Int) := by rw [wrap_small (by omega) (by omega)]; omega
    rw [emendationlaw11_KindFences.l0, if_pos (by omega), if_pos (by omega), hw1]
    refine ih (i + 1) k _ (by omega) (by omega) ?_
    rw [L_append, hLs, List.replicate_succ']
    rfl
theorem KindFences (a0 a1 : Int) (a2 : ByteArray) (h0 : (Lit.int .u8 a0).wf = true) (h1 : (Lit.int .u8 a1).wf = true) (h2 : a2.size ≤ 140737488351232) : ∃ k, emendationlaw11_KindFences.f k a0 a1 a2 = some true := by
  have b0 : 0 ≤ a0 ∧ a0 ≤ 255 := by simpa [Lit.wf, IntKind.min, IntKind.max, IntKind.signed, IntKind.bits, Int.lt_add_one_iff] using h0
  have b1 : 0 ≤ a1 ∧ a1 ≤ 255 := by simpa [Lit.wf, IntKind.min, IntKind.max, IntKind.signed, IntKind.bits, Int.lt_add_one_iff] using h1
  clear h0 h1
  obtain ⟨a, ea, ha⟩ := tmod_small a0 b0
  obtain ⟨b, eb, hb⟩ := tmod_small a1 b1
  refine ⟨(2 * a2.size + 300) + 1, ?_⟩
  unfold emendationlaw11_KindFences.f
  rw [awake11 _ (by omega), Option.bind_some, if_pos rfl, emendationlaw11_KindFences.j0]
  by_cases h : (a2.size : Int) > 1000
  · rw [decide_eq_true h, if_pos rfl, awake11 _ (by omega)]; rfl
  · rw [decide_eq_false h, if_neg (by decide), ea, eb]
    exact fences_l0 a2 (by omega) a b ha hb a 0 _ ⟨#[]⟩ (by omega) (by omega) rfl
end Go.Proofs.YticaofendehebaaDoor.Pure
