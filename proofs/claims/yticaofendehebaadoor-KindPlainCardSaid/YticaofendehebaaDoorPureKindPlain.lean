/- The law KindPlain, as a statement of bytes. -/
import Derived.Test.YticaofendehebaaDoorPAll
import Derived.Test.YticaofendehebaaDoorX8
set_option linter.unusedSimpArgs false
set_option linter.unusedVariables false
namespace Go.Proofs.YticaofendehebaaDoor.Pure
open Go.RowKit Go.Lib Go.Proofs.YticaofendehebaaDoor.X Go.Proofs.YticaofendehebaaDoor.G Go.Proofs.YticaofendehebaaDoorW.PrintWords Go.Proofs.YticaofendehebaaDoorW.PrintLast Go.Proofs.YticaofendehebaaDoorW.PrintMore
theorem trim_space (l : List UInt8) : trim (32 :: l) = [] ↔ l.all gapB = true := by
  rw [trim_nil_iff, List.all_eq_true]
  constructor
  · intro h b hb; exact h b (List.mem_cons_of_mem _ hb)
  · intro h b hb
    rcases List.mem_cons.1 hb with rfl | hb
    · decide
    · exact h b hb
theorem plain_l0 (s : ByteArray) (hs : s.size ≤ 1000) : ∀ (d i k : Nat) (x : Bool), i + d = s.size → d + s.size + 30 < k → (x && ((L s).drop i).all gapB) = (L s).all gapB →
    emendationlaw11_KindPlain.l0 k s x (s.size : Int) (i : Int) = some true := by
  have hsl : s.size = (L s).length := L_size s
  intro d
  induction d with
  | zero =>
    intro i k x hi hk hx
    obtain ⟨k, rfl⟩ : ∃ m, k = m + 1 := ⟨k - 1, by omega⟩
    rw [List.drop_eq_nil_of_le (by omega), List.all_nil, Bool.and_true] at hx
    have hz : ((⟨#[32]⟩ : ByteArray) ++ s).size = 1 + s.size := by rw [size_append]; rfl
    have hl : L ((⟨#[32]⟩ : ByteArray) ++ s) = 32 :: L s := by rw [L_append]; rfl
    rw [emendationlaw11_KindPlain.l0, if_neg (by omega), if_pos (by omega), Of_eq _ k (by rw [hz]; omega) (by rw [hz]; omega), Option.bind_some, hl, kind_plain 32 (L s) (by decide) (by decide) (by decide) (by decide) (by decide)]
    cases x with
    | true =>
      have e : (if trim (32 :: L s) = [] then (1 : Int) else 8) = 1 := if_pos ((trim_space _).2 hx.symm)
      rw [e]
      rfl
    | false =>
      have e : (if trim (32 :: L s) = [] then (1 : Int) else 8) = 8 := if_neg (fun q => by rw [(trim_space _).1 q] at hx; cases hx)
      rw [e]
      rfl
  | succ d ih =>
    intro i k x hi hk hx
    obtain ⟨k, rfl⟩ : ∃ m, k = m + 1 := ⟨k - 1, by omega⟩
    have q1 : (i : Int) < (s.size : Int) := by omega
    have hw1 : wrap64 ((i : Int) + 1) = ((i + 1 : Nat) : Int) := by rw [wrap_small (by omega) (by omega)]; omega
    obtain ⟨c, t, hd⟩ : ∃ c t, (L s).drop i = c :: t := by
      rw [List.drop_eq_getElem_cons (by omega)]; exact ⟨_, _, rfl⟩
    have h2 := drop_tail hd
    rw [hd, List.all_cons] at hx
    rw [emendationlaw11_KindPlain.l0, if_pos q1, hw1]
    cases x with
    | false =>
      rw [if_neg (by decide)]
      exact ih (i + 1) k false (by omega) (by omega) (by rw [← hx]; rfl)
    | true =>
      rw [if_pos rfl, if_pos (Int.natCast_nonneg i), if_pos q1, bt_d s i c t hd]
      rw [Bool.true_and] at hx
      by_cases g : (c.toNat : Int) = 32
      · rw [if_pos g]
        refine ih (i + 1) k true (by omega) (by omega) ?_
        rw [h2, ← hx, (gapB_iff c).2 (.inl g)]
      · rw [if_neg g]
        refine ih (i + 1) k _ (by omega) (by omega) ?_
        rw [h2, ← hx]
        congr 1
        rw [Bool.eq_iff_iff, beq_iff_eq, gapB_iff]
        exact ⟨.inr, fun h => h.resolve_left g⟩
theorem plain_j2 (s : ByteArray) (hs : s.size ≤ 1000) (k : Nat) (hk : 2 * s.size + 40 < k) : emendationlaw11_KindPlain.j2 k s false = some true := by
  obtain ⟨k, rfl⟩ : ∃ m, k = m + 1 := ⟨k - 1, by omega⟩
  rw [emendationlaw11_KindPlain.j2, if_neg (by decide)]
  exact plain_l0 s hs s.size 0 k true (by omega) (by omega) (by rw [List.drop_zero, Bool.true_and])
theorem plain_j1 (s : ByteArray) (hs : s.size ≤ 1000) (c : Int) (k : Nat) (hk : 2 * s.size + 50 < k) (x : Bool) (h0 : 0 ≤ c ∧ c ≤ 255) (hx : x = true → c ≠ 9 ∧ c ≠ 32 ∧ c ≠ 35 ∧ c ≠ 45 ∧ c ≠ 96 ∧ c ≠ 62 ∧ c ≠ 91) :
    emendationlaw11_KindPlain.j1 k s c x = some true := by
  obtain ⟨k, rfl⟩ : ∃ m, k = m + 1 := ⟨k - 1, by omega⟩
  rw [emendationlaw11_KindPlain.j1]
  have h2 := plain_j2 s hs k (by omega)
  cases x with
  | false => rw [if_neg (by decide)]; exact h2
  | true =>
    obtain ⟨c1, c2, c3, c4, c5, c6, c7⟩ := hx rfl
    have hn := nums_one c
    have hz : (strOfNums [c]).size = 1 := by rw [L_size, hn]; rfl
    have hzz : (strOfNums [c] ++ s).size = 1 + s.size := by rw [size_append, hz]
    have hl : L (strOfNums [c] ++ s) = UInt8.ofNat c.toNat :: L s := by rw [L_append, hn]; rfl
    have hb : ((UInt8.ofNat c.toNat).toNat : Int) = c := by
      have : (UInt8.ofNat c.toNat).toNat = c.toNat := by rw [UInt8.toNat_ofNat']; exact Nat.mod_eq_of_lt (by omega)
      omega
    have ne : ∀ q : UInt8, c ≠ (q.toNat : Int) → UInt8.ofNat c.toNat ≠ q := fun q h e => h (by rw [← e]; exact hb.symm)
    have ht : trim (UInt8.ofNat c.toNat :: L s) ≠ [] := trim_some List.mem_cons_self (by
      rw [Bool.eq_false_iff]
      intro h
      rcases (gapB_iff _).1 h with h | h
      · rw [hb] at h; exact c2 h
      · rw [hb] at h; exact c1 h)
    rw [if_pos rfl, Option.bind_some, if_pos (by rw [hz]; omega), Of_eq _ k (by rw [hzz]; omega) (by rw [hzz]; omega), Option.bind_some, hl,
      kind_plain _ (L s) (ne 35 c3) (ne 45 c4) (ne 96 c5) (ne 62 c6) (ne 91 c7), if_neg ht]
    exact h2
theorem KindPlain (a0 : ByteArray) (a1 : Int) (h0 : a0.size ≤ 140737488351232) (h1 : (Lit.int .u8 a1).wf = true) : ∃ k, emendationlaw11_KindPlain.f k a0 a1 = some true := by
  have hb : 0 ≤ a1 ∧ a1 ≤ 255 := by simpa [Lit.wf, IntKind.min, IntKind.max, IntKind.signed, IntKind.bits, Int.lt_add_one_iff] using h1
  clear h1
  refine ⟨(2 * a0.size + 200) + 1, ?_⟩
  unfold emendationlaw11_KindPlain.f
  rw [awake11 _ (by omega), Option.bind_some, if_pos rfl, emendationlaw11_KindPlain.j0]
  by_cases h : (a0.size : Int) > 1000
  · rw [decide_eq_true h, if_pos rfl, awake11 _ (by omega)]; rfl
  · have hs : a0.size ≤ 1000 := by omega
    have T := fun x hx => plain_j1 a0 hs a1 (2 * a0.size + 200) (by omega) x hb hx
    rw [decide_eq_false h, if_neg (by decide)]
    by_cases g42 : a1 = 42
    · subst g42
      repeat (first | rw [if_pos (by decide)] | rw [if_neg (by decide)])
      exact T _ (fun _ => by decide)
    rw [beq_eq_false_iff_ne.2 g42]
    repeat' split
    all_goals (refine T _ (fun hx => ?_))
    all_goals first | (exfalso; cases hx; done) | omega
end Go.Proofs.YticaofendehebaaDoor.Pure
