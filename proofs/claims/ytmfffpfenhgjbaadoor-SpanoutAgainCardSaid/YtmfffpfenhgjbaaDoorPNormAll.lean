/- Words for the laws of this seat, several texts behind one another. -/
import Derived.Test.YtmfffpfenhgjbaaDoorPReadAll
import Derived.Test.YtmfffpfenhgjbaaDoorX0
import Derived.Test.YtmfffpfenhgjbaaDoorPUtf2
import Derived.Test.YtmfffpfenhgjbaaDoorX5
import Derived.Test.YtmfffpfenhgjbaaDoorPRead
/-! PSpanW -/
set_option linter.unusedSimpArgs false
set_option linter.unusedVariables false
namespace Go.Proofs.YtmfffpfenhgjbaaDoor.Pure
open Go.RowKit Go.Lib Go.Proofs.YtmfffpfenhgjbaaDoor.X Go.Proofs.YtmfffpfenhgjbaaDoor.G Go.Proofs.YtmfffpfenhgjbaaDoorW.PrintWords Go.Proofs.YtmfffpfenhgjbaaDoorW.PrintLast Go.Proofs.YtmfffpfenhgjbaaDoorW.PrintMore

mutual
/-- How many spans and bytes there are, however deep. -/
def wtV : S26 → Nat
  | ⟨_, s, c⟩ => 1 + s.size + wtL c
def wtL : List S26 → Nat
  | [] => 0
  | x :: t => wtV x + wtL t
end
theorem wtV_eq (x : S26) : wtV x = 1 + x.f1.size + wtL x.f2 := by cases x; rw [wtV]
theorem wtL_cons (x : S26) (t : List S26) : wtL (x :: t) = 1 + x.f1.size + wtL x.f2 + wtL t := by rw [wtL, wtV_eq]
theorem wtL_append (a b : List S26) : wtL (a ++ b) = wtL a + wtL b := by
  induction a with
  | nil => simp [wtL]
  | cons x t ih => rw [List.cons_append, wtL_cons, wtL_cons, ih]; omega
theorem wtL_length (l : List S26) : l.length ≤ wtL l := by
  induction l with
  | nil => simp [wtL]
  | cons x t ih => rw [wtL_cons, List.length_cons]; omega
mutual
/-- Texts and lists of sizes that can be. -/
def okV : S26 → Prop
  | ⟨_, s, c⟩ => s.size ≤ 140737488351232 ∧ c.length ≤ 140737488351232 ∧ okL c
def okL : List S26 → Prop
  | [] => True
  | x :: t => okV x ∧ okL t
end
theorem okL_cons (x : S26) (t : List S26) : okL (x :: t) ↔ (x.f1.size ≤ 140737488351232 ∧ x.f2.length ≤ 140737488351232 ∧ okL x.f2) ∧ okL t := by cases x; rw [okL, okV]
theorem rd_drop (l : List S26) (i : Nat) {x : S26} {t : List S26} (h : l.drop i = x :: t) : rd_T26 l (i : Int) = x ∧ i < l.length ∧ l.drop (i + 1) = t := by
  refine ⟨?_, drop_lt h, drop_tail h⟩
  unfold rd_T26
  rw [Int.toNat_natCast, List.getD_eq_getElem?_getD]
  have := congrArg (fun l => l[0]?) h
  simp at this
  rw [this]
  rfl
theorem size_kids (x : S26) (t : List S26) : SizeOf.sizeOf x.f2 < SizeOf.sizeOf (x :: t) := by
  cases x
  simp only [List.cons.sizeOf_spec, S26.mk.sizeOf_spec]
  omega
theorem size_tail (x : S26) (t : List S26) : SizeOf.sizeOf t < SizeOf.sizeOf (x :: t) := by
  simp only [List.cons.sizeOf_spec]
  omega

end Go.Proofs.YtmfffpfenhgjbaaDoor.Pure
/-! PSpanT -/
set_option linter.unusedSimpArgs false
set_option linter.unusedVariables false
namespace Go.Proofs.YtmfffpfenhgjbaaDoor.Pure
open Go.RowKit Go.Lib Go.Proofs.YtmfffpfenhgjbaaDoor.X Go.Proofs.YtmfffpfenhgjbaaDoor.G Go.Proofs.YtmfffpfenhgjbaaDoorW.PrintWords Go.Proofs.YtmfffpfenhgjbaaDoorW.PrintLast Go.Proofs.YtmfffpfenhgjbaaDoorW.PrintMore
theorem space_eq (b : UInt8) : emendationref07_space.f (b.toNat : Int) = some (b.toNat == 9 || b.toNat == 32) := by
  unfold emendationref07_space.f
  by_cases h : b.toNat = 32
  · rw [if_pos (by omega)]; simp [h]
  · rw [if_neg (by omega)]
    by_cases g : b.toNat = 9
    · simp [g]
    · have : ((b.toNat : Int) == 9) = false := beq_eq_false_iff_ne.2 (by omega)
      simp [this, beqF h, beqF g]
theorem ref_edge_eq (b : UInt8) : emendationref07_edge.f (b.toNat : Int) = some (b.toNat == 9 || b.toNat == 32 || b.toNat == 10) := by
  unfold emendationref07_edge.f
  rw [space_eq, Option.bind_some]
  cases h : (b.toNat == 9 || b.toNat == 32) with
  | true => rfl
  | false =>
    rw [if_neg (by decide), Bool.false_or]
    by_cases f : b.toNat = 10
    · simp [f]
    · have : ((b.toNat : Int) == 10) = false := beq_eq_false_iff_ne.2 (by omega)
      simp [this, beqF f]
section
variable (s : ByteArray) (hs : s.size ≤ 140737488351232)
include hs
theorem has_l0 (c : UInt8) : ∀ (d i k : Nat), i + d = (L s).length → d < k → emendationref07_has.l0 k s (c.toNat : Int) (i : Int) = some (((L s).drop i).contains c) := by
  have hsl : s.size = (L s).length := L_size s
  intro d
  induction d with
  | zero =>
    intro i k hi hk
    obtain ⟨k, rfl⟩ : ∃ m, k = m + 1 := ⟨k - 1, by omega⟩
    rw [emendationref07_has.l0, if_neg (by omega), List.drop_eq_nil_of_le (by omega)]
    rfl
  | succ d ih =>
    intro i k hi hk
    obtain ⟨k, rfl⟩ : ∃ m, k = m + 1 := ⟨k - 1, by omega⟩
    have q1 : (i : Int) < (s.size : Int) := by omega
    have hw1 : wrap64 ((i : Int) + 1) = ((i + 1 : Nat) : Int) := by rw [wrap_small (by omega) (by omega)]; omega
    have hx := ih (i + 1) k (by omega) (by omega)
    obtain ⟨b, t, hd⟩ : ∃ b t, (L s).drop i = b :: t := by
      rw [List.drop_eq_getElem_cons (by omega)]; exact ⟨_, _, rfl⟩
    rw [drop_tail hd] at hx
    rw [emendationref07_has.l0, if_pos q1, if_pos (Int.natCast_nonneg i), bt_d s i b t hd, hd, hw1, hx, List.contains_cons]
    by_cases g : b = c
    · subst g; simp
    · have g1 : ¬ ((b.toNat : Int) = (c.toNat : Int)) := fun e => g (toNat_inj (Int.ofNat.inj e))
      have g2 : (c == b) = false := beq_eq_false_iff_ne.2 (fun e => g e.symm)
      rw [if_neg g1, g2, Bool.false_or]
theorem has_eq (c : UInt8) (k : Nat) (hk : s.size < k) : emendationref07_has.f k s (c.toNat : Int) = some ((L s).contains c) := by
  have hsl : s.size = (L s).length := L_size s
  have := has_l0 s hs c (L s).length 0 k (by omega) (by omega)
  rw [List.drop_zero] at this
  exact this
def pairOkR (c n : UInt8) : Bool := if c.toNat == 10 then !(n.toNat == 9 || n.toNat == 32) && !(n.toNat == 10) else !(n.toNat == 10 && (c.toNat == 9 || c.toNat == 32))
def pairsR : List UInt8 → Bool
  | c :: n :: t => pairOkR c n && pairsR (n :: t)
  | _ => true
omit hs in
theorem pairsR_eq : ∀ l : List UInt8, l.contains 13 = false → pairsR l = pairs l
  | [], _ => rfl
  | [_], _ => rfl
  | c :: n :: t, h => by
    have hn : n.toNat ≠ 13 := fun e => by
      have : n = 13 := toNat_inj e
      subst this; simp at h
    have ht : (n :: t).contains 13 = false := by rw [List.contains_cons] at h; exact (Bool.or_eq_false_iff.1 h).2
    unfold pairsR pairs
    rw [pairsR_eq (n :: t) ht]
    congr 1
    unfold pairOkR pairOk
    rw [beqF hn, Bool.or_false]
    by_cases g : c.toNat = 10
    · rw [g]
      by_cases g2 : n.toNat = 10
      · rw [g2]; rfl
      · rw [beqF g2]; simp
    · rw [beqF g]; simp
theorem ref_text_l0 : ∀ (d i k : Nat), i + d = (L s).length - 1 → d + s.size + 2 < k → 0 < (L s).length →
    emendationref07_text.l0 k s (i : Int) = some (pairsR ((L s).drop i) && !(L s).contains 13) := by
  have hsl : s.size = (L s).length := L_size s
  intro d
  induction d with
  | zero =>
    intro i k hi hk h0
    obtain ⟨k, rfl⟩ : ∃ m, k = m + 1 := ⟨k - 1, by omega⟩
    have hw1 : wrap64 ((i : Int) + 1) = ((i + 1 : Nat) : Int) := by rw [wrap_small (by omega) (by omega)]; omega
    have hne : ¬ s.toList = [] := by rw [L_toList]; exact List.length_pos_iff.1 h0
    have hh := has_eq s hs 13 k (by omega)
    change emendationref07_has.f k s 13 = _ at hh
    rw [emendationref07_text.l0, hw1, if_neg (by omega), if_neg hne, hh, Option.bind_some]
    have : pairsR ((L s).drop i) = true := by
      cases hd : (L s).drop i with
      | nil => rfl
      | cons c t =>
        have := drop_len hd
        cases t with
        | nil => rfl
        | cons n t => simp at this; omega
    rw [this, Bool.true_and]
  | succ d ih =>
    intro i k hi hk h0
    obtain ⟨k, rfl⟩ : ∃ m, k = m + 1 := ⟨k - 1, by omega⟩
    have hw1 : wrap64 ((i : Int) + 1) = ((i + 1 : Nat) : Int) := by rw [wrap_small (by omega) (by omega)]; omega
    have q1 : ((i + 1 : Nat) : Int) < (s.size : Int) := by omega
    have q2 : (i : Int) < (s.size : Int) := by omega
    have q4 : (0 : Int) ≤ ((i + 1 : Nat) : Int) := by omega
    have hx := ih (i + 1) k (by omega) (by omega) h0
    obtain ⟨c, n, t, hd⟩ : ∃ c n t, (L s).drop i = c :: n :: t := by
      rw [List.drop_eq_getElem_cons (by omega), List.drop_eq_getElem_cons (by omega)]
      exact ⟨_, _, _, rfl⟩
    have hd1 := drop_tail hd
    rw [hd1] at hx
    have hn : bt s ((i + 1 : Nat) : Int) = (n.toNat : Int) := bt_d s (i + 1) n t hd1
    rw [emendationref07_text.l0, hw1, if_pos q1, if_pos (Int.natCast_nonneg i), if_pos q2, if_pos q4, bt_d s i c _ hd, hn, hd, hx, space_eq, space_eq]
    simp only [Option.bind_some, pairsR, pairOkR]
    by_cases g : c.toNat = 10
    · rw [if_pos ((i10 c).2 g), g]
      cases hsp : (n.toNat == 9 || n.toNat == 32) with
      | true => rfl
      | false =>
        rw [if_neg (by decide)]
        by_cases g2 : n.toNat = 10
        · rw [if_pos ((i10 n).2 g2), g2]; rfl
        · rw [if_neg (fun e => g2 ((i10 n).1 e)), beqF g2]; rfl
    · rw [if_neg (fun e => g ((i10 c).1 e)), beqF g]
      by_cases g2 : n.toNat = 10
      · rw [if_pos ((i10 n).2 g2), g2]
        cases hsp : (c.toNat == 9 || c.toNat == 32) with
        | true => rfl
        | false => rfl
      · rw [if_neg (fun e => g2 ((i10 n).1 e)), beqF g2]; rfl
theorem ref_text_eq (k : Nat) (hk : 2 * s.size + 10 < k) : emendationref07_text.f k s = some (textV (L s)) := by
  have hsl : s.size = (L s).length := L_size s
  unfold emendationref07_text.f textV
  by_cases h : L s = []
  · obtain ⟨k, rfl⟩ : ∃ m, k = m + 1 := ⟨k - 1, by omega⟩
    have h0 : s.size = 0 := by rw [hsl, h]; rfl
    have hw : ¬ wrap64 ((0 : Int) + 1) < (s.size : Int) := by rw [h0]; unfold wrap64; omega
    rw [emendationref07_text.l0, if_neg hw, if_pos (by rw [L_toList]; exact h), h]
    rfl
  · have h0 : 0 < (L s).length := List.length_pos_iff.2 h
    have := ref_text_l0 s hs ((L s).length - 1) 0 k (by omega) (by omega) h0
    rw [List.drop_zero] at this
    have he : (L s).isEmpty = false := by cases hL : L s with | nil => exact absurd hL h | cons => rfl
    rw [show ((0 : Int)) = ((0 : Nat) : Int) from rfl, this, he]
    cases hb : (L s).contains 13 with
    | true => simp
    | false => rw [pairsR_eq _ hb]; simp
end
end Go.Proofs.YtmfffpfenhgjbaaDoor.Pure
/-! PSpanV -/
set_option linter.unusedSimpArgs false
set_option linter.unusedVariables false
namespace Go.Proofs.YtmfffpfenhgjbaaDoor.Pure
open Go.RowKit Go.Lib Go.Proofs.YtmfffpfenhgjbaaDoor.X Go.Proofs.YtmfffpfenhgjbaaDoor.G Go.Proofs.YtmfffpfenhgjbaaDoorW.PrintWords Go.Proofs.YtmfffpfenhgjbaaDoorW.PrintLast Go.Proofs.YtmfffpfenhgjbaaDoorW.PrintMore

mutual
/-- Whether a span can be, within an Emph or not, within a Link or not. -/
def oneV : S26 → Bool → Bool → Bool
  | ⟨k, s, c⟩, e, m => decide (checkV (L s) = 0) && (if k = 1 then c.isEmpty && textV (L s) else if k = 2 then c.isEmpty && !(L s).isEmpty && !(L s).contains 13 && !(L s).contains 10
      else if k = 3 then (L s).isEmpty && !c.isEmpty && !e && allV c 0 true m else if k = 4 then destL (L s) && !c.isEmpty && !m && allV c 0 e true else false)
/-- Whether spans can be, behind one of the kind last. -/
def allV : List S26 → Int → Bool → Bool → Bool
  | [], _, _, _ => true
  | x :: t, last, e, m => oneV x e m && !(decide (x.f0 = last) && decide (x.f0 ≤ 2)) && allV t x.f0 e m
end
theorem oneV_eq (x : S26) (e m : Bool) : oneV x e m = (decide (checkV (L x.f1) = 0) && (if x.f0 = 1 then x.f2.isEmpty && textV (L x.f1) else if x.f0 = 2 then x.f2.isEmpty && !(L x.f1).isEmpty && !(L x.f1).contains 13 && !(L x.f1).contains 10
      else if x.f0 = 3 then (L x.f1).isEmpty && !x.f2.isEmpty && !e && allV x.f2 0 true m else if x.f0 = 4 then destL (L x.f1) && !x.f2.isEmpty && !m && allV x.f2 0 e true else false)) := by cases x; rw [oneV]
theorem allV_cons (x : S26) (t : List S26) (last : Int) (e m : Bool) : allV (x :: t) last e m = (oneV x e m && !(decide (x.f0 = last) && decide (x.f0 ≤ 2)) && allV t x.f0 e m) := by rw [allV]
theorem empty_len {α : Type} (l : List α) : l.isEmpty = decide ((l.length : Int) = 0) := by cases l with | nil => rfl | cons a t => exact (decide_eq_false (by rw [List.length_cons]; omega)).symm
theorem some_len {α : Type} (l : List α) : (!l.isEmpty) = decide ((l.length : Int) > 0) := by cases l with | nil => rfl | cons a t => exact (decide_eq_true (by rw [List.length_cons]; omega)).symm
theorem some_bind {α β : Type} (a : α) (f : α → Option β) : (some a).bind f = f a := rfl
theorem containsAny_any (chars : List UInt8) : ∀ l : List UInt8, Lib.containsAny l chars = l.any (fun b => chars.contains b)
  | [] => rfl
  | b :: l => by
    have ih := containsAny_any chars l
    unfold Lib.containsAny at ih ⊢
    have hg := indexAny_ge chars l
    rw [Lib.indexAny, List.any_cons, ← ih]
    by_cases h : chars.contains b = true
    · rw [if_pos h, h]; rfl
    · rw [if_neg h, Bool.eq_false_iff.mpr h, Bool.false_or]
      by_cases g : Lib.indexAny l chars = -1
      · rw [if_pos (beq_iff_eq.2 g), g]
      · rw [if_neg (by simpa using g), decide_eq_true (by omega), decide_eq_true (by omega)]
theorem any_two (c d : UInt8) : ∀ l : List UInt8, l.any (fun b => b == c || b == d) = (l.contains c || l.contains d)
  | [] => rfl
  | b :: l => by
    rw [List.any_cons, any_two c d l, List.contains_cons, List.contains_cons]
    have e1 : (c == b) = (b == c) := Bool.beq_comm
    have e2 : (d == b) = (b == d) := Bool.beq_comm
    rw [e1, e2]
    cases (b == c) <;> cases (b == d) <;> simp
/-- The kind that stands ahead of place i. -/
def lastK (l : List S26) (i : Nat) : Int := if i = 0 then 0 else (l.getD (i - 1) z26).f0
theorem lastK_succ (l : List S26) (i : Nat) (x : S26) (h : rd_T26 l (i : Int) = x) : lastK l (i + 1) = x.f0 := by
  unfold lastK
  rw [if_neg (by omega), Nat.add_sub_cancel, ← h]
  unfold rd_T26
  rw [Int.toNat_natCast]
theorem kind_of_one (x : S26) (e m : Bool) (h : oneV x e m = true) : x.f0 ≠ 0 := by
  intro h0
  rw [oneV_eq, h0] at h
  simp at h
theorem pred_facts (i n : Nat) (h : i ≠ 0) (hn : i < n) (hb : n ≤ 1000000) : (i : Int) > 0 ∧ (0 : Int) ≤ ((i - 1 : Nat) : Int) ∧ ((i - 1 : Nat) : Int) < (n : Int) ∧ wrap64 ((i : Int) - 1) = ((i - 1 : Nat) : Int) := by
  obtain ⟨j, rfl⟩ : ∃ j, i = j + 1 := ⟨i - 1, by omega⟩
  rw [Nat.add_sub_cancel]
  refine ⟨by omega, by omega, by omega, ?_⟩
  rw [wrap_small (by omega) (by omega)]
  omega
def edgeB (b : UInt8) : Bool := b.toNat == 9 || b.toNat == 32 || b.toNat == 10
def headE : List UInt8 → Bool
  | [] => false
  | b :: _ => edgeB b
def lastE (l : List UInt8) : Bool := headE l.reverse
/-- Whether the ends are as they may be. -/
def endsOk (l : List S26) : Bool :=
  !(match l.head? with | some x => decide (x.f0 = 1) && headE (L x.f1) | none => false) && !(match l.getLast? with | some x => decide (x.f0 = 1) && lastE (L x.f1) | none => false)
/-- Normal form. -/
def rightL (l : List S26) : Bool := allV l 0 false false && endsOk l
theorem all_one : ∀ (l : List S26) (last : Int) (e m : Bool), allV l last e m = true → ∀ y ∈ l, oneV y e m = true
  | [], _, _, _, _, y, hy => by cases hy
  | x :: t, last, e, m, h, y, hy => by
    rw [allV_cons] at h
    have h1 := Bool.and_eq_true_iff.1 h
    have h2 := Bool.and_eq_true_iff.1 h1.1
    rcases List.mem_cons.1 hy with rfl | hy
    · exact h2.1
    · exact all_one t x.f0 e m h1.2 y hy
theorem one_text (x : S26) (e m : Bool) (h : oneV x e m = true) (h1 : x.f0 = 1) : textV (L x.f1) = true := by
  rw [oneV_eq, if_pos h1] at h
  exact (Bool.and_eq_true_iff.1 (Bool.and_eq_true_iff.1 h).2).2
theorem text_ne (l : List UInt8) (h : textV l = true) : l ≠ [] := by
  intro e
  subst e
  cases h
theorem bt_last (s : ByteArray) (h : L s ≠ []) (hs : s.size ≤ 1000000) : wrap64 ((s.size : Int) - 1) = ((s.size - 1 : Nat) : Int) ∧ ((s.size - 1 : Nat) : Int) < (s.size : Int) ∧ ∃ b : UInt8, bt s ((s.size - 1 : Nat) : Int) = (b.toNat : Int) ∧ lastE (L s) = edgeB b := by
  have hsl : s.size = (L s).length := L_size s
  have h0 : 0 < (L s).length := List.length_pos_iff.2 h
  refine ⟨?_, by omega, (L s)[s.size - 1]'(by omega), bt_L s _ (by omega), ?_⟩
  · rw [wrap_small (by omega) (by omega)]; omega
  · unfold lastE
    have : (L s).reverse = (L s).reverse.head (by simpa using h) :: (L s).reverse.tail := (List.cons_head_tail _).symm
    rw [this, headE, List.head_reverse, List.getLast_eq_getElem]
    simp only [hsl]
theorem ends_eq (E : Int → Option Bool) (hE : ∀ b : UInt8, E (b.toNat : Int) = some (edgeB b)) (l : List S26) (e m : Bool) (ha : allV l 0 e m = true) (hw : wtL l ≤ 1000000) (hsz : ∀ y ∈ l, y.f1.size ≤ 1000000) :
    (if (l.length : Int) = 0 then (some true) else (if 0 < (l.length : Int) then (if 0 ≤ (wrap64 ((l.length : Int) - 1)) then (if (wrap64 ((l.length : Int) - 1)) < (l.length : Int) then (if ((rd_T26 l 0).f0) = 1 then (if 0 < (((rd_T26 l 0).f1).size : Int) then ((E (bt ((rd_T26 l 0).f1) 0)).bind fun t186 => (if t186 = true then (some false) else (if ((rd_T26 l (wrap64 ((l.length : Int) - 1))).f0) = 1 then (if 0 ≤ (wrap64 ((((rd_T26 l (wrap64 ((l.length : Int) - 1))).f1).size : Int) - 1)) then (if (wrap64 ((((rd_T26 l (wrap64 ((l.length : Int) - 1))).f1).size : Int) - 1)) < (((rd_T26 l (wrap64 ((l.length : Int) - 1))).f1).size : Int) then ((E (bt ((rd_T26 l (wrap64 ((l.length : Int) - 1))).f1) (wrap64 ((((rd_T26 l (wrap64 ((l.length : Int) - 1))).f1).size : Int) - 1)))).bind fun t187 => (some (!t187))) else (none)) else (none)) else (some true)))) else (none)) else (if ((rd_T26 l (wrap64 ((l.length : Int) - 1))).f0) = 1 then (if 0 ≤ (wrap64 ((((rd_T26 l (wrap64 ((l.length : Int) - 1))).f1).size : Int) - 1)) then (if (wrap64 ((((rd_T26 l (wrap64 ((l.length : Int) - 1))).f1).size : Int) - 1)) < (((rd_T26 l (wrap64 ((l.length : Int) - 1))).f1).size : Int) then ((E (bt ((rd_T26 l (wrap64 ((l.length : Int) - 1))).f1) (wrap64 ((((rd_T26 l (wrap64 ((l.length : Int) - 1))).f1).size : Int) - 1)))).bind fun t188 => (some (!t188))) else (none)) else (none)) else (some true))) else (none)) else (none)) else (none))) = some (endsOk l) := by
  cases l with
  | nil => rfl
  | cons x t =>
    have hll := wtL_length (x :: t)
    have e1 : rd_T26 (x :: t) 0 = x := rfl
    have hlen : 0 < (x :: t).length := by rw [List.length_cons]; omega
    obtain ⟨y, hy⟩ : ∃ y, (x :: t).getLast? = some y := ⟨_, List.getLast?_eq_some_getLast (by simp)⟩
    have hyl : (x :: t)[(x :: t).length - 1]? = some y := by rw [← hy, List.getLast?_eq_getElem?]
    have w6 : wrap64 (((x :: t).length : Int) - 1) = (((x :: t).length - 1 : Nat) : Int) := by rw [wrap_small (by omega) (by omega)]; omega
    have e2 : rd_T26 (x :: t) (((x :: t).length - 1 : Nat) : Int) = y := by
      unfold rd_T26
      rw [Int.toNat_natCast, List.getD_eq_getElem?_getD, hyl]
      rfl
    have c1 : ¬ ((x :: t).length : Int) = 0 := by omega
    have c2 : (0 : Int) < ((x :: t).length : Int) := by omega
    have c3 : (((x :: t).length - 1 : Nat) : Int) < ((x :: t).length : Int) := by omega
    have hym : y ∈ x :: t := List.mem_of_getElem? hyl
    have hox := all_one _ _ _ _ ha x (List.mem_cons_self)
    have hoy := all_one _ _ _ _ ha y hym
    have hsx := hsz x List.mem_cons_self
    have hsy := hsz y hym
    clear hll hyl
    rw [w6, e1, e2]
    unfold endsOk
    rw [hy, List.head?_cons, if_neg c1, if_pos c2, if_pos (Int.natCast_nonneg _), if_pos c3]
    dsimp only
    have hend : (if y.f0 = 1 then (if 0 ≤ (wrap64 ((y.f1.size : Int) - 1)) then (if (wrap64 ((y.f1.size : Int) - 1)) < (y.f1.size : Int) then ((E (bt y.f1 (wrap64 ((y.f1.size : Int) - 1)))).bind fun t188 => (some (!t188))) else none) else none) else (some true)) = some (!(decide (y.f0 = 1) && lastE (L y.f1))) := by
      by_cases hk : y.f0 = 1
      · obtain ⟨w7, w8, b, w9, w10⟩ := bt_last y.f1 (text_ne _ (one_text y e m hoy hk)) hsy
        rw [if_pos hk, w7, if_pos (Int.natCast_nonneg _), if_pos w8, w9, hE, decide_eq_true hk, w10]
        rfl
      · rw [if_neg hk, decide_eq_false hk]; rfl
    rw [hend]
    by_cases hk : x.f0 = 1
    · have hne := text_ne _ (one_text x e m hox hk)
      obtain ⟨b, r, hb⟩ : ∃ b r, L x.f1 = b :: r := by
        cases h : L x.f1 with
        | nil => exact absurd h hne
        | cons b r => exact ⟨b, r, rfl⟩
      have hsp : (0 : Int) < (x.f1.size : Int) := by rw [L_size, hb, List.length_cons]; omega
      have hbt : bt x.f1 0 = (b.toNat : Int) := bt_d x.f1 0 b r hb
      rw [if_pos hk, if_pos hsp, hbt, hE, Option.bind_some, decide_eq_true hk, hb, headE]
      cases edgeB b with
      | true => rfl
      | false => rfl
    · rw [if_neg hk, decide_eq_false hk]
      rfl
theorem size_wt : ∀ (l : List S26), ∀ y ∈ l, y.f1.size ≤ wtL l
  | [], y, hy => by cases hy
  | x :: t, y, hy => by
    rw [wtL_cons]
    rcases List.mem_cons.1 hy with rfl | hy
    · omega
    · have := size_wt t y hy; omega
end Go.Proofs.YtmfffpfenhgjbaaDoor.Pure
/-! PWriteD -/
set_option linter.unusedVariables false
set_option linter.unusedSimpArgs false
namespace Go.Proofs.YtmfffpfenhgjbaaDoor.Pure
open Go.RowKit Go.Lib Go.Proofs.YtmfffpfenhgjbaaDoor.X Go.Proofs.YtmfffpfenhgjbaaDoorW.PrintWords Go.Proofs.YtmfffpfenhgjbaaDoorW.PrintLast Go.Proofs.YtmfffpfenhgjbaaDoorW.PrintMore
/-- The bytes that mean something. -/
def meantB (c : UInt8) : Bool := c == 92 || c == 42 || c == 91 || c == 93 || c == 35 || c == 62 || c == 45 || c == 96
/-- A text, escaped. -/
def escW : List UInt8 → List UInt8
  | [] => []
  | c :: t => if meantB c then 92 :: c :: escW t else c :: escW t
/-- Is there a run of just n backticks? -/
def runF (n : Nat) : Nat → List UInt8 → Bool
  | 0, _ => false
  | _ + 1, [] => false
  | k + 1, c :: t => if ticksL (c :: t) = n then true else runF n k ((c :: t).drop (max (ticksL (c :: t)) 1))
def runB (n : Nat) (l : List UInt8) : Bool := runF n l.length l
/-- The first number from n on that no run has. -/
def fenceF (l : List UInt8) : Nat → Nat → Nat
  | 0, n => n
  | k + 1, n => if runB n l then fenceF l k (n + 1) else n
def fenceL (l : List UInt8) : Nat := fenceF l (l.length + 1) 1
/-- A code's text, as it stands between backticks. -/
def padL (b : List UInt8) : List UInt8 :=
  if b ≠ [] ∧ (b.head? = some 96 ∨ b.getLast? = some 96 ∨ (b.any (fun c => c != 32) = true ∧ b.head? = some 32 ∧ b.getLast? = some 32)) then 32 :: (b ++ [32]) else b
mutual
/-- Spans as they are written. -/
def wrV : Sp → List UInt8
  | ⟨k, s, c⟩ => if k = 1 then escW (L s) else if k = 2 then List.replicate (fenceL (L s)) 96 ++ padL (L s) ++ List.replicate (fenceL (L s)) 96 else if k = 3 then 42 :: (wrL c ++ [42]) else 91 :: (wrL c ++ [93, 40] ++ L s ++ [41])
def wrL : List Sp → List UInt8
  | [] => []
  | x :: t => wrV x ++ wrL t
end
theorem wrV_eq (x : Sp) : wrV x = if x.f0 = 1 then escW (L x.f1) else if x.f0 = 2 then List.replicate (fenceL (L x.f1)) 96 ++ padL (L x.f1) ++ List.replicate (fenceL (L x.f1)) 96 else if x.f0 = 3 then 42 :: (wrL x.f2 ++ [42]) else 91 :: (wrL x.f2 ++ [93, 40] ++ L x.f1 ++ [41]) := by cases x; rw [wrV]
theorem wrL_cons (x : Sp) (t : List Sp) : wrL (x :: t) = wrV x ++ wrL t := by rw [wrL]
theorem wrL_append (a b : List Sp) : wrL (a ++ b) = wrL a ++ wrL b := by
  induction a with
  | nil => simp [wrL]
  | cons x t ih => rw [List.cons_append, wrL_cons, wrL_cons, ih, List.append_assoc]
/-! Runs -/
theorem ticks_append : ∀ (x r : List UInt8), (∀ h : x ≠ [], (x.getLast h).toNat ≠ 96) → x ≠ [] → ticksL (x ++ r) = ticksL x
  | [], _, _, h => absurd rfl h
  | [c], r, h, _ => by
    have := h (by simp)
    simp only [List.getLast_singleton] at this
    rw [List.singleton_append, ticksL, if_neg this, ticksL, if_neg this]
  | c :: d :: t, r, h, _ => by
    have ih := ticks_append (d :: t) r (fun _ => by have := h (by simp); simpa using this) (by simp)
    rw [List.cons_append, ticksL, ticksL, ih]
theorem ticks_rep (n : Nat) (r : List UInt8) (h : ∀ c ∈ r.head?, c.toNat ≠ 96) : ticksL (List.replicate n 96 ++ r) = n := by
  induction n with
  | zero =>
    cases r with
    | nil => rfl
    | cons c t => rw [List.replicate_zero, List.nil_append, ticksL, if_neg (h c (by simp))]
  | succ n ih => rw [List.replicate_succ, List.cons_append, ticksL, if_pos (by decide), ih]
theorem runF_more (n : Nat) : ∀ (k m : Nat) (l : List UInt8), l.length ≤ k → l.length ≤ m → runF n k l = runF n m l := by
  intro k
  induction k with
  | zero =>
    intro m l h _
    obtain rfl : l = [] := List.eq_nil_of_length_eq_zero (by omega)
    cases m <;> simp [runF]
  | succ k ih =>
    intro m l h h2
    cases l with
    | nil => cases m <;> simp [runF]
    | cons c t =>
      rw [List.length_cons] at h h2
      obtain ⟨m, rfl⟩ : ∃ j, m = j + 1 := ⟨m - 1, by omega⟩
      rw [runF, runF]
      split
      · rfl
      · exact ih m _ (by rw [List.length_drop, List.length_cons]; omega) (by rw [List.length_drop, List.length_cons]; omega)
theorem runB_nil (n : Nat) : runB n [] = false := rfl
theorem runB_cons (n : Nat) (c : UInt8) (t : List UInt8) : runB n (c :: t) = if ticksL (c :: t) = n then true else runB n ((c :: t).drop (max (ticksL (c :: t)) 1)) := by
  unfold runB
  rw [List.length_cons, runF]
  split
  · rfl
  · exact runF_more n _ _ _ (by rw [List.length_drop, List.length_cons]; omega) (Nat.le_refl _)
theorem runB_big (n : Nat) : ∀ (m : Nat) (l : List UInt8), l.length ≤ m → l.length < n → runB n l = false := by
  intro m
  induction m with
  | zero =>
    intro l h _
    obtain rfl : l = [] := List.eq_nil_of_length_eq_zero (by omega)
    rfl
  | succ m ih =>
    intro l h h2
    cases l with
    | nil => rfl
    | cons c t =>
      rw [runB_cons]
      have := ticksL_le (c :: t)
      rw [if_neg (by omega)]
      rw [List.length_cons] at h h2
      exact ih _ (by rw [List.length_drop, List.length_cons]; omega) (by rw [List.length_drop, List.length_cons]; omega)
theorem fenceF_pos (l : List UInt8) : ∀ (k n : Nat), n ≤ fenceF l k n
  | 0, n => Nat.le_refl _
  | k + 1, n => by
    rw [fenceF]
    split
    · exact Nat.le_trans (Nat.le_succ n) (fenceF_pos l k (n + 1))
    · exact Nat.le_refl _
theorem fenceF_out (l : List UInt8) : ∀ (k n : Nat), l.length < n + k → runB (fenceF l k n) l = false
  | 0, n, h => by rw [fenceF]; exact runB_big n _ l (Nat.le_refl _) (by omega)
  | k + 1, n, h => by
    rw [fenceF]
    split
    · exact fenceF_out l k (n + 1) (by omega)
    · rename_i g; exact Bool.eq_false_iff.mpr g
theorem fenceL_pos (l : List UInt8) : 1 ≤ fenceL l := fenceF_pos l _ _
theorem fenceL_out (l : List UInt8) : runB (fenceL l) l = false := fenceF_out l _ _ (by omega)
theorem fenceF_le (l : List UInt8) : ∀ (k n : Nat), n ≤ l.length + 1 → l.length < n + k → fenceF l k n ≤ l.length + 1
  | 0, n, h, h2 => by rw [fenceF]; omega
  | k + 1, n, h, h2 => by
    rw [fenceF]
    split
    · rename_i g
      rcases Nat.lt_or_ge l.length n with q | q
      · rw [runB_big n _ l (Nat.le_refl _) q] at g; cases g
      · exact fenceF_le l k (n + 1) (by omega) (by omega)
    · exact h
theorem fenceL_le (l : List UInt8) : fenceL l ≤ l.length + 1 := fenceF_le l _ _ (by omega) (by omega)
end Go.Proofs.YtmfffpfenhgjbaaDoor.Pure
/-! PWrite -/
set_option linter.unusedVariables false
set_option linter.unusedSimpArgs false
namespace Go.Proofs.YtmfffpfenhgjbaaDoor.Pure
open Go.RowKit Go.Lib Go.Proofs.YtmfffpfenhgjbaaDoor.X Go.Proofs.YtmfffpfenhgjbaaDoor.G Go.Proofs.YtmfffpfenhgjbaaDoorW.PrintWords Go.Proofs.YtmfffpfenhgjbaaDoorW.PrintLast Go.Proofs.YtmfffpfenhgjbaaDoorW.PrintMore
/-- A space behind changes no runs. -/
theorem runB_space (n : Nat) (hn : 1 ≤ n) : ∀ (m : Nat) (l : List UInt8), l.length ≤ m → runB n (l ++ [32]) = runB n l := by
  intro m
  induction m with
  | zero =>
    intro l h
    obtain rfl : l = [] := List.eq_nil_of_length_eq_zero (by omega)
    show runB n [32] = false
    rw [runB_cons]
    have : ticksL [32] = 0 := by decide
    rw [this, if_neg (by omega)]
    rfl
  | succ m ih =>
    intro l h
    cases l with
    | nil =>
      show runB n [32] = false
      rw [runB_cons]
      have : ticksL [32] = 0 := by decide
      rw [this, if_neg (by omega)]
      rfl
    | cons c t =>
      have e1 : ∀ x : List UInt8, ticksL (x ++ [32]) = ticksL x := by
        intro x
        induction x with
        | nil => decide
        | cons a y ihy => rw [List.cons_append, ticksL, ticksL, ihy]
      have hle := ticksL_le (c :: t)
      rw [List.cons_append, runB_cons, runB_cons, ← List.cons_append, e1]
      rw [List.length_cons] at h
      split
      · rfl
      · rw [List.drop_append_of_le_length (by rw [List.length_cons] at hle ⊢; omega)]
        exact ih _ (by rw [List.length_drop, List.length_cons]; omega)
theorem runB_pad (n : Nat) (hn : 1 ≤ n) (b : List UInt8) : runB n (padL b) = runB n b := by
  unfold padL
  split
  · rw [runB_cons]
    have : ticksL (32 :: (b ++ [32])) = 0 := by rw [ticksL, if_neg (by decide)]
    rw [this, if_neg (by omega)]
    exact runB_space n hn _ b (Nat.le_refl _)
  · rfl
theorem strip_pad (b : List UInt8) : stripL (padL b) = b := by
  unfold padL
  split
  · rename_i h
    obtain ⟨hne, h⟩ := h
    unfold stripL
    have h2 : (32 :: (b ++ [32])).getLast? = some 32 := by rw [List.getLast?_cons, List.getLast?_append]; rfl
    have h3 : (32 :: (b ++ [32])).any (fun c => c != 32) = true := by
      rw [List.any_cons, List.any_append]
      have : b.any (fun c => c != 32) = true := by
        rcases h with h | h | h
        · exact List.any_eq_true.2 ⟨96, List.mem_of_mem_head? h, by decide⟩
        · exact List.any_eq_true.2 ⟨96, List.mem_of_mem_getLast? h, by decide⟩
        · exact h.1
      rw [this]; simp
    rw [if_pos ⟨rfl, h2, h3⟩]
    simp
  · rename_i h
    unfold stripL
    split
    · rename_i g
      exfalso
      apply h
      refine ⟨fun e => ?_, Or.inr (Or.inr ⟨g.2.2, g.1, g.2.1⟩)⟩
      rw [e] at g; cases g.1
    · rfl
/-- A code is found. -/
theorem code_back (n : Nat) (hn : 1 ≤ n) (r : List UInt8) (hr : ∀ c ∈ r.head?, c.toNat ≠ 96) : ∀ (k : Nat) (acc x : List UInt8), x.length < k → (∀ c ∈ x, c.toNat ≠ 10) → runB n x = false → (∀ h : x ≠ [], (x.getLast h).toNat ≠ 96) →
    codeL n k acc (x ++ (List.replicate n 96 ++ r)) = some (acc ++ x, r) := by
  intro k
  induction k with
  | zero => intro acc x h; omega
  | succ k ih =>
    intro acc x hk h10 hrun hlast
    cases x with
    | nil =>
      obtain ⟨m, rfl⟩ : ∃ j, n = j + 1 := ⟨n - 1, by omega⟩
      have ht := ticks_rep (m + 1) r hr
      rw [List.replicate_succ, List.cons_append] at ht ⊢
      rw [List.nil_append, codeL, if_neg (by decide), if_pos ht]
      rw [← List.cons_append, ← List.replicate_succ, List.drop_left' (by simp), List.append_nil]
    | cons c t =>
      have ht := ticks_append (c :: t) (List.replicate n 96 ++ r) hlast (by simp)
      have hle := ticksL_le (c :: t)
      rw [runB_cons] at hrun
      rw [List.cons_append] at ht ⊢
      rw [codeL, if_neg (h10 c (by simp)), ht]
      by_cases hq : ticksL (c :: t) = n
      · rw [if_pos hq] at hrun; cases hrun
      · rw [if_neg hq] at hrun
        rw [if_neg hq, ← List.cons_append, List.take_append_of_le_length (by rw [List.length_cons] at hle ⊢; omega), List.drop_append_of_le_length (by rw [List.length_cons] at hle ⊢; omega)]
        rw [List.length_cons] at hk
        rw [ih _ _ (by rw [List.length_drop, List.length_cons]; omega) (fun c' hc' => h10 c' (List.mem_of_mem_drop hc')) hrun (fun hne => by
          have := List.getLast_drop hne
          rw [this]
          exact hlast (by simp))]
        rw [List.append_assoc, List.take_append_drop]
/-! Texts -/
theorem putL_last (A : List Sp) (b c : List UInt8) : putL (A ++ [tx b]) c = A ++ [tx (b ++ c)] := by
  induction A with
  | nil =>
    show putL [tx b] c = _
    rw [putL, if_pos (by rfl)]
    simp [tx, L]
  | cons x t ih =>
    cases t with
    | nil => rw [List.cons_append, List.nil_append, putL]; rw [List.nil_append] at ih; rw [ih]; rfl
    | cons y t => rw [List.cons_append, List.cons_append, putL, ← List.cons_append, ih]; rfl
theorem putL_new : ∀ (A : List Sp) (c : List UInt8), (∀ x ∈ A.getLast?, x.f0 ≠ 1) → putL A c = A ++ [tx c]
  | [], c, _ => rfl
  | [x], c, h => by rw [putL, if_neg (h x (by simp))]; rfl
  | x :: y :: t, c, h => by rw [putL, putL_new (y :: t) c (fun z hz => h z (by rw [List.getLast?_cons_cons]; exact hz))]; rfl
theorem meant_mark (c : UInt8) (h : meantB c = true) : markB c = true := by
  unfold meantB at h
  simp only [Bool.or_eq_true, beq_iff_eq] at h
  rcases h with ((((((h | h) | h) | h) | h) | h) | h) | h <;> subst h <;> decide
theorem meant_plain (c : UInt8) (h : meantB c = false) : c.toNat ≠ 92 ∧ c.toNat ≠ 42 ∧ c.toNat ≠ 91 ∧ c.toNat ≠ 93 ∧ c.toNat ≠ 96 := by
  have key : ∀ n : UInt8, c.toNat = n.toNat → c = n := fun n hn => UInt8.toNat_inj.1 hn
  refine ⟨fun e => ?_, fun e => ?_, fun e => ?_, fun e => ?_, fun e => ?_⟩
  · rw [key 92 e] at h; revert h; decide
  · rw [key 42 e] at h; revert h; decide
  · rw [key 91 e] at h; revert h; decide
  · rw [key 93 e] at h; revert h; decide
  · rw [key 96 e] at h; revert h; decide
/-- A byte that means nothing is read as text. -/
theorem rd_plain (D : UInt8 → Bool) (e k : Bool) (acc : List Sp) (c : UInt8) (t : List UInt8) (h : c.toNat ≠ 92 ∧ c.toNat ≠ 42 ∧ c.toNat ≠ 91 ∧ c.toNat ≠ 93 ∧ c.toNat ≠ 96) : rdL D e k acc (c :: t) = rdL D e k (putL acc [c]) t := by
  obtain ⟨h1, h2, h3, h4, h5⟩ := h
  have e1 : endB e k c = false := by unfold endB; rw [decide_eq_false h2, decide_eq_false h4]; rfl
  have e2 : escL (c :: t) = none := by
    unfold escL
    split
    · rename_i c' d t' heq
      injection heq with g1 g2
      subst g1
      rw [if_neg (fun q => h1 q.1)]
    · rfl
  have e3 : enclL D (fun e k l => rdL D e k [] l) e k (c :: t) = none := by
    unfold enclL
    dsimp only
    rw [if_neg h2, if_neg (fun q => h3 q.1), if_neg h5]
  have e4 : ticksL (c :: t) = 0 := by rw [ticksL, if_neg h5]
  rw [rdL_cons, e1, e2, e3, e4]
  rfl
/-- A byte behind a backslash. -/
theorem rd_esc (D : UInt8 → Bool) (e k : Bool) (acc : List Sp) (c : UInt8) (t : List UInt8) (h : markB c = true) : rdL D e k acc (92 :: c :: t) = rdL D e k (putL acc [c]) t := by
  have e1 : endB e k 92 = false := by unfold endB; cases e <;> cases k <;> rfl
  have e2 : escL (92 :: c :: t) = some (c, t) := if_pos ⟨rfl, h⟩
  rw [rdL_cons, e1, e2]
  rfl
/-- An escaped text is read as text. -/
theorem rd_text (D : UInt8 → Bool) (e k : Bool) (r : List UInt8) : ∀ (b : List UInt8) (A : List Sp) (p : List UInt8), rdL D e k (A ++ [tx p]) (escW b ++ r) = rdL D e k (A ++ [tx (p ++ b)]) r
  | [], A, p => by rw [escW, List.nil_append, List.append_nil]
  | c :: b, A, p => by
    rw [escW]
    cases hm : meantB c with
    | true => rw [if_pos rfl, List.cons_append, List.cons_append, rd_esc D e k _ c _ (meant_mark c hm), putL_last, rd_text D e k r b A (p ++ [c]), List.append_assoc]; rfl
    | false => rw [if_neg (by decide), List.cons_append, rd_plain D e k _ c _ (meant_plain c hm), putL_last, rd_text D e k r b A (p ++ [c]), List.append_assoc]; rfl
theorem rd_text0 (D : UInt8 → Bool) (e k : Bool) (r : List UInt8) (b : List UInt8) (hb : b ≠ []) (A : List Sp) (hA : ∀ x ∈ A.getLast?, x.f0 ≠ 1) : rdL D e k A (escW b ++ r) = rdL D e k (A ++ [tx b]) r := by
  cases b with
  | nil => exact absurd rfl hb
  | cons c b =>
    rw [escW]
    cases hm : meantB c with
    | true => rw [if_pos rfl, List.cons_append, List.cons_append, rd_esc D e k _ c _ (meant_mark c hm), putL_new A _ hA, rd_text D e k r b A [c]]; rfl
    | false => rw [if_neg (by decide), List.cons_append, rd_plain D e k _ c _ (meant_plain c hm), putL_new A _ hA, rd_text D e k r b A [c]]; rfl
theorem head_append (a b : List UInt8) (h : a ≠ []) : (a ++ b).head? = a.head? := by cases a with | nil => exact absurd rfl h | cons => rfl
theorem takeWhile_all (D : UInt8 → Bool) (d : UInt8) (hd : D d = false) (r : List UInt8) : ∀ s : List UInt8, s.all D = true → (s ++ d :: r).takeWhile D = s ∧ (s ++ d :: r).dropWhile D = d :: r
  | [], _ => by simp [hd]
  | c :: s, h => by
    rw [List.all_cons] at h
    have h1 := Bool.and_eq_true_iff.1 h
    have ih := takeWhile_all D d hd r s h1.2
    rw [List.cons_append, List.takeWhile_cons, List.dropWhile_cons, if_pos h1.1, if_pos h1.1, ih.1, ih.2]
    exact ⟨rfl, rfl⟩
theorem wr_head (l : List Sp) (last : Int) (e m : Bool) (h : allV l last e m = true) (r : List UInt8) (hr : ∀ c ∈ r.head?, c.toNat ≠ 96) (h2 : last = 2) : ∀ c ∈ (wrL l ++ r).head?, c.toNat ≠ 96 := by
  cases l with
  | nil => rw [wrL]; exact hr
  | cons x t =>
    rw [allV_cons] at h
    have h1 := Bool.and_eq_true_iff.1 (Bool.and_eq_true_iff.1 h).1
    have ho := h1.1
    rw [oneV_eq] at ho
    rw [wrL_cons, wrV_eq]
    intro c hc
    by_cases k1 : x.f0 = 1
    · rw [if_pos k1] at ho hc
      have hne := text_ne _ (Bool.and_eq_true_iff.1 (Bool.and_eq_true_iff.1 ho).2).2
      cases hL : L x.f1 with
      | nil => exact absurd hL hne
      | cons b q =>
        rw [hL, escW] at hc
        cases hm : meantB b with
        | true => rw [hm, if_pos rfl] at hc; simp at hc; subst hc; decide
        | false => rw [hm, if_neg (by decide)] at hc; simp at hc; subst hc; exact (meant_plain b hm).2.2.2.2
    · rw [if_neg k1] at ho hc
      by_cases k2 : x.f0 = 2
      · subst h2
        rw [k2] at h1
        have := h1.2
        simp at this
      · rw [if_neg k2] at hc
        by_cases k3 : x.f0 = 3
        · rw [if_pos k3] at hc; simp at hc; subst hc; decide
        · rw [if_neg k3] at hc; simp at hc; subst hc; decide
theorem mt_of_L {s : ByteArray} (h : (L s).isEmpty = true) : s = mtP := L_ext (by rw [List.isEmpty_iff.1 h]; rfl)
theorem pad_facts (b : List UInt8) (hne : b ≠ []) (h10 : ∀ c ∈ b, c.toNat ≠ 10) : ∃ p q, padL b = p :: q ∧ p.toNat ≠ 96 ∧ (∀ h : padL b ≠ [], ((padL b).getLast h).toNat ≠ 96) ∧ ∀ c ∈ padL b, c.toNat ≠ 10 := by
  have hl : (∃ p q, padL b = p :: q ∧ p.toNat ≠ 96) ∧ (∀ c ∈ (padL b).getLast?, c.toNat ≠ 96) ∧ ∀ c ∈ padL b, c.toNat ≠ 10 := by
    unfold padL
    split
    · refine ⟨⟨32, b ++ [32], rfl, by decide⟩, fun c hc => ?_, fun c hc => ?_⟩
      · rw [List.getLast?_cons, List.getLast?_append] at hc
        simp at hc
        subst hc
        decide
      · rcases List.mem_cons.1 hc with rfl | hc
        · decide
        · rcases List.mem_append.1 hc with hc | hc
          · exact h10 c hc
          · simp at hc; subst hc; decide
    · rename_i hno
      refine ⟨?_, fun c hc e => hno ⟨hne, Or.inr (Or.inl ?_)⟩, h10⟩
      · cases b with
        | nil => exact absurd rfl hne
        | cons p q =>
          refine ⟨p, q, rfl, fun e => hno ⟨hne, Or.inl ?_⟩⟩
          rw [List.head?_cons, toNat_inj (a := p) (b := 96) e]
      · rw [← toNat_inj (a := c) (b := 96) e]
        exact hc
  obtain ⟨⟨p, q, h1, h2⟩, h3, h4⟩ := hl
  exact ⟨p, q, h1, h2, fun h => h3 _ (by rw [List.getLast?_eq_some_getLast h]; rfl), h4⟩
/-- WHAT IS WRITTEN IS READ AS IT WAS. -/
theorem back (n : Nat) : ∀ (l : List Sp) (last : Int) (e k : Bool) (A : List Sp) (r : List UInt8), SizeOf.sizeOf l < n → allV l last e k = true → (∀ x ∈ A.getLast?, x.f0 = last) → (A = [] → last = 0) → (∀ c ∈ r.head?, c.toNat ≠ 96) →
    rdL dstB e k A (wrL l ++ r) = rdL dstB e k (A ++ l) r := by
  induction n with
  | zero => intro l last e k A r h; omega
  | succ n ih =>
    intro l
    induction l with
    | nil => intro last e k A r _ _ _ _ _; rw [wrL, List.nil_append, List.append_nil]
    | cons x t iht =>
      intro last e k A r hn hall hA hA0 hr
      have hsk : SizeOf.sizeOf x.f2 < n := by
        have := size_kids x t
        omega
      have hst : SizeOf.sizeOf t < n + 1 := by
        have := size_tail x t
        omega
      rw [allV_cons] at hall
      have h1 := Bool.and_eq_true_iff.1 hall
      have h2 := Bool.and_eq_true_iff.1 h1.1
      have ho := h2.1
      have hadj := h2.2
      rw [oneV_eq] at ho
      have hcheck := (Bool.and_eq_true_iff.1 ho).1
      have ho := (Bool.and_eq_true_iff.1 ho).2
      have tailq := iht x.f0 e k (A ++ [x]) r hst h1.2 (fun y hy => by rw [List.getLast?_append] at hy; simp at hy; rw [← hy]) (fun h => by simp at h) hr
      rw [List.append_assoc, List.singleton_append] at tailq
      rw [wrL_cons, List.append_assoc, ← tailq, wrV_eq]
      by_cases k1 : x.f0 = 1
      · rw [if_pos k1] at ho ⊢
        have ho2 := Bool.and_eq_true_iff.1 ho
        have hne := text_ne _ ho2.2
        have hx : x = tx (L x.f1) := by
          obtain ⟨f0, f1, f2⟩ := x
          have e2 : f2 = [] := List.isEmpty_iff.1 ho2.1
          subst e2
          obtain rfl : f0 = 1 := k1
          unfold tx
          rw [L_mk']
        have hq := rd_text0 dstB e k (wrL t ++ r) (L x.f1) hne A (fun y hy hy1 => by
          have := hA y hy
          rw [← this, hy1, k1] at hadj
          simp at hadj)
        rw [hq, ← hx]
      · rw [if_neg k1] at ho ⊢
        by_cases k2 : x.f0 = 2
        · rw [if_pos k2] at ho ⊢
          simp only [Bool.and_eq_true, Bool.not_eq_true'] at ho
          obtain ⟨⟨⟨o1, o2⟩, o3⟩, o4⟩ := ho
          have hfp := fenceL_pos (L x.f1)
          have hne : L x.f1 ≠ [] := fun e => by rw [e] at o2; cases o2
          have h10 : ∀ c ∈ L x.f1, c.toNat ≠ 10 := fun c hc e => by
            have : c = 10 := UInt8.toNat_inj.1 e
            subst this
            rw [List.contains_iff_mem.2 hc] at o4
            cases o4
          obtain ⟨p, q, hpq, hp96, hplast, hp10⟩ := pad_facts (L x.f1) hne h10
          obtain ⟨f, hf⟩ : ∃ f, fenceL (L x.f1) = f + 1 := ⟨fenceL (L x.f1) - 1, by omega⟩
          have hrest := wr_head t x.f0 e k h1.2 r hr k2
          have hcode := code_back (fenceL (L x.f1)) hfp (wrL t ++ r) hrest
          have hrun : runB (fenceL (L x.f1)) (padL (L x.f1)) = false := by rw [runB_pad _ hfp]; exact fenceL_out _
          have hx : x = ⟨2, ⟨(stripL (padL (L x.f1))).toArray⟩, []⟩ := by
            rw [strip_pad]
            obtain ⟨f0, f1, f2⟩ := x
            have e2 : f2 = [] := List.isEmpty_iff.1 o1
            subst e2
            obtain rfl : f0 = 2 := k2
            rw [L_mk']
          have hl : List.replicate (fenceL (L x.f1)) 96 ++ padL (L x.f1) ++ List.replicate (fenceL (L x.f1)) 96 ++ (wrL t ++ r) = 96 :: (List.replicate f 96 ++ (padL (L x.f1) ++ (List.replicate (fenceL (L x.f1)) 96 ++ (wrL t ++ r)))) := by
            rw [hf, List.replicate_succ]; simp
          have ht : ticksL (96 :: (List.replicate f 96 ++ (padL (L x.f1) ++ (List.replicate (fenceL (L x.f1)) 96 ++ (wrL t ++ r))))) = fenceL (L x.f1) := by
            have := ticks_rep (f + 1) (padL (L x.f1) ++ (List.replicate (fenceL (L x.f1)) 96 ++ (wrL t ++ r))) (by rw [hpq]; simp; exact hp96)
            rw [List.replicate_succ, List.cons_append] at this
            rw [this, hf]
          have hdrop : (96 :: (List.replicate f 96 ++ (padL (L x.f1) ++ (List.replicate (fenceL (L x.f1)) 96 ++ (wrL t ++ r))))).drop (fenceL (L x.f1)) = padL (L x.f1) ++ (List.replicate (fenceL (L x.f1)) 96 ++ (wrL t ++ r)) := by
            have : (96 : UInt8) :: (List.replicate f 96 ++ (padL (L x.f1) ++ (List.replicate (fenceL (L x.f1)) 96 ++ (wrL t ++ r)))) = List.replicate (fenceL (L x.f1)) 96 ++ (padL (L x.f1) ++ (List.replicate (fenceL (L x.f1)) 96 ++ (wrL t ++ r))) := by rw [hf, List.replicate_succ]; rfl
            rw [this, List.drop_left' (by simp)]
          have e1 : endB e k 96 = false := by unfold endB; cases e <;> cases k <;> rfl
          have e2 : ∀ z, escL (96 :: z) = none := by
            intro z
            unfold escL
            split
            · rename_i c' d t' heq
              injection heq with g1 g2
              subst g1
              rw [if_neg (fun q => by have := q.1; revert this; decide)]
            · rfl
          have e3 : ∀ z, ticksL (96 :: z) = fenceL (L x.f1) → (96 :: z).drop (fenceL (L x.f1)) = padL (L x.f1) ++ (List.replicate (fenceL (L x.f1)) 96 ++ (wrL t ++ r)) → enclL dstB (fun e k l => rdL dstB e k [] l) e k (96 :: z) = some (x, wrL t ++ r) := by
            intro z hz1 hz2
            unfold enclL
            dsimp only
            rw [if_neg (by decide), if_neg (fun q => by have := q.1; revert this; decide), if_pos (by decide), hz1, hz2, hcode (96 :: z).length [] (padL (L x.f1)) (by
              have h1 := congrArg List.length hz2
              rw [List.length_drop, List.length_append] at h1
              have h2 : 0 < (96 :: z).length := Nat.succ_pos _
              have h3 : 0 < fenceL (L x.f1) := hfp
              have h4 : ∀ a b c d : Nat, a - b = c + d → 0 < a → 0 < b → c < a := by intro a b c d; omega
              exact h4 _ _ _ _ h1 h2 h3) hp10 hrun hplast, List.nil_append]
            exact congrArg (fun y => some (y, wrL t ++ r)) hx.symm
          rw [hl, rdL_cons, e1, e2, e3 _ ht hdrop]
          rfl
        · rw [if_neg k2] at ho ⊢
          by_cases k3 : x.f0 = 3
          · rw [if_pos k3] at ho ⊢
            simp only [Bool.and_eq_true, Bool.not_eq_true'] at ho
            obtain ⟨⟨⟨o1, o2⟩, o3⟩, o4⟩ := ho
            subst o3
            have hk := ih x.f2 0 true k [] (42 :: (wrL t ++ r)) hsk o4 (fun y hy => by cases hy) (fun _ => rfl) (by simp)
            have hstop : rdL dstB true k ([] ++ x.f2) (42 :: (wrL t ++ r)) = (x.f2, 42 :: (wrL t ++ r)) := by
              rw [rdL_cons]
              have : endB true k 42 = true := by unfold endB; cases k <;> rfl
              rw [if_pos this]; rfl
            rw [hstop] at hk
            have e1 : endB false k 42 = false := by unfold endB; cases k <;> rfl
            have e2 : ∀ z, escL (42 :: z) = none := by
              intro z
              unfold escL
              split
              · rename_i c' d t' heq
                injection heq with g1 g2
                subst g1
                rw [if_neg (fun q => by have := q.1; revert this; decide)]
              · rfl
            have e3 : enclL dstB (fun e k l => rdL dstB e k [] l) false k (42 :: (wrL x.f2 ++ 42 :: (wrL t ++ r))) = some (x, wrL t ++ r) := by
              unfold enclL
              dsimp only
              rw [if_pos (by decide)]
              simp only [hk]
              rw [if_pos ⟨by decide, fun e => by rw [e] at o2; cases o2⟩]
              obtain ⟨f0, f1, f2⟩ := x
              obtain rfl : f0 = 3 := k3
              obtain rfl : f1 = mtP := mt_of_L o1
              rfl
            have hl : (42 :: (wrL x.f2 ++ [42])) ++ (wrL t ++ r) = 42 :: (wrL x.f2 ++ 42 :: (wrL t ++ r)) := by simp
            rw [hl, rdL_cons, e1, e2, e3]
            rfl
          · rw [if_neg k3] at ho ⊢
            by_cases k4 : x.f0 = 4
            · rw [if_pos k4] at ho
              simp only [Bool.and_eq_true, Bool.not_eq_true'] at ho
              obtain ⟨⟨⟨o1, o2⟩, o3⟩, o4⟩ := ho
              subst o3
              have hk := ih x.f2 0 e true [] (93 :: 40 :: (L x.f1 ++ 41 :: (wrL t ++ r))) hsk o4 (fun y hy => by cases hy) (fun _ => rfl) (by simp)
              have hstop : rdL dstB e true ([] ++ x.f2) (93 :: 40 :: (L x.f1 ++ 41 :: (wrL t ++ r))) = (x.f2, 93 :: 40 :: (L x.f1 ++ 41 :: (wrL t ++ r))) := by
                rw [rdL_cons]
                have : endB e true 93 = true := by unfold endB; cases e <;> rfl
                rw [if_pos this]; rfl
              rw [hstop] at hk
              unfold destL at o1
              have o1' := Bool.and_eq_true_iff.1 o1
              have htw := takeWhile_all dstB 41 (by decide) (wrL t ++ r) (L x.f1) o1'.2
              have hto : toL dstB (40 :: (L x.f1 ++ 41 :: (wrL t ++ r))) = some (L x.f1, wrL t ++ r) := by
                unfold toL
                dsimp only
                rw [htw.1, htw.2]
                have hne : L x.f1 ≠ [] := fun e => by rw [e] at o1'; exact absurd o1'.1 (by decide)
                rw [if_pos ⟨by decide, hne⟩]
                dsimp only
                rw [if_pos (by decide)]
              have e1 : endB e false 91 = false := by unfold endB; cases e <;> rfl
              have e2 : ∀ z, escL (91 :: z) = none := by
                intro z
                unfold escL
                split
                · rename_i c' d t' heq
                  injection heq with g1 g2
                  subst g1
                  rw [if_neg (fun q => by have := q.1; revert this; decide)]
                · rfl
              have e3 : enclL dstB (fun e k l => rdL dstB e k [] l) e false (91 :: (wrL x.f2 ++ 93 :: 40 :: (L x.f1 ++ 41 :: (wrL t ++ r)))) = some (x, wrL t ++ r) := by
                unfold enclL
                dsimp only
                rw [if_neg (by decide), if_pos ⟨by decide, rfl⟩]
                simp only [hk]
                rw [if_pos ⟨by decide, fun e => by rw [e] at o2; cases o2⟩, hto]
                obtain ⟨f0, f1, f2⟩ := x
                obtain rfl : f0 = 4 := k4
                show some ((⟨4, ⟨(L f1).toArray⟩, f2⟩ : Sp), wrL t ++ r) = _
                rw [L_mk']
              have hl : 91 :: (wrL x.f2 ++ [93, 40] ++ L x.f1 ++ [41]) ++ (wrL t ++ r) = 91 :: (wrL x.f2 ++ 93 :: 40 :: (L x.f1 ++ 41 :: (wrL t ++ r))) := by simp
              rw [hl, rdL_cons, e1, e2, e3]
              rfl
            · rw [if_neg k4] at ho; cases ho
end Go.Proofs.YtmfffpfenhgjbaaDoor.Pure
/-! PUtfA -/
namespace Go.Proofs.YtmfffpfenhgjbaaDoor.Pure
open Go.RowKit Go.Lib Go.Proofs.YtmfffpfenhgjbaaDoor.X Go.Proofs.YtmfffpfenhgjbaaDoor.G Go.Proofs.YtmfffpfenhgjbaaDoorW.PrintWords Go.Proofs.YtmfffpfenhgjbaaDoorW.PrintLast Go.Proofs.YtmfffpfenhgjbaaDoorW.PrintMore
set_option maxRecDepth 100000 in
set_option maxHeartbeats 4000000 in
theorem nxN_more (n n' b0 b1 b2 b3 c1 c2 c3 : Nat) (_hn : 1 ≤ n) (hnn : n ≤ n') (h1 : 1 < n → c1 = b1) (h2 : 2 < n → c2 = b2) (h3 : 3 < n → c3 = b3) (h : nxN n b0 b1 b2 b3 ≠ (0, 0)) :
    nxN n' b0 c1 c2 c3 = nxN n b0 b1 b2 b3 := by
  unfold nxN decodeN at h ⊢
  by_cases g : b0 < 128
  · rw [if_pos g, if_pos g]
  rw [if_neg g] at h
  rw [if_neg g, if_neg g]
  by_cases g2 : b0 / 32 = 6 ∧ (1 < n ∧ b1 / 64 = 2)
  · obtain rfl := h1 g2.2.1
    rw [if_pos g2, if_pos ⟨g2.1, by omega, g2.2.2⟩]
  rw [if_neg g2] at h
  by_cases g3 : b0 / 16 = 14 ∧ (1 < n ∧ b1 / 64 = 2) ∧ (2 < n ∧ b2 / 64 = 2)
  · obtain rfl := h1 g3.2.1.1
    obtain rfl := h2 g3.2.2.1
    rw [if_neg (show ¬ (b0 / 32 = 6 ∧ (1 < n' ∧ c1 / 64 = 2)) by omega), if_pos ⟨g3.1, ⟨by omega, g3.2.1.2⟩, by omega, g3.2.2.2⟩, if_neg g2, if_pos g3]
  rw [if_neg g3] at h
  by_cases g4 : b0 / 8 = 30 ∧ (1 < n ∧ b1 / 64 = 2) ∧ (2 < n ∧ b2 / 64 = 2) ∧ (3 < n ∧ b3 / 64 = 2)
  · obtain rfl := h1 g4.2.1.1
    obtain rfl := h2 g4.2.2.1.1
    obtain rfl := h3 g4.2.2.2.1
    rw [if_neg (show ¬ (b0 / 32 = 6 ∧ (1 < n' ∧ c1 / 64 = 2)) by omega), if_neg (show ¬ (b0 / 16 = 14 ∧ (1 < n' ∧ c1 / 64 = 2) ∧ (2 < n' ∧ c2 / 64 = 2)) by omega), if_pos ⟨g4.1, ⟨by omega, g4.2.1.2⟩, ⟨by omega, g4.2.2.1.2⟩, by omega, g4.2.2.2.2⟩, if_neg g2, if_neg g3, if_pos g4]
  rw [if_neg g4] at h
  exact absurd rfl h
/-- What a character's bytes are, as far as cuts ask. -/
theorem nxN_shape (n b0 b1 b2 b3 : Nat) (h : nxN n b0 b1 b2 b3 ≠ (0, 0)) :
    (b0 < 128 ∧ (nxN n b0 b1 b2 b3).2 = 1) ∨ (b0 / 32 = 6 ∧ b1 / 64 = 2 ∧ (nxN n b0 b1 b2 b3).2 = 2) ∨ (b0 / 16 = 14 ∧ b1 / 64 = 2 ∧ b2 / 64 = 2 ∧ (nxN n b0 b1 b2 b3).2 = 3) ∨ (b0 / 8 = 30 ∧ b1 / 64 = 2 ∧ b2 / 64 = 2 ∧ b3 / 64 = 2 ∧ (nxN n b0 b1 b2 b3).2 = 4) := by
  unfold nxN decodeN at h ⊢
  by_cases g : b0 < 128
  · rw [if_pos g]
    exact .inl ⟨g, by unfold nxp; rw [if_neg (by simp; omega)]⟩
  rw [if_neg g] at h ⊢
  by_cases g2 : b0 / 32 = 6 ∧ (1 < n ∧ b1 / 64 = 2)
  · rw [if_pos g2] at h ⊢
    refine .inr (.inl ⟨g2.1, g2.2.2, ?_⟩)
    split at h
    · rename_i q; rw [if_pos q, nxp_ok _ _ (by decide)]
    · exact absurd rfl h
  rw [if_neg g2] at h ⊢
  by_cases g3 : b0 / 16 = 14 ∧ (1 < n ∧ b1 / 64 = 2) ∧ (2 < n ∧ b2 / 64 = 2)
  · rw [if_pos g3] at h ⊢
    refine .inr (.inr (.inl ⟨g3.1, g3.2.1.2, g3.2.2.2, ?_⟩))
    split at h
    · rename_i q; rw [if_pos q, nxp_ok _ _ (by decide)]
    · exact absurd rfl h
  rw [if_neg g3] at h ⊢
  by_cases g4 : b0 / 8 = 30 ∧ (1 < n ∧ b1 / 64 = 2) ∧ (2 < n ∧ b2 / 64 = 2) ∧ (3 < n ∧ b3 / 64 = 2)
  · rw [if_pos g4] at h ⊢
    refine .inr (.inr (.inr ⟨g4.1, g4.2.1.2, g4.2.2.1.2, g4.2.2.2.2, ?_⟩))
    split at h
    · rename_i q; rw [if_pos q, nxp_ok _ _ (by decide)]
    · exact absurd rfl h
  rw [if_neg g4] at h
  exact absurd rfl h
theorem nxN_bad (n b0 b1 b2 b3 : Nat) (h : (128 ≤ b0 ∧ b0 / 64 = 2) ∨ (b0 / 32 = 6 ∧ n ≤ 1) ∨ (b0 / 16 = 14 ∧ n ≤ 2) ∨ (b0 / 8 = 30 ∧ n ≤ 3)) : nxN n b0 b1 b2 b3 = (0, 0) := by
  unfold nxN decodeN
  rw [if_neg (by omega), if_neg (by omega), if_neg (by omega), if_neg (by omega)]
  rfl
theorem nx_pair (l : List UInt8) : (nx l).2 = 0 ↔ nx l = (0, 0) := by
  constructor
  · intro h
    rcases Decidable.em (l = []) with rfl | hl
    · rfl
    · unfold nx at h ⊢
      rw [if_neg hl] at h ⊢
      unfold nxp at h ⊢
      split at h
      · rename_i q; rw [if_pos q]
      · have := (decodeL_bound l).2.1; omega
  · intro h; rw [h]
theorem b_append (x y : List UInt8) (j : Nat) (h : j < x.length) : b_ (x ++ y) j = b_ x j := by
  unfold b_
  simp [List.getD, List.getElem?_append_left h]
theorem nx_append (x y : List UInt8) (h : (nx x).2 ≠ 0) : nx (x ++ y) = nx x := by
  have hx : x ≠ [] := by rintro rfl; exact h rfl
  have hl : 0 < x.length := List.length_pos_iff.2 hx
  have hne : nx x ≠ (0, 0) := fun e => h (by rw [e])
  rw [nx_N x hx] at hne ⊢
  rw [nx_N (x ++ y) (by simp [hx])]
  rw [b_append x y 0 hl]
  exact nxN_more _ _ _ _ _ _ _ _ _ (by omega) (by simp) (fun q => b_append x y 1 q) (fun q => b_append x y 2 q) (fun q => b_append x y 3 q) hne
/-- A text behind a text. -/
theorem valid_append (x y : List UInt8) (h : validD x = true) : validD (x ++ y) = validD y := by
  suffices ∀ (n : Nat) (x : List UInt8), x.length ≤ n → validD x = true → validD (x ++ y) = validD y from this x.length x (Nat.le_refl _) h
  intro n
  induction n with
  | zero =>
    intro x hx _
    obtain rfl := List.eq_nil_of_length_eq_zero (Nat.le_zero.1 hx)
    rfl
  | succ n ih =>
    intro x hx h
    rcases Decidable.em (x = []) with rfl | hne
    · rfl
    rw [valid_nx x hne] at h
    rw [valid_nx (x ++ y) (by simp [hne])]
    by_cases e : (nx x).2 = 0
    · rw [if_pos e] at h; cases h
    rw [if_neg e] at h
    rw [nx_append x y e, if_neg e, List.drop_append_of_le_length (nx_le x)]
    exact ih _ (by rw [List.length_drop]; omega) h
set_option maxRecDepth 100000 in
set_option maxHeartbeats 4000000 in
theorem nxN_alone (n b0 b1 b2 b3 c1 c2 c3 : Nat) (h : nxN n b0 b1 b2 b3 ≠ (0, 0)) (h1 : 1 < (nxN n b0 b1 b2 b3).2 → c1 = b1) (h2 : 2 < (nxN n b0 b1 b2 b3).2 → c2 = b2) (h3 : 3 < (nxN n b0 b1 b2 b3).2 → c3 = b3) :
    nxN (nxN n b0 b1 b2 b3).2 b0 c1 c2 c3 = nxN n b0 b1 b2 b3 := by
  have key : ∀ m, (nxN n b0 b1 b2 b3).2 = m → nxN m b0 c1 c2 c3 = nxN n b0 b1 b2 b3 := by
    intro m hm
    rw [hm] at h1 h2 h3
    rcases nxN_shape n b0 b1 b2 b3 h with ⟨q, e⟩ | ⟨q, q1, e⟩ | ⟨q, q1, q2, e⟩ | ⟨q, q1, q2, q3, e⟩
    · unfold nxN decodeN; rw [if_pos q, if_pos q]
    · have a1 : ¬ b0 < 128 := by omega
      obtain rfl : m = 2 := by omega
      obtain rfl := h1 (by decide)
      have g : 1 < n := by
        rcases Nat.lt_or_ge 1 n with g | g
        · exact g
        · exact absurd (nxN_bad n b0 c1 b2 b3 (by omega)) h
      unfold nxN decodeN
      rw [if_neg a1, if_neg a1, if_pos (show b0 / 32 = 6 ∧ (1 < 2 ∧ c1 / 64 = 2) from ⟨q, by omega, q1⟩), if_pos (show b0 / 32 = 6 ∧ (1 < n ∧ c1 / 64 = 2) from ⟨q, g, q1⟩)]
    · have a1 : ¬ b0 < 128 := by omega
      obtain rfl : m = 3 := by omega
      obtain rfl := h1 (by decide)
      obtain rfl := h2 (by decide)
      have g : 2 < n := by
        rcases Nat.lt_or_ge 2 n with g | g
        · exact g
        · exact absurd (nxN_bad n b0 c1 c2 b3 (by omega)) h
      unfold nxN decodeN
      rw [if_neg a1, if_neg a1, if_neg (show ¬ (b0 / 32 = 6 ∧ (1 < 3 ∧ c1 / 64 = 2)) by omega), if_neg (show ¬ (b0 / 32 = 6 ∧ (1 < n ∧ c1 / 64 = 2)) by omega), if_pos (show b0 / 16 = 14 ∧ (1 < 3 ∧ c1 / 64 = 2) ∧ (2 < 3 ∧ c2 / 64 = 2) from ⟨q, ⟨by omega, q1⟩, by omega, q2⟩), if_pos (show b0 / 16 = 14 ∧ (1 < n ∧ c1 / 64 = 2) ∧ (2 < n ∧ c2 / 64 = 2) from ⟨q, ⟨by omega, q1⟩, g, q2⟩)]
    · have a1 : ¬ b0 < 128 := by omega
      obtain rfl : m = 4 := by omega
      obtain rfl := h1 (by decide)
      obtain rfl := h2 (by decide)
      obtain rfl := h3 (by decide)
      have g : 3 < n := by
        rcases Nat.lt_or_ge 3 n with g | g
        · exact g
        · exact absurd (nxN_bad n b0 c1 c2 c3 (by omega)) h
      unfold nxN decodeN
      rw [if_neg a1, if_neg a1, if_neg (show ¬ (b0 / 32 = 6 ∧ (1 < 4 ∧ c1 / 64 = 2)) by omega), if_neg (show ¬ (b0 / 32 = 6 ∧ (1 < n ∧ c1 / 64 = 2)) by omega), if_neg (show ¬ (b0 / 16 = 14 ∧ (1 < 4 ∧ c1 / 64 = 2) ∧ (2 < 4 ∧ c2 / 64 = 2)) by omega), if_neg (show ¬ (b0 / 16 = 14 ∧ (1 < n ∧ c1 / 64 = 2) ∧ (2 < n ∧ c2 / 64 = 2)) by omega), if_pos (show b0 / 8 = 30 ∧ (1 < 4 ∧ c1 / 64 = 2) ∧ (2 < 4 ∧ c2 / 64 = 2) ∧ (3 < 4 ∧ c3 / 64 = 2) from ⟨q, ⟨by omega, q1⟩, ⟨by omega, q2⟩, by omega, q3⟩), if_pos (show b0 / 8 = 30 ∧ (1 < n ∧ c1 / 64 = 2) ∧ (2 < n ∧ c2 / 64 = 2) ∧ (3 < n ∧ c3 / 64 = 2) from ⟨q, ⟨by omega, q1⟩, ⟨by omega, q2⟩, g, q3⟩)]
  exact key _ rfl
/-- A character alone is a text. -/
theorem valid_alone (l : List UInt8) (h : (nx l).2 ≠ 0) : validD (l.take (nx l).2) = true := by
  have hl : l ≠ [] := by rintro rfl; exact h rfl
  have hle := nx_le l
  have hne : nx l ≠ (0, 0) := fun e => h (by rw [e])
  have hlen : (l.take (nx l).2).length = (nx l).2 := by rw [List.length_take]; omega
  have ht : l.take (nx l).2 ≠ [] := by
    intro e
    rw [e] at hlen
    exact h hlen.symm
  have hb : ∀ j, j < (nx l).2 → b_ (l.take (nx l).2) j = b_ l j := by
    intro j hj
    conv => rhs; rw [← List.take_append_drop (nx l).2 l]
    exact (b_append _ _ j (by omega)).symm
  have e : nx (l.take (nx l).2) = nx l := by
    rw [nx_N _ ht, hlen, hb 0 (by omega)]
    have hs := nx_N l hl
    rw [hs] at hne hb ⊢
    exact nxN_alone _ _ _ _ _ _ _ _ hne (hb 1) (hb 2) (hb 3)
  rw [valid_nx _ ht, e, if_neg h, List.drop_eq_nil_of_le (by omega)]
  rfl
/-- A character's first bytes alone, and what is left of it ahead of anything, are no text. -/
theorem nx_cut (l : List UInt8) (j : Nat) (h0 : 0 < j) (h : j < (nx l).2) : validD (l.take j) = false ∧ validD (l.drop j) = false := by
  have hl : l ≠ [] := by rintro rfl; cases h
  have hle := nx_le l
  have hne : nx l ≠ (0, 0) := fun e => by rw [e] at h; cases h
  have hs := nx_N l hl
  rw [hs] at hne h hle
  have sh := nxN_shape _ _ _ _ _ hne
  have ht : l.take j ≠ [] := by
    intro e
    have := congrArg List.length e
    rw [List.length_take, List.length_nil] at this
    omega
  have hd : l.drop j ≠ [] := by
    intro e
    have := congrArg List.length e
    rw [List.length_drop, List.length_nil] at this
    omega
  have hb0 : b_ (l.take j) 0 = b_ l 0 := by
    conv => rhs; rw [← List.take_append_drop j l]
    exact (b_append _ _ 0 (by rw [List.length_take]; omega)).symm
  have hdb : b_ (l.drop j) 0 = b_ l j := by
    unfold b_
    simp [List.getD]
  constructor
  · rw [valid_nx _ ht, nx_N _ ht, hb0, nxN_bad]
    · rfl
    · rw [List.length_take]; omega
  · rw [valid_nx _ hd, nx_N _ hd, nxN_bad]
    · rfl
    · rw [hdb]
      have hj : j = 1 ∨ j = 2 ∨ j = 3 := by omega
      left
      rcases hj with rfl | rfl | rfl <;> omega
end Go.Proofs.YtmfffpfenhgjbaaDoor.Pure
/-! PValid -/
namespace Go.Proofs.YtmfffpfenhgjbaaDoor.Pure
open Go.RowKit Go.Lib Go.Proofs.YtmfffpfenhgjbaaDoor.X Go.Proofs.YtmfffpfenhgjbaaDoor.G Go.Proofs.YtmfffpfenhgjbaaDoorW.PrintWords Go.Proofs.YtmfffpfenhgjbaaDoorW.PrintLast Go.Proofs.YtmfffpfenhgjbaaDoorW.PrintMore
/-- What stands ahead of a letter of ASCII is a text. -/
theorem valid_left (c : UInt8) (hc : c.toNat < 128) (y : List UInt8) : ∀ (n : Nat) (x : List UInt8), x.length ≤ n → validD (x ++ c :: y) = true → validD x = true := by
  intro n
  induction n with
  | zero =>
    intro x hx _
    obtain rfl := List.eq_nil_of_length_eq_zero (Nat.le_zero.1 hx)
    exact validD_nil
  | succ n ih =>
    intro x hx h
    rcases Decidable.em (x = []) with rfl | hne
    · exact validD_nil
    have hl : x ++ c :: y ≠ [] := by simp
    rw [valid_nx _ hl] at h
    by_cases e : (nx (x ++ c :: y)).2 = 0
    · rw [if_pos e] at h; cases h
    rw [if_neg e] at h
    have hpair : nx (x ++ c :: y) ≠ (0, 0) := fun q => e (by rw [q])
    have hN := nx_N _ hl
    have sh : (nx (x ++ c :: y)).2 ≤ x.length := by
      rcases Nat.lt_or_ge x.length (nx (x ++ c :: y)).2 with g | g
      · exfalso
        have hx0 : 0 < x.length := List.length_pos_iff.2 hne
        have hb : b_ (x ++ c :: y) x.length = c.toNat := by
          unfold b_
          simp [List.getD]
        have hs := nxN_shape (x ++ c :: y).length (b_ (x ++ c :: y) 0) (b_ (x ++ c :: y) 1) (b_ (x ++ c :: y) 2) (b_ (x ++ c :: y) 3) (by rw [← hN]; exact hpair)
        rw [← hN] at hs
        have hj : x.length = 1 ∨ x.length = 2 ∨ x.length = 3 := by omega
        rcases hj with q | q | q <;> rw [q] at hb g <;> omega
      · exact g
    have hnx : nx x = nx (x ++ c :: y) := by
      have h1 : (x ++ c :: y).take (nx (x ++ c :: y)).2 = x.take (nx (x ++ c :: y)).2 := List.take_append_of_le_length sh
      have h2 := valid_alone (x ++ c :: y) e
      rw [h1] at h2
      have hm : (x.take (nx (x ++ c :: y)).2).length = (nx (x ++ c :: y)).2 := by rw [List.length_take]; omega
      have ht : x.take (nx (x ++ c :: y)).2 ≠ [] := fun q => by rw [q] at hm; exact e hm.symm
      rw [valid_nx _ ht] at h2
      have h3 : (nx (x.take (nx (x ++ c :: y)).2)).2 ≠ 0 := fun q => by rw [if_pos q] at h2; cases h2
      have h4 := nx_append (x.take (nx (x ++ c :: y)).2) (x.drop (nx (x ++ c :: y)).2) h3
      have h5 := nx_append (x.take (nx (x ++ c :: y)).2) (x.drop (nx (x ++ c :: y)).2 ++ c :: y) h3
      rw [List.take_append_drop] at h4
      rw [← List.append_assoc, List.take_append_drop] at h5
      exact h4.trans h5.symm
    rw [valid_nx x hne, hnx, if_neg e]
    rw [List.drop_append_of_le_length sh] at h
    exact ih _ (by rw [List.length_drop]; omega) h
theorem valid_right (c : UInt8) (hc : c.toNat < 128) (x y : List UInt8) (h : validD (x ++ c :: y) = true) : validD y = true := by
  have h1 := valid_left c hc y x.length x (Nat.le_refl _) h
  rw [valid_append x _ h1, validD_cons c y hc] at h
  exact h
theorem valid_low_ : ∀ l : List UInt8, (∀ b ∈ l, b.toNat < 128) → validD l = true
  | [], _ => validD_nil
  | c :: t, h => by
    rw [validD_cons c t (h c List.mem_cons_self)]
    exact valid_low_ t (fun b hb => h b (List.mem_cons_of_mem _ hb))
end Go.Proofs.YtmfffpfenhgjbaaDoor.Pure
/-! PNormal -/
set_option linter.unusedVariables false
set_option linter.unusedSimpArgs false
namespace Go.Proofs.YtmfffpfenhgjbaaDoor.Pure
open Go.RowKit Go.Lib Go.Proofs.YtmfffpfenhgjbaaDoor.X Go.Proofs.YtmfffpfenhgjbaaDoor.G Go.Proofs.YtmfffpfenhgjbaaDoorW.PrintWords Go.Proofs.YtmfffpfenhgjbaaDoorW.PrintLast Go.Proofs.YtmfffpfenhgjbaaDoorW.PrintMore
/-- The Text that is being read. -/
def txs (b : List UInt8) : List Sp := if b = [] then [] else [tx b]
theorem putL_txs (A : List Sp) (b q : List UInt8) (hq : q ≠ []) (hA : ∀ x ∈ A.getLast?, x.f0 ≠ 1) : putL (A ++ txs b) q = A ++ txs (b ++ q) := by
  unfold txs
  by_cases hb : b = []
  · subst hb
    rw [if_pos rfl, List.append_nil, List.nil_append, if_neg hq, putL_new A q hA]
  · rw [if_neg hb, if_neg (by simp [hb]), putL_last]
/-- The kind of the last one of spans, behind one of a kind. -/
def endK (last : Int) (A : List Sp) : Int := match A.getLast? with | some x => x.f0 | none => last
theorem endK_cons (last : Int) (x : Sp) (A : List Sp) : endK last (x :: A) = endK x.f0 A := by
  unfold endK
  cases A with
  | nil => rfl
  | cons y t => rw [List.getLast?_cons_cons]; rw [List.getLast?_eq_some_getLast (by simp)]
theorem allV_append : ∀ (A B : List Sp) (last : Int) (e k : Bool), allV (A ++ B) last e k = (allV A last e k && allV B (endK last A) e k)
  | [], B, last, e, k => by rw [List.nil_append, allV, Bool.true_and]; rfl
  | x :: A, B, last, e, k => by rw [List.cons_append, allV_cons, allV_cons, allV_append A B x.f0 e k, endK_cons, Bool.and_assoc, Bool.and_assoc, Bool.and_assoc]
theorem allV_last (B : List Sp) (i j : Int) (e k : Bool) (h : ∀ x ∈ B.head?, x.f0 ≤ 2 → x.f0 ≠ i ∧ x.f0 ≠ j) : allV B i e k = allV B j e k := by
  cases B with
  | nil => rw [allV, allV]
  | cons x t =>
    rw [allV_cons, allV_cons]
    have hx := h x (by simp)
    by_cases h2 : x.f0 ≤ 2
    · rw [decide_eq_false (hx h2).1, decide_eq_false (hx h2).2]
    · rw [decide_eq_false h2, Bool.and_false, Bool.and_false]
/-! What stands in what is read -/
theorem pairs_tail : ∀ (p r : List UInt8), pairs (p ++ r) = true → pairs r = true
  | [], r, h => h
  | [c], r, h => by
    cases r with
    | nil => rfl
    | cons d t => exact (Bool.and_eq_true_iff.1 h).2
  | c :: d :: t, r, h => pairs_tail (d :: t) r (Bool.and_eq_true_iff.1 h).2
theorem pairs_head : ∀ (p r : List UInt8), pairs (p ++ r) = true → pairs p = true
  | [], r, h => rfl
  | [c], r, h => rfl
  | c :: d :: t, r, h => by
    have h1 := Bool.and_eq_true_iff.1 h
    show (pairOk c d && pairs (d :: t)) = true
    rw [h1.1, pairs_head (d :: t) r h1.2]; rfl
theorem pairs_join : ∀ (b q : List UInt8), pairs b = true → pairs (b.getLast?.toList ++ q) = true → pairs (b ++ q) = true
  | [], q, _, h => h
  | [c], q, _, h => h
  | c :: d :: t, q, h, h2 => by
    have h1 := Bool.and_eq_true_iff.1 h
    rw [List.getLast?_cons_cons] at h2
    show (pairOk c d && pairs (d :: t ++ q)) = true
    rw [h1.1, pairs_join (d :: t) q h1.2 h2]; rfl
theorem last_join (b q : List UInt8) (hq : q ≠ []) : (b ++ q).getLast? = q.getLast? := by
  rw [List.getLast?_append, List.getLast?_eq_some_getLast hq]; rfl
theorem pairs_cut (b q r : List UInt8) (h : pairs (b.getLast?.toList ++ (q ++ r)) = true) (hq : q ≠ []) : pairs (q.getLast?.toList ++ r) = true := by
  rw [← List.append_assoc] at h
  have : q = q.dropLast ++ [q.getLast hq] := (List.dropLast_concat_getLast hq).symm
  rw [List.getLast?_eq_some_getLast hq]
  rw [this] at h
  have h2 : (b.getLast?.toList ++ (q.dropLast ++ [q.getLast hq])) ++ r = (b.getLast?.toList ++ q.dropLast) ++ ([q.getLast hq] ++ r) := by simp
  rw [h2] at h
  exact pairs_tail _ _ h
theorem mark_pair (c d : UInt8) (h : markB d = true) : pairOk c d = true := by
  unfold markB at h
  unfold pairOk
  have h1 : d.toNat ≠ 10 ∧ d.toNat ≠ 9 ∧ d.toNat ≠ 32 ∧ d.toNat ≠ 13 := by
    simp only [Bool.or_eq_true, Bool.and_eq_true, decide_eq_true_eq] at h
    omega
  rw [beqF h1.1, beqF h1.2.1, beqF h1.2.2.1, beqF h1.2.2.2]
  simp
theorem mark_edge (d : UInt8) (h : markB d = true) : edgeB d = false := by
  unfold markB at h
  unfold edgeB
  have h1 : d.toNat ≠ 10 ∧ d.toNat ≠ 9 ∧ d.toNat ≠ 32 := by
    simp only [Bool.or_eq_true, Bool.and_eq_true, decide_eq_true_eq] at h
    omega
  rw [beqF h1.1, beqF h1.2.1, beqF h1.2.2]
  rfl
theorem mark_low (d : UInt8) (h : markB d = true) : d.toNat < 128 ∧ d.toNat ≠ 0 ∧ d.toNat ≠ 13 := by
  unfold markB at h
  simp only [Bool.or_eq_true, Bool.and_eq_true, decide_eq_true_eq] at h
  omega
theorem contains_append (a b : List UInt8) (c : UInt8) : (a ++ b).contains c = (a.contains c || b.contains c) := by
  rw [Bool.eq_iff_iff]; simp
theorem ticks_split : ∀ l : List UInt8, l = List.replicate (ticksL l) 96 ++ l.drop (ticksL l) ∧ ∀ c ∈ (l.drop (ticksL l)).head?, c.toNat ≠ 96
  | [] => ⟨rfl, fun c hc => by cases hc⟩
  | c :: t => by
    have ih := ticks_split t
    rw [ticksL]
    by_cases h : c.toNat = 96
    · rw [if_pos h, List.replicate_succ, List.drop_succ_cons, List.cons_append]
      refine ⟨?_, ih.2⟩
      rw [← ih.1, toNat_inj (a := c) (b := 96) h]
    · rw [if_neg h]
      exact ⟨rfl, fun c' hc => by simp at hc; subst hc; exact h⟩
/-- What codeL finds. -/
theorem code_spec (n : Nat) (hn : 1 ≤ n) : ∀ (k : Nat) (acc l a r : List UInt8), codeL n k acc l = some (a, r) → ∃ x, a = acc ++ x ∧ l = x ++ (List.replicate n 96 ++ r) ∧ (∀ c ∈ x, c.toNat ≠ 10) ∧ (∀ c ∈ r.head?, c.toNat ≠ 96)
  | 0, _, _, _, _, h => by rw [codeL] at h; cases h
  | k + 1, acc, [], _, _, h => by rw [codeL] at h; cases h
  | k + 1, acc, c :: t, a, r, h => by
    rw [codeL] at h
    split at h
    · cases h
    · rename_i h10
      have hs := ticks_split (c :: t)
      split at h
      · rename_i hq
        injection h with h
        injection h with h1 h2
        subst h1
        rw [hq] at hs
        rw [h2] at hs
        exact ⟨[], by simp, hs.1, fun _ h => (by cases h), hs.2⟩
      · obtain ⟨x, h1, h2, h3, h4⟩ := code_spec n hn k _ _ a r h
        refine ⟨(c :: t).take (max (ticksL (c :: t)) 1) ++ x, by rw [h1, List.append_assoc], by rw [List.append_assoc, ← h2, List.take_append_drop], fun d hd => ?_, h4⟩
        rcases List.mem_append.1 hd with hd | hd
        · rcases Nat.eq_zero_or_pos (ticksL (c :: t)) with z | z
          · rw [z] at hd
            simp at hd
            subst hd
            exact h10
          · have hm : max (ticksL (c :: t)) 1 = ticksL (c :: t) := by omega
            rw [hm] at hd
            have hs1 := hs.1
            generalize ticksL (c :: t) = n0 at hd hs1
            rw [hs1, List.take_left' (by simp)] at hd
            rw [List.eq_of_mem_replicate hd]; decide
        · exact h3 d hd
theorem strip_parts (b : List UInt8) (hb : b ≠ []) : stripL b ≠ [] ∧ (stripL b = b ∨ b = 32 :: (stripL b ++ [32])) := by
  unfold stripL
  split
  · rename_i h
    cases b with
    | nil => exact absurd rfl hb
    | cons c t =>
      have hc : c = 32 := by have := h.1; simpa using this
      subst hc
      have ht : t ≠ [] := by
        rintro rfl
        have := h.2.2
        revert this; decide
      have hl : t.getLast ht = 32 := by
        have := h.2.1
        rw [List.getLast?_cons, List.getLast?_eq_some_getLast ht] at this
        simpa using this
      have hd : t = t.dropLast ++ [32] := by rw [← hl]; exact (List.dropLast_concat_getLast ht).symm
      rw [List.drop_succ_cons, List.drop_zero]
      refine ⟨fun e => ?_, Or.inr (by rw [← hd])⟩
      rw [e] at hd
      rw [hd] at h
      have := h.2.2
      revert this; decide
  · exact ⟨hb, Or.inl rfl⟩
theorem toL_spec {D : UInt8 → Bool} {l a r : List UInt8} (h : toL D l = some (a, r)) : l = 40 :: (a ++ 41 :: r) ∧ a ≠ [] ∧ a.all D = true := by
  unfold toL at h
  split at h
  · rename_i c t
    split at h
    · rename_i hc
      split at h
      · rename_i d q hd
        split at h
        · rename_i h41
          injection h with h
          injection h with h1 h2
          subst h1
          subst h2
          have h2 : t = t.takeWhile D ++ t.dropWhile D := List.takeWhile_append_dropWhile.symm
          have h3 : (t.takeWhile D).all D = true := List.all_takeWhile
          refine ⟨?_, hc.2, h3⟩
          rw [toNat_inj (a := c) (b := 40) hc.1]
          rw [hd, toNat_inj (a := d) (b := 41) h41] at h2
          rw [← h2]
        · cases h
      · cases h
    · cases h
  · cases h
/-- What is still to be read, behind a Text that is being read. -/
structure Raw (b l : List UInt8) : Prop where
  pb : pairs b = true
  pl : pairs (b.getLast?.toList ++ l) = true
  r13 : (b ++ l).contains 13 = false
  r0 : (b ++ l).contains 0 = false
  v : validD (b ++ l) = true
  len : (b ++ l).length ≤ 1048576
theorem Raw.step {b q r : List UInt8} (h : Raw b (q ++ r)) (hq : q ≠ []) : Raw (b ++ q) r :=
  ⟨pairs_join b q h.pb (by have := h.pl; rw [← List.append_assoc] at this; exact pairs_head _ _ this), by rw [last_join b q hq]; exact pairs_cut b q r h.pl hq, by rw [List.append_assoc]; exact h.r13, by rw [List.append_assoc]; exact h.r0, by rw [List.append_assoc]; exact h.v, by rw [List.append_assoc]; exact h.len⟩
theorem Raw.esc {b : List UInt8} {d : UInt8} {r : List UInt8} (h : Raw b (92 :: d :: r)) (hd : markB d = true) : Raw (b ++ [d]) r := by
  obtain ⟨h1, h2, h3, h4, h5, h6⟩ := h
  have hsub : ∀ c : UInt8, (b ++ 92 :: d :: r).contains c = false → (b ++ [d] ++ r).contains c = false := by
    intro c hc
    rw [contains_append, List.contains_cons] at hc
    rw [List.append_assoc, contains_append, List.singleton_append]
    simp only [Bool.or_eq_false_iff] at hc ⊢
    exact ⟨hc.1, hc.2.2⟩
  refine ⟨pairs_join b [d] h1 ?_, ?_, hsub 13 h3, hsub 0 h4, ?_, ?_⟩
  · cases hb : b.getLast? with
    | none => rfl
    | some c => show (pairOk c d && true) = true; rw [mark_pair c d hd]; rfl
  · rw [last_join b [d] (by simp)]
    have : pairs (d :: r) = true := pairs_tail (b.getLast?.toList ++ [92]) (d :: r) (by rw [List.append_assoc]; exact h2)
    exact this
  · have hl := valid_left 92 (by decide) (d :: r) _ b (Nat.le_refl _) h5
    have hr := valid_right 92 (by decide) b (d :: r) h5
    rw [List.append_assoc, valid_append b _ hl]
    exact hr
  · simp only [List.length_append, List.length_cons, List.length_nil] at h6 ⊢
    omega
theorem Raw.new {b p r : List UInt8} {q : UInt8} (h : Raw b (p ++ q :: r)) (hq : q.toNat < 128) : Raw [] r := by
  obtain ⟨h1, h2, h3, h4, h5, h6⟩ := h
  have hsub : ∀ c : UInt8, (b ++ (p ++ q :: r)).contains c = false → r.contains c = false := by
    intro c hc
    rw [contains_append, contains_append, List.contains_cons] at hc
    simp only [Bool.or_eq_false_iff] at hc
    exact hc.2.2.2
  refine ⟨rfl, pairs_tail (b.getLast?.toList ++ p ++ [q]) r (by simpa using h2), hsub 13 h3, hsub 0 h4, ?_, ?_⟩
  · rw [List.nil_append]
    rw [← List.append_assoc] at h5
    exact valid_right q hq _ r h5
  · simp only [List.length_append, List.length_cons, List.length_nil] at h6 ⊢
    omega
theorem Raw.text {b l : List UInt8} (h : Raw b l) (hl : l = [] ∨ ∃ c t, l = c :: t ∧ c.toNat < 128) : checkV b = 0 ∧ b.contains 13 = false ∧ b.contains 0 = false ∧ pairs b = true ∧ validD b = true := by
  obtain ⟨h1, h2, h3, h4, h5, h6⟩ := h
  have hv : validD b = true := by
    rcases hl with rfl | ⟨c, t, rfl, hc⟩
    · rw [List.append_nil] at h5; exact h5
    · exact valid_left c hc t _ b (Nat.le_refl _) h5
  rw [contains_append, Bool.or_eq_false_iff] at h3 h4
  refine ⟨?_, h3.1, h4.1, h1, hv⟩
  unfold checkV
  rw [List.length_append] at h6
  rw [if_neg (by omega), if_neg (by rw [h4.1]; decide), if_pos hv]
theorem txs_all (A : List Sp) (b : List UInt8) (e k : Bool) (hA : allV A 0 e k = true) (hA1 : ∀ x ∈ A.getLast?, x.f0 ≠ 1) (h : checkV b = 0 ∧ b.contains 13 = false ∧ pairs b = true) : allV (A ++ txs b) 0 e k = true := by
  rw [allV_append, hA, Bool.true_and]
  unfold txs
  by_cases hb : b = []
  · rw [if_pos hb, allV]
  · rw [if_neg hb, allV_cons, oneV_eq]
    have e1 : L (tx b).f1 = b := L_mk b
    have e2 : (tx b).f0 = 1 := rfl
    have e3 : (tx b).f2 = [] := rfl
    have e4 : endK 0 A ≠ 1 := by
      unfold endK
      cases hg : A.getLast? with
      | none => decide
      | some x => exact hA1 x hg
    rw [e1, e2, e3, h.1]
    unfold textV
    rw [h.2.1, h.2.2]
    have e5 : decide ((1 : Int) = endK 0 A) = false := decide_eq_false (fun q => e4 q.symm)
    rw [e5]
    cases b with
    | nil => exact absurd rfl hb
    | cons => simp [allV]
def firstOk (xs : List Sp) : Prop := ∀ x ∈ xs.head?, x.f0 = 1 → headE (L x.f1) = false
def lastOk (xs : List Sp) : Prop := ∀ x ∈ xs.getLast?, x.f0 = 1 → lastE (L x.f1) = false
def Norm (n : Nat) : Prop := ∀ (l : List UInt8) (A : List Sp) (b : List UInt8) (e k : Bool), l.length ≤ n → allV A 0 e k = true → (∀ x ∈ A.getLast?, x.f0 ≠ 1) → (b = [] → ∀ x ∈ A.getLast?, x.f0 = 2 → ∀ c ∈ l.head?, c.toNat ≠ 96) → Raw b l →
  ∃ xs p r, rdL dstB e k (A ++ txs b) l = (xs, r) ∧ l = p ++ r ∧ (r = [] ∨ ∃ d t, r = d :: t ∧ endB e k d = true) ∧ allV xs 0 e k = true ∧ (xs = [] → A ++ txs b = [] ∧ p = []) ∧
    (firstOk (A ++ txs b) → (A ++ txs b = [] → headE l = false) → firstOk xs) ∧ ((l = [] → lastOk (A ++ txs b)) → (l ≠ [] → lastE l = false) → r = [] → lastOk xs)
theorem lastE_append (p r : List UInt8) (h : r ≠ []) : lastE (p ++ r) = lastE r := by
  unfold lastE
  rw [List.reverse_append]
  cases hr : r.reverse with
  | nil => exact absurd (by simpa using hr) h
  | cons c t => rfl
theorem endB_low {e k : Bool} {c : UInt8} (h : endB e k c = true) : c.toNat < 128 ∧ ((c = 42 ∧ e = true) ∨ (c = 93 ∧ k = true)) := by
  unfold endB at h
  simp only [Bool.or_eq_true, Bool.and_eq_true, decide_eq_true_eq] at h
  rcases h with h | h
  · exact ⟨by omega, Or.inl ⟨toNat_inj (b := 42) h.1, h.2⟩⟩
  · exact ⟨by omega, Or.inr ⟨toNat_inj (b := 93) h.1, h.2⟩⟩
theorem check_of {b : List UInt8} (hl : b.length ≤ 1048576) (h0 : b.contains 0 = false) (hv : validD b = true) : checkV b = 0 := by
  unfold checkV
  rw [if_neg (by omega), if_neg (by rw [h0]; decide), if_pos hv]
theorem dst_low (c : UInt8) (h : dstB c = true) : 0 < c.toNat ∧ c.toNat < 128 := by
  have H : ∀ n : Fin 256, letters.data.toList.contains (UInt8.ofNat n.val) = true → 0 < (UInt8.ofNat n.val).toNat ∧ (UInt8.ofNat n.val).toNat < 128 := by decide +kernel
  have := H ⟨c.toNat, c.toNat_lt⟩
  simp only [UInt8.ofNat_toNat] at this
  exact this h
/-- What is enclosed is in normal form, if what is shorter is. -/
theorem encl_norm (n : Nat) (H : Norm n) (b : List UInt8) (c : UInt8) (t : List UInt8) (e k : Bool) (hn : t.length ≤ n) (hend : endB e k c = false) (hR : Raw b (c :: t)) {x : Sp} {r : List UInt8} (h : enclL dstB (fun e k l => rdL dstB e k [] l) e k (c :: t) = some (x, r)) :
    oneV x e k = true ∧ x.f0 ≠ 1 ∧ c.toNat < 128 ∧ (x.f0 = 2 → c.toNat = 96 ∧ ∀ d ∈ r.head?, d.toNat ≠ 96) ∧ ∃ p q, c :: t = p ++ q :: r ∧ q.toNat < 128 ∧ edgeB q = false := by
  have hR1 : c.toNat < 128 → Raw [] t := fun hc => Raw.new (b := b) (p := []) (q := c) hR hc
  unfold enclL at h
  dsimp only at h
  split at h
  · rename_i h42
    have hc : c = 42 := toNat_inj (b := 42) h42
    subst hc
    have he : e = false := by
      cases e with
      | false => rfl
      | true => revert hend; unfold endB; cases k <;> decide
    subst he
    obtain ⟨xs, p, r1, e1, e2, e3, e4, e5, e6_⟩ := H t [] [] true k hn rfl (fun x hx => by cases hx) (fun _ x hx => by cases hx) (hR1 (by decide))
    have e1' : rdL dstB true k [] t = (xs, r1) := e1
    simp only [e1'] at h
    split at h
    · rename_i d q
      split at h
      · rename_i hd
        injection h with h
        injection h with h1 h2
        subst h1
        subst h2
        have hd42 : d = 42 := toNat_inj (b := 42) hd.1
        subst hd42
        refine ⟨?_, by show (3 : Int) ≠ 1; decide, by decide, fun h => by revert h; show (3 : Int) = 2 → _; intro h; omega, 42 :: p, 42, by rw [e2]; rfl, by decide, by decide⟩
        rw [oneV_eq]
        show (decide (checkV [] = 0) && _) = true
        have hk : xs.isEmpty = false := by cases xs with | nil => exact absurd rfl hd.2 | cons => rfl
        rw [if_neg (by show ¬ (3 : Int) = 1; decide), if_neg (by show ¬ (3 : Int) = 2; decide), if_pos rfl]
        show (decide (checkV [] = 0) && (List.isEmpty (L mtP) && !xs.isEmpty && !false && allV xs 0 true k)) = true
        rw [hk, e4]
        decide
      · cases h
    · cases h
  · rename_i h42
    split at h
    · rename_i h91
      have hc : c = 91 := toNat_inj (b := 91) h91.1
      subst hc
      have hk := h91.2
      subst hk
      obtain ⟨xs, p, r1, e1, e2, e3, e4, e5, e6_⟩ := H t [] [] e true hn rfl (fun x hx => by cases hx) (fun _ x hx => by cases hx) (hR1 (by decide))
      have e1' : rdL dstB e true [] t = (xs, r1) := e1
      simp only [e1'] at h
      split at h
      · rename_i d q
        split at h
        · rename_i hd
          cases hto : toL dstB q with
          | none => rw [hto] at h; cases h
          | some z =>
            obtain ⟨a, r2⟩ := z
            rw [hto] at h
            injection h with h
            injection h with h1 h2
            subst h1
            subst h2
            obtain ⟨g1, g2, g3⟩ := toL_spec hto
            have hd93 : d = 93 := toNat_inj (b := 93) hd.1
            subst hd93
            refine ⟨?_, by show (4 : Int) ≠ 1; decide, by decide, fun h => by revert h; show (4 : Int) = 2 → _; intro h; omega, 91 :: (p ++ 93 :: 40 :: a), 41, by rw [e2, g1]; simp, by decide, by decide⟩
            rw [oneV_eq]
            have hk : xs.isEmpty = false := by cases xs with | nil => exact absurd rfl hd.2 | cons => rfl
            have hLa : L (⟨a.toArray⟩ : ByteArray) = a := L_mk a
            rw [if_neg (by show ¬ (4 : Int) = 1; decide), if_neg (by show ¬ (4 : Int) = 2; decide), if_neg (by show ¬ (4 : Int) = 3; decide), if_pos rfl]
            show (decide (checkV (L (⟨a.toArray⟩ : ByteArray)) = 0) && (destL (L (⟨a.toArray⟩ : ByteArray)) && !xs.isEmpty && !false && allV xs 0 e true)) = true
            rw [hLa, hk, e4]
            have hall := List.all_eq_true.1 g3
            have hdest : destL a = true := by
              unfold destL
              have : a.isEmpty = false := by cases a with | nil => exact absurd rfl g2 | cons => rfl
              rw [this]
              exact g3
            have hlen : a.length ≤ 1048576 := by
              have := hR.len
              rw [e2, g1] at this
              simp only [List.length_append, List.length_cons] at this
              omega
            rw [hdest, check_of hlen (by
              rw [Bool.eq_false_iff]
              intro hm
              have := (dst_low 0 (hall 0 (List.contains_iff_mem.1 hm))).1
              revert this; decide) (valid_low_ a (fun c hc => (dst_low c (hall c hc)).2))]
            decide
        · cases h
      · cases h
    · rename_i h91
      split at h
      · rename_i h96
        have hc : c = 96 := toNat_inj (b := 96) h96
        subst hc
        cases hcode : codeL (ticksL (96 :: t)) ((96 :: t).length) [] ((96 :: t).drop (ticksL (96 :: t))) with
        | none => rw [hcode] at h; cases h
        | some z =>
          obtain ⟨a, r2⟩ := z
          rw [hcode] at h
          injection h with h
          injection h with h1 h2
          subst h1
          subst h2
          have hn1 : 1 ≤ ticksL (96 :: t) := by rw [ticksL, if_pos (by decide)]; omega
          obtain ⟨y, g1, g2, g3, g4⟩ := code_spec _ hn1 _ _ _ _ _ hcode
          rw [List.nil_append] at g1
          subst g1
          have hs := ticks_split (96 :: t)
          obtain ⟨m, hm⟩ : ∃ m, ticksL (96 :: t) = m + 1 := ⟨ticksL (96 :: t) - 1, by omega⟩
          have hrep : List.replicate (ticksL (96 :: t)) (96 : UInt8) = List.replicate m 96 ++ [96] := by rw [hm, List.replicate_succ']
          have hane : a ≠ [] := by
            rintro rfl
            have hh := hs.2
            rw [g2, hm, List.replicate_succ] at hh
            exact hh 96 (by simp) rfl
          have hwhole : 96 :: t = (List.replicate m 96 ++ 96 :: a) ++ (List.replicate m 96 ++ 96 :: r2) := by
            rw [hs.1, g2, hrep]
            simp
          have hall : ∀ c : UInt8, (b ++ (96 :: t)).contains c = false → a.contains c = false := by
            intro c hc
            rw [hwhole] at hc
            simp only [contains_append, List.contains_cons, Bool.or_eq_false_iff] at hc
            exact hc.2.1.2.2
          have ha13 := hall 13 hR.r13
          have ha0 := hall 0 hR.r0
          have hva : validD a = true := by
            have hv := hR.v
            rw [hwhole] at hv
            have hv2 : validD ((b ++ List.replicate m 96) ++ 96 :: (a ++ (List.replicate m 96 ++ 96 :: r2))) = true := by
              rw [← hv]; congr 1; simp
            have hv3 := valid_right 96 (by decide) _ _ hv2
            cases m with
            | zero => exact valid_left 96 (by decide) r2 _ a (Nat.le_refl _) hv3
            | succ m => exact valid_left 96 (by decide) (List.replicate m 96 ++ 96 :: r2) _ a (Nat.le_refl _) (by rw [List.replicate_succ] at hv3; exact hv3)
          have hlen : a.length ≤ 1048576 := by
            have := hR.len
            rw [hwhole] at this
            simp only [List.length_append, List.length_cons] at this
            omega
          obtain ⟨s1, s2⟩ := strip_parts a hane
          have hsub : ∀ c, c ∈ stripL a → c ∈ a := by
            intro c hc
            rcases s2 with s2 | s2
            · rw [s2] at hc; exact hc
            · rw [s2]; simp [hc]
          have hcon : ∀ c : UInt8, a.contains c = false → (stripL a).contains c = false := by
            intro c hc
            rw [Bool.eq_false_iff] at hc ⊢
            exact fun q => hc (List.contains_iff_mem.2 (hsub c (List.contains_iff_mem.1 q)))
          have hvs : validD (stripL a) = true := by
            rcases s2 with s2 | s2
            · rw [s2]; exact hva
            · rw [s2, validD_cons 32 _ (by decide)] at hva
              exact valid_left 32 (by decide) [] _ _ (Nat.le_refl _) hva
          have hls : (stripL a).length ≤ 1048576 := by
            rcases s2 with s2 | s2
            · rw [s2]; exact hlen
            · have := congrArg List.length s2
              simp only [List.length_append, List.length_cons, List.length_nil] at this
              omega
          refine ⟨?_, by show (2 : Int) ≠ 1; decide, by decide, fun _ => ⟨rfl, g4⟩, (List.replicate m 96 ++ 96 :: a) ++ List.replicate m 96, 96, by rw [hwhole]; simp, by decide, by decide⟩
          rw [oneV_eq]
          have hLa : L (⟨(stripL a).toArray⟩ : ByteArray) = stripL a := L_mk _
          rw [if_neg (by show ¬ (2 : Int) = 1; decide), if_pos rfl]
          show (decide (checkV (L (⟨(stripL a).toArray⟩ : ByteArray)) = 0) && (List.isEmpty ([] : List Sp) && !(L (⟨(stripL a).toArray⟩ : ByteArray)).isEmpty && !(L (⟨(stripL a).toArray⟩ : ByteArray)).contains 13 && !(L (⟨(stripL a).toArray⟩ : ByteArray)).contains 10)) = true
          have h10 : a.contains 10 = false := by
            rw [Bool.eq_false_iff]
            exact fun q => g3 10 (List.contains_iff_mem.1 q) rfl
          have hse : (stripL a).isEmpty = false := by cases hq : stripL a with | nil => exact absurd hq s1 | cons => rfl
          rw [hLa, check_of hls (hcon 0 ha0) hvs, hse, hcon 13 ha13, hcon 10 h10]
          decide
      · cases h
theorem norm (n : Nat) : Norm n := by
  induction n with
  | zero =>
    intro l A b e k hn hA hA1 hA2 hR
    obtain rfl := List.eq_nil_of_length_eq_zero (Nat.le_zero.1 hn)
    obtain ⟨t1, t2, t3, t4, _⟩ := hR.text (Or.inl rfl)
    exact ⟨_, [], [], rdL_nil _ _ _ _, rfl, Or.inl rfl, txs_all A b e k hA hA1 ⟨t1, t2, t4⟩, fun h => ⟨h, rfl⟩, fun h _ => h, fun h _ _ => h rfl⟩
  | succ n ih =>
    intro l A b e k hn hA hA1 hA2 hR
    cases l with
    | nil =>
      obtain ⟨t1, t2, t3, t4, _⟩ := hR.text (Or.inl rfl)
      exact ⟨_, [], [], rdL_nil _ _ _ _, rfl, Or.inl rfl, txs_all A b e k hA hA1 ⟨t1, t2, t4⟩, fun h => ⟨h, rfl⟩, fun h _ => h, fun h _ _ => h rfl⟩
    | cons c t =>
      rw [List.length_cons] at hn
      rw [rdL_cons]
      cases hend : endB e k c with
      | true =>
        rw [if_pos rfl]
        obtain ⟨t1, t2, t3, t4, _⟩ := hR.text (Or.inr ⟨c, t, rfl, (endB_low hend).1⟩)
        exact ⟨_, [], c :: t, rfl, rfl, Or.inr ⟨c, t, rfl, hend⟩, txs_all A b e k hA hA1 ⟨t1, t2, t4⟩, fun h => ⟨h, rfl⟩, fun h _ => h, fun _ _ h => by cases h⟩
      | false =>
        rw [if_neg (by decide)]
        cases hesc : escL (c :: t) with
        | some z =>
          obtain ⟨d, r⟩ := z
          dsimp only
          unfold escL at hesc
          split at hesc
          · rename_i c' d' t' heq
            injection heq with q1 q2
            subst q1
            subst q2
            split at hesc
            · rename_i hq
              injection hesc with hesc
              injection hesc with q3 q4
              subst q3
              subst q4
              have hc : c = 92 := toNat_inj (b := 92) hq.1
              subst hc
              rw [putL_txs A b [d'] (by simp) hA1]
              rw [List.length_cons] at hn
              obtain ⟨xs, p, r1, e1, e2, e3, e4, e5, e6, e7⟩ := ih t' A (b ++ [d']) e k (by omega) hA hA1 (fun h => by simp at h) (hR.esc hq.2)
              refine ⟨xs, 92 :: d' :: p, r1, e1, by rw [e2]; rfl, e3, e4, fun h => ?_, fun h1 h2 => e6 ?_ ?_, fun h1 h2 h3 => e7 ?_ ?_ h3⟩
              · have := (e5 h).1
                unfold txs at this
                simp at this
              · intro x hx hx1
                unfold firstOk at h1
                cases hAA : A with
                | cons a A' => rw [hAA] at hx h1; exact h1 x hx hx1
                | nil =>
                  rw [hAA] at hx h1
                  unfold txs at hx h1
                  rw [List.nil_append, if_neg (by simp)] at hx
                  simp at hx
                  subst hx
                  show headE (L (⟨(b ++ [d']).toArray⟩ : ByteArray)) = false
                  rw [L_mk]
                  cases hb : b with
                  | nil => show edgeB d' = false; exact mark_edge d' hq.2
                  | cons f b' =>
                    rw [hb] at h1
                    rw [List.nil_append, if_neg (by simp)] at h1
                    have := h1 (tx (f :: b')) (by simp) rfl
                    have e : L (tx (f :: b')).f1 = f :: b' := L_mk _
                    rw [e] at this
                    exact this
              · intro h
                unfold txs at h
                simp at h
              · intro h
                subst h
                intro x hx hx1
                rw [List.getLast?_append] at hx
                unfold txs at hx
                rw [if_neg (by simp)] at hx
                simp at hx
                subst hx
                show lastE (L (⟨(b ++ [d']).toArray⟩ : ByteArray)) = false
                rw [L_mk, lastE_append b [d'] (by simp)]
                show edgeB d' = false
                exact mark_edge d' hq.2
              · intro h
                have := h2 (by simp)
                rw [← this]
                exact (lastE_append [92, d'] t' h).symm
            · cases hesc
          · cases hesc
        | none =>
          dsimp only
          cases hen : enclL dstB (fun e k l => rdL dstB e k [] l) e k (c :: t) with
          | some z =>
            obtain ⟨x, r⟩ := z
            dsimp only
            obtain ⟨g1, g2, g3, g4, p0, q0, g5, g6, g7⟩ := encl_norm n ih b c t e k (by omega) hend hR hen
            obtain ⟨t1, t2, t3, t4, _⟩ := hR.text (Or.inr ⟨c, t, rfl, g3⟩)
            have hAb := txs_all A b e k hA hA1 ⟨t1, t2, t4⟩
            have hAx : allV (A ++ txs b ++ [x]) 0 e k = true := by
              rw [allV_append, hAb, Bool.true_and, allV_cons, g1, allV]
              have : (decide (x.f0 = endK 0 (A ++ txs b)) && decide (x.f0 ≤ 2)) = false := by
                rw [Bool.and_eq_false_iff]
                by_cases h2 : x.f0 ≤ 2
                · left
                  refine decide_eq_false (fun hq => ?_)
                  have hx2 : x.f0 = 2 := by
                    have hk0 := kind_of_one x e k g1
                    rw [oneV_eq] at g1
                    by_cases q1 : x.f0 = 1
                    · exact absurd q1 g2
                    · by_cases q2 : x.f0 = 2
                      · exact q2
                      · rw [if_neg q1, if_neg q2, if_neg (by omega), if_neg (by omega)] at g1
                        simp at g1
                  unfold endK at hq
                  by_cases hb : b = []
                  · unfold txs at hq
                    rw [if_pos hb, List.append_nil] at hq
                    cases hl : A.getLast? with
                    | none => rw [hl] at hq; dsimp only at hq; omega
                    | some y =>
                      rw [hl] at hq
                      dsimp only at hq
                      exact hA2 hb y hl (by omega) c (by simp) (g4 hx2).1
                  · unfold txs at hq
                    rw [if_neg hb, List.getLast?_append] at hq
                    simp at hq
                    rw [hx2] at hq
                    revert hq
                    show (2 : Int) = 1 → False
                    decide
                · right; exact decide_eq_false h2
              rw [this]
              rfl
            have hlr : r.length ≤ n := by
              have := congrArg List.length g5
              simp only [List.length_append, List.length_cons] at this
              omega
            obtain ⟨xs, p, r1, e1, e2, e3, e4, e5, e6, e7⟩ := ih r (A ++ txs b ++ [x]) [] e k hlr hAx (fun y hy => by rw [List.getLast?_append] at hy; simp at hy; rw [← hy]; exact g2) (fun _ y hy hy2 => by rw [List.getLast?_append] at hy; simp at hy; rw [← hy] at hy2; exact (g4 hy2).2) (Raw.new (p := p0) (q := q0) (by rw [← g5]; exact hR) g6)
            have hnil : txs [] = [] := rfl
            rw [hnil, List.append_nil] at e1 e5 e6 e7
            refine ⟨xs, p0 ++ q0 :: p, r1, e1, by rw [g5, e2]; simp, e3, e4, fun h => ?_, fun h1 h2 => e6 ?_ (fun h => by simp at h), fun h1 h2 h3 => e7 ?_ ?_ h3⟩
            · have := (e5 h).1
              simp at this
            · intro y hy hy1
              cases hAA : A ++ txs b with
              | nil => rw [hAA] at hy; simp at hy; subst hy; exact absurd hy1 g2
              | cons a A' => rw [hAA] at hy h1; exact h1 y hy hy1
            · intro h y hy hy1
              rw [List.getLast?_append] at hy
              simp at hy
              subst hy
              exact absurd hy1 g2
            · intro h
              have h3 := h2 (by simp)
              rw [g5] at h3
              have : p0 ++ q0 :: r = (p0 ++ [q0]) ++ r := by simp
              rw [this, lastE_append _ r h] at h3
              exact h3
          | none =>
            dsimp only
            have hsplit : c :: t = (c :: t).take (max 1 (ticksL (c :: t))) ++ (c :: t).drop (max 1 (ticksL (c :: t))) := (List.take_append_drop _ _).symm
            have hq : (c :: t).take (max 1 (ticksL (c :: t))) ≠ [] := by
              intro h
              have := congrArg List.length h
              rw [List.length_take, List.length_cons, List.length_nil] at this
              omega
            have hqh : ((c :: t).take (max 1 (ticksL (c :: t)))).head? = some c := by
              obtain ⟨m, hm⟩ : ∃ m, max 1 (ticksL (c :: t)) = m + 1 := ⟨max 1 (ticksL (c :: t)) - 1, by omega⟩
              rw [hm, List.take_succ_cons]; rfl
            have hlr : ((c :: t).drop (max 1 (ticksL (c :: t)))).length ≤ n := by rw [List.length_drop, List.length_cons]; omega
            generalize (c :: t).take (max 1 (ticksL (c :: t))) = q at hsplit hq hqh
            generalize (c :: t).drop (max 1 (ticksL (c :: t))) = r at hsplit hlr
            rw [putL_txs A b q hq hA1]
            have hbq : b ++ q ≠ [] := by simp [hq]
            obtain ⟨xs, p, r1, e1, e2, e3, e4, e5, e6, e7⟩ := ih r A (b ++ q) e k hlr hA hA1 (fun h => absurd h hbq) (Raw.step (by rw [← hsplit]; exact hR) hq)
            have htx : txs (b ++ q) = [tx (b ++ q)] := by unfold txs; rw [if_neg hbq]
            refine ⟨xs, q ++ p, r1, e1, by rw [hsplit, e2, List.append_assoc], e3, e4, fun h => ?_, fun h1 h2 => e6 ?_ ?_, fun h1 h2 h3 => e7 ?_ ?_ h3⟩
            · have := (e5 h).1
              rw [htx] at this
              simp at this
            · intro x hx hx1
              rw [htx] at hx
              cases hAA : A with
              | cons a A' => rw [hAA] at hx h1; exact h1 x hx hx1
              | nil =>
                rw [hAA] at hx h1 h2
                rw [List.nil_append] at hx h1 h2
                simp at hx
                subst hx
                show headE (L (⟨(b ++ q).toArray⟩ : ByteArray)) = false
                rw [L_mk]
                cases hb : b with
                | nil =>
                  rw [hb] at h2
                  have := h2 rfl
                  rw [List.nil_append]
                  cases q with
                  | nil => exact absurd rfl hq
                  | cons a q' =>
                    simp at hqh
                    subst hqh
                    exact this
                | cons f b' =>
                  rw [hb] at h1
                  unfold txs at h1
                  rw [if_neg (by simp)] at h1
                  have := h1 (tx (f :: b')) (by simp) rfl
                  have e : L (tx (f :: b')).f1 = f :: b' := L_mk _
                  rw [e] at this
                  exact this
            · intro h
              rw [htx] at h
              simp at h
            · intro h
              subst h
              intro x hx hx1
              rw [htx, List.getLast?_append] at hx
              simp at hx
              subst hx
              show lastE (L (⟨(b ++ q).toArray⟩ : ByteArray)) = false
              rw [L_mk, lastE_append b q hq]
              have := h2 (by simp)
              rw [hsplit, List.append_nil] at this
              exact this
            · intro h
              have := h2 (by simp)
              rw [hsplit, lastE_append q r h] at this
              exact this
/-- A clean text. -/
def cleanL (s : List UInt8) : Bool := decide (checkV s = 0) && !s.contains 13 && pairs s && !headE s && !lastE s
theorem clean_right (s : List UInt8) (h : cleanL s = true) : rightL (rdL dstB false false [] s).1 = true ∧ (rdL dstB false false [] s).2 = [] ∧ ((rdL dstB false false [] s).1 = [] → s = []) := by
  unfold cleanL at h
  simp only [Bool.and_eq_true, Bool.not_eq_true', decide_eq_true_eq] at h
  obtain ⟨⟨⟨⟨h1, h2⟩, h3⟩, h4⟩, h5⟩ := h
  have hz : s.length ≤ 1048576 ∧ s.contains 0 = false ∧ validD s = true := by
    unfold checkV at h1
    split at h1
    · cases h1
    · split at h1
      · cases h1
      · split at h1
        · rename_i q1 q2 q3; exact ⟨by omega, Bool.eq_false_iff.mpr q2, q3⟩
        · cases h1
  obtain ⟨xs, p, r, e1, e2, e3, e4, e5, e6, e7⟩ := norm s.length s [] [] false false (Nat.le_refl _) rfl (fun x hx => by cases hx) (fun _ x hx => by cases hx) ⟨rfl, h3, h2, hz.2.1, hz.2.2, hz.1⟩
  have e1' : rdL dstB false false [] s = (xs, r) := e1
  have hr : r = [] := by
    rcases e3 with e3 | ⟨d, t, _, e3⟩
    · exact e3
    · unfold endB at e3; simp at e3
  subst hr
  rw [e1']
  refine ⟨?_, rfl, fun h => ?_⟩
  · have f1 := e6 (fun x hx => by cases hx) (fun _ => h4)
    have f2 := e7 (fun _ x hx => by cases hx) (fun _ => h5) rfl
    unfold rightL
    rw [e4, Bool.true_and]
    unfold endsOk
    have g1 : (match xs.head? with | some x => decide (x.f0 = 1) && headE (L x.f1) | none => false) = false := by
      cases hx : xs.head? with
      | none => rfl
      | some x =>
        dsimp only
        by_cases q : x.f0 = 1
        · rw [f1 x hx q, Bool.and_false]
        · rw [decide_eq_false q, Bool.false_and]
    have g2 : (match xs.getLast? with | some x => decide (x.f0 = 1) && lastE (L x.f1) | none => false) = false := by
      cases hx : xs.getLast? with
      | none => rfl
      | some x =>
        dsimp only
        by_cases q : x.f0 = 1
        · rw [f2 x hx q, Bool.and_false]
        · rw [decide_eq_false q, Bool.false_and]
    have g : ∀ a b : Bool, a = false → b = false → (!a && !b) = true := by intro a b h1 h2; rw [h1, h2]; rfl
    exact g _ _ g1 g2
  · have := (e5 h).2
    rw [this] at e2
    exact e2
end Go.Proofs.YtmfffpfenhgjbaaDoor.Pure
