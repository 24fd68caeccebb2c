/- More on lines: lists that are alike, lines joined, what is trimmed. -/
import Derived.Test.YtpofifheicbilaaDoorPAwake02
namespace Go.Proofs.YtpofifheicbilaaDoor.Pure
open Go.RowKit Go.Proofs.YtpofifheicbilaaDoor.X Go.Proofs.YtpofifheicbilaaDoor.G Go.Proofs.YtpofifheicbilaaDoorW.PrintWords Go.Proofs.YtpofifheicbilaaDoorW.PrintLast Go.Proofs.YtpofifheicbilaaDoorW.PrintMore

theorem rdOf_nat {α : Type} (d : α) (l : List α) (i : Nat) : rdOf d l (i : Int) = l.getD i d := rfl
theorem rdOf_get {α : Type} (d : α) (l : List α) (i : Nat) (h : i < l.length) : rdOf d l (i : Int) = l[i] := by
  rw [rdOf_nat, List.getD_eq_getElem?_getD, List.getElem?_eq_getElem h]; rfl
theorem get_map_L (l : List ByteArray) (i : Nat) (h : i < l.length) : (l.map L)[i]'(by simpa using h) = L l[i] := by simp
theorem sum_wrap {a b : Nat} (w0 : a ≤ 140737488351232) (w1 : b ≤ 140737488351232) : wrap64 ((a : Int) + (b : Int)) = (a : Int) + (b : Int) := wrap_small (by omega) (by omega)
/-! ### Same -/
theorem Same_l0 (a b : List ByteArray) (hab : a.length = b.length) (hl : a.length ≤ 140737488351232) : ∀ (d k i : Nat), i + d = a.length → d < k →
    emendationref02_Same.l0 k a b (a.length : Int) (i : Int) = some (decide ((a.map L).drop i = (b.map L).drop i)) := by
  intro d
  induction d with
  | zero =>
    intro k i h hk
    obtain ⟨k, rfl⟩ : ∃ m, k = m + 1 := ⟨k - 1, by omega⟩
    simp only [emendationref02_Same.l0]
    rw [if_neg (by omega), List.drop_eq_nil_of_le (by simp; omega), List.drop_eq_nil_of_le (by simp; omega)]
    rfl
  | succ d ih =>
    intro k i h hk
    obtain ⟨k, rfl⟩ : ∃ m, k = m + 1 := ⟨k - 1, by omega⟩
    simp only [emendationref02_Same.l0, L_toList]
    have ha : i < a.length := by omega
    have hb : i < b.length := by omega
    rw [if_pos (by omega), if_pos (by omega), if_pos (by omega), if_pos (by omega), rdOf_get _ a i ha, rdOf_get _ b i hb, wrap_small (by omega) (by omega), show (i : Int) + 1 = ((i + 1 : Nat) : Int) from by omega, ih k (i + 1) (by omega) (by omega)]
    rw [List.drop_eq_getElem_cons (l := a.map L) (i := i) (by simpa using ha), List.drop_eq_getElem_cons (l := b.map L) (i := i) (by simpa using hb), get_map_L a i ha, get_map_L b i hb]
    by_cases hc : L a[i] = L b[i]
    · rw [if_pos hc, hc]; simp
    · rw [if_neg hc]; simp [hc]
theorem Same_eq (a b : List ByteArray) (k : Nat) (hl : a.length ≤ 140737488351232) (hk : a.length < k) : emendationref02_Same.f k a b = some (decide (a.map L = b.map L)) := by
  unfold emendationref02_Same.f
  by_cases h : a.length = b.length
  · rw [if_pos (by omega)]
    have := Same_l0 a b h hl a.length k 0 (by omega) hk
    simpa using this
  · rw [if_neg (by omega)]
    have : ¬ a.map L = b.map L := fun e => h (by have := congrArg List.length e; simpa using this)
    rw [decide_eq_false this]
/-! ### few -/
def small (l : List ByteArray) : Prop := l.length ≤ 200 ∧ ∀ s ∈ l, s.size ≤ 1000
theorem few_l0 (l : List ByteArray) (hl : l.length ≤ 200) : ∀ (d k i : Nat), i + d = l.length → d < k → ∃ r, emendationlaw02_few.l0 k l (l.length : Int) (i : Int) = some r ∧ (r = true → ∀ s ∈ l.drop i, s.size ≤ 1000) := by
  intro d
  induction d with
  | zero =>
    intro k i h hk
    obtain ⟨k, rfl⟩ : ∃ m, k = m + 1 := ⟨k - 1, by omega⟩
    simp only [emendationlaw02_few.l0]
    rw [if_neg (by omega), List.drop_eq_nil_of_le (by omega)]
    exact ⟨true, rfl, fun _ => by simp⟩
  | succ d ih =>
    intro k i h hk
    obtain ⟨k, rfl⟩ : ∃ m, k = m + 1 := ⟨k - 1, by omega⟩
    have ha : i < l.length := by omega
    simp only [emendationlaw02_few.l0]
    rw [if_pos (by omega), if_pos (by omega), if_pos (by omega), rdOf_get _ l i ha, List.drop_eq_getElem_cons ha]
    by_cases hb : (l[i].size : Int) > 1000
    · rw [if_pos hb]; exact ⟨false, rfl, fun h => by cases h⟩
    · rw [if_neg hb, wrap_small (by omega) (by omega), show (i : Int) + 1 = ((i + 1 : Nat) : Int) from by omega]
      obtain ⟨r, hr, hm⟩ := ih k (i + 1) (by omega) (by omega)
      refine ⟨r, hr, fun h s hs => ?_⟩
      rcases List.mem_cons.1 hs with rfl | hs
      · omega
      · exact hm h s hs
theorem few_eq (l : List ByteArray) (k : Nat) (hk : 201 < k) : ∃ r, emendationlaw02_few.f k l = some r ∧ (r = true → small l) := by
  unfold emendationlaw02_few.f
  by_cases h : (l.length : Int) > 200
  · rw [if_pos h]; exact ⟨false, rfl, fun h => by cases h⟩
  · rw [if_neg h]
    obtain ⟨r, hr, hm⟩ := few_l0 l (by omega) l.length k 0 (by omega) (by omega)
    exact ⟨r, hr, fun h => ⟨by omega, by simpa using hm h⟩⟩
theorem sum_le (l : List ByteArray) (h : ∀ s ∈ l, s.size ≤ 1000) : ((l.map L).flatten).length ≤ 1000 * l.length := by
  induction l with
  | nil => simp
  | cons s t ih =>
    have h1 := h s (by simp)
    have h2 := ih (fun x hx => h x (by simp [hx]))
    simp only [List.map_cons, List.flatten_cons, List.length_append, List.length_cons]
    rw [L_size] at h1
    omega
/-! ### Join -/
/-- Lines, each with LF behind it. -/
def jE : List (List UInt8) → List UInt8
  | [] => []
  | x :: t => x ++ 10 :: jE t
/-- Lines with LF between. -/
def jN : List (List UInt8) → List UInt8
  | [] => []
  | [x] => x
  | x :: y :: t => x ++ 10 :: jN (y :: t)
theorem jN_cons (x : List UInt8) (t : List (List UInt8)) (h : t ≠ []) : jN (x :: t) = x ++ 10 :: jN t := by
  cases t with
  | nil => exact absurd rfl h
  | cons y t => rfl
theorem jN_jE : ∀ ls : List (List UInt8), ls ≠ [] → jN ls ++ [10] = jE ls
  | [], h => absurd rfl h
  | [x], _ => by simp [jN, jE]
  | x :: y :: t, _ => by
    have ih := jN_jE (y :: t) (by simp)
    rw [jN_cons x _ (by simp)]
    simp only [jE] at ih ⊢
    rw [List.append_assoc, List.cons_append, ih]
theorem join_jN : ∀ ls : List (List UInt8), Lib.join ls [10] = jN ls
  | [] => rfl
  | [x] => by simp [Lib.join, jN, List.intercalate]
  | x :: y :: t => by
    have ih := join_jN (y :: t)
    rw [jN_cons x _ (by simp), ← ih]
    simp [Lib.join, List.intercalate]
theorem jE_length : ∀ ls : List (List UInt8), (jE ls).length = ls.flatten.length + ls.length
  | [] => rfl
  | x :: t => by
    have ih := jE_length t
    simp only [jE, List.length_append, List.length_cons, List.flatten_cons, ih]
    omega
theorem jN_length_le (ls : List (List UInt8)) : (jN ls).length ≤ ls.flatten.length + ls.length := by
  by_cases h : ls = []
  · subst h; simp [jN]
  · have := congrArg List.length (jN_jE ls h)
    rw [jE_length, List.length_append] at this
    simp only [List.length_cons, List.length_nil] at this
    omega
def joinL (ls : List (List UInt8)) (e : Bool) : List UInt8 := if e = true then jE ls else jN ls
theorem lines_Join_eq (l : List ByteArray) (e : Bool) (hl : small l) : lines_Join.f l e = some ⟨(joinL (l.map L) e).toArray⟩ := by
  have hs := sum_le l hl.2
  have h1 := hl.1
  have hj : (Lib.join (l.map (·.data.toList)) (⟨#[10]⟩ : ByteArray).data.toList) = jN (l.map L) := join_jN (l.map L)
  have hlen := jN_length_le (l.map L)
  rw [List.length_map] at hlen
  have hb : (⟨(jN (l.map L)).toArray⟩ : ByteArray).size = (jN (l.map L)).length := by rw [L_size, L_mk]
  unfold lines_Join.f strings_Join.f
  rw [hj, if_pos ⟨by omega, by omega⟩]
  simp only [Option.bind_some]
  unfold joinL
  cases e with
  | false => simp
  | true =>
    simp only [if_true]
    by_cases h0 : (l.length : Int) > 0
    · rw [if_pos h0, if_pos (by rw [hb]; omega)]
      congr 1
      apply L_ext
      rw [L_append, L_mk, L_mk]
      exact jN_jE _ (by intro e; have := congrArg List.length e; simp at this; subst this; simp at h0)
    · rw [if_neg h0]
      have : l = [] := List.eq_nil_of_length_eq_zero (by omega)
      subst this
      rfl
theorem ref_Join_l0 (l : List ByteArray) (e : Bool) (hl : small l) : ∀ (d k i : Nat) (s : ByteArray), i + d = l.length → d < k → s.size ≤ 1001 * i →
    emendationref02_Join.l0 k l e s (l.length : Int) (i : Int) = some ⟨(L s ++ joinL ((l.map L).drop i) e).toArray⟩ := by
  have hl1 := hl.1
  intro d
  induction d with
  | zero =>
    intro k i s h hk hs
    obtain ⟨k, rfl⟩ : ∃ m, k = m + 1 := ⟨k - 1, by omega⟩
    simp only [emendationref02_Join.l0]
    rw [if_neg (by omega), List.drop_eq_nil_of_le (by simp; omega)]
    have e0 : joinL [] e = [] := by cases e <;> rfl
    rw [e0, List.append_nil, L_mk']
  | succ d ih =>
    intro k i s h hk hs
    obtain ⟨k, rfl⟩ : ∃ m, k = m + 1 := ⟨k - 1, by omega⟩
    have ha : i < l.length := by omega
    have hx := hl.2 l[i] (List.getElem_mem ha)
    simp only [emendationref02_Join.l0]
    rw [if_pos (by omega), if_pos (by omega), if_pos (by omega), rdOf_get _ l i ha, if_pos (by omega), wrap_small (by omega) (by omega), List.drop_eq_getElem_cons (l := l.map L) (i := i) (by simpa using ha), get_map_L l i ha]
    have hsz : (s ++ l[i]).size = s.size + l[i].size := size_append _ _
    have h10 : (⟨#[10]⟩ : ByteArray).size = 1 := rfl
    have hL10 : L (⟨#[10]⟩ : ByteArray) = [10] := rfl
    have step1 := ih k (i + 1) (s ++ l[i] ++ (⟨#[10]⟩ : ByteArray)) (by omega) (by omega) (by rw [size_append, hsz, h10]; omega)
    cases e with
    | true =>
      simp only [if_true]
      rw [if_pos (by omega), show (i : Int) + 1 = ((i + 1 : Nat) : Int) from by omega, step1]
      refine congrArg (fun l : List UInt8 => some (⟨l.toArray⟩ : ByteArray)) ?_
      rw [L_append, L_append, hL10]
      simp [joinL, jE]
    | false =>
      simp only [Bool.false_eq_true, if_false]
      by_cases hlast : (i : Int) + 1 < (l.length : Int)
      · rw [if_pos hlast, if_pos (by omega), show (i : Int) + 1 = ((i + 1 : Nat) : Int) from by omega, step1]
        refine congrArg (fun l : List UInt8 => some (⟨l.toArray⟩ : ByteArray)) ?_
        rw [L_append, L_append, hL10]
        simp only [joinL, Bool.false_eq_true, if_false]
        rw [jN_cons _ _ (by intro e; have := congrArg List.length e; simp at this; omega)]
        simp
      · rw [if_neg hlast, show (i : Int) + 1 = ((i + 1 : Nat) : Int) from by omega, ih k (i + 1) (s ++ l[i]) (by omega) (by omega) (by rw [hsz]; omega)]
        refine congrArg (fun l : List UInt8 => some (⟨l.toArray⟩ : ByteArray)) ?_
        have hnil : (l.map L).drop (i + 1) = [] := List.drop_eq_nil_of_le (by simp; omega)
        rw [L_append, hnil]
        simp [joinL, jN]
theorem ref_Join_eq (l : List ByteArray) (e : Bool) (hl : small l) (k : Nat) (hk : 200 < k) : emendationref02_Join.f k l e = some ⟨(joinL (l.map L) e).toArray⟩ := by
  have h1 := hl.1
  have := ref_Join_l0 l e hl l.length k 0 (⟨#[]⟩ : ByteArray) (by omega) (by omega) (Nat.zero_le _)
  rw [L_empty] at this
  exact this
theorem joinL_length (l : List ByteArray) (e : Bool) (hl : small l) : (joinL (l.map L) e).length ≤ 200200 := by
  have h1 := hl.1
  have h2 := sum_le l hl.2
  have h3 := jN_length_le (l.map L)
  have h4 := jE_length (l.map L)
  rw [List.length_map] at h3 h4
  unfold joinL
  split <;> omega
/-! ### more on spl -/
theorem spl_length : ∀ (l : List UInt8) (cr : Bool) (cur : List UInt8), (spl cr cur l).1.length ≤ l.length + 1
  | [], _, cur => by
    simp only [spl]
    split <;> simp
  | b :: t, cr, cur => by
    simp only [spl]
    split
    · have := spl_length t false cur; simp only [List.length_cons]; omega
    · split
      · have := spl_length t (b == 13) []; simp only [List.length_cons]; omega
      · have := spl_length t false (cur ++ [b]); simp only [List.length_cons]; omega
/-- A text with LF, and another one behind. -/
theorem spl_append : ∀ (a b : List UInt8) (cr : Bool) (cur : List UInt8), (cr = true → cur = []) →
    spl cr cur (a ++ 10 :: b) = ((spl cr cur (a ++ [10])).1 ++ (spl false [] b).1, (spl false [] b).2)
  | [], b, cr, cur, h => by
    cases cr with
    | true => rw [h rfl]; simp [spl]
    | false => simp [spl]
  | x :: a, b, cr, cur, h => by
    simp only [List.cons_append, spl]
    by_cases h1 : x = 10 ∧ cr = true
    · rw [if_pos h1, if_pos h1]
      exact spl_append a b false cur (fun h => by cases h)
    · rw [if_neg h1, if_neg h1]
      by_cases h2 : x = 10 ∨ x = 13
      · rw [if_pos h2, if_pos h2, spl_append a b (x == 13) [] (fun _ => rfl)]
        rfl
      · rw [if_neg h2, if_neg h2]
        exact spl_append a b false _ (fun h => by cases h)
theorem spl_pos : ∀ (a : List UInt8) (cr : Bool) (cur : List UInt8), (cr = true → 0 < a.length) → 0 < (spl cr cur (a ++ [10])).1.length
  | [], cr, cur, h => by
    cases cr with
    | true => exact absurd (h rfl) (by simp)
    | false => simp [spl]
  | x :: a, cr, cur, h => by
    simp only [List.cons_append, spl]
    split
    · exact spl_pos a false cur (fun h => by cases h)
    · split
      · simp
      · exact spl_pos a false _ (fun h => by cases h)
/-! ### what is trimmed -/
theorem drop_id (p : UInt8 → Bool) : ∀ l : List UInt8, (l.dropWhile p).dropWhile p = l.dropWhile p
  | [] => rfl
  | b :: t => by
    rw [List.dropWhile_cons]
    by_cases h : p b = true
    · rw [if_pos h]; exact drop_id p t
    · rw [if_neg h, List.dropWhile_cons, if_neg h]
theorem rdrop_id (p : UInt8 → Bool) (l : List UInt8) : rdrop p (rdrop p l) = rdrop p l := by
  unfold rdrop
  rw [List.reverse_reverse, drop_id]
theorem trim_trim (l : List UInt8) : trim (trim l) = trim l := by
  unfold trim
  rw [drop_rdrop, drop_id, rdrop_id]
theorem drop_len (p : UInt8 → Bool) (l : List UInt8) : (l.dropWhile p).length ≤ l.length := (List.dropWhile_suffix _).length_le
theorem trim_len (l : List UInt8) : (trim l).length ≤ l.length := by
  unfold trim rdrop
  rw [List.length_reverse]
  have h1 := drop_len gapB (l.dropWhile gapB).reverse
  rw [List.length_reverse] at h1
  have h2 := drop_len gapB l
  omega
theorem drop_head (p : UInt8 → Bool) : ∀ (l : List UInt8) (b : UInt8) (t : List UInt8), l.dropWhile p = b :: t → p b = false
  | [], _, _, h => by cases h
  | x :: l, b, t, h => by
    rw [List.dropWhile_cons] at h
    by_cases hx : p x = true
    · rw [if_pos hx] at h; exact drop_head p l b t h
    · rw [if_neg hx] at h
      have := (List.cons.inj h).1
      subst this
      simpa using hx
theorem trim_head (l : List UInt8) (b : UInt8) (t : List UInt8) (h : trim l = b :: t) : gapB b = false := by
  unfold trim at h
  rw [← drop_rdrop] at h
  exact drop_head gapB _ b t h
theorem trim_last (l : List UInt8) (b : UInt8) (t : List UInt8) (h : trim l = t ++ [b]) : gapB b = false := by
  unfold trim rdrop at h
  have h' := congrArg List.reverse h
  rw [List.reverse_reverse, List.reverse_append] at h'
  exact drop_head gapB _ b t.reverse h'
theorem gapB_ne {b : UInt8} (h : gapB b = false) : ¬ (b.toNat : Int) = 32 ∧ ¬ (b.toNat : Int) = 9 := by
  constructor
  · intro e; rw [(gapB_iff b).2 (.inl e)] at h; cases h
  · intro e; rw [(gapB_iff b).2 (.inr e)] at h; cases h
end Go.Proofs.YtpofifheicbilaaDoor.Pure
