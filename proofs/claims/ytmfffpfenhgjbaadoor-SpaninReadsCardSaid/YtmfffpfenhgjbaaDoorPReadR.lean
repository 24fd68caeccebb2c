/- What the reference's printed helpers of reading answer, in plain words. -/
import Derived.Test.YtmfffpfenhgjbaaDoorPReadAll
import Derived.Test.YtmfffpfenhgjbaaDoorX7
import Derived.Test.YtmfffpfenhgjbaaDoorX8
import Derived.Test.YtmfffpfenhgjbaaDoorX4
set_option linter.unusedVariables false
set_option linter.unusedSimpArgs false
namespace Go.Proofs.YtmfffpfenhgjbaaDoor.Pure
open Go.RowKit Go.Lib Go.Proofs.YtmfffpfenhgjbaaDoor.X Go.Proofs.YtmfffpfenhgjbaaDoor.G Go.Proofs.YtmfffpfenhgjbaaDoorW.PrintWords Go.Proofs.YtmfffpfenhgjbaaDoorW.PrintLast Go.Proofs.YtmfffpfenhgjbaaDoorW.PrintMore
theorem ref_class_eq (b : UInt8) (k : Nat) : emendationref01_Class.f (k + 2) (b.toNat : Int) = some (classV (b.toNat : Int)) := by
  have h : ∀ n : Fin 256, emendationref01_Class.f 2 ((n.val : Nat) : Int) = some (classV ((n.val : Nat) : Int)) := by decide +kernel
  have h2 : ∀ x : Int, emendationref01_Class.f (k + 2) x = emendationref01_Class.f 2 x := by
    intro x
    unfold emendationref01_Class.f
    simp only [emendationref01_Class.j0, emendationref01_Class.j1]
  rw [h2]
  exact h ⟨b.toNat, b.toNat_lt⟩
theorem refTicks_l0 (s : ByteArray) (hs : s.size ≤ 140737488351232) (i : Nat) : ∀ (d k n : Nat), i + n + d = s.size → d < k → emendationref08_Ticks.l0 k s (i : Int) (n : Int) = some (((n + ticksL ((L s).drop (i + n)) : Nat)) : Int) := by
  intro d
  induction d with
  | zero =>
    intro k n h hk
    obtain ⟨k, rfl⟩ : ∃ m, k = m + 1 := ⟨k - 1, by omega⟩
    rw [emendationref08_Ticks.l0, if_pos (by omega), wrap_small (by omega) (by omega), if_neg (by omega), List.drop_eq_nil_of_le (by rw [← L_size]; omega)]
    rfl
  | succ d ih =>
    intro k n h hk
    obtain ⟨k, rfl⟩ : ∃ m, k = m + 1 := ⟨k - 1, by omega⟩
    have hl : i + n < (L s).length := by rw [← L_size]; omega
    have w1 : wrap64 ((i : Int) + (n : Int)) = ((i + n : Nat) : Int) := by rw [wrap_small (by omega) (by omega)]; omega
    rw [emendationref08_Ticks.l0, if_pos (by omega), w1, if_pos (by omega), if_pos (by omega), List.drop_eq_getElem_cons hl, ticksL, bt_L s _ hl]
    by_cases hc : ((L s)[i + n]).toNat = 96
    · rw [if_pos (by omega), if_pos hc, wrap_small (by omega) (by omega)]
      have := ih k (n + 1) (by omega) (by omega)
      rw [show ((n : Int) + 1) = ((n + 1 : Nat) : Int) from by omega, this]
      rw [show i + (n + 1) = i + n + 1 from rfl]
      congr 2
      omega
    · rw [if_neg (by omega), if_neg hc]
      simp
theorem refTicks_eq (s : ByteArray) (i k : Nat) (hs : s.size ≤ 140737488351232) (hi : i ≤ s.size) (hk : s.size < k) : emendationref08_Ticks.f k s (i : Int) = some ((ticksL ((L s).drop i) : Nat) : Int) := by
  have := refTicks_l0 s hs i (s.size - i) k 0 (by omega) (by omega)
  unfold emendationref08_Ticks.f
  simpa using this
theorem refStrip_l0 (s : ByteArray) (hs : s.size ≤ 1000000) : ∀ (d k i : Nat) (x : Bool), i + d = s.size → d < k → emendationref08_strip.l0 k s x (i : Int) = emendationref08_strip.l0 1 s (x && ((L s).drop i).all (fun c => c == 32)) (s.size : Int) := by
  intro d
  induction d with
  | zero =>
    intro k i x h hk
    obtain ⟨k, rfl⟩ : ∃ m, k = m + 1 := ⟨k - 1, by omega⟩
    obtain rfl : i = s.size := by omega
    rw [List.drop_eq_nil_of_le (by rw [← L_size]; omega), List.all_nil, Bool.and_true]
    have hn : ¬ ((s.size : Int) < (s.size : Int)) := by omega
    rw [emendationref08_strip.l0, emendationref08_strip.l0]
    simp only [if_neg hn]
  | succ d ih =>
    intro k i x h hk
    obtain ⟨k, rfl⟩ : ∃ m, k = m + 1 := ⟨k - 1, by omega⟩
    have hl : i < (L s).length := by rw [← L_size]; omega
    have w1 : wrap64 ((i : Int) + 1) = ((i + 1 : Nat) : Int) := by rw [wrap_small (by omega) (by omega)]; omega
    rw [emendationref08_strip.l0, if_pos (by omega), w1, List.drop_eq_getElem_cons hl, List.all_cons]
    cases x with
    | false => rw [if_neg (by decide), ih k (i + 1) false (by omega) (by omega)]; rfl
    | true =>
      rw [if_pos rfl, if_pos (by omega), bt_L s i hl, ih k (i + 1) _ (by omega) (by omega)]
      have e : ((((L s)[i]).toNat : Int) == 32) = ((L s)[i] == 32) := by
        rw [Bool.eq_iff_iff, beq_iff_eq, beq_iff_eq]
        constructor
        · intro h; exact toNat_inj (Int.ofNat.inj h)
        · intro h; rw [h]; rfl
      rw [e, Bool.true_and]
theorem refStrip_eq (s : ByteArray) (k : Nat) (hs : s.size ≤ 1000000) (hk : s.size < k) : emendationref08_strip.f k s = some ⟨(stripL (L s)).toArray⟩ := by
  have hl := L_size s
  have h0 := refStrip_l0 s hs s.size k 0 true (by omega) hk
  unfold emendationref08_strip.f
  rw [show ((0 : Int)) = ((0 : Nat) : Int) from rfl, h0, List.drop_zero, Bool.true_and, emendationref08_strip.l0, if_neg (by omega)]
  have hany : (L s).any (fun c => c != 32) = !(L s).all (fun c => c == 32) := by
    induction (L s) with
    | nil => rfl
    | cons c t ih => rw [List.any_cons, List.all_cons, ih, Bool.not_and]; rfl
  cases ha : (L s).all (fun c => c == 32) with
  | true =>
    rw [if_pos rfl]
    unfold stripL
    rw [if_neg (by rw [hany, ha]; rintro ⟨_, _, h⟩; cases h), L_mk']
  | false =>
    rw [if_neg (by decide)]
    have hne : L s ≠ [] := by intro h; rw [h] at ha; cases ha
    obtain ⟨b, r, hb⟩ : ∃ b r, L s = b :: r := by
      cases h : L s with
      | nil => exact absurd h hne
      | cons b r => exact ⟨b, r, rfl⟩
    have hpos : 0 < s.size := by rw [hl, hb, List.length_cons]; omega
    have w1 : wrap64 ((s.size : Int) - 1) = ((s.size - 1 : Nat) : Int) := by rw [wrap_small (by omega) (by omega)]; omega
    have hbt : bt s 0 = (b.toNat : Int) := (bt_drop s 0 (by rw [List.drop_zero]; exact hb)).1
    have hlt : s.size - 1 < (L s).length := by omega
    have hbl : bt s ((s.size - 1 : Nat) : Int) = (((L s)[s.size - 1]).toNat : Int) := bt_L s _ hlt
    have hgl : (L s).getLast? = some (L s)[s.size - 1] := by rw [List.getLast?_eq_getElem?, ← hl, List.getElem?_eq_getElem hlt]
    have hhd : (L s).head? = some b := by rw [hb]; rfl
    have hz : (32 : UInt8).toNat = 32 := rfl
    rw [if_pos (by omega), hbt, w1, hbl]
    unfold stripL
    rw [hgl, hhd, hany, ha]
    by_cases c1 : (b.toNat : Int) = 32
    · have e1 : b = 32 := toNat_inj (by omega)
      rw [if_pos c1, if_pos (by omega), if_pos (by omega)]
      by_cases c2 : (((L s)[s.size - 1]).toNat : Int) = 32
      · have e2 : (L s)[s.size - 1] = 32 := toNat_inj (by omega)
        have h2 : 1 ≤ s.size - 1 := by
          rcases Nat.lt_or_ge 1 s.size with h | h
          · omega
          · exfalso
            have hr : r = [] := List.eq_nil_of_length_eq_zero (by rw [hb, List.length_cons] at hl; omega)
            rw [hb, hr, e1] at ha
            cases ha
        rw [if_pos c2, if_pos (by omega), if_pos (by omega), if_pos ⟨congrArg some e1, congrArg some e2, rfl⟩, Int.toNat_natCast]
        congr 1
        apply L_ext
        show L (s.extract 1 (s.size - 1)) = L ⟨_⟩
        refine Eq.trans (L_extract _ _ _) (Eq.trans ?_ (L_mk _).symm)
        rw [List.dropLast_eq_take, List.length_drop, ← hl]
      · rw [if_neg c2, if_neg (fun h => c2 (by rw [Option.some.inj h.2.1]; rfl)), L_mk']
    · rw [if_neg c1, if_neg (fun h => c1 (by rw [Option.some.inj h.1]; rfl)), L_mk']
/-- A code, as the reference tells it. -/
def refCodeV (s : ByteArray) (r : Option (List UInt8 × List UInt8)) : ByteArray × Int :=
  match r with
  | some (b, t) => (⟨(stripL b).toArray⟩, ((s.size - t.length : Nat) : Int))
  | none => (⟨#[]⟩, -1)
theorem extract_le (s : ByteArray) (a b : Nat) : (s.extract a b).size ≤ s.size := by
  rw [L_size, L_extract, List.length_take, List.length_drop, ← L_size]; omega
theorem wrap_add (a b : Nat) (h : a + b ≤ 9000000000000000000) : wrap64 ((a : Int) + (b : Int)) = ((a + b : Nat) : Int) := by
  rw [wrap_small (by omega) (by omega)]; omega
theorem sub_back (a b : Nat) (h : a ≤ b) : ((a : Nat) : Int) = ((b - (b - a) : Nat) : Int) := by omega
theorem refCode_l0 (s : ByteArray) (p n : Nat) (hs : s.size ≤ 1000000) (hn : 0 < n) : ∀ (d i k F : Nat), i + d = s.size → p + n ≤ i → s.size + 2 * d + 2 < k → d < F →
    emendationref08_code.l0 k s (p : Int) (n : Int) (i : Int) = some (refCodeV s (codeL n F (((L s).drop (p + n)).take (i - (p + n))) ((L s).drop i))) := by
  intro d
  induction d using Nat.strongRecOn with
  | ind d ih =>
    intro i k F h hp hk hF
    obtain ⟨k, rfl⟩ : ∃ m, k = m + 2 := ⟨k - 2, by omega⟩
    obtain ⟨F, rfl⟩ : ∃ m, F = m + 1 := ⟨F - 1, by omega⟩
    have hsk : s.size < k := by omega
    rw [emendationref08_code.l0]
    by_cases hlt : i < s.size
    · have hl : i < (L s).length := by rw [← L_size]; omega
      have hdr : (L s).drop i = (L s)[i] :: (L s).drop (i + 1) := List.drop_eq_getElem_cons hl
      rw [if_pos (by omega), if_pos (by omega), bt_L s i hl, emendationref08_code.j1, hdr, codeL]
      by_cases h10 : ((L s)[i]).toNat = 10
      · rw [if_neg (by simp [h10]), if_pos h10]
        rfl
      · rw [if_pos (by simp only [bne_iff_ne, ne_eq]; omega), if_neg h10, refTicks_eq s i k (by omega) (by omega) (by omega), Option.bind_some, ← hdr]
        have w0 := wrap_add p n (by omega)
        have htl := ticksL_le ((L s).drop i)
        rw [List.length_drop, ← L_size] at htl
        by_cases ht : ticksL ((L s).drop i) = n
        · have hin : i + n ≤ s.size := by rw [← ht]; omega
          have w1 := wrap_add i n (by omega)
          have e := L_extract s (p + n) i
          have hz := extract_le s (p + n) i
          have c1 : ((ticksL ((L s).drop i) : Nat) : Int) = (n : Int) := by rw [ht]
          have c2 : (0 : Int) ≤ ((p + n : Nat) : Int) := Int.natCast_nonneg _
          have c3 : ((p + n : Nat) : Int) ≤ (i : Int) := Int.ofNat_le.2 hp
          have c4 : (i : Int) ≤ (s.size : Int) := Int.ofNat_le.2 (Nat.le_of_lt hlt)
          have c5 := refStrip_eq (s.extract (p + n) i) k (Nat.le_trans hz hs) (Nat.lt_of_le_of_lt hz hsk)
          rw [if_pos c1, if_pos ht, w0, w1, if_pos c2, if_pos c3, if_pos c4, Int.toNat_natCast, Int.toNat_natCast, c5, Option.bind_some, e]
          show _ = some (refCodeV s (some (_, _)))
          unfold refCodeV
          dsimp only
          congr 2
          rw [List.drop_drop, List.length_drop, ← L_size]
          exact sub_back _ _ hin
        · rw [if_neg (by omega), if_neg ht]
          have w1 : wrap64 ((i : Int) + mx ((ticksL ((L s).drop i) : Nat) : Int) 1) = ((i + max (ticksL ((L s).drop i)) 1 : Nat) : Int) := by
            have : mx ((ticksL ((L s).drop i) : Nat) : Int) 1 = ((max (ticksL ((L s).drop i)) 1 : Nat) : Int) := by unfold mx; omega
            rw [this, wrap_small (by omega) (by omega)]; omega
          rw [w1]
          generalize hm : max (ticksL ((L s).drop i)) 1 = m at *
          have hm2 : i + m ≤ s.size := by omega
          rw [ih (d - m) (by omega) (i + m) k F (by omega) (by omega) (by omega) (by omega), List.drop_drop]
          congr 3
          have : i + m - (p + n) = (i - (p + n)) + m := by omega
          rw [this, List.take_add, List.drop_drop, show p + n + (i - (p + n)) = i from by omega]
    · rw [if_neg (by omega), emendationref08_code.j1, if_neg (by decide), show (L s).drop i = [] from List.drop_eq_nil_of_le (by rw [← L_size]; omega), codeL]
      rfl
theorem refCode_eq (s : ByteArray) (p n k F : Nat) (hs : s.size ≤ 1000000) (hn : 0 < n) (hp : p + n ≤ s.size) (hk : 3 * s.size + 2 < k) (hF : s.size - (p + n) < F) :
    emendationref08_code.f k s (p : Int) (n : Int) = some (refCodeV s (codeL n F [] ((L s).drop (p + n)))) := by
  have w0 : wrap64 ((p : Int) + (n : Int)) = ((p + n : Nat) : Int) := by rw [wrap_small (by omega) (by omega)]; omega
  have := refCode_l0 s p n hs hn (s.size - (p + n)) (p + n) k F (by omega) (Nat.le_refl _) (by omega) hF
  unfold emendationref08_code.f
  rw [w0, this, Nat.sub_self, List.take_zero]
/-- A link's place, as the reference tells it. -/
def refDestV (s : ByteArray) (r : Option (List UInt8 × List UInt8)) : ByteArray × Int :=
  match r with
  | some (b, t) => (⟨b.toArray⟩, ((s.size - t.length : Nat) : Int))
  | none => (⟨#[]⟩, -1)
theorem refDest_l0 (s : ByteArray) (p : Nat) (hs : s.size ≤ 1000000) (hp : p < s.size) : ∀ (d k i : Nat), i + d = s.size → d + 30 < k → p + 1 ≤ i → (((L s).drop (p + 1)).take (i - (p + 1))).all dstB = true →
    emendationref08_dest.l0 k s (p : Int) (i : Int) = some (refDestV s (let m := ((L s).drop (p + 1)).takeWhile dstB; let r := ((L s).drop (p + 1)).dropWhile dstB; if m = [] then none else match r with | c :: t => if c.toNat = 41 then some (m, t) else none | [] => none)) := by
  intro d
  induction d with
  | zero =>
    intro k i h hk hi ha
    obtain ⟨k, rfl⟩ : ∃ m, k = m + 1 := ⟨k - 1, by omega⟩
    have w1 : wrap64 ((p : Int) + 1) = ((p + 1 : Nat) : Int) := by rw [wrap_small (by omega) (by omega)]; omega
    have hall : ((L s).drop (p + 1)).takeWhile dstB = (L s).drop (p + 1) ∧ ((L s).drop (p + 1)).dropWhile dstB = [] := by
      rw [List.take_of_length_le (by rw [List.length_drop, ← L_size]; omega)] at ha
      generalize (L s).drop (p + 1) = m at ha
      clear h hk hi w1
      induction m with
      | nil => exact ⟨rfl, rfl⟩
      | cons c t ih =>
        rw [List.all_cons, Bool.and_eq_true] at ha
        rw [List.takeWhile_cons, List.dropWhile_cons, if_pos ha.1, if_pos ha.1, (ih ha.2).1, (ih ha.2).2]
        exact ⟨rfl, rfl⟩
    rw [emendationref08_dest.l0, if_neg (by omega), w1, hall.1, hall.2]
    by_cases h1 : i = p + 1
    · rw [if_pos (by omega)]
      dsimp only
      split <;> rfl
    · rw [if_neg (by omega), if_pos (by omega)]
      dsimp only
      split <;> rfl
  | succ d ih =>
    intro k i h hk hi ha
    obtain ⟨k, rfl⟩ : ∃ m, k = m + 1 := ⟨k - 1, by omega⟩
    have hl : i < (L s).length := by rw [← L_size]; omega
    have w1 : wrap64 ((i : Int) + 1) = ((i + 1 : Nat) : Int) := by rw [wrap_small (by omega) (by omega)]; omega
    have w2 : wrap64 ((p : Int) + 1) = ((p + 1 : Nat) : Int) := by rw [wrap_small (by omega) (by omega)]; omega
    have hx : L (s.extract i (i + 1)) = [(L s)[i]] := by
      rw [L_extract, List.drop_eq_getElem_cons hl, show i + 1 - i = 1 from by omega]
      rfl
    have hxz : (s.extract i (i + 1)).size = 1 := by rw [L_size, hx]; rfl
    rw [emendationref08_dest.l0, if_pos (by omega), if_pos (by omega), w1, w2, if_pos (by omega), if_pos (by omega), Int.toNat_natCast, Int.toNat_natCast, ref_dest_eq _ (by omega) k (by omega), hx, Option.bind_some, destL_one]
    have hsplit : (L s).drop (p + 1) = ((L s).drop (p + 1)).take (i - (p + 1)) ++ (L s)[i] :: (L s).drop (i + 1) := by
      have e := (List.take_append_drop (i - (p + 1)) ((L s).drop (p + 1))).symm
      rw [List.drop_drop, show p + 1 + (i - (p + 1)) = i from by omega, List.drop_eq_getElem_cons hl] at e
      exact e
    by_cases hc : dstB (L s)[i] = true
    · rw [if_pos hc]
      refine ih k (i + 1) (by omega) (by omega) (by omega) ?_
      rw [show i + 1 - (p + 1) = (i - (p + 1)) + 1 from by omega, List.take_add, List.all_append, ha, List.drop_drop, show p + 1 + (i - (p + 1)) = i from by omega, List.drop_eq_getElem_cons hl, List.take_succ_cons, List.take_zero, List.all_cons, List.all_nil, hc]
      rfl
    · rw [if_neg hc]
      have htw : ((L s).drop (p + 1)).takeWhile dstB = ((L s).drop (p + 1)).take (i - (p + 1)) ∧ ((L s).drop (p + 1)).dropWhile dstB = (L s)[i] :: (L s).drop (i + 1) := by
        generalize ((L s).drop (p + 1)).take (i - (p + 1)) = m at ha hsplit
        rw [hsplit]
        clear hsplit
        induction m with
        | nil => rw [List.nil_append, List.takeWhile_cons, List.dropWhile_cons, if_neg hc, if_neg hc]; exact ⟨rfl, rfl⟩
        | cons c t ih =>
          rw [List.all_cons, Bool.and_eq_true] at ha
          rw [List.cons_append, List.takeWhile_cons, List.dropWhile_cons, if_pos ha.1, if_pos ha.1, (ih ha.2).1, (ih ha.2).2]
          exact ⟨rfl, rfl⟩
      rw [htw.1, htw.2]
      have hlen : (((L s).drop (p + 1)).take (i - (p + 1))).length = i - (p + 1) := by rw [List.length_take, List.length_drop, ← L_size]; omega
      by_cases h1 : i = p + 1
      · have hm : ((L s).drop (p + 1)).take (i - (p + 1)) = [] := by rw [h1, Nat.sub_self, List.take_zero]
        rw [if_pos (by omega), hm]
        rfl
      · rw [if_neg (by omega), if_neg (by omega), bt_L s i hl]
        have hne : ((L s).drop (p + 1)).take (i - (p + 1)) ≠ [] := by intro he; rw [he, List.length_nil] at hlen; omega
        dsimp only
        rw [if_neg hne]
        by_cases h41 : ((L s)[i]).toNat = 41
        · rw [if_pos (by omega), if_pos (by omega), if_pos (by omega), if_pos (by omega), if_pos h41, Int.toNat_natCast]
          unfold refDestV
          dsimp only
          have e1 : s.extract (p + 1) i = ⟨(((L s).drop (p + 1)).take (i - (p + 1))).toArray⟩ := L_ext ((L_extract _ _ _).trans (L_mk _).symm)
          have e2 : ((i + 1 : Nat) : Int) = ((s.size - ((L s).drop (i + 1)).length : Nat) : Int) := by rw [List.length_drop, ← L_size]; omega
          rw [e1, e2]
        · rw [if_neg (by omega), if_neg h41]
          rfl
theorem refDest_eq (s : ByteArray) (p k : Nat) (hs : s.size ≤ 1000000) (hk : s.size + 32 < k) : emendationref08_dest.f k s (p : Int) = some (refDestV s (toL dstB ((L s).drop p))) := by
  obtain ⟨k, rfl⟩ : ∃ m, k = m + 1 := ⟨k - 1, by omega⟩
  unfold emendationref08_dest.f
  by_cases hp : p < s.size
  · have hl : p < (L s).length := by rw [← L_size]; omega
    have w2 : wrap64 ((p : Int) + 1) = ((p + 1 : Nat) : Int) := by rw [wrap_small (by omega) (by omega)]; omega
    rw [if_neg (by omega), if_pos (by omega), if_pos (by omega), emendationref08_dest.j0, bt_L s p hl, List.drop_eq_getElem_cons hl, w2]
    unfold toL
    dsimp only
    by_cases h40 : ((L s)[p]).toNat = 40
    · rw [if_neg (by simp [h40]), refDest_l0 s p hs hp (s.size - (p + 1)) k (p + 1) (by omega) (by omega) (Nat.le_refl _) (by rw [Nat.sub_self, List.take_zero]; rfl)]
      dsimp only
      by_cases hm : ((L s).drop (p + 1)).takeWhile dstB = []
      · rw [if_pos hm, if_neg (fun h => h.2 hm)]
      · rw [if_neg hm, if_pos ⟨h40, hm⟩]
        cases ((L s).drop (p + 1)).dropWhile dstB with
        | nil => rfl
        | cons c t => rfl
    · rw [if_pos (by simp only [bne_iff_ne, ne_eq]; omega), if_neg (fun h => h40 h.1)]
      rfl
  · rw [if_pos (by omega), emendationref08_dest.j0, if_pos rfl, List.drop_eq_nil_of_le (by rw [← L_size]; omega)]
    rfl
end Go.Proofs.YtmfffpfenhgjbaaDoor.Pure
