/- lines.Split and Join, and the reference's. -/
import Derived.Test.YtpofifheicbilaaDoorPSplit
namespace Go.Proofs.YtpofifheicbilaaDoor.Pure
open Go.RowKit Go.Proofs.YtpofifheicbilaaDoor.X Go.Proofs.YtpofifheicbilaaDoor.G Go.Proofs.YtpofifheicbilaaDoorW.PrintWords Go.Proofs.YtpofifheicbilaaDoorW.PrintLast Go.Proofs.YtpofifheicbilaaDoorW.PrintMore

theorem crlf_contains (b : UInt8) : ([13, 10] : List UInt8).contains b = false ↔ b ≠ 10 ∧ b ≠ 13 := by
  simp only [List.contains_cons, List.contains_nil, Bool.or_false, Bool.or_eq_false_iff, beq_eq_false_iff_ne]
  exact ⟨fun h => ⟨h.2, h.1⟩, fun h => ⟨h.2, h.1⟩⟩
/-- Where the first line end is. -/
theorem indexAny_crlf (l : List UInt8) : (Lib.indexAny l [13, 10] = -1 ∧ ∀ b ∈ l, b ≠ 10 ∧ b ≠ 13) ∨ ∃ p c t, l = p ++ c :: t ∧ (∀ b ∈ p, b ≠ 10 ∧ b ≠ 13) ∧ (c = 10 ∨ c = 13) ∧ Lib.indexAny l [13, 10] = p.length := by
  induction l with
  | nil => exact .inl ⟨rfl, by simp⟩
  | cons b l ih =>
    by_cases hb : ([13, 10] : List UInt8).contains b = true
    · refine .inr ⟨[], b, l, rfl, by simp, ?_, by rw [Lib.indexAny, if_pos hb]; rfl⟩
      by_cases h : b = 10 ∨ b = 13
      · exact h
      · have h2 : b ≠ 10 ∧ b ≠ 13 := ⟨fun e => h (.inl e), fun e => h (.inr e)⟩
        rw [(crlf_contains b).2 h2] at hb
        cases hb
    · have hb' : ([13, 10] : List UInt8).contains b = false := by simpa using hb
      have hn := (crlf_contains b).1 hb'
      rcases ih with ⟨h1, h2⟩ | ⟨p, c, t, rfl, hp, hc, hi⟩
      · refine .inl ⟨by rw [Lib.indexAny, if_neg hb, h1]; rfl, ?_⟩
        intro x hx
        rcases List.mem_cons.1 hx with rfl | hx
        · exact hn
        · exact h2 x hx
      · refine .inr ⟨b :: p, c, t, rfl, ?_, hc, ?_⟩
        · intro x hx
          rcases List.mem_cons.1 hx with rfl | hx
          · exact hn
          · exact hp x hx
        · rw [Lib.indexAny, if_neg hb, hi]
          have : ((p.length : Int) == -1) = false := by rw [beq_eq_false_iff_ne]; omega
          rw [this]
          simp
theorem hasPrefix_crlf (s : ByteArray) (hs : s.size ≤ 140737488351232) : strings_HasPrefix.f s (⟨#[13, 10]⟩ : ByteArray) = some ((L s).take 2 == [13, 10]) := by
  unfold strings_HasPrefix.f stringslite_HasPrefix.f
  have h2 : ((⟨#[13, 10]⟩ : ByteArray).size : Int) = 2 := rfl
  simp only [h2]
  by_cases h : (s.size : Int) ≥ 2
  · rw [if_pos h, if_pos (by omega), if_pos h]
    simp only [Option.bind_some, L_toList]
    rw [show (Int.toNat 2) = 2 from rfl, L_upto]
    rfl
  · rw [if_neg h]
    simp only [Option.bind_some]
    have hl : (L s).length < 2 := by rw [← L_size]; omega
    have : ((L s).take 2 == [13, 10]) = false := by
      rw [beq_eq_false_iff_ne]
      intro e
      have := congrArg List.length e
      rw [List.length_take] at this
      simp at this
      omega
    rw [this]
theorem lines_Split_l0 (N : Nat) (hN : N < 4294967281) : ∀ (n k : Nat) (s : ByteArray) (out : List ByteArray), s.size ≤ n → n ≤ N → n < k → out.length + n ≤ N →
    ∃ r, lines_Split.l0 k s out = some (r, (spl false [] (L s)).2) ∧ r.map L = out.map L ++ (spl false [] (L s)).1 := by
  intro n
  induction n with
  | zero =>
    intro k s out hs hn hk ho
    obtain ⟨k, rfl⟩ : ∃ m, k = m + 1 := ⟨k - 1, by omega⟩
    have h0 : L s = [] := List.eq_nil_of_length_eq_zero (by rw [← L_size]; omega)
    simp only [lines_Split.l0, L_toList]
    rw [if_pos h0, h0]
    exact ⟨out, rfl, by simp [spl]⟩
  | succ n ih =>
    intro k s out hs hn hk ho
    obtain ⟨k, rfl⟩ : ∃ m, k = m + 1 := ⟨k - 1, by omega⟩
    simp only [lines_Split.l0, L_toList]
    by_cases h0 : L s = []
    · rw [if_pos h0, h0]
      exact ⟨out, rfl, by simp [spl]⟩
    · rw [if_neg h0]
      have hL := L_size s
      unfold strings_IndexAny.f
      rw [if_pos ⟨by decide, by omega, by decide, by decide⟩]
      simp only [Option.bind_some]
      have hlim : out.length < 8796093022208 := by omega
      rw [show s.data.toList = L s from rfl]
      rcases indexAny_crlf (L s) with ⟨h1, h2⟩ | ⟨p, c, t, hsp, hp, hc, hi⟩
      · rw [h1, if_pos (by omega), if_pos hlim]
        have := spl_plain0 (L s) [] h2
        rw [List.append_nil] at this
        refine ⟨out ++ [s], ?_, ?_⟩
        · rw [this]; simp [spl, h0]
        · rw [this]; simp [spl, h0]
      · have hlen : (L s).length = p.length + 1 + t.length := by rw [hsp]; simp; omega
        rw [hi, if_neg (by omega), if_pos (by omega), if_pos (by omega), Int.toNat_natCast]
        have hz : (s.extract p.length s.size).size ≤ 140737488351232 := by rw [L_size, L_from, List.length_drop]; omega
        rw [hasPrefix_crlf _ hz]
        simp only [Option.bind_some]
        have hd : (L s).drop p.length = c :: t := by rw [hsp, List.drop_left]
        have htk : (L s).take p.length = p := by rw [hsp, List.take_left]
        rw [L_from, hd, if_pos hlim, if_pos hlim]
        have hr2 : L (s.extract 0 p.length) = p := by rw [L_upto, htk]
        have hp0 := spl_plain0 p (c :: t) hp
        by_cases hcr : ((c :: t).take 2 == [13, 10]) = true
        · rw [if_pos hcr]
          obtain ⟨t', rfl, rfl⟩ : ∃ t', c = 13 ∧ t = 10 :: t' := by
            cases t with
            | nil => simp at hcr
            | cons x t' => simp at hcr; exact ⟨t', hcr.1, by rw [hcr.2]⟩
          simp only [List.length_cons] at hlen
          rw [wrap_small (x := (p.length : Int) + 2) (by omega) (by omega), if_pos (by omega), if_pos (by omega), show ((p.length : Int) + 2).toNat = p.length + 2 from by omega]
          have hrest : L (s.extract (p.length + 2) s.size) = t' := by
            rw [L_from, ← List.drop_drop, hd]; rfl
          obtain ⟨r, hr, hm⟩ := ih k (s.extract (p.length + 2) s.size) (out ++ [s.extract 0 p.length]) (by rw [L_size, hrest]; omega) (by omega) (by omega) (by simp; omega)
          rw [hrest] at hr hm
          refine ⟨r, ?_, ?_⟩
          · rw [hr, hsp, hp0, spl_cr_lf]
          · rw [hm, hsp, hp0, spl_cr_lf]; simp [hr2]
        · rw [if_neg hcr]
          rw [wrap_small (x := (p.length : Int) + 1) (by omega) (by omega), if_pos (by omega), if_pos (by omega), show ((p.length : Int) + 1).toNat = p.length + 1 from by omega]
          have hrest : L (s.extract (p.length + 1) s.size) = t := by
            rw [L_from, ← List.drop_drop, hd]; rfl
          obtain ⟨r, hr, hm⟩ := ih k (s.extract (p.length + 1) s.size) (out ++ [s.extract 0 p.length]) (by rw [L_size, hrest]; omega) (by omega) (by omega) (by simp; omega)
          rw [hrest] at hr hm
          have hstep : spl false p (c :: t) = (p :: (spl false [] t).1, (spl false [] t).2) := by
            rcases hc with rfl | rfl
            · exact spl_lf p t
            · refine spl_cr_any p t (fun e => hcr ?_)
              cases t with
              | nil => simp at e
              | cons x t' => simp at e; subst e; rfl
          refine ⟨r, ?_, ?_⟩
          · rw [hr, hsp, hp0, hstep]
          · rw [hm, hsp, hp0, hstep]; simp [hr2]
/-- lines.Split is spl. -/
theorem lines_Split_eq (s : ByteArray) (k : Nat) (hs : s.size < 4294967281) (hk : s.size < k) : ∃ r, lines_Split.f k s = some (r, (spl false [] (L s)).2) ∧ r.map L = (spl false [] (L s)).1 := by
  obtain ⟨r, h1, h2⟩ := lines_Split_l0 s.size hs s.size k s [] (Nat.le_refl _) (Nat.le_refl _) hk (by simp)
  exact ⟨r, h1, by simpa using h2⟩

theorem strOfNums_one (b : UInt8) : L (strOfNums [(b.toNat : Int)]) = [b] := by
  simp [strOfNums, L]
theorem strOfNums_size (b : UInt8) : (strOfNums [(b.toNat : Int)]).size = 1 := by rw [L_size, strOfNums_one]; rfl
theorem L_empty : L (⟨#[]⟩ : ByteArray) = [] := rfl
theorem empty_of_L {s : ByteArray} (h : L s = []) : s = (⟨#[]⟩ : ByteArray) := L_ext h
theorem ref_Split_l0 (s : ByteArray) (hs : s.size < 4294967281) : ∀ (d k i : Nat) (out : List ByteArray) (line : ByteArray) (op : Bool), i + d = s.size → 2 * d < k → out.length ≤ i → line.size ≤ i → op = !(L line == []) →
    ∃ r, emendationref02_Split.l0 k s out line op (i : Int) = some (r, (spl false (L line) ((L s).drop i)).2) ∧ r.map L = out.map L ++ (spl false (L line) ((L s).drop i)).1 := by
  intro d
  induction d using Nat.strongRecOn with
  | _ d ih =>
  intro k i out line op h hk ho hl hop
  obtain ⟨k, rfl⟩ : ∃ m, k = m + 1 := ⟨k - 1, by omega⟩
  by_cases hd : d = 0
  · subst hd
    simp only [emendationref02_Split.l0]
    rw [if_neg (by omega), List.drop_eq_nil_of_le (by rw [← L_size]; omega)]
    by_cases hline : L line = []
    · have : op = false := by rw [hop, hline]; rfl
      subst this
      simp only [Bool.false_eq_true, if_false]
      refine ⟨out, ?_, ?_⟩
      · simp [spl, hline]
      · simp [spl, hline]
    · have : op = true := by rw [hop]; simp [hline]
      subst this
      simp only [if_true]
      rw [if_pos (by omega)]
      refine ⟨out ++ [line], ?_, ?_⟩
      · simp [spl, hline]
      · simp [spl, hline]
  · obtain ⟨k, rfl⟩ : ∃ m, k = m + 1 := ⟨k - 1, by omega⟩
    have hi : i < (L s).length := by rw [← L_size]; omega
    obtain ⟨b, t, hbt⟩ : ∃ b t, (L s).drop i = b :: t := ⟨_, _, List.drop_eq_getElem_cons hi⟩
    obtain ⟨hb, _, ht⟩ := bt_drop s i hbt
    have hlen : (b :: t).length = d := by rw [← hbt, List.length_drop, ← L_size]; omega
    simp only [List.length_cons] at hlen
    have hlim : out.length < 8796093022208 := by omega
    rw [hbt]
    have hend : (b = 10 ∨ b = 13) ↔ ((b.toNat : Int) = 10 ∨ (b.toNat : Int) = 13) := by
      constructor
      · rintro (rfl | rfl)
        · exact .inl rfl
        · exact .inr rfl
      · rintro (h | h)
        · exact .inl (toNat_inj (by rw [show b.toNat = 10 from by omega]; rfl))
        · exact .inr (toNat_inj (by rw [show b.toNat = 13 from by omega]; rfl))
    have hj : emendationref02_Split.l0 (k + 1 + 1) s out line op (i : Int) = emendationref02_Split.j1 (k + 1) s out line (i : Int) (decide (b = 10 ∨ b = 13)) := by
      rw [emendationref02_Split.l0, if_pos (by omega), if_pos (by omega), hb]
      by_cases h10 : (b.toNat : Int) = 10
      · rw [if_pos h10, decide_eq_true (hend.2 (.inl h10))]
      · rw [if_neg h10]
        congr 1
        by_cases h13 : (b.toNat : Int) = 13
        · rw [decide_eq_true (hend.2 (.inr h13)), h13]; rfl
        · rw [decide_eq_false (fun h => (hend.1 h).elim h10 h13)]; simp [h13]
    rw [hj]
    by_cases he : b = 10 ∨ b = 13
    · rw [decide_eq_true he]
      simp only [emendationref02_Split.j1, if_true]
      rw [if_pos (by omega), if_pos (by omega), hb]
      -- one line end of one byte
      have one : (b = 10 ∨ t.head? ≠ some 10) → ∃ r, emendationref02_Split.l0 k s (out ++ [line]) (⟨#[]⟩ : ByteArray) false (wrap64 ((i : Int) + 1)) = some (r, (spl false (L line) (b :: t)).2) ∧ r.map L = out.map L ++ (spl false (L line) (b :: t)).1 := by
        intro hcase
        rw [wrap_small (x := (i : Int) + 1) (by omega) (by omega), show (i : Int) + 1 = ((i + 1 : Nat) : Int) from by omega]
        obtain ⟨r, hr, hm⟩ := ih (d - 1) (by omega) k (i + 1) (out ++ [line]) (⟨#[]⟩ : ByteArray) false (by omega) (by omega) (by simp; omega) (Nat.zero_le _) (by rw [L_empty]; rfl)
        rw [ht, L_empty] at hr hm
        have hst : spl false (L line) (b :: t) = (L line :: (spl false [] t).1, (spl false [] t).2) := by
          rcases he with rfl | rfl
          · exact spl_lf _ _
          · refine spl_cr_any _ _ (hcase.resolve_left (by decide))
        exact ⟨r, by rw [hr, hst], by rw [hm, hst]; simp⟩
      by_cases h13 : (b.toNat : Int) = 13
      · have hb13 : b = 13 := toNat_inj (by rw [show b.toNat = 13 from by omega]; rfl)
        rw [if_pos h13, wrap_small (x := (i : Int) + 1) (by omega) (by omega)]
        by_cases hlt : (i : Int) + 1 < (s.size : Int)
        · rw [if_pos hlt, if_pos (by omega)]
          have hi1 : i + 1 < (L s).length := by rw [← L_size]; omega
          have ht1 : t = (L s)[i + 1] :: (L s).drop (i + 2) := by rw [← ht, List.drop_eq_getElem_cons hi1]
          have hbt1 : bt s ((i : Int) + 1) = (((L s)[i + 1]).toNat : Int) := by
            rw [show (i : Int) + 1 = ((i + 1 : Nat) : Int) from by omega]; exact bt_L s (i + 1) hi1
          rw [hbt1]
          by_cases h10 : (((L s)[i + 1]).toNat : Int) = 10
          · have hx : (L s)[i + 1] = 10 := toNat_inj (by rw [show ((L s)[i + 1]).toNat = 10 from by omega]; rfl)
            rw [if_pos h10, if_pos hlim, wrap_small (x := (i : Int) + 1 + 1) (by omega) (by omega), show (i : Int) + 1 + 1 = ((i + 2 : Nat) : Int) from by omega]
            obtain ⟨r, hr, hm⟩ := ih (d - 2) (by omega) k (i + 2) (out ++ [line]) (⟨#[]⟩ : ByteArray) false (by omega) (by omega) (by simp; omega) (Nat.zero_le _) (by rw [L_empty]; rfl)
            rw [L_empty] at hr hm
            refine ⟨r, ?_, ?_⟩
            · rw [hr, hb13, ht1, hx, spl_cr_lf]
            · rw [hm, hb13, ht1, hx, spl_cr_lf]; simp
          · rw [if_neg h10, if_pos hlim]
            have := one (.inr (by rw [ht1]; intro e; apply h10; have e' : (L s)[i + 1] = 10 := Option.some.inj e
                                  rw [e']; rfl))
            rw [wrap_small (x := (i : Int) + 1) (by omega) (by omega)] at this
            exact this
        · rw [if_neg hlt, if_pos hlim]
          have := one (.inr (by
            have : t = [] := List.eq_nil_of_length_eq_zero (by omega)
            rw [this]; simp))
          rw [wrap_small (x := (i : Int) + 1) (by omega) (by omega)] at this
          exact this
      · rw [if_neg h13, if_pos hlim]
        have h10 : b = 10 := he.resolve_right (fun e => h13 (by rw [e]; rfl))
        exact one (.inl h10)
    · rw [decide_eq_false he]
      simp only [emendationref02_Split.j1, Bool.false_eq_true, if_false]
      rw [if_pos (by omega), if_pos (by omega), hb]
      simp only [Option.bind_some]
      rw [strOfNums_size, if_pos (by omega), wrap_small (x := (i : Int) + 1) (by omega) (by omega), show (i : Int) + 1 = ((i + 1 : Nat) : Int) from by omega]
      have hLl : L (line ++ strOfNums [(b.toNat : Int)]) = L line ++ [b] := by rw [L_append, strOfNums_one]
      obtain ⟨r, hr, hm⟩ := ih (d - 1) (by omega) k (i + 1) out (line ++ strOfNums [(b.toNat : Int)]) true (by omega) (by omega) (by omega) (by rw [size_append, strOfNums_size]; omega) (by rw [hLl]; simp)
      rw [ht, hLl] at hr hm
      have hst : spl false (L line) (b :: t) = spl false (L line ++ [b]) t := by
        simp only [spl]
        rw [if_neg (by simp), if_neg he]
      exact ⟨r, by rw [hr, hst], by rw [hm, hst]⟩
theorem ref_Split_eq (s : ByteArray) (k : Nat) (hs : s.size < 4294967281) (hk : 2 * s.size < k) : ∃ r, emendationref02_Split.f k s = some (r, (spl false [] (L s)).2) ∧ r.map L = (spl false [] (L s)).1 := by
  obtain ⟨r, h1, h2⟩ := ref_Split_l0 s hs s.size k 0 [] (⟨#[]⟩ : ByteArray) false (by omega) hk (by simp) (Nat.zero_le _) (by rw [L_empty]; rfl)
  rw [L_empty] at h1 h2
  exact ⟨r, h1, h2⟩
end Go.Proofs.YtpofifheicbilaaDoor.Pure
