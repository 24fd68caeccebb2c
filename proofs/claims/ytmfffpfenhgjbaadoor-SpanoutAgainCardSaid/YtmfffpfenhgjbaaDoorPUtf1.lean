/- utf.Next and the reference's Next: both say nx at the bytes from the place on. -/
import Derived.Test.YtmfffpfenhgjbaaDoorX3
import Derived.Test.YtmfffpfenhgjbaaDoorPUtf0
import Derived.Lib.TrimAscii
namespace Go.Proofs.YtmfffpfenhgjbaaDoor.Pure
open Go.RowKit Go.Lib Go.Proofs.YtmfffpfenhgjbaaDoor.X Go.Proofs.YtmfffpfenhgjbaaDoor.G Go.Proofs.YtmfffpfenhgjbaaDoorW.PrintWords Go.Proofs.YtmfffpfenhgjbaaDoorW.PrintLast Go.Proofs.YtmfffpfenhgjbaaDoorW.PrintMore

/-- The character that stands first, and its bytes; (0, 0): none. -/
def nx (l : List UInt8) : Nat × Nat := if l = [] then (0, 0) else nxp (decodeL l)
theorem nx_nil : nx [] = (0, 0) := rfl
def b_ (l : List UInt8) (j : Nat) : Nat := (l.getD j 0).toNat
theorem b_lt (l : List UInt8) (j : Nat) : b_ l j < 256 := UInt8.toNat_lt _
theorem nx_N (l : List UInt8) (h : l ≠ []) : nx l = nxN l.length (b_ l 0) (b_ l 1) (b_ l 2) (b_ l 3) := by
  unfold nx nxN b_
  rw [if_neg h, decodeL_N]
theorem nx_ref (l : List UInt8) (h : l ≠ []) : nx l = refN l.length (b_ l 0) (b_ l 1) (b_ l 2) (b_ l 3) := by
  rw [nx_N l h, refN_eq _ _ _ _ _ (List.length_pos_iff.2 h) (b_lt _ _) (b_lt _ _) (b_lt _ _) (b_lt _ _)]
theorem decodeN_bound (n b0 b1 b2 b3 : Nat) : (decodeN n b0 b1 b2 b3).1 ≤ 1114111 ∧ 1 ≤ (decodeN n b0 b1 b2 b3).2 ∧ (decodeN n b0 b1 b2 b3).2 ≤ 4 := by
  unfold decodeN
  repeat' split
  all_goals (simp only; omega)
theorem decodeL_bound (l : List UInt8) : (decodeL l).1 ≤ 1114111 ∧ 1 ≤ (decodeL l).2 ∧ (decodeL l).2 ≤ 4 := by
  rw [decodeL_N]; exact decodeN_bound _ _ _ _ _
theorem nx_bound (l : List UInt8) : (nx l).1 ≤ 1114111 ∧ (nx l).2 ≤ 4 := by
  have h := decodeL_bound l
  unfold nx nxp
  repeat' split
  all_goals first | (simp only; omega) | omega
theorem nx_le (l : List UInt8) : (nx l).2 ≤ l.length := by
  unfold nx nxp
  split
  · exact Nat.zero_le _
  · rename_i h
    split
    · exact Nat.zero_le _
    · exact decodeL_le l h
theorem decode_L (t : ByteArray) : Utf8.decode t 0 = decodeL (L t) := by
  unfold decodeL
  rw [L_mk']
theorem bt_b (s : ByteArray) (i j : Nat) (h : i + j < s.size) : bt s (i + j : Nat) = (b_ ((L s).drop i) j : Int) := by
  rw [bt_L s (i + j) (by rw [← L_size]; exact h)]
  unfold b_
  have h' : i + j < (L s).length := by rw [← L_size]; exact h
  simp [List.getD, h']
theorem more_eq (b : Nat) : emendationref01_more.f (b : Int) = some (decide (128 ≤ b ∧ b ≤ 191)) := by
  unfold emendationref01_more.f
  by_cases h : 128 ≤ b
  · rw [if_pos (by omega)]
    congr 1
    by_cases h2 : b ≤ 191
    · rw [decide_eq_true (by omega), decide_eq_true ⟨h, h2⟩]
    · rw [decide_eq_false (by omega), decide_eq_false (fun e => h2 e.2)]
  · rw [if_neg (by omega), decide_eq_false (fun e => h e.1)]
section
variable (s : ByteArray) (hs : s.size ≤ 140737488351232)
include hs
theorem l0_step (i m v j k : Nat) (hj : j < m) (hb : i + j < s.size) (hv : v ≤ 1000000000) :
    emendationref01_Next.l0 (k + 1) s (i : Int) (m : Int) (v : Int) (j : Int) = if 128 ≤ b_ ((L s).drop i) j ∧ b_ ((L s).drop i) j ≤ 191 then emendationref01_Next.l0 k s (i : Int) (m : Int) ((v * 64 + b_ ((L s).drop i) j - 128 : Nat) : Int) ((j + 1 : Nat) : Int) else some (0, 0) := by
  have h256 := b_lt ((L s).drop i) j
  simp only [emendationref01_Next.l0]
  rw [if_pos (by omega), wrap_small (x := (i : Int) + (j : Int)) (by omega) (by omega), if_pos (by omega), if_pos (by omega), show (i : Int) + (j : Int) = ((i + j : Nat) : Int) from by omega, bt_b s i j hb, more_eq, Option.bind_some]
  by_cases h : 128 ≤ b_ ((L s).drop i) j ∧ b_ ((L s).drop i) j ≤ 191
  · rw [if_pos h, if_pos (decide_eq_true h), wrap_small (x := (b_ ((L s).drop i) j : Int)) (by omega) (by omega), wrap_small (x := (v : Int) * 64) (by omega) (by omega), wrap_small (x := (v : Int) * 64 + (b_ ((L s).drop i) j : Int)) (by omega) (by omega),
      wrap_small (x := (v : Int) * 64 + (b_ ((L s).drop i) j : Int) - 128) (by omega) (by omega), wrap_small (x := (j : Int) + 1) (by omega) (by omega)]
    rw [show (v : Int) * 64 + (b_ ((L s).drop i) j : Int) - 128 = ((v * 64 + b_ ((L s).drop i) j - 128 : Nat) : Int) from by omega]
    rfl
  · rw [if_neg h, if_neg (by simpa using h)]
theorem ref_Next_nat (i k : Nat) : emendationref01_Next.f (k + 20) s (i : Int) = some (((nx ((L s).drop i)).1 : Int), ((nx ((L s).drop i)).2 : Int)) := by
  unfold emendationref01_Next.f
  rw [if_neg (by omega)]
  simp only [emendationref01_Next.j0]
  by_cases h : s.size ≤ i
  · rw [if_pos (decide_eq_true (by omega)), List.drop_eq_nil_of_le (by rw [← L_size]; exact h)]
    rfl
  · have hlen : ((L s).drop i).length = s.size - i := by rw [List.length_drop, ← L_size]
    have hne : (L s).drop i ≠ [] := fun e => by rw [e] at hlen; simp at hlen; omega
    rw [nx_ref _ hne, hlen]
    have hb0 := bt_b s i 0 (by omega)
    rw [Nat.add_zero] at hb0
    have c0 := b_lt ((L s).drop i) 0
    have c1 := b_lt ((L s).drop i) 1
    have c2 := b_lt ((L s).drop i) 2
    have c3 := b_lt ((L s).drop i) 3
    have step1 := fun (m v k : Nat) (a : 1 < m) (b : i + 1 < s.size) (c : v ≤ 1000000000) => l0_step s hs i m v 1 k a b c
    have step2 := fun (m v k : Nat) (a : 2 < m) (b : i + 2 < s.size) (c : v ≤ 1000000000) => l0_step s hs i m v 2 k a b c
    have step3 := fun (m v k : Nat) (a : 3 < m) (b : i + 3 < s.size) (c : v ≤ 1000000000) => l0_step s hs i m v 3 k a b c
    rw [if_neg (by simp; omega), if_pos (by omega), if_pos (by omega), hb0]
    generalize b_ ((L s).drop i) 0 = b0 at *
    generalize b_ ((L s).drop i) 1 = b1 at *
    generalize b_ ((L s).drop i) 2 = b2 at *
    generalize b_ ((L s).drop i) 3 = b3 at *
    have w0 : wrap64 (b0 : Int) = b0 := wrap_small (by omega) (by omega)
    simp only [w0]
    unfold refN
    by_cases a : b0 < 128
    · rw [if_pos (by omega), if_pos a]; rfl
    rw [if_neg (by omega), if_neg a]
    -- the class of the first byte, through the joins, as far as the loop
    have chain : ∀ (m v : Nat), (194 ≤ b0 ∧ b0 ≤ 223 → m = 2 ∧ v = b0 - 192) → (224 ≤ b0 ∧ b0 ≤ 239 → m = 3 ∧ v = b0 - 224) → (240 ≤ b0 ∧ b0 ≤ 244 → m = 4 ∧ v = b0 - 240) → (¬ (194 ≤ b0 ∧ b0 ≤ 244) → m = 0 ∧ v = 0) →
        (if (b0 : Int) ≥ 194 then emendationref01_Next.j1 (k + 19) s (i : Int) (b0 : Int) 0 0 (decide ((b0 : Int) ≤ 223)) else emendationref01_Next.j1 (k + 19) s (i : Int) (b0 : Int) 0 0 false) = emendationref01_Next.j6 (k + 14) s (i : Int) (m : Int) (v : Int) := by
      intro m v h1 h2 h3 h4
      by_cases g1 : 194 ≤ b0 ∧ b0 ≤ 223
      · obtain ⟨hm, hv⟩ := h1 g1
        rw [hm, hv]
        rw [if_pos (by omega), decide_eq_true (by omega)]
        simp only [emendationref01_Next.j1, if_true, emendationref01_Next.j2]
        rw [if_neg (by omega)]
        simp only [emendationref01_Next.j3, Bool.false_eq_true, if_false, emendationref01_Next.j4]
        rw [if_neg (by omega)]
        simp only [emendationref01_Next.j5, Bool.false_eq_true, if_false]
        rw [wrap_small (by omega) (by omega), show (b0 : Int) - 192 = ((b0 - 192 : Nat) : Int) from by omega]
        rfl
      have e1 : (if (b0 : Int) ≥ 194 then emendationref01_Next.j1 (k + 19) s (i : Int) (b0 : Int) 0 0 (decide ((b0 : Int) ≤ 223)) else emendationref01_Next.j1 (k + 19) s (i : Int) (b0 : Int) 0 0 false) = emendationref01_Next.j2 (k + 18) s (i : Int) (b0 : Int) 0 0 := by
        by_cases h : (b0 : Int) ≥ 194
        · rw [if_pos h, decide_eq_false (by omega)]; simp only [emendationref01_Next.j1, Bool.false_eq_true, if_false]
        · rw [if_neg h]; simp only [emendationref01_Next.j1, Bool.false_eq_true, if_false]
      rw [e1]
      simp only [emendationref01_Next.j2]
      by_cases g2 : 224 ≤ b0 ∧ b0 ≤ 239
      · obtain ⟨hm, hv⟩ := h2 g2
        rw [hm, hv]
        rw [if_pos (by omega), decide_eq_true (by omega)]
        simp only [emendationref01_Next.j3, if_true, emendationref01_Next.j4]
        rw [if_neg (by omega)]
        simp only [emendationref01_Next.j5, Bool.false_eq_true, if_false]
        rw [wrap_small (by omega) (by omega), show (b0 : Int) - 224 = ((b0 - 224 : Nat) : Int) from by omega]
        rfl
      have e2 : (if (b0 : Int) ≥ 224 then emendationref01_Next.j3 (k + 17) s (i : Int) (b0 : Int) 0 0 (decide ((b0 : Int) ≤ 239)) else emendationref01_Next.j3 (k + 17) s (i : Int) (b0 : Int) 0 0 false) = emendationref01_Next.j4 (k + 16) s (i : Int) (b0 : Int) 0 0 := by
        by_cases h : (b0 : Int) ≥ 224
        · rw [if_pos h, decide_eq_false (by omega)]; simp only [emendationref01_Next.j3, Bool.false_eq_true, if_false]
        · rw [if_neg h]; simp only [emendationref01_Next.j3, Bool.false_eq_true, if_false]
      rw [e2]
      simp only [emendationref01_Next.j4]
      by_cases g3 : 240 ≤ b0 ∧ b0 ≤ 244
      · obtain ⟨hm, hv⟩ := h3 g3
        rw [hm, hv]
        rw [if_pos (by omega), decide_eq_true (by omega)]
        simp only [emendationref01_Next.j5, if_true]
        rw [wrap_small (by omega) (by omega), show (b0 : Int) - 240 = ((b0 - 240 : Nat) : Int) from by omega]
        rfl
      obtain ⟨hm, hv⟩ := h4 (by omega)
      rw [hm, hv]
      by_cases h : (b0 : Int) ≥ 240
      · rw [if_pos h, decide_eq_false (by omega)]; simp only [emendationref01_Next.j5, Bool.false_eq_true, if_false]; rfl
      · rw [if_neg h]; simp only [emendationref01_Next.j5, Bool.false_eq_true, if_false]; rfl
    -- behind the length
    have enough : ∀ (m v : Nat), 0 < m → m ≤ 4 → ¬ (s.size - i < m) → emendationref01_Next.j6 (k + 14) s (i : Int) (m : Int) (v : Int) = emendationref01_Next.l0 (k + 12) s (i : Int) (m : Int) (v : Int) ((1 : Nat) : Int) := by
      intro m v h1 h4 h2
      simp only [emendationref01_Next.j6]
      rw [if_neg (by omega), wrap_small (x := (i : Int) + (m : Int)) (by omega) (by omega), decide_eq_false (by omega)]
      simp only [emendationref01_Next.j7, Bool.false_eq_true, if_false]
      rfl
    have short : ∀ (m v : Nat), m ≤ 4 → (m = 0 ∨ s.size - i < m) → emendationref01_Next.j6 (k + 14) s (i : Int) (m : Int) (v : Int) = some (0, 0) := by
      intro m v h4 h2
      simp only [emendationref01_Next.j6]
      by_cases h0 : m = 0
      · rw [if_pos (by omega)]; simp only [emendationref01_Next.j7, if_true]
      · rw [if_neg (by omega), wrap_small (x := (i : Int) + (m : Int)) (by omega) (by omega), decide_eq_true (by omega)]
        simp only [emendationref01_Next.j7, if_true]
    by_cases g1 : 194 ≤ b0 ∧ b0 ≤ 223
    · rw [chain 2 (b0 - 192) (fun _ => ⟨rfl, rfl⟩) (fun h => by omega) (fun h => by omega) (fun h => by omega), if_pos g1]
      by_cases n2 : s.size - i < 2
      · rw [short 2 _ (by omega) (.inr n2), if_pos n2]; rfl
      · rw [enough 2 _ (by omega) (by omega) n2, if_neg n2, step1 2 _ (k + 11) (by omega) (by omega) (by omega)]
        by_cases d1 : 128 ≤ b1 ∧ b1 ≤ 191
        · rw [if_pos d1, if_pos d1]
          simp only [emendationref01_Next.l0]
          rw [if_neg (by omega), if_neg (by omega), if_neg (by omega)]
        · rw [if_neg d1, if_neg d1]; rfl
    rw [if_neg g1]
    by_cases g2 : 224 ≤ b0 ∧ b0 ≤ 239
    · rw [chain 3 (b0 - 224) (fun h => by omega) (fun _ => ⟨rfl, rfl⟩) (fun h => by omega) (fun h => by omega), if_pos g2]
      by_cases n2 : s.size - i < 3
      · rw [short 3 _ (by omega) (.inr n2), if_pos n2]; rfl
      · rw [enough 3 _ (by omega) (by omega) n2, if_neg n2, step1 3 _ (k + 11) (by omega) (by omega) (by omega)]
        by_cases d1 : 128 ≤ b1 ∧ b1 ≤ 191
        · rw [if_pos d1, if_pos d1, step2 3 _ (k + 10) (by omega) (by omega) (by omega)]
          by_cases d2 : 128 ≤ b2 ∧ b2 ≤ 191
          · rw [if_pos d2, if_pos d2]
            simp only [emendationref01_Next.l0]
            rw [if_neg (by omega), if_pos (by omega)]
            by_cases y1 : ((b0 - 224) * 64 + b1 - 128) * 64 + b2 - 128 < 2048
            · rw [if_pos (by omega), if_pos y1]; rfl
            · rw [if_neg (by omega), if_neg y1]
              by_cases y2 : 55296 ≤ ((b0 - 224) * 64 + b1 - 128) * 64 + b2 - 128
              · rw [if_pos (by omega)]
                by_cases y3 : ((b0 - 224) * 64 + b1 - 128) * 64 + b2 - 128 ≤ 57343
                · rw [if_pos (by omega), if_pos ⟨y2, y3⟩]; rfl
                · rw [if_neg (by omega), if_neg (by omega), if_neg (fun h => y3 h.2)]
              · rw [if_neg (by omega), if_neg (by omega), if_neg (fun h => y2 h.1)]
          · rw [if_neg d2, if_neg d2]; rfl
        · rw [if_neg d1, if_neg d1]; rfl
    rw [if_neg g2]
    by_cases g3 : 240 ≤ b0 ∧ b0 ≤ 244
    · rw [chain 4 (b0 - 240) (fun h => by omega) (fun h => by omega) (fun _ => ⟨rfl, rfl⟩) (fun h => by omega), if_pos g3]
      by_cases n2 : s.size - i < 4
      · rw [short 4 _ (by omega) (.inr n2), if_pos n2]; rfl
      · rw [enough 4 _ (by omega) (by omega) n2, if_neg n2, step1 4 _ (k + 11) (by omega) (by omega) (by omega)]
        by_cases d1 : 128 ≤ b1 ∧ b1 ≤ 191
        · rw [if_pos d1, if_pos d1, step2 4 _ (k + 10) (by omega) (by omega) (by omega)]
          by_cases d2 : 128 ≤ b2 ∧ b2 ≤ 191
          · rw [if_pos d2, if_pos d2, step3 4 _ (k + 9) (by omega) (by omega) (by omega)]
            by_cases d3 : 128 ≤ b3 ∧ b3 ≤ 191
            · rw [if_pos d3, if_pos d3]
              simp only [emendationref01_Next.l0]
              rw [if_neg (by omega), if_neg (by omega), if_pos (by omega)]
              by_cases y1 : (((b0 - 240) * 64 + b1 - 128) * 64 + b2 - 128) * 64 + b3 - 128 < 65536
              · rw [if_pos (by omega), if_pos y1]; rfl
              · rw [if_neg (by omega), if_neg y1]
                by_cases y2 : (((b0 - 240) * 64 + b1 - 128) * 64 + b2 - 128) * 64 + b3 - 128 > 1114111
                · rw [if_pos (by omega), if_pos y2]; rfl
                · rw [if_neg (by omega), if_neg y2]
            · rw [if_neg d3, if_neg d3]; rfl
          · rw [if_neg d2, if_neg d2]; rfl
        · rw [if_neg d1, if_neg d1]; rfl
    rw [chain 0 0 (fun h => absurd h g1) (fun h => absurd h g2) (fun h => absurd h g3) (fun _ => ⟨rfl, rfl⟩), short 0 0 (by omega) (.inl rfl), if_neg g3]
    rfl
omit hs in
theorem ref_Next_neg (i : Int) (k : Nat) (h : i < 0) : emendationref01_Next.f (k + 1) s i = some (0, 0) := by
  unfold emendationref01_Next.f
  rw [if_pos h]
  rfl
end
end Go.Proofs.YtmfffpfenhgjbaaDoor.Pure
