/- Words for the laws of this seat, several texts behind one another. -/
import Derived.Test.YticaofendehebaaDoorX2
import Derived.Test.YticaofendehebaaDoorPUtf0
import Derived.Lib.TrimAscii
import Derived.Test.YticaofendehebaaDoorX6
import Derived.Test.YticaofendehebaaDoorX3
import Derived.Lib.IndexLaws
import Derived.Lib.IndexAny
import Derived.Test.YticaofendehebaaDoorBase
import Derived.Test.YticaofendehebaaDoorX0
import Derived.Test.YticaofendehebaaDoorX1
import Derived.Test.YticaofendehebaaDoorGivenDest
import Derived.Test.YticaofendehebaaDoorX11
import Derived.Lib.IndexMore
import Derived.Test.YticaofendehebaaDoorX7
import Derived.Test.YticaofendehebaaDoorGivenStrs
import Derived.Test.YticaofendehebaaDoorX9
/-! PUtf1 -/
namespace Go.Proofs.YticaofendehebaaDoor.Pure
open Go.RowKit Go.Lib Go.Proofs.YticaofendehebaaDoor.X Go.Proofs.YticaofendehebaaDoor.G Go.Proofs.YticaofendehebaaDoorW.PrintWords Go.Proofs.YticaofendehebaaDoorW.PrintLast Go.Proofs.YticaofendehebaaDoorW.PrintMore

/-- The character that stands first, and its bytes; (0, 0): none. -/
def nx (l : List UInt8) : Nat × Nat := if l = [] then (0, 0) else nxp (decodeL l)
theorem nx_nil : nx [] = (0, 0) := rfl
def b_ (l : List UInt8) (j : Nat) : Nat := (l.getD j 0).toNat
theorem b_lt (l : List UInt8) (j : Nat) : b_ l j < 256 := UInt8.toNat_lt _
theorem nx_N (l : List UInt8) (h : l ≠ []) : nx l = nxN l.length (b_ l 0) (b_ l 1) (b_ l 2) (b_ l 3) := by
  unfold nx nxN b_
  rw [if_neg h, decodeL_N]
theorem nx_ref (l : List UInt8) (h : l ≠ []) : nx l = refN l.length (b_ l 0) (b_ l 1) (b_ l 2) (b_ l 3) := by
  rw [nx_N l h, refN_eq _ _ _ _ _ (List.length_pos_iff.2 h) (b_lt _ _) (b_lt _ _) (b_lt _ _) (b_lt _ _)]
theorem decodeN_bound (n b0 b1 b2 b3 : Nat) : (decodeN n b0 b1 b2 b3).1 ≤ 1114111 ∧ 1 ≤ (decodeN n b0 b1 b2 b3).2 ∧ (decodeN n b0 b1 b2 b3).2 ≤ 4 := by
  unfold decodeN
  repeat' split
  all_goals (simp only; omega)
theorem decodeL_bound (l : List UInt8) : (decodeL l).1 ≤ 1114111 ∧ 1 ≤ (decodeL l).2 ∧ (decodeL l).2 ≤ 4 := by
  rw [decodeL_N]; exact decodeN_bound _ _ _ _ _
theorem nx_bound (l : List UInt8) : (nx l).1 ≤ 1114111 ∧ (nx l).2 ≤ 4 := by
  have h := decodeL_bound l
  unfold nx nxp
  repeat' split
  all_goals first | (simp only; omega) | omega
theorem nx_le (l : List UInt8) : (nx l).2 ≤ l.length := by
  unfold nx nxp
  split
  · exact Nat.zero_le _
  · rename_i h
    split
    · exact Nat.zero_le _
    · exact decodeL_le l h
theorem decode_L (t : ByteArray) : Utf8.decode t 0 = decodeL (L t) := by
  unfold decodeL
  rw [L_mk']
theorem bt_b (s : ByteArray) (i j : Nat) (h : i + j < s.size) : bt s (i + j : Nat) = (b_ ((L s).drop i) j : Int) := by
  rw [bt_L s (i + j) (by rw [← L_size]; exact h)]
  unfold b_
  have h' : i + j < (L s).length := by rw [← L_size]; exact h
  simp [List.getD, h']
theorem more_eq (b : Nat) : emendationref01_more.f (b : Int) = some (decide (128 ≤ b ∧ b ≤ 191)) := by
  unfold emendationref01_more.f
  by_cases h : 128 ≤ b
  · rw [if_pos (by omega)]
    congr 1
    by_cases h2 : b ≤ 191
    · rw [decide_eq_true (by omega), decide_eq_true ⟨h, h2⟩]
    · rw [decide_eq_false (by omega), decide_eq_false (fun e => h2 e.2)]
  · rw [if_neg (by omega), decide_eq_false (fun e => h e.1)]
section
variable (s : ByteArray) (hs : s.size ≤ 140737488351232)
include hs
theorem l0_step (i m v j k : Nat) (hj : j < m) (hb : i + j < s.size) (hv : v ≤ 1000000000) :
    emendationref01_Next.l0 (k + 1) s (i : Int) (m : Int) (v : Int) (j : Int) = if 128 ≤ b_ ((L s).drop i) j ∧ b_ ((L s).drop i) j ≤ 191 then emendationref01_Next.l0 k s (i : Int) (m : Int) ((v * 64 + b_ ((L s).drop i) j - 128 : Nat) : Int) ((j + 1 : Nat) : Int) else some (0, 0) := by
  have h256 := b_lt ((L s).drop i) j
  simp only [emendationref01_Next.l0]
  rw [if_pos (by omega), wrap_small (x := (i : Int) + (j : Int)) (by omega) (by omega), if_pos (by omega), if_pos (by omega), show (i : Int) + (j : Int) = ((i + j : Nat) : Int) from by omega, bt_b s i j hb, more_eq, Option.bind_some]
  by_cases h : 128 ≤ b_ ((L s).drop i) j ∧ b_ ((L s).drop i) j ≤ 191
  · rw [if_pos h, if_pos (decide_eq_true h), wrap_small (x := (b_ ((L s).drop i) j : Int)) (by omega) (by omega), wrap_small (x := (v : Int) * 64) (by omega) (by omega), wrap_small (x := (v : Int) * 64 + (b_ ((L s).drop i) j : Int)) (by omega) (by omega),
      wrap_small (x := (v : Int) * 64 + (b_ ((L s).drop i) j : Int) - 128) (by omega) (by omega), wrap_small (x := (j : Int) + 1) (by omega) (by omega)]
    rw [show (v : Int) * 64 + (b_ ((L s).drop i) j : Int) - 128 = ((v * 64 + b_ ((L s).drop i) j - 128 : Nat) : Int) from by omega]
    rfl
  · rw [if_neg h, if_neg (by simpa using h)]
theorem ref_Next_nat (i k : Nat) : emendationref01_Next.f (k + 20) s (i : Int) = some (((nx ((L s).drop i)).1 : Int), ((nx ((L s).drop i)).2 : Int)) := by
  unfold emendationref01_Next.f
  rw [if_neg (by omega)]
  simp only [emendationref01_Next.j0]
  by_cases h : s.size ≤ i
  · rw [if_pos (decide_eq_true (by omega)), List.drop_eq_nil_of_le (by rw [← L_size]; exact h)]
    rfl
  · have hlen : ((L s).drop i).length = s.size - i := by rw [List.length_drop, ← L_size]
    have hne : (L s).drop i ≠ [] := fun e => by rw [e] at hlen; simp at hlen; omega
    rw [nx_ref _ hne, hlen]
    have hb0 := bt_b s i 0 (by omega)
    rw [Nat.add_zero] at hb0
    have c0 := b_lt ((L s).drop i) 0
    have c1 := b_lt ((L s).drop i) 1
    have c2 := b_lt ((L s).drop i) 2
    have c3 := b_lt ((L s).drop i) 3
    have step1 := fun (m v k : Nat) (a : 1 < m) (b : i + 1 < s.size) (c : v ≤ 1000000000) => l0_step s hs i m v 1 k a b c
    have step2 := fun (m v k : Nat) (a : 2 < m) (b : i + 2 < s.size) (c : v ≤ 1000000000) => l0_step s hs i m v 2 k a b c
    have step3 := fun (m v k : Nat) (a : 3 < m) (b : i + 3 < s.size) (c : v ≤ 1000000000) => l0_step s hs i m v 3 k a b c
    rw [if_neg (by simp; omega), if_pos (by omega), if_pos (by omega), hb0]
    generalize b_ ((L s).drop i) 0 = b0 at *
    generalize b_ ((L s).drop i) 1 = b1 at *
    generalize b_ ((L s).drop i) 2 = b2 at *
    generalize b_ ((L s).drop i) 3 = b3 at *
    have w0 : wrap64 (b0 : Int) = b0 := wrap_small (by omega) (by omega)
    simp only [w0]
    unfold refN
    by_cases a : b0 < 128
    · rw [if_pos (by omega), if_pos a]; rfl
    rw [if_neg (by omega), if_neg a]
    -- the class of the first byte, through the joins, as far as the loop
    have chain : ∀ (m v : Nat), (194 ≤ b0 ∧ b0 ≤ 223 → m = 2 ∧ v = b0 - 192) → (224 ≤ b0 ∧ b0 ≤ 239 → m = 3 ∧ v = b0 - 224) → (240 ≤ b0 ∧ b0 ≤ 244 → m = 4 ∧ v = b0 - 240) → (¬ (194 ≤ b0 ∧ b0 ≤ 244) → m = 0 ∧ v = 0) →
        (if (b0 : Int) ≥ 194 then emendationref01_Next.j1 (k + 19) s (i : Int) (b0 : Int) 0 0 (decide ((b0 : Int) ≤ 223)) else emendationref01_Next.j1 (k + 19) s (i : Int) (b0 : Int) 0 0 false) = emendationref01_Next.j6 (k + 14) s (i : Int) (m : Int) (v : Int) := by
      intro m v h1 h2 h3 h4
      by_cases g1 : 194 ≤ b0 ∧ b0 ≤ 223
      · obtain ⟨hm, hv⟩ := h1 g1
        rw [hm, hv]
        rw [if_pos (by omega), decide_eq_true (by omega)]
        simp only [emendationref01_Next.j1, if_true, emendationref01_Next.j2]
        rw [if_neg (by omega)]
        simp only [emendationref01_Next.j3, Bool.false_eq_true, if_false, emendationref01_Next.j4]
        rw [if_neg (by omega)]
        simp only [emendationref01_Next.j5, Bool.false_eq_true, if_false]
        rw [wrap_small (by omega) (by omega), show (b0 : Int) - 192 = ((b0 - 192 : Nat) : Int) from by omega]
        rfl
      have e1 : (if (b0 : Int) ≥ 194 then emendationref01_Next.j1 (k + 19) s (i : Int) (b0 : Int) 0 0 (decide ((b0 : Int) ≤ 223)) else emendationref01_Next.j1 (k + 19) s (i : Int) (b0 : Int) 0 0 false) = emendationref01_Next.j2 (k + 18) s (i : Int) (b0 : Int) 0 0 := by
        by_cases h : (b0 : Int) ≥ 194
        · rw [if_pos h, decide_eq_false (by omega)]; simp only [emendationref01_Next.j1, Bool.false_eq_true, if_false]
        · rw [if_neg h]; simp only [emendationref01_Next.j1, Bool.false_eq_true, if_false]
      rw [e1]
      simp only [emendationref01_Next.j2]
      by_cases g2 : 224 ≤ b0 ∧ b0 ≤ 239
      · obtain ⟨hm, hv⟩ := h2 g2
        rw [hm, hv]
        rw [if_pos (by omega), decide_eq_true (by omega)]
        simp only [emendationref01_Next.j3, if_true, emendationref01_Next.j4]
        rw [if_neg (by omega)]
        simp only [emendationref01_Next.j5, Bool.false_eq_true, if_false]
        rw [wrap_small (by omega) (by omega), show (b0 : Int) - 224 = ((b0 - 224 : Nat) : Int) from by omega]
        rfl
      have e2 : (if (b0 : Int) ≥ 224 then emendationref01_Next.j3 (k + 17) s (i : Int) (b0 : Int) 0 0 (decide ((b0 : Int) ≤ 239)) else emendationref01_Next.j3 (k + 17) s (i : Int) (b0 : Int) 0 0 false) = emendationref01_Next.j4 (k + 16) s (i : Int) (b0 : Int) 0 0 := by
        by_cases h : (b0 : Int) ≥ 224
        · rw [if_pos h, decide_eq_false (by omega)]; simp only [emendationref01_Next.j3, Bool.false_eq_true, if_false]
        · rw [if_neg h]; simp only [emendationref01_Next.j3, Bool.false_eq_true, if_false]
      rw [e2]
      simp only [emendationref01_Next.j4]
      by_cases g3 : 240 ≤ b0 ∧ b0 ≤ 244
      · obtain ⟨hm, hv⟩ := h3 g3
        rw [hm, hv]
        rw [if_pos (by omega), decide_eq_true (by omega)]
        simp only [emendationref01_Next.j5, if_true]
        rw [wrap_small (by omega) (by omega), show (b0 : Int) - 240 = ((b0 - 240 : Nat) : Int) from by omega]
        rfl
      obtain ⟨hm, hv⟩ := h4 (by omega)
      rw [hm, hv]
      by_cases h : (b0 : Int) ≥ 240
      · rw [if_pos h, decide_eq_false (by omega)]; simp only [emendationref01_Next.j5, Bool.false_eq_true, if_false]; rfl
      · rw [if_neg h]; simp only [emendationref01_Next.j5, Bool.false_eq_true, if_false]; rfl
    -- behind the length
    have enough : ∀ (m v : Nat), 0 < m → m ≤ 4 → ¬ (s.size - i < m) → emendationref01_Next.j6 (k + 14) s (i : Int) (m : Int) (v : Int) = emendationref01_Next.l0 (k + 12) s (i : Int) (m : Int) (v : Int) ((1 : Nat) : Int) := by
      intro m v h1 h4 h2
      simp only [emendationref01_Next.j6]
      rw [if_neg (by omega), wrap_small (x := (i : Int) + (m : Int)) (by omega) (by omega), decide_eq_false (by omega)]
      simp only [emendationref01_Next.j7, Bool.false_eq_true, if_false]
      rfl
    have short : ∀ (m v : Nat), m ≤ 4 → (m = 0 ∨ s.size - i < m) → emendationref01_Next.j6 (k + 14) s (i : Int) (m : Int) (v : Int) = some (0, 0) := by
      intro m v h4 h2
      simp only [emendationref01_Next.j6]
      by_cases h0 : m = 0
      · rw [if_pos (by omega)]; simp only [emendationref01_Next.j7, if_true]
      · rw [if_neg (by omega), wrap_small (x := (i : Int) + (m : Int)) (by omega) (by omega), decide_eq_true (by omega)]
        simp only [emendationref01_Next.j7, if_true]
    by_cases g1 : 194 ≤ b0 ∧ b0 ≤ 223
    · rw [chain 2 (b0 - 192) (fun _ => ⟨rfl, rfl⟩) (fun h => by omega) (fun h => by omega) (fun h => by omega), if_pos g1]
      by_cases n2 : s.size - i < 2
      · rw [short 2 _ (by omega) (.inr n2), if_pos n2]; rfl
      · rw [enough 2 _ (by omega) (by omega) n2, if_neg n2, step1 2 _ (k + 11) (by omega) (by omega) (by omega)]
        by_cases d1 : 128 ≤ b1 ∧ b1 ≤ 191
        · rw [if_pos d1, if_pos d1]
          simp only [emendationref01_Next.l0]
          rw [if_neg (by omega), if_neg (by omega), if_neg (by omega)]
        · rw [if_neg d1, if_neg d1]; rfl
    rw [if_neg g1]
    by_cases g2 : 224 ≤ b0 ∧ b0 ≤ 239
    · rw [chain 3 (b0 - 224) (fun h => by omega) (fun _ => ⟨rfl, rfl⟩) (fun h => by omega) (fun h => by omega), if_pos g2]
      by_cases n2 : s.size - i < 3
      · rw [short 3 _ (by omega) (.inr n2), if_pos n2]; rfl
      · rw [enough 3 _ (by omega) (by omega) n2, if_neg n2, step1 3 _ (k + 11) (by omega) (by omega) (by omega)]
        by_cases d1 : 128 ≤ b1 ∧ b1 ≤ 191
        · rw [if_pos d1, if_pos d1, step2 3 _ (k + 10) (by omega) (by omega) (by omega)]
          by_cases d2 : 128 ≤ b2 ∧ b2 ≤ 191
          · rw [if_pos d2, if_pos d2]
            simp only [emendationref01_Next.l0]
            rw [if_neg (by omega), if_pos (by omega)]
            by_cases y1 : ((b0 - 224) * 64 + b1 - 128) * 64 + b2 - 128 < 2048
            · rw [if_pos (by omega), if_pos y1]; rfl
            · rw [if_neg (by omega), if_neg y1]
              by_cases y2 : 55296 ≤ ((b0 - 224) * 64 + b1 - 128) * 64 + b2 - 128
              · rw [if_pos (by omega)]
                by_cases y3 : ((b0 - 224) * 64 + b1 - 128) * 64 + b2 - 128 ≤ 57343
                · rw [if_pos (by omega), if_pos ⟨y2, y3⟩]; rfl
                · rw [if_neg (by omega), if_neg (by omega), if_neg (fun h => y3 h.2)]
              · rw [if_neg (by omega), if_neg (by omega), if_neg (fun h => y2 h.1)]
          · rw [if_neg d2, if_neg d2]; rfl
        · rw [if_neg d1, if_neg d1]; rfl
    rw [if_neg g2]
    by_cases g3 : 240 ≤ b0 ∧ b0 ≤ 244
    · rw [chain 4 (b0 - 240) (fun h => by omega) (fun h => by omega) (fun _ => ⟨rfl, rfl⟩) (fun h => by omega), if_pos g3]
      by_cases n2 : s.size - i < 4
      · rw [short 4 _ (by omega) (.inr n2), if_pos n2]; rfl
      · rw [enough 4 _ (by omega) (by omega) n2, if_neg n2, step1 4 _ (k + 11) (by omega) (by omega) (by omega)]
        by_cases d1 : 128 ≤ b1 ∧ b1 ≤ 191
        · rw [if_pos d1, if_pos d1, step2 4 _ (k + 10) (by omega) (by omega) (by omega)]
          by_cases d2 : 128 ≤ b2 ∧ b2 ≤ 191
          · rw [if_pos d2, if_pos d2, step3 4 _ (k + 9) (by omega) (by omega) (by omega)]
            by_cases d3 : 128 ≤ b3 ∧ b3 ≤ 191
            · rw [if_pos d3, if_pos d3]
              simp only [emendationref01_Next.l0]
              rw [if_neg (by omega), if_neg (by omega), if_pos (by omega)]
              by_cases y1 : (((b0 - 240) * 64 + b1 - 128) * 64 + b2 - 128) * 64 + b3 - 128 < 65536
              · rw [if_pos (by omega), if_pos y1]; rfl
              · rw [if_neg (by omega), if_neg y1]
                by_cases y2 : (((b0 - 240) * 64 + b1 - 128) * 64 + b2 - 128) * 64 + b3 - 128 > 1114111
                · rw [if_pos (by omega), if_pos y2]; rfl
                · rw [if_neg (by omega), if_neg y2]
            · rw [if_neg d3, if_neg d3]; rfl
          · rw [if_neg d2, if_neg d2]; rfl
        · rw [if_neg d1, if_neg d1]; rfl
    rw [chain 0 0 (fun h => absurd h g1) (fun h => absurd h g2) (fun h => absurd h g3) (fun _ => ⟨rfl, rfl⟩), short 0 0 (by omega) (.inl rfl), if_neg g3]
    rfl
omit hs in
theorem ref_Next_neg (i : Int) (k : Nat) (h : i < 0) : emendationref01_Next.f (k + 1) s i = some (0, 0) := by
  unfold emendationref01_Next.f
  rw [if_pos h]
  rfl
end
end Go.Proofs.YticaofendehebaaDoor.Pure
/-! PUtf2 -/
namespace Go.Proofs.YticaofendehebaaDoor.Pure
open Go.RowKit Go.Lib Go.Proofs.YticaofendehebaaDoor.X Go.Proofs.YticaofendehebaaDoor.G Go.Proofs.YticaofendehebaaDoorW.PrintWords Go.Proofs.YticaofendehebaaDoorW.PrintLast Go.Proofs.YticaofendehebaaDoorW.PrintMore

/-- What keeps bytes from being a text, as a number. -/
def checkV (l : List UInt8) : Int := if l.length > 1048576 then 4 else if l.contains 0 = true then 3 else if validD l = true then 0 else 2
theorem nums_bytes (s : ByteArray) : Lib.bytesOf (Go.Proofs.YticaofendehebaaDoorW.PrintWords.bytesOf s) = L s := by
  unfold Lib.bytesOf Go.Proofs.YticaofendehebaaDoorW.PrintWords.bytesOf L
  rw [List.map_map]
  have : ∀ l : List UInt8, l.map ((fun n : Int => UInt8.ofNat n.toNat) ∘ fun b : UInt8 => (b.toNat : Int)) = l := by
    intro l
    induction l with
    | nil => rfl
    | cons b t ih => rw [List.map_cons, ih]; simp
  exact this _
theorem isByte_bytes (s : ByteArray) : (Go.Proofs.YticaofendehebaaDoorW.PrintWords.bytesOf s).all isByte = true := by
  rw [List.all_eq_true]
  intro x hx
  unfold Go.Proofs.YticaofendehebaaDoorW.PrintWords.bytesOf at hx
  obtain ⟨b, _, rfl⟩ := List.mem_map.1 hx
  have := b.toNat_lt
  simp [isByte]
  omega
theorem contains_zero (l : List UInt8) : l.contains 0 = decide (0 ≤ indexByte l 0) := contains_iff_indexByte l 0
theorem utf_Check_nums (l : List Int) (hb : l.all isByte = true) (hl : l.length ≤ 140737488351232) : utf_Check.f l = some (checkV (Lib.bytesOf l)) := by
  unfold utf_Check.f checkV
  have hlen : (Lib.bytesOf l).length = l.length := by simp [Lib.bytesOf]
  rw [hlen]
  by_cases h : l.length > 1048576
  · rw [if_pos (by omega), if_pos h]
  rw [if_neg (by omega), if_neg h]
  have hv : utf8_Valid.f l = some (validD (Lib.bytesOf l)) := by
    unfold utf8_Valid.f
    rw [if_pos ⟨by omega, hb⟩]
  by_cases h0 : l.length = 0
  · obtain rfl := List.eq_nil_of_length_eq_zero h0
    rw [hv]
    rfl
  have hi : bytes_IndexByte.f l 0 = some (indexByte (Lib.bytesOf l) 0) := by
    unfold bytes_IndexByte.f
    rw [if_neg h0]
    rfl
  rw [hi, Option.bind_some, contains_zero, hv]
  by_cases g : 0 ≤ indexByte (Lib.bytesOf l) 0
  · rw [if_pos g, if_pos (decide_eq_true g)]
  · rw [if_neg g, if_neg (by simpa using g), Option.bind_some]
    by_cases y : validD (Lib.bytesOf l) = true
    · rw [if_pos y, if_pos y]
    · rw [if_neg y, if_neg y]
theorem utf_Check_eq (s : ByteArray) (hs : s.size ≤ 140737488351232) : utf_Check.f (Go.Proofs.YticaofendehebaaDoorW.PrintWords.bytesOf s) = some (checkV (L s)) := by
  rw [utf_Check_nums _ (isByte_bytes s) (by rw [Go.Proofs.YticaofendehebaaDoorW.PrintWords.bytesOf_length]; exact hs), nums_bytes]

theorem nx_zero (l : List UInt8) (h : l ≠ []) : (nx l).2 = 0 ↔ ((decodeL l).1 = 65533 ∧ (decodeL l).2 = 1) := by
  unfold nx nxp
  rw [if_neg h]
  have hb := decodeL_bound l
  split
  · rename_i g; exact ⟨fun _ => g, fun _ => rfl⟩
  · rename_i g; exact ⟨fun e => by omega, fun e => absurd e g⟩
theorem nx_some (l : List UInt8) (h : (nx l).2 ≠ 0) : nx l = decodeL l := by
  unfold nx nxp at *
  split at h
  · exact absurd rfl h
  · rename_i g
    rw [if_neg g]
    split at h
    · exact absurd rfl h
    · rename_i g2; rw [if_neg g2]
theorem valid_nx (l : List UInt8) (h : l ≠ []) : validD l = if (nx l).2 = 0 then false else validD (l.drop (nx l).2) := by
  rw [validD_step l h]
  by_cases g : (nx l).2 = 0
  · rw [if_pos ((nx_zero l h).1 g), if_pos g]
  · rw [if_neg (fun e => g ((nx_zero l h).2 e)), if_neg g, nx_some l g]
section
variable (s : ByteArray) (hs : s.size ≤ 140737488351232)
include hs
theorem ref_l1 : ∀ (d i k : Nat), s.size ≤ i + d → d + 25 < k → emendationref01_Check.l1 k s (i : Int) = some (if validD ((L s).drop i) = true then 0 else 2) := by
  intro d
  induction d with
  | zero =>
    intro i k h hk
    obtain ⟨k, rfl⟩ : ∃ m, k = m + 1 := ⟨k - 1, by omega⟩
    simp only [emendationref01_Check.l1]
    rw [if_neg (by omega), List.drop_eq_nil_of_le (by rw [← L_size]; omega), validD_nil, if_pos rfl]
  | succ d ih =>
    intro i k h hk
    obtain ⟨k, rfl⟩ : ∃ m, k = m + 1 := ⟨k - 1, by omega⟩
    simp only [emendationref01_Check.l1]
    by_cases g : i < s.size
    · have hlen : ((L s).drop i).length = s.size - i := by rw [List.length_drop, ← L_size]
      have hne : (L s).drop i ≠ [] := fun e => by rw [e] at hlen; simp at hlen; omega
      have hb := nx_bound ((L s).drop i)
      have hle := nx_le ((L s).drop i)
      rw [if_pos (by omega), show k = (k - 20) + 20 from by omega, ref_Next_nat s hs, ← show k = (k - 20) + 20 from by omega, Option.bind_some, valid_nx _ hne]
      by_cases z : (nx ((L s).drop i)).2 = 0
      · rw [if_pos (by simp only; omega), if_pos z]
        rfl
      · rw [if_neg (by simp only; omega), if_neg z]
        simp only
        rw [wrap_small (by omega) (by omega), show (i : Int) + ((nx ((L s).drop i)).2 : Int) = ((i + (nx ((L s).drop i)).2 : Nat) : Int) from by omega, ih (i + (nx ((L s).drop i)).2) k (by omega) (by omega), List.drop_drop]
    · rw [if_neg (by omega), List.drop_eq_nil_of_le (by rw [← L_size]; omega), validD_nil, if_pos rfl]
theorem ref_l0 : ∀ (d i k : Nat), i + d = s.size → d + s.size + 30 < k → ((L s).take i).contains 0 = false → emendationref01_Check.l0 k s (i : Int) = some (if (L s).contains 0 = true then 3 else if validD (L s) = true then 0 else 2) := by
  intro d
  induction d with
  | zero =>
    intro i k h hk hz
    obtain ⟨k, rfl⟩ : ∃ m, k = m + 1 := ⟨k - 1, by omega⟩
    simp only [emendationref01_Check.l0]
    rw [List.take_of_length_le (by rw [← L_size]; omega)] at hz
    rw [if_neg (by omega), hz, if_neg (by decide)]
    have := ref_l1 s hs s.size 0 k (by omega) (by omega)
    rw [List.drop_zero] at this
    exact this
  | succ d ih =>
    intro i k h hk hz
    obtain ⟨k, rfl⟩ : ∃ m, k = m + 1 := ⟨k - 1, by omega⟩
    have hi : i < (L s).length := by rw [← L_size]; omega
    simp only [emendationref01_Check.l0]
    rw [if_pos (by omega), if_pos (by omega), bt_L s i hi]
    by_cases g : (((L s)[i]).toNat : Int) = 0
    · have hc : (L s).contains 0 = true := by
        rw [List.contains_iff_mem]
        have e : (L s)[i] = 0 := toNat_inj (by rw [show (L s)[i].toNat = 0 from by omega]; rfl)
        rw [← e]
        exact List.getElem_mem hi
      rw [if_pos g, if_pos hc]
    · rw [if_neg g, wrap_small (by omega) (by omega), show (i : Int) + 1 = ((i + 1 : Nat) : Int) from by omega]
      refine ih (i + 1) k (by omega) (by omega) ?_
      rw [← List.take_append_getElem hi]
      have e : ¬ (L s)[i] = 0 := fun e => g (by rw [e]; rfl)
      have e2 : ¬ (0 : UInt8) = (L s)[i] := fun h => e h.symm
      rw [List.contains_eq_mem, decide_eq_false_iff_not] at hz ⊢
      simp only [List.mem_append, List.mem_singleton]
      exact fun h => h.elim hz e2
theorem ref_Check_eq (k : Nat) (hk : 2 * s.size + 40 < k) : emendationref01_Check.f k s = some (checkV (L s)) := by
  unfold emendationref01_Check.f checkV
  rw [← L_size]
  by_cases h : s.size > 1048576
  · rw [if_pos (by omega), if_pos h]
  · rw [if_neg (by omega), if_neg h]
    exact ref_l0 s hs s.size 0 k (by omega) (by omega) rfl
end
end Go.Proofs.YticaofendehebaaDoor.Pure
/-! PBits -/
set_option linter.unusedSimpArgs false
set_option linter.unusedVariables false
namespace Go.Proofs.YticaofendehebaaDoor.Pure
open Go.RowKit Go.Lib Go.Proofs.YticaofendehebaaDoor.X Go.Proofs.YticaofendehebaaDoorW.PrintWords Go.Proofs.YticaofendehebaaDoorW.PrintLast Go.Proofs.YticaofendehebaaDoorW.PrintMore
theorem i10 (b : UInt8) : ((b.toNat : Int) = 10) ↔ b.toNat = 10 := by omega
theorem beqF {a b : Nat} (h : a ≠ b) : (a == b) = false := beq_eq_false_iff_ne.2 h
theorem bt_d (s : ByteArray) (i : Nat) (c : UInt8) (t : List UInt8) (h : (L s).drop i = c :: t) : bt s (i : Int) = (c.toNat : Int) := (bt_drop s i h).1
theorem drop_lt {α : Type} {l : List α} {i : Nat} {c : α} {t : List α} (h : l.drop i = c :: t) : i < l.length := by
  rcases Nat.lt_or_ge i l.length with h1 | h1
  · exact h1
  · rw [List.drop_eq_nil_of_le h1] at h; cases h
theorem drop_tail {α : Type} {l : List α} {i : Nat} {c : α} {t : List α} (h : l.drop i = c :: t) : l.drop (i + 1) = t := by
  rw [← List.drop_drop, h]; rfl
theorem drop_nil_len {α : Type} {l : List α} {i : Nat} (h : l.drop i = []) : l.length ≤ i := List.drop_eq_nil_iff.1 h
theorem drop_len {α : Type} {l : List α} {i : Nat} {t : List α} (h : l.drop i = t) : t.length = l.length - i := by rw [← h, List.length_drop]
end Go.Proofs.YticaofendehebaaDoor.Pure
/-! PDest -/
set_option linter.unusedSimpArgs false
set_option linter.unusedVariables false
namespace Go.Proofs.YticaofendehebaaDoor.Pure
open Go.RowKit Go.Lib Go.Proofs.YticaofendehebaaDoor.X Go.Proofs.YticaofendehebaaDoor.G Go.Proofs.YticaofendehebaaDoorW.PrintWords Go.Proofs.YticaofendehebaaDoorW.PrintLast Go.Proofs.YticaofendehebaaDoorW.PrintMore
theorem dest_l1 (s set : ByteArray) (i : Int) (b : UInt8) (hset : set.size ≤ 140737488351232) : ∀ (d j k : Nat) (x : Bool), j + d = set.size → d < k →
    emendationref07_Dest.l1 k s i (b.toNat : Int) x set (j : Int) = (if (x || ((L set).drop j).contains b) = true then emendationref07_Dest.l0 (k - d - 1) s (wrap64 (i + 1)) else some false) := by
  have hsl : set.size = (L set).length := L_size set
  intro d
  induction d with
  | zero =>
    intro j k x hj hk
    obtain ⟨k, rfl⟩ : ∃ m, k = m + 1 := ⟨k - 1, by omega⟩
    rw [emendationref07_Dest.l1, if_neg (by omega), List.drop_eq_nil_of_le (by omega)]
    simp
  | succ d ih =>
    intro j k x hj hk
    obtain ⟨k, rfl⟩ : ∃ m, k = m + 1 := ⟨k - 1, by omega⟩
    have q1 : (j : Int) < (set.size : Int) := by omega
    have hw1 : wrap64 ((j : Int) + 1) = ((j + 1 : Nat) : Int) := by rw [wrap_small (by omega) (by omega)]; omega
    have hk2 : k + 1 - (d + 1) - 1 = k - d - 1 := by omega
    obtain ⟨c, t, hd⟩ : ∃ c t, (L set).drop j = c :: t := by
      rw [List.drop_eq_getElem_cons (by omega)]; exact ⟨_, _, rfl⟩
    have hx := fun x => ih (j + 1) k x (by omega) (by omega)
    rw [emendationref07_Dest.l1, if_pos q1, hw1, hk2, hx, if_pos (Int.natCast_nonneg j), hx, bt_d set j c t hd, drop_tail hd, hd, List.contains_cons]
    cases x with
    | true => simp
    | false =>
      rw [if_neg (by decide)]
      have : ((b.toNat : Int) == (c.toNat : Int)) = (b == c) := by
        by_cases e : b = c
        · subst e; simp
        · have e2 : ((b.toNat : Int) == (c.toNat : Int)) = false := beq_eq_false_iff_ne.2 (fun q => e (toNat_inj (Int.ofNat.inj q)))
          rw [beq_eq_false_iff_ne.2 e, e2]
      rw [this, Bool.false_or]
def destSet : ByteArray := ⟨#[46, 47, 95, 45, 35, 63, 38, 58, 37]⟩
def alnum (b : UInt8) : Bool := (97 ≤ b.toNat && b.toNat ≤ 122) || (65 ≤ b.toNat && b.toNat ≤ 90) || (48 ≤ b.toNat && b.toNat ≤ 57)
theorem letters_eq (b : UInt8) : letters.data.toList.contains b = (alnum b || (L destSet).contains b) := by
  have h : ∀ n : Fin 256, letters.data.toList.contains (UInt8.ofNat n.val) = (alnum (UInt8.ofNat n.val) || (L destSet).contains (UInt8.ofNat n.val)) := by decide +kernel
  have := h ⟨b.toNat, b.toNat_lt⟩
  simpa using this
section
variable (s : ByteArray) (hs : s.size ≤ 140737488351232)
include hs
theorem ref_dest_l0 : ∀ (d i k : Nat), i + d = (L s).length → 20 * d + 1 < k →
    emendationref07_Dest.l0 k s (i : Int) = some (!(L s).isEmpty && ((L s).drop i).all (fun b => letters.data.toList.contains b)) := by
  have hsl : s.size = (L s).length := L_size s
  intro d
  induction d with
  | zero =>
    intro i k hi hk
    obtain ⟨k, rfl⟩ : ∃ m, k = m + 1 := ⟨k - 1, by omega⟩
    rw [emendationref07_Dest.l0, if_neg (by omega), List.drop_eq_nil_of_le (by omega), L_toList]
    cases L s with
    | nil => rfl
    | cons => rfl
  | succ d ih =>
    intro i k hi hk
    obtain ⟨k, rfl⟩ : ∃ m, k = m + 12 := ⟨k - 12, by omega⟩
    have q1 : (i : Int) < (s.size : Int) := by omega
    have hw1 : wrap64 ((i : Int) + 1) = ((i + 1 : Nat) : Int) := by rw [wrap_small (by omega) (by omega)]; omega
    have hx := ih (i + 1) k (by omega) (by omega)
    obtain ⟨b, t, hd⟩ : ∃ b t, (L s).drop i = b :: t := by
      rw [List.drop_eq_getElem_cons (by omega)]; exact ⟨_, _, rfl⟩
    rw [drop_tail hd] at hx
    have hj : ∀ x : Bool, emendationref07_Dest.j1 (k + 11) s (i : Int) (b.toNat : Int) x = some (!(L s).isEmpty && ((x || (L destSet).contains b) && t.all (fun b => letters.data.toList.contains b))) := by
      intro x
      have h1 := dest_l1 s destSet (i : Int) b (by decide) 9 0 (k + 10) x rfl (by omega)
      rw [show k + 10 - 9 - 1 = k by omega, hw1, hx, List.drop_zero] at h1
      rw [emendationref07_Dest.j1]
      refine h1.trans ?_
      cases (x || (L destSet).contains b) with
      | true => simp
      | false => simp
    rw [emendationref07_Dest.l0, if_pos q1, if_pos (Int.natCast_nonneg i), bt_d s i b t hd, hd, hj, hj, hj, List.all_cons, letters_eq b]
    have hlt := b.toNat_lt
    have ha : ∀ x y : Bool, x = y → some (!(L s).isEmpty && ((x || (L destSet).contains b) && t.all (fun b => letters.data.toList.contains b))) = some (!(L s).isEmpty && ((y || (L destSet).contains b) && t.all (fun b => letters.data.toList.contains b))) := by
      intro x y e; rw [e]
    unfold alnum
    generalize b.toNat = n at *
    repeat' split
    all_goals (refine ha _ _ ?_)
    all_goals (clear ha hj hx ih q1 hw1 hd hs hsl hi)
    all_goals (first | (symm; simp only [Bool.or_eq_true, Bool.and_eq_true, decide_eq_true_eq]; omega) | skip)
    all_goals (rw [Bool.eq_iff_iff]; simp only [Bool.or_eq_true, Bool.and_eq_true, decide_eq_true_eq, Bool.false_eq_true, iff_true, true_iff, false_iff]; omega)
theorem ref_dest_eq (k : Nat) (hk : 20 * s.size + 1 < k) : emendationref07_Dest.f k s = some (destL (L s)) := by
  have hsl : s.size = (L s).length := L_size s
  have := ref_dest_l0 s hs (L s).length 0 k (by omega) (by omega)
  rw [List.drop_zero] at this
  exact this
end
theorem span_dest_eq (s : ByteArray) : span_Dest.f s = some (destL (L s)) := rfl
end Go.Proofs.YticaofendehebaaDoor.Pure
/-! PLines -/
namespace Go.Proofs.YticaofendehebaaDoor.Pure
open Go.RowKit Go.Proofs.YticaofendehebaaDoor.X Go.Proofs.YticaofendehebaaDoor.G Go.Proofs.YticaofendehebaaDoorW.PrintWords Go.Proofs.YticaofendehebaaDoorW.PrintLast Go.Proofs.YticaofendehebaaDoorW.PrintMore

/-! ### Run -/
def run (l : List UInt8) (c : Int) : Nat := (l.takeWhile (isB c)).length
theorem run_nil (c : Int) : run [] c = 0 := rfl
theorem run_cons (b : UInt8) (t : List UInt8) (c : Int) : run (b :: t) c = if isB c b = true then run t c + 1 else 0 := by
  unfold run
  rw [List.takeWhile_cons]
  split <;> simp_all
theorem run_le (l : List UInt8) (c : Int) : run l c ≤ l.length := (List.takeWhile_prefix _).length_le
theorem lines_Run_l0 (s : ByteArray) (c : Int) (hs : s.size ≤ 140737488351232) : ∀ (d k i : Nat), i + d = s.size → d < k → lines_Run.l0 k s c (i : Int) = some ((i + run ((L s).drop i) c : Nat) : Int) := by
  intro d
  induction d with
  | zero =>
    intro k i h hk
    obtain ⟨k, rfl⟩ : ∃ m, k = m + 1 := ⟨k - 1, by omega⟩
    simp only [lines_Run.l0]
    rw [if_neg (by omega), List.drop_eq_nil_of_le (by rw [← L_size]; omega)]
    rfl
  | succ d ih =>
    intro k i h hk
    obtain ⟨k, rfl⟩ : ∃ m, k = m + 1 := ⟨k - 1, by omega⟩
    have hl : i < (L s).length := by rw [← L_size]; omega
    simp only [lines_Run.l0]
    rw [if_pos (by omega), if_pos (by omega), List.drop_eq_getElem_cons hl, run_cons, bt_L s i hl]
    by_cases hc : isB c ((L s)[i]) = true
    · rw [if_pos ((isB_iff _ _).1 hc), if_pos hc, wrap_small (by omega) (by omega)]
      have := ih k (i + 1) (by omega) (by omega)
      rw [show ((i : Int) + 1) = ((i + 1 : Nat) : Int) from by omega, this]
      congr 2
      omega
    · rw [if_neg (fun h => hc ((isB_iff _ _).2 h)), if_neg hc]
      simp
theorem lines_Run_eq (s : ByteArray) (c : Int) (k : Nat) (hs : s.size ≤ 140737488351232) (hk : s.size < k) : lines_Run.f k s c = some (run (L s) c : Int) := by
  unfold lines_Run.f
  have := lines_Run_l0 s c hs s.size k 0 (by omega) hk
  simpa using this
theorem ref_Run_l0 (s : ByteArray) (c : Int) (hs : s.size ≤ 140737488351232) : ∀ (d k i : Nat), i + d = s.size → d < k → emendationref02_Run.l0 k s c (i : Int) = some ((i + run ((L s).drop i) c : Nat) : Int) := by
  intro d
  induction d with
  | zero =>
    intro k i h hk
    obtain ⟨k, rfl⟩ : ∃ m, k = m + 1 := ⟨k - 1, by omega⟩
    simp only [emendationref02_Run.l0]
    rw [if_neg (by omega), List.drop_eq_nil_of_le (by rw [← L_size]; omega)]
    rfl
  | succ d ih =>
    intro k i h hk
    obtain ⟨k, rfl⟩ : ∃ m, k = m + 1 := ⟨k - 1, by omega⟩
    have hl : i < (L s).length := by rw [← L_size]; omega
    simp only [emendationref02_Run.l0]
    rw [if_pos (by omega), if_pos (by omega), List.drop_eq_getElem_cons hl, run_cons, bt_L s i hl]
    by_cases hc : isB c ((L s)[i]) = true
    · rw [if_pos ((isB_iff _ _).1 hc), if_pos hc, wrap_small (by omega) (by omega)]
      have := ih k (i + 1) (by omega) (by omega)
      rw [show ((i : Int) + 1) = ((i + 1 : Nat) : Int) from by omega, this]
      congr 2
      omega
    · rw [if_neg (fun h => hc ((isB_iff _ _).2 h)), if_neg hc]
      simp
theorem ref_Run_eq (s : ByteArray) (c : Int) (k : Nat) (hs : s.size ≤ 140737488351232) (hk : s.size < k) : emendationref02_Run.f k s c = some (run (L s) c : Int) := by
  unfold emendationref02_Run.f
  have := ref_Run_l0 s c hs s.size k 0 (by omega) hk
  simpa using this

/-! ### Longest -/
def longest : List UInt8 → Int → Nat
  | [], _ => 0
  | b :: t, c => max (run (b :: t) c) (longest t c)
theorem run_le_longest (l : List UInt8) (c : Int) : run l c ≤ longest l c := by
  cases l with
  | nil => simp [run_nil]
  | cons b t => simp only [longest]; omega
def longA : List UInt8 → Int → Nat → Nat → Nat
  | [], _, _, most => most
  | b :: t, c, now, most => if isB c b = true then longA t c (now + 1) (max most (now + 1)) else longA t c 0 most
theorem longA_eq (c : Int) : ∀ (l : List UInt8) (now most : Nat), now ≤ most → longA l c now most = max most (max (now + run l c) (longest l c))
  | [], now, most, h => by simp [longA, run_nil, longest]; omega
  | b :: t, now, most, h => by
    have hrl := run_le_longest t c
    by_cases hc : isB c b = true
    · simp only [longA, longest, run_cons, if_pos hc]
      rw [longA_eq c t _ _ (by omega)]
      omega
    · simp only [longA, longest, run_cons, if_neg hc]
      rw [longA_eq c t _ _ (by omega)]
      omega
theorem longest_le (c : Int) : ∀ l : List UInt8, longest l c ≤ l.length
  | [] => Nat.le_refl _
  | b :: t => by
    have := longest_le c t
    have := run_le (b :: t) c
    simp only [longest, List.length_cons] at *
    omega
theorem mx_nat (a b : Nat) : mx (a : Int) (b : Int) = ((max a b : Nat) : Int) := by unfold mx; omega
theorem ref_Longest_l0 (s : ByteArray) (c : Int) (hs : s.size ≤ 140737488351232) : ∀ (d k i most : Nat), i + d = s.size → s.size < k → d + s.size + 1 < k →
    emendationref02_Longest.l0 k s c (most : Int) (s.size : Int) (i : Int) = some ((max most (longest ((L s).drop i) c) : Nat) : Int) := by
  intro d
  induction d with
  | zero =>
    intro k i most h hk hk2
    obtain ⟨k, rfl⟩ : ∃ m, k = m + 1 := ⟨k - 1, by omega⟩
    simp only [emendationref02_Longest.l0]
    rw [if_neg (by omega), List.drop_eq_nil_of_le (by rw [← L_size]; omega)]
    simp [longest]
  | succ d ih =>
    intro k i most h hk hk2
    obtain ⟨k, rfl⟩ : ∃ m, k = m + 1 := ⟨k - 1, by omega⟩
    have hl : i < (L s).length := by rw [← L_size]; omega
    have hsz : (s.extract i s.size).size ≤ s.size := by rw [L_size, L_from, List.length_drop, ← L_size]; omega
    simp only [emendationref02_Longest.l0]
    rw [if_pos (by omega), if_pos (by omega), if_pos (by omega), Int.toNat_natCast, ref_Run_eq _ c k (by omega) (by omega), wrap_small (x := (i : Int) + 1) (by omega) (by omega), L_from]
    simp only [Option.bind_some]
    rw [mx_nat, show ((i : Int) + 1) = ((i + 1 : Nat) : Int) from by omega, ih k (i + 1) _ (by omega) (by omega) (by omega), List.drop_eq_getElem_cons hl]
    simp only [longest]
    congr 2
    omega
theorem ref_Longest_eq (s : ByteArray) (c : Int) (k : Nat) (hs : s.size ≤ 140737488351232) (hk : 2 * s.size + 1 < k) : emendationref02_Longest.f k s c = some (longest (L s) c : Int) := by
  unfold emendationref02_Longest.f
  have := ref_Longest_l0 s c hs s.size k 0 0 (by omega) (by omega) (by omega)
  simpa using this
theorem run_append (c : Int) : ∀ (a b : List UInt8), run (a ++ b) c = if run a c = a.length then a.length + run b c else run a c
  | [], b => by simp [run_nil]
  | x :: a, b => by
    have ih := run_append c a b
    have hle := run_le a c
    simp only [List.cons_append, run_cons, List.length_cons]
    by_cases hx : isB c x = true
    · rw [if_pos hx, if_pos hx, ih]
      by_cases h : run a c = a.length
      · rw [if_pos h, if_pos (by omega)]; omega
      · rw [if_neg h, if_neg (by omega)]
    · rw [if_neg hx, if_neg hx, if_neg (by omega)]
/-- How many bytes c a text ends with. -/
def tail (l : List UInt8) (c : Int) : Nat := run l.reverse c
theorem tail_cons (x : UInt8) (a : List UInt8) (c : Int) : tail (x :: a) c = if tail a c = a.length then a.length + (if isB c x = true then 1 else 0) else tail a c := by
  unfold tail
  rw [List.reverse_cons, run_append, List.length_reverse, run_cons, run_nil]
theorem run_full_iff (c : Int) : ∀ a : List UInt8, run a c = a.length ↔ tail a c = a.length
  | [] => by simp [tail, run_nil]
  | x :: a => by
    have ih := run_full_iff c a
    have h1 := run_le a c
    have h2 : tail a c ≤ a.length := by unfold tail; have := run_le a.reverse c; rwa [List.length_reverse] at this
    rw [run_cons, tail_cons, List.length_cons]
    by_cases hx : isB c x = true
    · rw [if_pos hx, if_pos hx]
      by_cases h : tail a c = a.length
      · rw [if_pos h]; have := ih.2 h; omega
      · rw [if_neg h]; have : run a c ≠ a.length := fun h' => h (ih.1 h'); omega
    · rw [if_neg hx, if_neg hx]
      split <;> omega
theorem longest_append (c : Int) : ∀ (a b : List UInt8), longest (a ++ b) c = max (max (longest a c) (longest b c)) (tail a c + run b c)
  | [], b => by
    have := run_le_longest b c
    simp [longest, tail, run_nil]
    omega
  | x :: a, b => by
    have ih := longest_append c a b
    have h1 := run_le a c
    have h2 : tail a c ≤ a.length := by unfold tail; have := run_le a.reverse c; rwa [List.length_reverse] at this
    have h3 := run_full_iff c a
    have h4 := run_le_longest a c
    have h5 : tail a c ≤ longest a c := by
      clear ih h1 h2 h3 h4
      induction a with
      | nil => simp [tail, run_nil]
      | cons y a ih =>
        have h1 := run_le a c
        have h3 := run_full_iff c a
        have h6 : tail a c ≤ a.length := by unfold tail; have := run_le a.reverse c; rwa [List.length_reverse] at this
        rw [tail_cons]
        simp only [longest, run_cons]
        by_cases h : tail a c = a.length
        · rw [if_pos h]
          have h7 := h3.2 h
          by_cases hy : isB c y = true
          · rw [if_pos hy, if_pos hy]; omega
          · rw [if_neg hy, if_neg hy]; omega
        · rw [if_neg h]; omega
    rw [tail_cons]
    simp only [List.cons_append, longest, ih, run_cons, run_append]
    by_cases hx : isB c x = true
    · simp only [if_pos hx]
      by_cases h : run a c = a.length
      · rw [if_pos h, if_pos (h3.1 h)]; have := h3.1 h; omega
      · rw [if_neg h, if_neg (fun h' => h (h3.2 h'))]; omega
    · simp only [if_neg hx]
      by_cases h : run a c = a.length
      · rw [if_pos (h3.1 h)]; have := h3.1 h; omega
      · rw [if_neg (fun h' => h (h3.2 h'))]; omega
end Go.Proofs.YticaofendehebaaDoor.Pure
/-! PTrim -/
namespace Go.Proofs.YticaofendehebaaDoor.Pure
open Go.RowKit Go.Proofs.YticaofendehebaaDoor.X Go.Proofs.YticaofendehebaaDoor.G Go.Proofs.YticaofendehebaaDoorW.PrintWords Go.Proofs.YticaofendehebaaDoorW.PrintLast Go.Proofs.YticaofendehebaaDoorW.PrintMore
/-! ### Trim -/
def gapB (b : UInt8) : Bool := ([32, 9] : List UInt8).contains b
theorem gapB_iff (b : UInt8) : gapB b = true ↔ (b.toNat : Int) = 32 ∨ (b.toNat : Int) = 9 := by
  unfold gapB
  simp only [List.contains_cons, List.contains_nil, Bool.or_false, Bool.or_eq_true, beq_iff_eq]
  constructor
  · rintro (h | h)
    · subst h; exact .inl rfl
    · subst h; exact .inr rfl
  · rintro (h | h)
    · exact .inl (toNat_inj (by have : b.toNat = 32 := by omega
                                rw [this]; rfl))
    · exact .inr (toNat_inj (by have : b.toNat = 9 := by omega
                                rw [this]; rfl))
def rdrop (p : UInt8 → Bool) (l : List UInt8) : List UInt8 := (l.reverse.dropWhile p).reverse
theorem rdrop_nil (p : UInt8 → Bool) : rdrop p [] = [] := rfl
theorem rdrop_cons (p : UInt8 → Bool) (b : UInt8) (t : List UInt8) : rdrop p (b :: t) = if rdrop p t = [] then (if p b = true then [] else [b]) else b :: rdrop p t := by
  unfold rdrop
  rw [List.reverse_cons, List.dropWhile_append]
  by_cases h : (t.reverse.dropWhile p).isEmpty = true
  · have h' : t.reverse.dropWhile p = [] := by simpa using h
    rw [if_pos h, h']
    simp only [List.reverse_nil, if_true]
    by_cases hb : p b = true
    · simp [hb]
    · simp [hb]
  · rw [if_neg h]
    have h' : ¬ (t.reverse.dropWhile p).reverse = [] := by simpa using h
    rw [if_neg h']
    simp
theorem rdrop_snoc (p : UInt8 → Bool) (t : List UInt8) (b : UInt8) : rdrop p (t ++ [b]) = if p b = true then rdrop p t else t ++ [b] := by
  unfold rdrop
  rw [List.reverse_append, List.reverse_singleton, List.singleton_append, List.dropWhile_cons]
  split <;> simp
theorem drop_rdrop (p : UInt8 → Bool) : ∀ l : List UInt8, (rdrop p l).dropWhile p = rdrop p (l.dropWhile p)
  | [] => rfl
  | b :: t => by
    have ih := drop_rdrop p t
    by_cases hb : p b = true
    · rw [rdrop_cons, List.dropWhile_cons (x := b) (xs := t), if_pos hb, if_pos hb, ← ih]
      by_cases h : rdrop p t = []
      · rw [if_pos h, h]
      · rw [if_neg h, List.dropWhile_cons, if_pos hb]
    · rw [List.dropWhile_cons (x := b) (xs := t), if_neg hb, rdrop_cons, if_neg hb]
      by_cases h : rdrop p t = []
      · rw [if_pos h, List.dropWhile_cons, if_neg hb]
      · rw [if_neg h, List.dropWhile_cons, if_neg hb]
/-- What is left of a line. -/
def trim (l : List UInt8) : List UInt8 := rdrop gapB (l.dropWhile gapB)
theorem trim_lib (l : List UInt8) : Lib.trimS l [32, 9] = trim l := drop_rdrop gapB l
theorem lines_Trim_eq (s : ByteArray) (hs : s.size ≤ 140737488351232) : lines_Trim.f s = some ⟨(trim (L s)).toArray⟩ := by
  unfold lines_Trim.f strings_Trim.f
  rw [if_pos ⟨by omega, by decide, by decide⟩]
  simp only [Option.bind_some]
  rw [← trim_lib]
  rfl
theorem lines_Blank_eq (s : ByteArray) (hs : s.size ≤ 140737488351232) : lines_Blank.f s = some (trim (L s) == []) := by
  unfold lines_Blank.f
  rw [lines_Trim_eq s hs]
  simp only [Option.bind_some, L_toList, L_mk]
theorem gap_eq (b : UInt8) : emendationref02_gap.f (b.toNat : Int) = some (gapB b) := by
  unfold emendationref02_gap.f
  have h := gapB_iff b
  by_cases h1 : (b.toNat : Int) = 32
  · rw [if_pos h1, h.2 (.inl h1)]
  · rw [if_neg h1]
    by_cases h2 : (b.toNat : Int) = 9
    · rw [h.2 (.inr h2)]; simp [h2]
    · have h3 : gapB b = false := by rw [Bool.eq_false_iff]; intro h4; rcases h.1 h4 with h5 | h5 <;> contradiction
      rw [h3]; simp [h2]
theorem ref_Trim_l1 : ∀ (n k : Nat) (s : ByteArray), s.size = n → n < k → n ≤ 140737488351232 → ∃ r, emendationref02_Trim.l1 k s = some r ∧ L r = rdrop gapB (L s) := by
  intro n
  induction n with
  | zero =>
    intro k s h hk hn
    obtain ⟨k, rfl⟩ : ∃ m, k = m + 1 := ⟨k - 1, by omega⟩
    have h0 : L s = [] := List.eq_nil_of_length_eq_zero (by rw [← L_size]; exact h)
    refine ⟨s, ?_, by rw [h0]; rfl⟩
    simp only [emendationref02_Trim.l1]
    rw [if_neg (by omega)]
  | succ n ih =>
    intro k s h hk hn
    obtain ⟨k, rfl⟩ : ∃ m, k = m + 1 := ⟨k - 1, by omega⟩
    have hl : n < (L s).length := by rw [← L_size]; omega
    have hsp : L s = (L s).take n ++ [(L s)[n]] := by
      have h1 : (L s).take (n + 1) = L s := List.take_of_length_le (by rw [← L_size]; omega)
      have h2 := List.take_append_getElem hl
      rw [h2, h1]
    have hw : wrap64 ((s.size : Int) - 1) = (n : Int) := by rw [h, wrap_small (by omega) (by omega)]; omega
    simp only [emendationref02_Trim.l1]
    rw [if_pos (by omega), hw, if_pos (by omega), if_pos (by omega), bt_L s n hl, gap_eq]
    simp only [Option.bind_some]
    by_cases hg : gapB ((L s)[n]) = true
    · rw [if_pos hg, if_pos (by omega), Int.toNat_natCast]
      have hz : (s.extract 0 n).size = n := by rw [L_size, L_upto, List.length_take]; omega
      obtain ⟨r, hr, hL⟩ := ih k (s.extract 0 n) hz (by omega) (by omega)
      refine ⟨r, hr, ?_⟩
      rw [hL, L_upto]
      conv => rhs; rw [hsp, rdrop_snoc, if_pos hg]
    · rw [if_neg hg]
      refine ⟨s, rfl, ?_⟩
      conv => rhs; rw [hsp, rdrop_snoc, if_neg hg]
      exact hsp
theorem ref_Trim_l0 : ∀ (n k : Nat) (s : ByteArray), s.size = n → 2 * n + 2 < k → n ≤ 140737488351232 → ∃ r, emendationref02_Trim.l0 k s = some r ∧ L r = trim (L s) := by
  intro n
  induction n with
  | zero =>
    intro k s h hk hn
    obtain ⟨k, rfl⟩ : ∃ m, k = m + 2 := ⟨k - 2, by omega⟩
    have h0 : L s = [] := List.eq_nil_of_length_eq_zero (by rw [← L_size]; exact h)
    simp only [emendationref02_Trim.l0, emendationref02_Trim.j1]
    rw [if_neg (by omega)]
    obtain ⟨r, hr, hL⟩ := ref_Trim_l1 0 k s h (by omega) (by omega)
    exact ⟨r, hr, by rw [hL, h0]; rfl⟩
  | succ n ih =>
    intro k s h hk hn
    obtain ⟨k, rfl⟩ : ∃ m, k = m + 2 := ⟨k - 2, by omega⟩
    have hl : 0 < (L s).length := by rw [← L_size]; omega
    obtain ⟨b, t, hbt⟩ : ∃ b t, L s = b :: t := by
      cases hh : L s with
      | nil => rw [hh] at hl; simp at hl
      | cons b t => exact ⟨b, t, rfl⟩
    have hb := (bt_drop s 0 (b := b) (t := t) (by rw [List.drop_zero]; exact hbt)).1
    simp only [emendationref02_Trim.l0]
    rw [if_pos (by omega), if_pos (by omega), show bt s 0 = (b.toNat : Int) from hb, gap_eq]
    simp only [Option.bind_some]
    by_cases hg : gapB b = true
    · rw [if_pos hg, if_pos (by omega)]
      have hz : (s.extract 1 s.size).size = n := by rw [L_size, L_from, hbt]; simp; rw [L_size, hbt] at h; simpa using h
      obtain ⟨r, hr, hL⟩ := ih (k + 1) (s.extract 1 s.size) hz (by omega) (by omega)
      simp only [emendationref02_Trim.l0] at hr
      refine ⟨r, hr, ?_⟩
      rw [hL, L_from, hbt]
      simp only [trim, List.drop_succ_cons, List.drop_zero, List.dropWhile_cons, hg, if_true]
    · rw [if_neg hg]
      simp only [emendationref02_Trim.j1]
      obtain ⟨r, hr, hL⟩ := ref_Trim_l1 (n + 1) k s h (by omega) (by omega)
      refine ⟨r, hr, ?_⟩
      rw [hL]
      simp only [trim]
      rw [hbt, List.dropWhile_cons, if_neg hg]
theorem ref_Trim_eq (s : ByteArray) (k : Nat) (hs : s.size ≤ 140737488351232) (hk : 2 * s.size + 2 < k) : emendationref02_Trim.f k s = some ⟨(trim (L s)).toArray⟩ := by
  obtain ⟨r, hr, hL⟩ := ref_Trim_l0 s.size k s rfl hk hs
  unfold emendationref02_Trim.f
  rw [hr, ← hL, L_mk']

end Go.Proofs.YticaofendehebaaDoor.Pure
/-! PKind0 -/
set_option linter.unusedSimpArgs false
set_option linter.unusedVariables false
namespace Go.Proofs.YticaofendehebaaDoor.Pure
open Go.RowKit Go.Lib Go.Proofs.YticaofendehebaaDoor.X Go.Proofs.YticaofendehebaaDoor.G Go.Proofs.YticaofendehebaaDoorW.PrintWords Go.Proofs.YticaofendehebaaDoorW.PrintLast Go.Proofs.YticaofendehebaaDoorW.PrintMore
/-- One line of text. -/
def lineV (l : List UInt8) : Bool := decide (checkV l = 0) && !l.contains 13 && !l.contains 10
/-- A label. -/
def labelV (l : List UInt8) : Bool := !l.isEmpty && lineV l && (trim l == l) && !l.contains 91 && !l.contains 93 && !l.contains 92
def sepL : List UInt8 := [93, 58, 32]
/-- Whether a definition's label ends there. -/
def defAt (l : List UInt8) (j : Nat) : Bool := decide (1 ≤ j) && decide (j + 3 < l.length) && decide (l[0]? = some 91) && Lib.occAt l sepL j && labelV ((l.take j).drop 1) && destL (l.drop (j + 3))
theorem labelV_no (l : List UInt8) (h : labelV l = true) : l.contains 91 = false ∧ l.contains 93 = false ∧ l.contains 92 = false := by
  unfold labelV at h
  simp only [Bool.and_eq_true, Bool.not_eq_true'] at h
  exact ⟨h.1.1.2, h.1.2, h.2⟩
theorem defAt_facts {l : List UInt8} {j : Nat} (h : defAt l j = true) : 1 ≤ j ∧ j + 3 < l.length ∧ l[0]? = some 91 ∧ Lib.occAt l sepL j = true ∧ labelV ((l.take j).drop 1) = true ∧ destL (l.drop (j + 3)) = true := by
  unfold defAt at h
  simp only [Bool.and_eq_true, decide_eq_true_eq] at h
  exact ⟨h.1.1.1.1.1, h.1.1.1.1.2, h.1.1.1.2, h.1.1.2, h.1.2, h.2⟩
theorem mem_label {l : List UInt8} {i j : Nat} {c : UInt8} (h0 : 1 ≤ i) (hi : i < j) (hc : l[i]? = some c) : c ∈ (l.take j).drop 1 := by
  refine List.mem_iff_getElem?.2 ⟨i - 1, ?_⟩
  rw [List.getElem?_drop, List.getElem?_take, if_pos (by omega), show 1 + (i - 1) = i by omega]
  exact hc
theorem defAt_index {l : List UInt8} {j : Nat} (h : defAt l j = true) : Lib.index l sepL = (j : Int) := by
  obtain ⟨h1, h2, h3, h4, h5, h6⟩ := defAt_facts h
  refine Lib.index_first (by omega) h4 (fun i hi => ?_)
  cases ho : Lib.occAt l sepL i with
  | false => rfl
  | true =>
    exfalso
    have hc := Lib.occAt_head (c := 93) (t := [58, 32]) rfl ho
    by_cases h0 : i = 0
    · subst h0; rw [h3] at hc; exact absurd hc (by decide)
    · have hm := mem_label (by omega) hi hc
      have := (labelV_no _ h5).2.1
      rw [List.contains_iff_mem.2 hm] at this
      cases this
/-- What a definition tells. -/
def defV (l : List UInt8) : List UInt8 × List UInt8 × Bool :=
  if defAt l (Lib.index l sepL).toNat = true then ((l.take (Lib.index l sepL).toNat).drop 1, l.drop ((Lib.index l sepL).toNat + 3), true) else ([], [], false)
theorem defV_hit {l : List UInt8} {j : Nat} (h : defAt l j = true) : defV l = ((l.take j).drop 1, l.drop (j + 3), true) := by
  unfold defV
  rw [defAt_index h, Int.toNat_natCast, if_pos h]
theorem defV_none {l : List UInt8} (h : ∀ j, defAt l j = false) : defV l = ([], [], false) := by
  unfold defV
  rw [h, if_neg (by decide)]
theorem defV_head {l : List UInt8} (h : l[0]? ≠ some 91) : defV l = ([], [], false) := defV_none (fun j => by
  cases hd : defAt l j with
  | false => rfl
  | true => exact absurd (defAt_facts hd).2.2.1 h)
/-- The level of a heading line; 0: it is none. -/
def headN (l : List UInt8) : Nat := if run l 35 ≤ 6 ∧ (run l 35 = l.length ∨ l[run l 35]? = some 32) then run l 35 else 0
/-- The backticks of a fence line; 0: it is none. -/
def openN (l : List UInt8) : Nat := if 3 ≤ run l 96 ∧ (l.drop (run l 96)).contains 96 = false then run l 96 else 0
/-- A line's kind. -/
def kindV (l : List UInt8) : Int :=
  if trim l = [] then 1 else if 0 < headN l then 2 else if 3 ≤ l.length ∧ run l 45 = l.length then 3 else if 0 < openN l then 4
  else if l[0]? = some 62 then 5 else if l = [45] ∨ l.take 2 = [45, 32] then 6 else if (defV l).2.2 = true then 7 else 8
theorem dropW_nil (p : UInt8 → Bool) : ∀ l : List UInt8, l.dropWhile p = [] ↔ ∀ b ∈ l, p b = true
  | [] => by simp
  | b :: t => by
    have ih := dropW_nil p t
    rw [List.dropWhile_cons]
    by_cases h : p b = true
    · rw [if_pos h, ih]
      exact ⟨fun q x hx => (List.mem_cons.1 hx).elim (fun e => e ▸ h) (q x), fun q x hx => q x (List.mem_cons_of_mem _ hx)⟩
    · rw [if_neg h]
      exact ⟨fun q => (by cases q), fun q => absurd (q b List.mem_cons_self) h⟩
theorem dropW_head (p : UInt8 → Bool) : ∀ (l : List UInt8) (b : UInt8) (t : List UInt8), l.dropWhile p = b :: t → p b = false
  | [], b, t, h => by cases h
  | x :: l, b, t, h => by
    rw [List.dropWhile_cons] at h
    by_cases hx : p x = true
    · rw [if_pos hx] at h; exact dropW_head p l b t h
    · rw [if_neg hx] at h
      obtain ⟨rfl, _⟩ := List.cons.inj h
      exact Bool.eq_false_iff.2 hx
theorem trim_some {l : List UInt8} {b : UInt8} (hm : b ∈ l) (h : gapB b = false) : trim l ≠ [] := by
  intro e
  unfold trim rdrop at e
  have e1 : (l.dropWhile gapB).reverse.dropWhile gapB = [] := List.reverse_eq_nil_iff.1 e
  have e2 := (dropW_nil gapB _).1 e1
  have e3 : l.dropWhile gapB = [] := by
    cases hd : l.dropWhile gapB with
    | nil => rfl
    | cons x t =>
      have h1 := dropW_head gapB l x t hd
      have h2 := e2 x (by rw [hd]; simp)
      rw [h1] at h2
      cases h2
  have := (dropW_nil gapB _).1 e3 b hm
  rw [h] at this
  cases this
theorem trim_none {l : List UInt8} (h : ∀ b ∈ l, gapB b = true) : trim l = [] := by
  unfold trim
  rw [(dropW_nil gapB _).2 h]
  rfl
theorem trim_nil_iff (l : List UInt8) : trim l = [] ↔ ∀ b ∈ l, gapB b = true := by
  refine ⟨fun h b hm => ?_, trim_none⟩
  cases hg : gapB b with
  | true => rfl
  | false => exact absurd h (trim_some hm hg)
theorem run_zero {l : List UInt8} {c : Int} (h : ∀ b, l[0]? = some b → (b.toNat : Int) ≠ c) : run l c = 0 := by
  cases l with
  | nil => rfl
  | cons b t => rw [run_cons, if_neg]; intro hb; exact h b rfl ((isB_iff _ _).1 hb)
theorem run_pos {l : List UInt8} {c : Int} (h : 0 < run l c) : ∃ b t, l = b :: t ∧ (b.toNat : Int) = c := by
  cases l with
  | nil => cases h
  | cons b t =>
    rw [run_cons] at h
    by_cases hb : isB c b = true
    · exact ⟨b, t, rfl, (isB_iff _ _).1 hb⟩
    · rw [if_neg hb] at h; cases h
theorem run_rep (c : UInt8) (m : Nat) (l : List UInt8) (h : ∀ b, l[0]? = some b → b ≠ c) : run (List.replicate m c ++ l) (c.toNat : Int) = m := by
  induction m with
  | zero => rw [List.replicate_zero, List.nil_append]; exact run_zero (fun b hb e => h b hb (toNat_inj (Int.ofNat.inj e)))
  | succ m ih => rw [List.replicate_succ, List.cons_append, run_cons, if_pos ((isB_iff _ _).2 rfl), ih]
/-- All of a line is the one byte. -/
theorem run_all (c : UInt8) (m : Nat) : run (List.replicate m c) (c.toNat : Int) = m := by
  have := run_rep c m [] (fun b h => by cases h)
  rwa [List.append_nil] at this
theorem longest_zero (c : UInt8) : ∀ l : List UInt8, longest l (c.toNat : Int) = 0 ↔ l.contains c = false
  | [] => by simp [longest]
  | b :: t => by
    have ih := longest_zero c t
    rw [longest, List.contains_cons]
    by_cases e : b = c
    · subst e
      have h1 : run (b :: t) (b.toNat : Int) ≠ 0 := by rw [run_cons, if_pos ((isB_iff _ _).2 rfl)]; omega
      constructor
      · intro h; omega
      · intro h; simp at h
    · have h1 : run (b :: t) (c.toNat : Int) = 0 := run_zero (fun x hx q => e (by simp at hx; subst hx; exact toNat_inj (Int.ofNat.inj q)))
      have h2 : (c == b) = false := beq_eq_false_iff_ne.2 (fun q => e q.symm)
      rw [h1, h2, Bool.false_or, ← ih]
      omega
end Go.Proofs.YticaofendehebaaDoor.Pure
/-! PKind1 -/
set_option linter.unusedSimpArgs false
set_option linter.unusedVariables false
namespace Go.Proofs.YticaofendehebaaDoor.Pure
open Go.RowKit Go.Lib Go.Proofs.YticaofendehebaaDoor.X Go.Proofs.YticaofendehebaaDoor.G Go.Proofs.YticaofendehebaaDoorW.PrintWords Go.Proofs.YticaofendehebaaDoorW.PrintLast Go.Proofs.YticaofendehebaaDoorW.PrintMore
theorem containsAny_any (chars : List UInt8) : ∀ l : List UInt8, Lib.containsAny l chars = l.any (fun b => chars.contains b)
  | [] => rfl
  | b :: l => by
    have ih := containsAny_any chars l
    unfold Lib.containsAny at ih ⊢
    have hg := indexAny_ge chars l
    rw [Lib.indexAny, List.any_cons, ← ih]
    by_cases h : chars.contains b = true
    · rw [if_pos h, h]; rfl
    · rw [if_neg h, Bool.eq_false_iff.mpr h, Bool.false_or]
      by_cases g : Lib.indexAny l chars = -1
      · rw [if_pos (beq_iff_eq.2 g), g]
      · rw [if_neg (by simpa using g), decide_eq_true (by omega), decide_eq_true (by omega)]
theorem any_two (c d : UInt8) : ∀ l : List UInt8, l.any (fun b => b == c || b == d) = (l.contains c || l.contains d)
  | [] => rfl
  | b :: l => by
    rw [List.any_cons, any_two c d l, List.contains_cons, List.contains_cons]
    have e1 : (c == b) = (b == c) := Bool.beq_comm
    have e2 : (d == b) = (b == d) := Bool.beq_comm
    rw [e1, e2]
    cases (b == c) <;> cases (b == d) <;> simp
theorem any_three (c d e : UInt8) : ∀ l : List UInt8, l.any (fun b => b == c || (b == d || b == e)) = (l.contains c || (l.contains d || l.contains e))
  | [] => rfl
  | b :: l => by
    rw [List.any_cons, any_three c d e l, List.contains_cons, List.contains_cons, List.contains_cons]
    have e1 : (c == b) = (b == c) := Bool.beq_comm
    have e2 : (d == b) = (b == d) := Bool.beq_comm
    have e3 : (e == b) = (b == e) := Bool.beq_comm
    rw [e1, e2, e3]
    cases (b == c) <;> cases (b == d) <;> cases (b == e) <;> simp
theorem empty_iff (s : ByteArray) : s.toList = ([] : List UInt8) ↔ L s = [] := by rw [L_toList]
theorem tree_line_eq (s : ByteArray) (hs : s.size ≤ 1000000) : tree_line.f s = some (lineV (L s)) := by
  unfold tree_line.f lineV
  rw [if_pos (by omega), utf_Check_eq s (by omega), Option.bind_some]
  by_cases h : checkV (L s) = 0
  · rw [if_pos h, decide_eq_true h]
    unfold strings_ContainsAny.f
    rw [if_pos ⟨by decide, by omega, by decide, by decide⟩, Option.bind_some]
    have : Lib.containsAny s.data.toList (⟨#[13, 10]⟩ : ByteArray).data.toList = ((L s).contains 13 || (L s).contains 10) := by
      show Lib.containsAny (L s) [13, 10] = _
      rw [containsAny_any]
      simp only [List.contains_cons, List.contains_nil, Bool.or_false, any_two]
    rw [this]
    simp
  · rw [if_neg h, decide_eq_false h]; rfl
theorem tree_Label_eq (s : ByteArray) (hs : s.size ≤ 1000000) : tree_Label.f s = some (labelV (L s)) := by
  unfold tree_Label.f labelV
  by_cases he : L s = []
  · rw [if_pos ((empty_iff s).2 he), he]; rfl
  have h1 : (L s).isEmpty = false := by cases h : L s with | nil => exact absurd h he | cons => rfl
  rw [if_neg (fun h => he ((empty_iff s).1 h)), tree_line_eq s hs, Option.bind_some, h1]
  cases hl : lineV (L s) with
  | false => rfl
  | true =>
    rw [if_pos rfl, lines_Trim_eq s (by omega), Option.bind_some, L_toList, L_toList, L_mk]
    by_cases ht : trim (L s) = L s
    · rw [if_pos ht, beq_iff_eq.2 ht]
      unfold strings_ContainsAny.f
      rw [if_pos ⟨by decide, by omega, by decide, by decide⟩, Option.bind_some]
      have : Lib.containsAny s.data.toList (⟨#[91, 93, 92]⟩ : ByteArray).data.toList = ((L s).contains 91 || ((L s).contains 93 || (L s).contains 92)) := by
        show Lib.containsAny (L s) [91, 93, 92] = _
        rw [containsAny_any]
        simp only [List.contains_cons, List.contains_nil, Bool.or_false, any_three]
      rw [this]
      cases (L s).contains 91 <;> cases (L s).contains 93 <;> cases (L s).contains 92 <;> rfl
    · rw [if_neg ht, beq_eq_false_iff_ne.2 ht]; rfl
theorem run_bt (s : ByteArray) (h : run (L s) 35 < (L s).length) : ∃ b : UInt8, (L s)[run (L s) 35]? = some b ∧ bt s ((run (L s) 35 : Nat) : Int) = (b.toNat : Int) :=
  ⟨(L s)[run (L s) 35], List.getElem?_eq_getElem h, bt_L s _ h⟩
theorem b32 (b : UInt8) : ((b.toNat : Int) = 32) ↔ b = 32 := ⟨fun h => toNat_inj (a := b) (b := 32) (by have : (32 : UInt8).toNat = 32 := rfl; omega), fun h => by subst h; rfl⟩
theorem bN (b c : UInt8) : ((b.toNat : Int) = (c.toNat : Int)) ↔ b = c := ⟨fun h => toNat_inj (Int.ofNat.inj h), fun h => by subst h; rfl⟩
theorem head_eq (s : ByteArray) (k : Nat) (hs : s.size ≤ 1000000) (hk : s.size < k) : kind_head.f k s = some (headN (L s) : Int) := by
  have hsl : s.size = (L s).length := L_size s
  have hr := run_le (L s) 35
  unfold kind_head.f headN
  rw [lines_Run_eq s 35 k (by omega) hk, Option.bind_some]
  by_cases h6 : run (L s) 35 ≤ 6
  · rw [if_neg (by omega)]
    by_cases hl : run (L s) 35 < (L s).length
    · obtain ⟨b, hb1, hb2⟩ := run_bt s hl
      rw [if_pos (by omega), if_pos (Int.natCast_nonneg _), hb2, hb1]
      by_cases h : b = 32
      · rw [if_pos ((b32 b).2 h), if_pos ⟨h6, .inr (by rw [h])⟩]
      · rw [if_neg (fun q => h ((b32 b).1 q)), if_neg (fun q => q.2.elim (fun e => by omega) (fun e => h (Option.some.inj e)))]
        rfl
    · rw [if_neg (by omega), if_pos ⟨h6, .inl (by omega)⟩]
  · rw [if_pos (by omega), if_neg (fun q => h6 q.1)]
    rfl
theorem open_eq (s : ByteArray) (k : Nat) (hs : s.size ≤ 1000000) (hk : s.size < k) : kind_open.f k s = some (openN (L s) : Int) := by
  have hsl : s.size = (L s).length := L_size s
  have hr := run_le (L s) 96
  have hb : bt (⟨#[96]⟩ : ByteArray) 0 = 96 := rfl
  unfold kind_open.f openN
  rw [if_pos (by decide), hb, lines_Run_eq s 96 k (by omega) hk, Option.bind_some]
  by_cases h3 : 3 ≤ run (L s) 96
  · rw [if_neg (by omega), if_pos (Int.natCast_nonneg _), if_pos (by omega)]
    have hc : strings_Contains.f (s.extract ((run (L s) 96 : Nat) : Int).toNat s.size) (⟨#[96]⟩ : ByteArray) = some (((L s).drop (run (L s) 96)).contains 96) := by
      unfold strings_Contains.f
      show some (decide (0 ≤ Lib.indexByte (L (s.extract ((run (L s) 96 : Nat) : Int).toNat s.size)) 96)) = _
      rw [Int.toNat_natCast, L_from, contains_iff_indexByte]
    rw [hc, Option.bind_some]
    cases ((L s).drop (run (L s) 96)).contains 96 with
    | true => rw [if_pos rfl, if_neg (fun q => by cases q.2)]; rfl
    | false => rw [if_neg (by decide), if_pos ⟨h3, rfl⟩]
  · rw [if_pos (by omega), if_neg (fun q => h3 q.1)]
    rfl
theorem cut_hit {l : List UInt8} {j : Nat} (h : Lib.index l sepL = (j : Int)) : Lib.cut l sepL = (l.take j, l.drop (j + 3), true) := by
  unfold Lib.cut
  rw [h, if_pos (Int.natCast_nonneg j), Int.toNat_natCast]
  rfl
theorem hasPrefix_one (l : List UInt8) (c : UInt8) : Lib.hasPrefix l [c] = decide (l[0]? = some c) := by
  unfold Lib.hasPrefix
  cases l with
  | nil => rfl
  | cons b t =>
    show ([c].isPrefixOf (b :: t)) = _
    rw [List.isPrefixOf_cons_cons]
    by_cases e : c = b
    · subst e; simp
    · rw [beq_eq_false_iff_ne.2 e, Bool.false_and]
      exact (decide_eq_false (fun q => e (by simpa using q.symm))).symm
theorem hasPrefix_two (l : List UInt8) (c d : UInt8) : Lib.hasPrefix l [c, d] = (l.take 2 == [c, d]) := by
  unfold Lib.hasPrefix
  match l with
  | [] => rfl
  | [b] => simp [List.isPrefixOf]
  | b :: e :: t =>
    simp only [List.isPrefixOf_cons_cons, List.isPrefixOf_nil_left, Bool.and_true, List.take_succ_cons, List.take_zero, List.cons_beq_cons, List.beq_nil_eq]
    rw [Bool.beq_comm (a := c), Bool.beq_comm (a := d)]
    simp
/-- The program's definition: whether there is one, and then what it tells. -/
theorem define_eq (s : ByteArray) (k : Nat) (hs : s.size ≤ 1000000) (hk : 1 < k) : ∃ a b : ByteArray, kind_define.f k s = some (a, b, (defV (L s)).2.2) ∧ ((defV (L s)).2.2 = true → L a = (defV (L s)).1 ∧ L b = (defV (L s)).2.1) := by
  obtain ⟨k, rfl⟩ : ∃ m, k = m + 1 := ⟨k - 1, by omega⟩
  have hsl : s.size = (L s).length := L_size s
  have hcut : strings_Cut.f s (⟨#[93, 58, 32]⟩ : ByteArray) = some (⟨(Lib.cut (L s) sepL).1.toArray⟩, ⟨(Lib.cut (L s) sepL).2.1.toArray⟩, (Lib.cut (L s) sepL).2.2) := by
    unfold strings_Cut.f
    rw [if_pos (by omega)]
    rfl
  unfold kind_define.f
  rw [hcut, Option.bind_some]
  rcases Lib.index_spec (L s) sepL with ⟨h1, h2⟩ | ⟨j, h1, h2, h3, h4⟩
  · have hc : (Lib.cut (L s) sepL).2.2 = false := by unfold Lib.cut; rw [h1]; rfl
    have hd : defV (L s) = ([], [], false) := defV_none (fun j => by
      cases hd : defAt (L s) j with
      | false => rfl
      | true => have := defAt_facts hd; rw [h2 j (by omega)] at this; exact absurd this.2.2.2.1 (by decide))
    refine ⟨⟨#[]⟩, ⟨#[]⟩, ?_, fun h => ?_⟩
    · rw [if_neg (by rw [hc]; decide), kind_define.j0, if_pos rfl, hd]
    · rw [hd] at h; cases h
  · rw [cut_hit h1]
    dsimp only
    rw [if_pos rfl]
    have hroom : j + 3 ≤ (L s).length := by
      rcases Lib.occAt_room h3 with h | h
      · exact h
      · cases h
    have hp : strings_HasPrefix.f (⟨((L s).take j).toArray⟩ : ByteArray) (⟨#[91]⟩ : ByteArray) = some (decide (((L s).take j)[0]? = some 91)) := by
      unfold strings_HasPrefix.f
      show some (Lib.hasPrefix (L (⟨((L s).take j).toArray⟩ : ByteArray)) [91]) = _
      rw [L_mk, hasPrefix_one]
    rw [hp, Option.bind_some, kind_define.j0]
    by_cases h9 : ((L s).take j)[0]? = some 91
    · rw [decide_eq_true h9, if_neg (by decide)]
      have hj : 1 ≤ j := by
        rcases Nat.eq_zero_or_pos j with h | h
        · subst h; rw [List.take_zero] at h9; cases h9
        · exact h
      have h91 : (L s)[0]? = some 91 := by rw [List.getElem?_take, if_pos (by omega)] at h9; exact h9
      have hz : (⟨((L s).take j).toArray⟩ : ByteArray).size = j := by rw [L_size, L_mk, List.length_take]; omega
      have hx : L ((⟨((L s).take j).toArray⟩ : ByteArray).extract 1 (⟨((L s).take j).toArray⟩ : ByteArray).size) = ((L s).take j).drop 1 := by rw [L_from, L_mk]
      generalize hA : ((⟨((L s).take j).toArray⟩ : ByteArray).extract 1 (⟨((L s).take j).toArray⟩ : ByteArray).size) = A at hx ⊢
      have hAz : A.size ≤ 1000000 := by rw [L_size, hx, List.length_drop, List.length_take]; omega
      rw [if_pos (by rw [hz]; omega), tree_Label_eq A hAz, Option.bind_some, span_dest_eq, Option.bind_some, hx, L_mk ((L s).drop (j + 3))]
      by_cases hl : labelV (((L s).take j).drop 1) = true
      · rw [if_pos hl]
        cases hde : destL ((L s).drop (j + 3)) with
        | true =>
          have hlen : j + 3 < (L s).length := by
            rcases Nat.lt_or_ge (j + 3) (L s).length with h | h
            · exact h
            · rw [List.drop_eq_nil_of_le h] at hde; cases hde
          have hd : defAt (L s) j = true := by
            unfold defAt
            rw [decide_eq_true hj, decide_eq_true hlen, decide_eq_true h91, h3, hl, hde]
            rfl
          rw [defV_hit hd]
          exact ⟨A, _, rfl, fun _ => ⟨hx, L_mk _⟩⟩
        | false =>
          have hd : defV (L s) = ([], [], false) := defV_none (fun i => by
            cases hd : defAt (L s) i with
            | false => rfl
            | true =>
              have e := defAt_index hd
              rw [h1] at e
              obtain rfl := Int.ofNat.inj e
              rw [(defAt_facts hd).2.2.2.2.2] at hde
              cases hde)
          rw [hd]
          exact ⟨A, _, rfl, fun h => by cases h⟩
      · rw [if_neg hl]
        have hd : defV (L s) = ([], [], false) := defV_none (fun i => by
          cases hd : defAt (L s) i with
          | false => rfl
          | true =>
            have e := defAt_index hd
            rw [h1] at e
            obtain rfl := Int.ofNat.inj e
            exact absurd (defAt_facts hd).2.2.2.2.1 hl)
        rw [hd]
        exact ⟨A, _, rfl, fun h => by cases h⟩
    · rw [decide_eq_false h9, Bool.not_false, if_pos rfl]
      have hd : defV (L s) = ([], [], false) := defV_none (fun i => by
        cases hd : defAt (L s) i with
        | false => rfl
        | true =>
          have e := defAt_index hd
          rw [h1] at e
          obtain rfl := Int.ofNat.inj e
          have hf := defAt_facts hd
          rw [List.getElem?_take, if_pos (by omega)] at h9
          exact absurd hf.2.2.1 h9)
      rw [hd]
      exact ⟨_, _, rfl, fun h => by cases h⟩
theorem Of_eq (s : ByteArray) (k : Nat) (hs : s.size ≤ 1000000) (hk : s.size + 10 < k) : kind_Of.f k s = some (kindV (L s)) := by
  have hsl : s.size = (L s).length := L_size s
  unfold kind_Of.f kindV
  rw [lines_Blank_eq s (by omega), Option.bind_some]
  by_cases h1 : trim (L s) = []
  · rw [if_pos (beq_iff_eq.2 h1), if_pos h1]
  have hpos : 0 < (L s).length := List.length_pos_iff.2 (fun e => h1 (by rw [e]; rfl))
  obtain ⟨b, t, hbt⟩ : ∃ b t, L s = b :: t := by
    cases h : L s with
    | nil => rw [h] at hpos; cases hpos
    | cons b t => exact ⟨b, t, rfl⟩
  rw [if_neg (fun h => h1 (beq_iff_eq.1 h)), if_neg h1, head_eq s k hs (by omega), Option.bind_some]
  by_cases h2 : 0 < headN (L s)
  · rw [if_pos (by omega), if_pos h2]
  rw [if_neg (by omega), if_neg h2]
  have J1 : ∀ k, 2 < k → kind_Of.j1 (k + 1) s (decide (L s = [45] ∨ (L s).take 2 = [45, 32])) = some (if L s = [45] ∨ (L s).take 2 = [45, 32] then 6 else if (defV (L s)).2.2 = true then 7 else 8) := by
    intro k hk
    rw [kind_Of.j1]
    by_cases g : L s = [45] ∨ (L s).take 2 = [45, 32]
    · rw [decide_eq_true g, if_pos rfl, if_pos g]
    · rw [decide_eq_false g, if_neg (by decide), if_neg g]
      obtain ⟨x, y, hx, _⟩ := define_eq s k hs (by omega)
      rw [hx, Option.bind_some]
      cases (defV (L s)).2.2 <;> rfl
  have J0 : ∀ k, s.size + 6 < k → kind_Of.j0 (k + 1) s (decide (3 ≤ (L s).length ∧ run (L s) 45 = (L s).length)) = some (if 3 ≤ (L s).length ∧ run (L s) 45 = (L s).length then 3 else if 0 < openN (L s) then 4
      else if (L s)[0]? = some 62 then 5 else if L s = [45] ∨ (L s).take 2 = [45, 32] then 6 else if (defV (L s)).2.2 = true then 7 else 8) := by
    intro k hk
    rw [kind_Of.j0]
    by_cases g : 3 ≤ (L s).length ∧ run (L s) 45 = (L s).length
    · rw [decide_eq_true g, if_pos rfl, if_pos g]
    rw [decide_eq_false g, if_neg (by decide), if_neg g, open_eq s k hs (by omega), Option.bind_some]
    by_cases h4 : 0 < openN (L s)
    · rw [if_pos (by omega), if_pos h4]
    rw [if_neg (by omega), if_neg h4, if_pos (by omega)]
    have hb : bt s 0 = (b.toNat : Int) := bt_d s 0 b t (by rw [List.drop_zero]; exact hbt)
    have h0 : (L s)[0]? = some b := by rw [hbt]; rfl
    rw [hb, h0]
    have h62 : ((b.toNat : Int) = 62) ↔ b = 62 := bN b 62
    by_cases h5 : b = 62
    · rw [if_pos (h62.2 h5), if_pos (by rw [h5])]
    rw [if_neg (fun q => h5 (h62.1 q)), if_neg (fun q => h5 (Option.some.inj q)), L_toList]
    obtain ⟨k, rfl⟩ : ∃ m, k = m + 1 := ⟨k - 1, by omega⟩
    have j1 := J1 k (by omega)
    by_cases h6 : L s = [45]
    · rw [if_pos h6]
      rw [decide_eq_true (.inl h6)] at j1
      exact j1
    · rw [if_neg h6]
      have hp : strings_HasPrefix.f s (⟨#[45, 32]⟩ : ByteArray) = some ((L s).take 2 == [45, 32]) := by
        unfold strings_HasPrefix.f
        show some (Lib.hasPrefix (L s) [45, 32]) = _
        rw [hasPrefix_two]
      have e : ((L s).take 2 == [45, 32]) = decide (L s = [45] ∨ (L s).take 2 = [45, 32]) := by
        rw [Bool.eq_iff_iff, beq_iff_eq, decide_eq_true_iff]
        exact ⟨.inr, fun h => h.resolve_left h6⟩
      rw [hp, Option.bind_some, e]
      exact j1
  obtain ⟨k, rfl⟩ : ∃ m, k = m + 1 := ⟨k - 1, by omega⟩
  have j0 := J0 k (by omega)
  by_cases h3 : 3 ≤ (L s).length
  · rw [if_pos (by omega), lines_Run_eq s 45 _ (by omega) (by omega), Option.bind_some]
    have e : (((run (L s) 45 : Nat) : Int) == (s.size : Int)) = decide (3 ≤ (L s).length ∧ run (L s) 45 = (L s).length) := by
      rw [Bool.eq_iff_iff, beq_iff_eq, decide_eq_true_iff]
      omega
    rw [e]
    exact j0
  · rw [if_neg (by omega)]
    rw [decide_eq_false (fun q => h3 q.1)] at j0
    exact j0
end Go.Proofs.YticaofendehebaaDoor.Pure
/-! PKind2 -/
set_option linter.unusedSimpArgs false
set_option linter.unusedVariables false
namespace Go.Proofs.YticaofendehebaaDoor.Pure
open Go.RowKit Go.Lib Go.Proofs.YticaofendehebaaDoor.X Go.Proofs.YticaofendehebaaDoor.G Go.Proofs.YticaofendehebaaDoorW.PrintWords Go.Proofs.YticaofendehebaaDoorW.PrintLast Go.Proofs.YticaofendehebaaDoorW.PrintMore
theorem headN_le (l : List UInt8) : headN l ≤ l.length := by
  have := run_le l 35
  unfold headN
  split <;> omega
theorem openN_le (l : List UInt8) : openN l ≤ l.length := by
  have := run_le l 96
  unfold openN
  split <;> omega
/-- A line behind a mark. -/
def bare (l : List UInt8) : List UInt8 := Lib.trimPrefix (l.drop 1) [32]
theorem kind_some {l : List UInt8} (h : kindV l ≠ 1) : l ≠ [] := by
  intro e
  subst e
  exact h rfl
theorem Head_eq (s : ByteArray) (k : Nat) (hs : s.size ≤ 1000000) (hk : s.size + 10 < k) : kind_Head.f k s = some (if kindV (L s) = 2 then ((headN (L s) : Int), ⟨(trim ((L s).drop (headN (L s)))).toArray⟩) else (0, ⟨#[]⟩)) := by
  have hsl : s.size = (L s).length := L_size s
  have hl := headN_le (L s)
  unfold kind_Head.f
  rw [Of_eq s k hs hk, Option.bind_some]
  by_cases h : kindV (L s) = 2
  · rw [if_pos h, if_pos h, head_eq s k hs (by omega), Option.bind_some, if_pos (Int.natCast_nonneg _), if_pos (by omega), Int.toNat_natCast]
    have hz : (s.extract (headN (L s)) s.size).size ≤ 140737488351232 := by rw [L_size, L_from, List.length_drop]; omega
    rw [lines_Trim_eq _ hz, Option.bind_some, L_from]
  · rw [if_neg h, if_neg h]
theorem Open_eq (s : ByteArray) (k : Nat) (hs : s.size ≤ 1000000) (hk : s.size + 10 < k) : kind_Open.f k s = some (if kindV (L s) = 4 then ((openN (L s) : Int), ⟨(trim ((L s).drop (openN (L s)))).toArray⟩) else (0, ⟨#[]⟩)) := by
  have hsl : s.size = (L s).length := L_size s
  have hl := openN_le (L s)
  unfold kind_Open.f
  rw [Of_eq s k hs hk, Option.bind_some]
  by_cases h : kindV (L s) = 4
  · rw [if_pos h, if_pos h, open_eq s k hs (by omega), Option.bind_some, if_pos (Int.natCast_nonneg _), if_pos (by omega), Int.toNat_natCast]
    have hz : (s.extract (openN (L s)) s.size).size ≤ 140737488351232 := by rw [L_size, L_from, List.length_drop]; omega
    rw [lines_Trim_eq _ hz, Option.bind_some, L_from]
  · rw [if_neg h, if_neg h]
theorem Unquote_eq (s : ByteArray) (k : Nat) (hs : s.size ≤ 1000000) (hk : s.size + 10 < k) : kind_Unquote.f k s = some (if kindV (L s) = 5 then ⟨(bare (L s)).toArray⟩ else ⟨#[]⟩) := by
  have hsl : s.size = (L s).length := L_size s
  unfold kind_Unquote.f
  rw [Of_eq s k hs hk, Option.bind_some]
  by_cases h : kindV (L s) = 5
  · have hp := List.length_pos_iff.2 (kind_some (l := L s) (by rw [h]; decide))
    rw [if_pos h, if_pos h, if_pos (by omega)]
    have : strings_TrimPrefix.f (s.extract 1 s.size) (⟨#[32]⟩ : ByteArray) = some ⟨(bare (L s)).toArray⟩ := by
      unfold strings_TrimPrefix.f bare
      show some (⟨(Lib.trimPrefix (L (s.extract 1 s.size)) [32]).toArray⟩ : ByteArray) = _
      rw [L_from]
    rw [this]
    rfl
  · rw [if_neg h, if_neg h]
theorem Unitem_eq (s : ByteArray) (k : Nat) (hs : s.size ≤ 1000000) (hk : s.size + 10 < k) : kind_Unitem.f k s = some (if kindV (L s) = 6 then ⟨(bare (L s)).toArray⟩ else ⟨#[]⟩) := by
  have hsl : s.size = (L s).length := L_size s
  unfold kind_Unitem.f
  rw [Of_eq s k hs hk, Option.bind_some]
  by_cases h : kindV (L s) = 6
  · have hp := List.length_pos_iff.2 (kind_some (l := L s) (by rw [h]; decide))
    rw [if_pos h, if_pos h, if_pos (by omega)]
    have : strings_TrimPrefix.f (s.extract 1 s.size) (⟨#[32]⟩ : ByteArray) = some ⟨(bare (L s)).toArray⟩ := by
      unfold strings_TrimPrefix.f bare
      show some (⟨(Lib.trimPrefix (L (s.extract 1 s.size)) [32]).toArray⟩ : ByteArray) = _
      rw [L_from]
    rw [this]
    rfl
  · rw [if_neg h, if_neg h]
/-- Whether a line closes a fence of so many backticks. -/
def closesV (l : List UInt8) (n : Int) : Bool := !l.isEmpty && decide ((l.length : Int) ≥ n) && decide (run l 96 = l.length)
theorem Closes_eq (s : ByteArray) (n : Int) (k : Nat) (hs : s.size ≤ 1000000) (hk : s.size < k) : kind_Closes.f k s n = some (closesV (L s) n) := by
  have hsl : s.size = (L s).length := L_size s
  have hb : bt (⟨#[96]⟩ : ByteArray) 0 = 96 := rfl
  unfold kind_Closes.f closesV
  rw [L_toList]
  by_cases h0 : L s = []
  · rw [if_pos h0, h0]; rfl
  have h1 : (L s).isEmpty = false := by cases h : L s with | nil => exact absurd h h0 | cons => rfl
  rw [if_neg h0, h1, hsl]
  by_cases h : ((L s).length : Int) ≥ n
  · rw [if_pos h, decide_eq_true h, if_pos (by decide), hb, lines_Run_eq s 96 k (by omega) hk, Option.bind_some]
    have : (((run (L s) 96 : Nat) : Int) == ((L s).length : Int)) = decide (run (L s) 96 = (L s).length) := by
      rw [Bool.eq_iff_iff, beq_iff_eq, decide_eq_true_iff]; omega
    rw [this]
    rfl
  · rw [if_neg h, decide_eq_false h]; rfl
theorem Inner_eq (s : ByteArray) (hs : s.size ≤ 1000000) : kind_Inner.f s = some (if (L s).take 2 = [32, 32] then (⟨((L s).drop 2).toArray⟩, true) else (⟨#[]⟩, trim (L s) == [])) := by
  have hc : strings_CutPrefix.f s (⟨#[32, 32]⟩ : ByteArray) = some (⟨(Lib.trimPrefix (L s) [32, 32]).toArray⟩, (L s).take 2 == [32, 32]) := by
    unfold strings_CutPrefix.f
    show some (_, Lib.hasPrefix (L s) [32, 32]) = _
    rw [hasPrefix_two]
    rfl
  unfold kind_Inner.f
  rw [hc, Option.bind_some]
  by_cases h : (L s).take 2 = [32, 32]
  · have hp : Lib.hasPrefix (L s) [32, 32] = true := by rw [hasPrefix_two]; exact beq_iff_eq.2 h
    rw [if_pos (beq_iff_eq.2 h), if_pos h]
    unfold Lib.trimPrefix
    rw [if_pos hp]
    rfl
  · rw [if_neg (fun q => h (beq_iff_eq.1 q)), if_neg h, lines_Blank_eq s (by omega)]
    rfl
/-- A line that begins with none of the bytes that mean something is blank, or plain. -/
theorem kind_plain (b : UInt8) (t : List UInt8) (h35 : b ≠ 35) (h45 : b ≠ 45) (h96 : b ≠ 96) (h62 : b ≠ 62) (h91 : b ≠ 91) : kindV (b :: t) = if trim (b :: t) = [] then 1 else 8 := by
  have r35 : run (b :: t) 35 = 0 := run_zero (fun x hx q => h35 (by simp at hx; subst hx; exact (bN b 35).1 q))
  have r45 : run (b :: t) 45 = 0 := run_zero (fun x hx q => h45 (by simp at hx; subst hx; exact (bN b 45).1 q))
  have r96 : run (b :: t) 96 = 0 := run_zero (fun x hx q => h96 (by simp at hx; subst hx; exact (bN b 96).1 q))
  have e1 : headN (b :: t) = 0 := by unfold headN; rw [r35]; split <;> rfl
  have e2 : openN (b :: t) = 0 := by unfold openN; rw [r96]; split <;> rfl
  have e3 : defV (b :: t) = ([], [], false) := defV_head (fun q => h91 (Option.some.inj q))
  unfold kindV
  have g3 : ¬ (3 ≤ (b :: t).length ∧ 0 = (b :: t).length) := by rw [List.length_cons]; omega
  have g5 : ¬ (b :: t)[0]? = some 62 := fun q => h62 (Option.some.inj q)
  have g6 : ¬ (b :: t = [45] ∨ (b :: t).take 2 = [45, 32]) := by
    rintro (h | h)
    · exact h45 (List.cons.inj h).1
    · cases t with
      | nil => cases h
      | cons c t => exact h45 (List.cons.inj h).1
  rw [e1, r45, e2, e3]
  by_cases g1 : trim (b :: t) = []
  · rw [if_pos g1, if_pos g1]
  · rw [if_neg g1, if_neg g1, if_neg (Nat.lt_irrefl 0), if_neg g3, if_neg (Nat.lt_irrefl 0), if_neg g5, if_neg g6]
    rfl
theorem kind_quote (t : List UInt8) : kindV (62 :: t) = 5 := by
  have r35 : run (62 :: t) 35 = 0 := run_zero (fun x hx q => by simp at hx; subst hx; cases q)
  have r45 : run (62 :: t) 45 = 0 := run_zero (fun x hx q => by simp at hx; subst hx; cases q)
  have r96 : run (62 :: t) 96 = 0 := run_zero (fun x hx q => by simp at hx; subst hx; cases q)
  have e1 : headN (62 :: t) = 0 := by unfold headN; rw [r35]; split <;> rfl
  have e2 : openN (62 :: t) = 0 := by unfold openN; rw [r96]; split <;> rfl
  unfold kindV
  have g3 : ¬ (3 ≤ (62 :: t).length ∧ 0 = (62 :: t).length) := by rw [List.length_cons]; omega
  have g5 : (62 :: t)[0]? = some 62 := rfl
  rw [if_neg (trim_some List.mem_cons_self (by decide)), e1, r45, e2, if_neg (Nat.lt_irrefl 0), if_neg g3, if_neg (Nat.lt_irrefl 0), if_pos g5]
theorem kind_item (t : List UInt8) : kindV (45 :: 32 :: t) = 6 := by
  have r35 : run (45 :: 32 :: t) 35 = 0 := run_zero (fun x hx q => by simp at hx; subst hx; cases q)
  have r45 : run (45 :: 32 :: t) 45 = 1 := by
    rw [run_cons, if_pos (by decide), run_cons, if_neg (by decide)]
  have r96 : run (45 :: 32 :: t) 96 = 0 := run_zero (fun x hx q => by simp at hx; subst hx; cases q)
  have e1 : headN (45 :: 32 :: t) = 0 := by unfold headN; rw [r35]; split <;> rfl
  have e2 : openN (45 :: 32 :: t) = 0 := by unfold openN; rw [r96]; split <;> rfl
  unfold kindV
  have g3 : ¬ (3 ≤ (45 :: 32 :: t).length ∧ 1 = (45 :: 32 :: t).length) := by rw [List.length_cons, List.length_cons]; omega
  have g5 : ¬ (45 :: 32 :: t)[0]? = some 62 := by rw [List.getElem?_cons_zero]; decide
  have g6 : 45 :: 32 :: t = [45] ∨ (45 :: 32 :: t).take 2 = [45, 32] := Or.inr rfl
  rw [if_neg (trim_some List.mem_cons_self (by decide)), e1, r45, e2, if_neg (Nat.lt_irrefl 0), if_neg g3, if_neg (Nat.lt_irrefl 0), if_neg g5, if_pos g6]
theorem bare_space (b : UInt8) (t : List UInt8) : bare (b :: 32 :: t) = t := by
  unfold bare Lib.trimPrefix
  rw [List.drop_succ_cons, List.drop_zero, hasPrefix_one, if_pos (by rw [List.getElem?_cons_zero]; decide)]
  rfl
theorem bare_other (b : UInt8) (t : List UInt8) (h : t[0]? ≠ some 32) : bare (b :: t) = t := by
  unfold bare Lib.trimPrefix
  rw [List.drop_succ_cons, List.drop_zero, hasPrefix_one, if_neg (by rw [decide_eq_true_iff]; exact h)]
theorem awake11 (k : Nat) (hk : 100 < k) : emendationlaw11_awake.f k = some true := by
  have z1 : (⟨#[35, 35, 32, 97]⟩ : ByteArray).size = 4 := rfl
  have z2 : (⟨#[45, 45]⟩ : ByteArray).size = 2 := rfl
  have z3 : (⟨#[62, 32, 62, 32, 97]⟩ : ByteArray).size = 5 := rfl
  have l1 : L (⟨#[35, 35, 32, 97]⟩ : ByteArray) = [35, 35, 32, 97] := rfl
  have l2 : L (⟨#[45, 45]⟩ : ByteArray) = [45, 45] := rfl
  have l3 : L (⟨#[62, 32, 62, 32, 97]⟩ : ByteArray) = [62, 32, 62, 32, 97] := rfl
  have k1 : kindV [35, 35, 32, 97] = 2 := by decide +kernel
  have k2 : kindV [45, 45] = 8 := by decide +kernel
  have n1 : headN [35, 35, 32, 97] = 2 := by decide +kernel
  have t1 : trim [32, 97] = [97] := by decide +kernel
  unfold emendationlaw11_awake.f
  rw [Head_eq _ k (by rw [z1]; omega) (by rw [z1]; omega), Of_eq _ k (by rw [z2]; omega) (by rw [z2]; omega), Unquote_eq _ k (by rw [z3]; omega) (by rw [z3]; omega), l1, l2, l3, k1, k2, n1, kind_quote, bare_space]
  rw [if_pos rfl, Option.bind_some]
  dsimp only
  rw [if_pos (show ((2 : Nat) : Int) = 2 from rfl), if_pos (by rw [L_toList, L_mk]; exact t1), Option.bind_some, if_pos rfl, if_pos rfl, Option.bind_some, L_toList, L_mk]
  rfl
theorem nums_one (n : Int) : L (strOfNums [n]) = [UInt8.ofNat n.toNat] := by
  rw [← L_toList, strOfNums_toList]
  rfl
end Go.Proofs.YticaofendehebaaDoor.Pure
