/- The law LinesEnds, as a statement of lists of bytes: the kind of line ends plays no part. -/
import Derived.Test.YtpofifheicbilaaDoorPMore02
namespace Go.Proofs.YtpofifheicbilaaDoor.Pure
open Go.RowKit Go.Proofs.YtpofifheicbilaaDoor.X Go.Proofs.YtpofifheicbilaaDoor.G Go.Proofs.YtpofifheicbilaaDoorW.PrintWords Go.Proofs.YtpofifheicbilaaDoorW.PrintLast Go.Proofs.YtpofifheicbilaaDoorW.PrintMore
def notEnd (b : UInt8) : Bool := !(b == 10) && !(b == 13)
theorem notEnd_iff (b : UInt8) : notEnd b = true ↔ ¬ (b.toNat : Int) = 10 ∧ ¬ (b.toNat : Int) = 13 := by
  unfold notEnd
  simp only [Bool.and_eq_true, Bool.not_eq_true', beq_eq_false_iff_ne]
  constructor
  · rintro ⟨h1, h2⟩
    exact ⟨fun e => h1 (toNat_inj (by rw [show b.toNat = 10 from by omega]; rfl)), fun e => h2 (toNat_inj (by rw [show b.toNat = 13 from by omega]; rfl))⟩
  · rintro ⟨h1, h2⟩
    exact ⟨fun e => h1 (by rw [e]; rfl), fun e => h2 (by rw [e]; rfl)⟩
/-- A line without the bytes of line ends. -/
def cl (x : List UInt8) : List UInt8 := x.filter notEnd
theorem cl_clean (x : List UInt8) : ∀ b ∈ cl x, b ≠ 10 ∧ b ≠ 13 := fun b hb => by
  have h := (List.mem_filter.1 hb).2
  unfold notEnd at h
  simpa using h
theorem cl_len (x : List UInt8) : (cl x).length ≤ x.length := List.length_filter_le _ _
/-- b has the lines ls, whatever stands behind; or at its end. -/
def P (b : List UInt8) (ls : List (List UInt8)) : Prop := ∀ t, spl false [] (b ++ t) = (ls ++ (spl false [] t).1, (spl false [] t).2)
def Q (b : List UInt8) (ls : List (List UInt8)) : Prop := spl false [] b = (ls, true)
theorem less1 (a k : Nat) (h : a + 500001 < k + 1) : a + 500000 < k := by omega
theorem sz1 (x : UInt8) : (⟨#[x]⟩ : ByteArray).size = 1 := rfl
theorem sz2 (x y : UInt8) : (⟨#[x, y]⟩ : ByteArray).size = 2 := rfl
theorem P_nil : P [] [] := fun _ => rfl
theorem Q_of_P {b : List UInt8} {ls : List (List UInt8)} (h : P b ls) : Q b ls := by
  have := h []
  rw [List.append_nil] at this
  simpa [Q, spl] using this
theorem P_lf {b : List UInt8} {ls : List (List UInt8)} (h : P b ls) (x : List UInt8) : P (b ++ cl x ++ [10]) (ls ++ [cl x]) := fun t => by
  rw [List.append_assoc, List.append_assoc, h, spl_plain0 _ _ (cl_clean x), List.singleton_append, spl_lf]
  simp
theorem P_crlf {b : List UInt8} {ls : List (List UInt8)} (h : P b ls) (x : List UInt8) : P (b ++ cl x ++ [13, 10]) (ls ++ [cl x]) := fun t => by
  rw [List.append_assoc, List.append_assoc, h, spl_plain0 _ _ (cl_clean x), List.cons_append, List.singleton_append, spl_cr_lf]
  simp
theorem Q_cr {b : List UInt8} {ls : List (List UInt8)} (h : P b ls) (x : List UInt8) : Q (b ++ cl x ++ [13]) (ls ++ [cl x]) := by
  unfold Q
  rw [List.append_assoc, h, spl_plain0 _ _ (cl_clean x), spl_cr_any _ [] (by simp)]
  simp [spl]
section
variable (l : List ByteArray) (ks : List Int) (hs : small l)
/-- What the outer loop does from line i on. -/
def Next (i d : Nat) (ls : List (List UInt8)) (a : ByteArray) : Prop := ∀ (k : Nat) (b : ByteArray), d * 1010 + 500000 < k → Q (L b) ls → (0 < d → P (L b) ls) → b.size ≤ 1002 * i →
  emendationlaw02_LinesEnds.l0 k l ks a b (l.length : Int) (i : Int) = some true
include hs in
theorem Ends_j3 (i d : Nat) (hi : i + (d + 1) = l.length) (ls : List (List UInt8)) (a b X : ByteArray) (k : Nat) (hk : d * 1010 + 500001 < k) (x78 : Bool) (_hx : x78 = true → i < ks.length) (hX : L X = cl (L (rdOf ByteArray.empty l (i : Int)))) (hXs : X.size ≤ 1000) (hb : P (L b) ls) (hbs : b.size ≤ 1002 * i)
    (next : Next l ks (i + 1) d (ls ++ [cl (L (rdOf ByteArray.empty l (i : Int)))]) a) :
    emendationlaw02_LinesEnds.j3 k l ks a b (i : Int) X (⟨#[10]⟩ : ByteArray) (l.length : Int) (i : Int) x78 = some true := by
  have hl1 := hs.1
  obtain ⟨k, rfl⟩ : ∃ m, k = m + 1 := ⟨k - 1, by omega⟩
  have hkk : d * 1010 + 500000 < k := less1 _ _ hk
  have hbX : (b ++ X).size = b.size + X.size := size_append _ _
  have n1 : emendationlaw02_LinesEnds.l0 k l ks a (b ++ X ++ (⟨#[10]⟩ : ByteArray)) (l.length : Int) (wrap64 ((i : Int) + 1)) = some true := by
    rw [wrap_small (by omega) (by omega), show (i : Int) + 1 = ((i + 1 : Nat) : Int) from by omega]
    have hP : P (L (b ++ X ++ (⟨#[10]⟩ : ByteArray))) (ls ++ [cl (L (rdOf ByteArray.empty l (i : Int)))]) := by rw [L_append, L_append, hX]; exact P_lf hb _
    exact next k _ hkk (Q_of_P hP) (fun _ => hP) (by rw [size_append, hbX, sz1]; omega)
  have n2 : emendationlaw02_LinesEnds.l0 k l ks a (b ++ X ++ (⟨#[13, 10]⟩ : ByteArray)) (l.length : Int) (wrap64 ((i : Int) + 1)) = some true := by
    rw [wrap_small (by omega) (by omega), show (i : Int) + 1 = ((i + 1 : Nat) : Int) from by omega]
    have hP : P (L (b ++ X ++ (⟨#[13, 10]⟩ : ByteArray))) (ls ++ [cl (L (rdOf ByteArray.empty l (i : Int)))]) := by rw [L_append, L_append, hX]; exact P_crlf hb _
    exact next k _ hkk (Q_of_P hP) (fun _ => hP) (by rw [size_append, hbX, sz2]; omega)
  have n3 : d = 0 → emendationlaw02_LinesEnds.l0 k l ks a (b ++ X ++ (⟨#[13]⟩ : ByteArray)) (l.length : Int) (wrap64 ((i : Int) + 1)) = some true := by
    intro hd
    rw [wrap_small (by omega) (by omega), show (i : Int) + 1 = ((i + 1 : Nat) : Int) from by omega]
    have hQ : Q (L (b ++ X ++ (⟨#[13]⟩ : ByteArray))) (ls ++ [cl (L (rdOf ByteArray.empty l (i : Int)))]) := by rw [L_append, L_append, hX]; exact Q_cr hb _
    exact next k _ hkk hQ (fun h => by omega) (by rw [size_append, hbX, sz1]; omega)
  have hw : wrap64 ((l.length : Int) - 1) = (l.length : Int) - 1 := wrap_small (by omega) (by omega)
  have c1 : b.size + X.size ≤ 9223372036854775807 := by omega
  have c2 : (b ++ X).size + 1 ≤ 9223372036854775807 := by omega
  have c3 : (b ++ X).size + 2 ≤ 9223372036854775807 := by omega
  have c4 : (b ++ X).size + (⟨#[10]⟩ : ByteArray).size ≤ 9223372036854775807 := by rw [sz1]; exact c2
  have i0 : (0 : Int) ≤ (i : Int) := by omega
  simp only [emendationlaw02_LinesEnds.j3, hw, if_pos c1, if_pos c2, if_pos c3, if_pos c4, if_pos i0]
  by_cases g1 : x78 = true
  · rw [if_pos g1]
    by_cases g2 : (i : Int) < (ks.length : Int)
    · rw [if_pos g2]
      by_cases g3 : Int.tmod (rd ks (i : Int)) 3 = 2
      · rw [if_pos g3]
        by_cases g4 : (i : Int) = (l.length : Int) - 1
        · rw [if_pos g4]; exact n3 (by omega)
        · rw [if_neg g4]; exact n2
      · rw [if_neg g3]; exact n2
    · rw [if_neg g2]; exact n2
  · rw [if_neg g1]
    by_cases g2 : (i : Int) < (ks.length : Int)
    · rw [if_pos g2]
      by_cases g3 : Int.tmod (rd ks (i : Int)) 3 = 2
      · rw [if_pos g3]
        by_cases g4 : (i : Int) = (l.length : Int) - 1
        · rw [if_pos g4]; exact n3 (by omega)
        · rw [if_neg g4]; exact n1
      · rw [if_neg g3]; exact n1
    · rw [if_neg g2]; exact n1
include hs in
theorem Ends_l1 (i d : Nat) (hi : i + (d + 1) = l.length) (ls : List (List UInt8)) (a b : ByteArray) (has : a.size ≤ 1002 * i) (hb : P (L b) ls) (hbs : b.size ≤ 1002 * i) (Y : List UInt8) (hY : Y = L (rdOf ByteArray.empty l (i : Int)))
    (next : ∀ X : ByteArray, L X = cl Y → Next l ks (i + 1) d (ls ++ [cl Y]) (a ++ X ++ (⟨#[10]⟩ : ByteArray))) :
    ∀ (m k j : Nat) (X : ByteArray), j + m = Y.length → m + d * 1010 + 500005 < k → L X = cl (Y.take j) → 
      emendationlaw02_LinesEnds.l1 k l ks a b (i : Int) X (l.length : Int) (i : Int) ((rdOf ByteArray.empty l (i : Int)).size : Int) (j : Int) = some true := by
  have hl1 := hs.1
  have hil : i < l.length := by omega
  have hYs : (rdOf ByteArray.empty l (i : Int)).size = Y.length := by rw [L_size, hY]
  have hY1 : Y.length ≤ 1000 := by rw [← hYs, rdOf_get _ l i hil]; exact hs.2 _ (List.getElem_mem hil)
  intro m
  induction m with
  | zero =>
    intro k j X h hk hX
    obtain ⟨k, rfl⟩ : ∃ m, k = m + 1 := ⟨k - 1, by omega⟩
    rw [List.take_of_length_le (by omega)] at hX
    have hXs : X.size ≤ 1000 := by rw [L_size, hX]; have := cl_len Y; omega
    have haX : (a ++ X).size = a.size + X.size := size_append _ _
    simp only [emendationlaw02_LinesEnds.l1, hYs]
    rw [if_neg (by omega), if_pos (by omega), if_pos (by omega)]
    have hn := next X hX
    rw [hY] at hX hn
    by_cases g : (i : Int) < (ks.length : Int)
    · rw [if_pos g, if_pos (by omega)]
      exact Ends_j3 l ks hs i d hi ls _ b X k (by omega) _ (fun _ => by omega) hX hXs hb hbs hn
    · rw [if_neg g]
      exact Ends_j3 l ks hs i d hi ls _ b X k (by omega) false (fun h => by cases h) hX hXs hb hbs hn
  | succ m ih =>
    intro k j X h hk hX
    obtain ⟨k, rfl⟩ : ∃ m, k = m + 1 := ⟨k - 1, by omega⟩
    have hj : j < Y.length := by omega
    have hXs : X.size ≤ 1000 := by rw [L_size, hX]; have := cl_len (Y.take j); rw [List.length_take] at this; omega
    have hbt : bt (rdOf ByteArray.empty l (i : Int)) (j : Int) = ((Y[j]).toNat : Int) := by
      subst hY; exact bt_L _ j hj
    have hstep : cl (Y.take (j + 1)) = cl (Y.take j) ++ (if notEnd Y[j] = true then [Y[j]] else []) := by
      rw [← List.take_append_getElem hj]
      unfold cl
      rw [List.filter_append]
      congr 1
      simp [List.filter_cons]
    have hg := notEnd_iff Y[j]
    have hw : wrap64 ((j : Int) + 1) = ((j + 1 : Nat) : Int) := by rw [wrap_small (by omega) (by omega)]; omega
    have c1 : (j : Int) < (Y.length : Int) := Int.ofNat_lt.2 hj
    have c2 : (0 : Int) ≤ (i : Int) := Int.natCast_nonneg i
    have c3 : (i : Int) < (l.length : Int) := Int.ofNat_lt.2 hil
    have c4 : (0 : Int) ≤ (j : Int) := Int.natCast_nonneg j
    simp only [emendationlaw02_LinesEnds.l1, hYs, hw, hbt, if_pos c1, if_pos c2, if_pos c3, if_pos c4]
    have hskip : ¬ notEnd Y[j] = true → emendationlaw02_LinesEnds.l1 k l ks a b (i : Int) X (l.length : Int) (i : Int) (Y.length : Int) ((j + 1 : Nat) : Int) = some true := by
      intro hn
      rw [← hYs]
      exact ih k (j + 1) X (by omega) (by omega) (by rw [hstep, if_neg hn, List.append_nil]; exact hX)
    by_cases h10 : ((Y[j]).toNat : Int) = 10
    · rw [if_pos h10]; exact hskip (fun h => (hg.1 h).1 h10)
    · rw [if_neg h10]
      by_cases h13 : ((Y[j]).toNat : Int) = 13
      · rw [if_pos h13]; exact hskip (fun h => (hg.1 h).2 h13)
      · rw [if_neg h13]
        have hE : L ((rdOf ByteArray.empty l (i : Int)).extract ((j : Int)).toNat (((j + 1 : Nat) : Int)).toNat) = [Y[j]] := by
          rw [Int.toNat_natCast, Int.toNat_natCast, L_extract, ← hY, List.drop_eq_getElem_cons hj, show j + 1 - j = 1 from by omega]
          rfl
        have hEs : ((rdOf ByteArray.empty l (i : Int)).extract ((j : Int)).toNat (((j + 1 : Nat) : Int)).toNat).size = 1 := by rw [L_size, hE]; rfl
        rw [if_pos (by omega), if_pos (by omega), hEs, if_pos (by omega), ← hYs]
        exact ih k (j + 1) _ (by omega) (by omega) (by rw [L_append, hE, hstep, if_pos (hg.2 ⟨h10, h13⟩), hX])
include hs in
theorem Ends_l0 : ∀ (d i : Nat) (a : ByteArray), i + d = l.length → L a = jE ((l.take i).map (fun s => cl (L s))) → Next l ks i d ((l.take i).map (fun s => cl (L s))) a := by
  have hl1 := hs.1
  have hasz : ∀ (i : Nat) (a : ByteArray), i ≤ l.length → L a = jE ((l.take i).map (fun s => cl (L s))) → a.size ≤ 1001 * i := by
    intro i a hi ha
    rw [L_size, ha, jE_length]
    have : ∀ m : List ByteArray, (∀ s ∈ m, s.size ≤ 1000) → ((m.map (fun s => cl (L s))).flatten).length ≤ 1000 * m.length := by
      intro m
      induction m with
      | nil => intro _; simp
      | cons s t ih =>
        intro h
        have h1 := h s (by simp)
        have h2 := ih (fun x hx => h x (by simp [hx]))
        have h3 := cl_len (L s)
        rw [← L_size] at h3
        simp only [List.map_cons, List.flatten_cons, List.length_append, List.length_cons]
        omega
    have h4 := this (l.take i) (fun s hs' => hs.2 s (List.mem_of_mem_take hs'))
    rw [List.length_map]
    rw [List.length_take] at h4 ⊢
    omega
  intro d
  induction d with
  | zero =>
    intro i a h ha k b hk hQ _ hbs
    obtain ⟨k, rfl⟩ : ∃ m, k = m + 1 := ⟨k - 1, by omega⟩
    have has := hasz i a (by omega) ha
    simp only [emendationlaw02_LinesEnds.l0]
    rw [if_neg (by omega)]
    have hsa : spl false [] (L a) = ((l.take i).map (fun s => cl (L s)), true) := by
      rw [ha]
      have : ∀ ls : List (List UInt8), spl false [] (jE (ls.map cl)) = (ls.map cl, true) := by
        intro ls
        induction ls with
        | nil => rfl
        | cons x t ih =>
          simp only [List.map_cons, jE]
          rw [spl_plain0 _ _ (cl_clean x), spl_lf, ih]
      have h2 := this ((l.take i).map L)
      rw [List.map_map] at h2
      exact h2
    obtain ⟨x, hx, hxm⟩ := lines_Split_eq a k (by omega) (by omega)
    obtain ⟨y, hy, hym⟩ := lines_Split_eq b k (by omega) (by omega)
    rw [hsa] at hx hxm
    rw [show spl false [] (L b) = _ from hQ] at hy hym
    have hxl : x.length = l.length := by have := congrArg List.length hxm; simp at this; omega
    rw [hx, Option.bind_some, hy, Option.bind_some, Same_eq x y k (by omega) (by omega), Option.bind_some, hxm, hym]
    simp [hxl]
  | succ d ih =>
    intro i a h ha k b hk hQ hP hbs
    obtain ⟨k, rfl⟩ : ∃ m, k = m + 1 := ⟨k - 1, by omega⟩
    have has := hasz i a (by omega) ha
    have hil : i < l.length := by omega
    simp only [emendationlaw02_LinesEnds.l0]
    rw [if_pos (by omega), if_pos (by omega), if_pos (by omega)]
    have hY1 : (L (rdOf ByteArray.empty l (i : Int))).length ≤ 1000 := by rw [← L_size, rdOf_get _ l i hil]; exact hs.2 _ (List.getElem_mem hil)
    have htk : (l.take (i + 1)).map (fun s => cl (L s)) = (l.take i).map (fun s => cl (L s)) ++ [cl (L (rdOf ByteArray.empty l (i : Int)))] := by
      rw [← List.take_append_getElem hil, List.map_append, rdOf_get _ l i hil]
      rfl
    refine Ends_l1 l ks hs i d h _ a b (by omega) (hP (by omega)) hbs _ rfl ?_ _ k 0 (⟨#[]⟩ : ByteArray) (Nat.zero_add _) (by omega) rfl
    intro X hX
    have := ih (i + 1) (a ++ X ++ (⟨#[10]⟩ : ByteArray)) (by omega) (by
      rw [htk, L_append, L_append, ha, hX]
      have : ∀ (m : List (List UInt8)) (y : List UInt8), jE m ++ y ++ [10] = jE (m ++ [y]) := by
        intro m y
        induction m with
        | nil => simp [jE]
        | cons x t ih => simp only [List.cons_append, jE]; rw [← ih]; simp
      exact this _ _)
    rw [htk] at this
    exact this
end
theorem LinesEnds (l0 : List ByteArray) (l1 : List Int) (_w1 : ∀ x ∈ l1, (Lit.int .u8 x).wf = true) : ∃ k, emendationlaw02_LinesEnds.f k l0 l1 = some true := by
  obtain ⟨K, hK⟩ : ∃ K : Nat, 800000 ≤ K := ⟨_, Nat.le_refl _⟩
  refine ⟨K + 1, ?_⟩
  have hj : ∀ b, (b = false → small l0) → emendationlaw02_LinesEnds.j0 (K + 1) l0 l1 b = some true := by
    intro b hb
    simp only [emendationlaw02_LinesEnds.j0]
    cases b with
    | true => rw [if_pos rfl, awake_eq _ (by omega)]; rfl
    | false =>
      rw [if_neg (by decide)]
      have h1 := (hb rfl).1
      exact Ends_l0 l0 l1 (hb rfl) l0.length 0 (⟨#[]⟩ : ByteArray) (by omega) rfl K (⟨#[]⟩ : ByteArray) (by omega) rfl (fun _ => P_nil) (Nat.zero_le _)
  unfold emendationlaw02_LinesEnds.f
  rw [awake_eq _ (by omega), Option.bind_some, if_pos rfl]
  obtain ⟨r, hr, hm⟩ := few_eq l0 (K + 1) (by omega)
  rw [hr, Option.bind_some]
  exact hj (!r) (fun hb => hm (by cases r <;> simp_all))
end Go.Proofs.YtpofifheicbilaaDoor.Pure
