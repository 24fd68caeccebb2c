/- A clean text: what spanin.Clean and the reference's answer. -/
import Derived.Test.YtmfffpfenhgjbaaDoorPNormAll
import Derived.Test.YtmfffpfenhgjbaaDoorPUtf2
import Derived.Test.YtmfffpfenhgjbaaDoorX9
import Derived.Lib.SplitLaws
set_option linter.unusedVariables false
set_option linter.unusedSimpArgs false
namespace Go.Proofs.YtmfffpfenhgjbaaDoor.Pure
open Go.RowKit Go.Lib Go.Proofs.YtmfffpfenhgjbaaDoor.X Go.Proofs.YtmfffpfenhgjbaaDoor.G Go.Proofs.YtmfffpfenhgjbaaDoorW.PrintWords Go.Proofs.YtmfffpfenhgjbaaDoorW.PrintLast Go.Proofs.YtmfffpfenhgjbaaDoorW.PrintMore
/-- Two bytes that can stand beside each other in a clean text (a line's end stands at both ends). -/
def pairC (x y : UInt8) : Bool := !(y.toNat == 10 && edgeB x) && !(x.toNat == 10 && edgeB y)
def adjC (p : UInt8) : List UInt8 → Bool
  | [] => pairC p 10
  | c :: t => pairC p c && adjC c t
theorem edge_ten {c : UInt8} (h : c.toNat = 10) : edgeB c = true := by unfold edgeB; simp [h]
theorem pairC_start (c : UInt8) : pairC 10 c = !edgeB c := by
  unfold pairC
  by_cases h : c.toNat = 10
  · rw [edge_ten h]; simp
  · simp [h]
theorem pairC_end (c : UInt8) : pairC c 10 = !edgeB c := by
  unfold pairC
  by_cases h : c.toNat = 10
  · rw [edge_ten h]; simp
  · simp [h]
theorem pairC_ok (x y : UInt8) (h : y.toNat ≠ 13) : pairC x y = pairOk x y := by
  unfold pairC pairOk edgeB
  have h13 : (y.toNat == 13) = false := beq_eq_false_iff_ne.2 h
  rw [h13]
  cases x.toNat == 10 <;> cases y.toNat == 10 <;> cases x.toNat == 9 <;> cases y.toNat == 9 <;> cases x.toNat == 32 <;> cases y.toNat == 32 <;> rfl
theorem adjC_pairs : ∀ (c : UInt8) (t : List UInt8), (c :: t).contains 13 = false → adjC c t = (pairs (c :: t) && !lastE (c :: t))
  | c, [], _ => by
    show pairC c 10 = (true && !edgeB c)
    rw [pairC_end, Bool.true_and]
  | c, d :: t, h => by
    rw [List.contains_cons] at h
    have h2 := (Bool.or_eq_false_iff.1 h).2
    have hd : d.toNat ≠ 13 := by
      intro e
      rw [List.contains_cons, show d = 13 from toNat_inj e] at h2
      simp at h2
    have ih := adjC_pairs d t h2
    show (pairC c d && adjC d t) = ((pairOk c d && pairs (d :: t)) && !lastE (c :: d :: t))
    rw [ih, pairC_ok c d hd, Bool.and_assoc]
    have : lastE (c :: d :: t) = lastE (d :: t) := lastE_append [c] (d :: t) (by simp)
    rw [this]
/-- A clean text, once more. -/
theorem cleanL_adj (s : List UInt8) : cleanL s = (decide (checkV s = 0) && !s.contains 13 && (s.isEmpty || adjC 10 s)) := by
  unfold cleanL
  cases s with
  | nil => simp [pairs, headE, lastE]
  | cons c t =>
    cases h : (c :: t).contains 13 with
    | true => simp
    | false =>
      have ha := adjC_pairs c t h
      show _ = (_ && _ && (false || (pairC 10 c && adjC c t)))
      rw [pairC_start, ha]
      show ((((_ && _) && pairs (c :: t)) && !edgeB c) && !lastE (c :: t)) = _
      cases decide (checkV (c :: t) = 0) <;> cases pairs (c :: t) <;> cases edgeB c <;> cases lastE (c :: t) <;> rfl
/-! Lines -/
def linesN : List UInt8 → List (List UInt8)
  | [] => [[]]
  | c :: t => if c = 10 then [] :: linesN t else match linesN t with | h :: r => (c :: h) :: r | [] => [[c]]
theorem linesN_ne : ∀ l, ∃ h r, linesN l = h :: r
  | [] => ⟨_, _, rfl⟩
  | c :: t => by
    obtain ⟨h, r, e⟩ := linesN_ne t
    rw [linesN, e]
    split
    · exact ⟨_, _, rfl⟩
    · exact ⟨_, _, rfl⟩
theorem split_lines : ∀ l : List UInt8, Lib.splitK [10] 0 (Lib.count l [10]) l = linesN l
  | [] => rfl
  | c :: t => by
    have ih := split_lines t
    rw [linesN]
    by_cases h : c = 10
    · subst h
      have hix : Lib.index ((10 : UInt8) :: t) [10] = 0 := by rw [Lib.index]; simp [List.isPrefixOf]
      rw [if_pos rfl, Lib.count_cons_eq, Nat.add_comm, Lib.splitK, hix, if_neg (by decide), ← ih]
      rfl
    · rw [if_neg h, Lib.count_cons_ne c 10 t h]
      have hp : ([10] : List UInt8).isPrefixOf (c :: t) = false := by simp [List.isPrefixOf, Ne.symm h]
      have hix : Lib.index (c :: t) [10] = if Lib.index t [10] == -1 then -1 else Lib.index t [10] + 1 := by rw [Lib.index, hp]; simp
      rw [← ih]
      cases hk : Lib.count t [10] with
      | zero => rfl
      | succ k =>
        have hm : Lib.index t [10] ≠ -1 := fun e => by rw [Lib.count_miss e] at hk; cases hk
        have hge := Lib.index_ge t [10]
        obtain ⟨j, hj⟩ : ∃ j : Nat, Lib.index t [10] = j := ⟨(Lib.index t [10]).toNat, by omega⟩
        have hix' : Lib.index (c :: t) [10] = ((j + 1 : Nat) : Int) := by rw [hix, if_neg (fun e => hm (beq_iff_eq.1 e)), hj]; omega
        rw [Lib.splitK, Lib.splitK, hix', hj, if_neg (by simp only [beq_iff_eq]; omega), if_neg (by simp only [beq_iff_eq]; omega), Int.toNat_natCast, Int.toNat_natCast]
        simp
/-- A space or a tab. -/
def gapB (b : UInt8) : Bool := b.toNat == 9 || b.toNat == 32
def lastG (l : List UInt8) : Bool := match l.getLast? with | some b => gapB b | none => false
/-- A line without spaces at its ends. -/
def lineOk (l : List UInt8) : Bool := match l with | [] => false | b :: _ => !gapB b && !lastG l
theorem gap_edge {c : UInt8} (h : c.toNat ≠ 10) : edgeB c = gapB c := by unfold edgeB gapB; simp [h]
theorem adjC_lines : ∀ t : List UInt8, adjC 10 t = (linesN t).all lineOk ∧ ∀ c : UInt8, c.toNat ≠ 10 → ∀ h r, linesN t = h :: r → adjC c t = (!lastG (c :: h) && r.all lineOk)
  | [] => by
    refine ⟨by decide, fun c hc h r e => ?_⟩
    obtain ⟨rfl, rfl⟩ := List.cons.inj e
    show pairC c 10 = (!gapB c && true)
    rw [pairC_end, gap_edge hc, Bool.and_true]
  | d :: t => by
    obtain ⟨ih1, ih2⟩ := adjC_lines t
    by_cases hd : d.toNat = 10
    · have e10 : d = 10 := toNat_inj hd
      subst e10
      refine ⟨?_, fun c hc h r e => ?_⟩
      · show (pairC 10 10 && _) = _
        rw [linesN, if_pos rfl]
        rfl
      · rw [linesN, if_pos rfl] at e
        obtain ⟨rfl, rfl⟩ := List.cons.inj e
        show (pairC c 10 && adjC 10 t) = _
        rw [pairC_end, gap_edge hc, ih1]
        rfl
    · have e10 : d ≠ 10 := fun e => hd (by rw [e]; rfl)
      obtain ⟨h, r, e⟩ := linesN_ne t
      have hl : linesN (d :: t) = (d :: h) :: r := by rw [linesN, if_neg e10, e]
      have h2 := ih2 d hd h r e
      refine ⟨?_, fun c hc h' r' e' => ?_⟩
      · show (pairC 10 d && adjC d t) = _
        rw [hl, pairC_start, gap_edge hd, h2, List.all_cons]
        show _ = ((!gapB d && !lastG (d :: h)) && _)
        rw [Bool.and_assoc]
      · rw [hl] at e'
        obtain ⟨rfl, rfl⟩ := List.cons.inj e'
        show (pairC c d && adjC d t) = _
        have : pairC c d = true := by unfold pairC; simp [hc, hd]
        rw [this, Bool.true_and, h2]
        have : lastG (c :: d :: h) = lastG (d :: h) := by unfold lastG; rw [List.getLast?_cons_cons]
        rw [this]
theorem mem_gap (b : UInt8) : ([32, 9] : List UInt8).contains b = gapB b := by
  have h : ∀ n : Fin 256, ([32, 9] : List UInt8).contains (UInt8.ofNat n.val) = gapB (UInt8.ofNat n.val) := by decide +kernel
  have := h ⟨b.toNat, b.toNat_lt⟩
  simpa using this
theorem dropW_self {p : UInt8 → Bool} (l : List UInt8) : (l.dropWhile p = l) ↔ (∀ b ∈ l.head?, p b = false) := by
  cases l with
  | nil => simp
  | cons c t =>
    rw [List.dropWhile_cons]
    constructor
    · intro h b hb
      simp at hb
      subst hb
      cases hp : p c with
      | false => rfl
      | true =>
        rw [hp, if_pos rfl] at h
        have := congrArg List.length h
        have h2 := (List.dropWhile_sublist p (l := t)).length_le
        rw [List.length_cons] at this
        omega
    · intro h
      rw [if_neg (by rw [h c (by simp)]; decide)]
theorem trim_self (l : List UInt8) (h : l ≠ []) : (Lib.trimS l [32, 9] = l) ↔ lineOk l = true := by
  obtain ⟨b, t, rfl⟩ : ∃ b t, l = b :: t := by cases l with | nil => exact absurd rfl h | cons b t => exact ⟨b, t, rfl⟩
  have hlast : (∀ x ∈ (b :: t).reverse.head?, ([32, 9] : List UInt8).contains x = false) ↔ lastG (b :: t) = false := by
    unfold lastG
    rw [List.head?_reverse]
    cases (b :: t).getLast? with
    | none => simp
    | some x => simp only [Option.mem_def, Option.some.injEq, forall_eq']; rw [mem_gap]
  have hfirst : (∀ x ∈ (b :: t).head?, ([32, 9] : List UInt8).contains x = false) ↔ gapB b = false := by
    simp only [List.head?_cons, Option.mem_def, Option.some.injEq, forall_eq']; rw [mem_gap]
  have hr : (Lib.trimRightS (b :: t) [32, 9] = b :: t) ↔ lastG (b :: t) = false := by
    rw [← hlast, ← dropW_self]
    unfold Lib.trimRightS
    constructor
    · intro h
      have := congrArg List.reverse h
      rwa [List.reverse_reverse] at this
    · intro h
      rw [h, List.reverse_reverse]
  have hln : ∀ l : List UInt8, (Lib.trimRightS l [32, 9]).length ≤ l.length := by
    intro l
    unfold Lib.trimRightS
    rw [List.length_reverse]
    exact Nat.le_trans (List.dropWhile_sublist _).length_le (by rw [List.length_reverse]; exact Nat.le_refl _)
  have hll : ∀ l : List UInt8, (Lib.trimLeftS l [32, 9]).length ≤ l.length := fun l => (List.dropWhile_sublist _).length_le
  show _ ↔ (!gapB b && !lastG (b :: t)) = true
  rw [Bool.and_eq_true, Bool.not_eq_true', Bool.not_eq_true', ← hr, ← hfirst, ← dropW_self]
  generalize (b :: t) = l at *
  constructor
  · intro h2
    have h3 := congrArg List.length h2
    have h4 := hln l
    have h5 := hll (Lib.trimRightS l [32, 9])
    have h6 : Lib.trimRightS l [32, 9] = l := by
      have hs : l.reverse.dropWhile (fun b => ([32, 9] : List UInt8).contains b) <:+ l.reverse := List.dropWhile_suffix _
      have h7 : (l.reverse.dropWhile (fun b => ([32, 9] : List UInt8).contains b)).length = l.reverse.length := by
        have : (Lib.trimRightS l [32, 9]).length = (l.reverse.dropWhile (fun b => ([32, 9] : List UInt8).contains b)).length := by
          unfold Lib.trimRightS; rw [List.length_reverse]
        have h8 : (Lib.trimS l [32, 9]).length ≤ (Lib.trimRightS l [32, 9]).length := h5
        rw [List.length_reverse]
        omega
      have h8 := hs.eq_of_length h7
      unfold Lib.trimRightS
      exact (congrArg List.reverse h8).trans (List.reverse_reverse _)
    refine ⟨?_, h6⟩
    have h7 : Lib.trimLeftS (Lib.trimRightS l [32, 9]) [32, 9] = l := h2
    rw [h6] at h7
    exact h7
  · rintro ⟨h2, h3⟩
    show Lib.trimLeftS (Lib.trimRightS l [32, 9]) [32, 9] = l
    rw [h3]
    exact h2
theorem clean_l0 (k : Nat) (ls : List ByteArray) : ∀ (d i : Nat), i + d = ls.length → ls.length ≤ 140737488351232 → (∀ x ∈ ls, x.size ≤ 1048576) → ∀ k, d < k → spanin_Clean.l0 k ls (ls.length : Int) (i : Int) = some (((ls.drop i).map L).all lineOk) := by
  intro d
  induction d with
  | zero =>
    intro i h hl hx k hk
    obtain ⟨k, rfl⟩ : ∃ m, k = m + 1 := ⟨k - 1, by omega⟩
    rw [spanin_Clean.l0, if_neg (by omega), List.drop_eq_nil_of_le (by omega)]
    rfl
  | succ d ih =>
    intro i h hl hx k hk
    obtain ⟨k, rfl⟩ : ∃ m, k = m + 1 := ⟨k - 1, by omega⟩
    have hlt : i < ls.length := by omega
    have w1 : wrap64 ((i : Int) + 1) = ((i + 1 : Nat) : Int) := by rw [wrap_small (by omega) (by omega)]; omega
    have hr : rdOf ByteArray.empty ls (i : Int) = ls[i] := by unfold rdOf; simp [List.getD, hlt]
    have hz := hx ls[i] (List.getElem_mem hlt)
    rw [spanin_Clean.l0, if_pos (by omega), if_pos (by omega), if_pos (by omega), hr, w1, ih (i + 1) (by omega) hl hx k (by omega), List.drop_eq_getElem_cons hlt, List.map_cons, List.all_cons, L_toList]
    by_cases he : L ls[i] = []
    · rw [if_pos he, he]; rfl
    · have ht : lines_Trim.f ls[i] = some ⟨(Lib.trimS (L ls[i]) [32, 9]).toArray⟩ := by
        unfold lines_Trim.f strings_Trim.f
        rw [if_pos ⟨by omega, by decide, by decide⟩]
        rfl
      rw [if_neg he, ht, Option.bind_some, L_toList, L_mk]
      have hs := trim_self _ he
      by_cases hk2 : Lib.trimS (L ls[i]) [32, 9] = L ls[i]
      · rw [if_pos hk2, hs.1 hk2, Bool.true_and]
      · rw [if_neg hk2]
        have : lineOk (L ls[i]) = false := by
          cases hq : lineOk (L ls[i]) with
          | false => rfl
          | true => exact absurd (hs.2 hq) hk2
        rw [this, Bool.false_and]
theorem check_size (l : List UInt8) (h : checkV l = 0) : l.length ≤ 1048576 := by
  unfold checkV at h
  split at h
  · cases h
  · omega
theorem Clean_eq (s : ByteArray) (k : Nat) (hs : s.size ≤ 1000000) (hk : s.size + 3 < k) : spanin_Clean.f k s = some (cleanL (L s)) := by
  obtain ⟨k, rfl⟩ : ∃ m, k = m + 1 := ⟨k - 1, by omega⟩
  have hl := L_size s
  rw [cleanL_adj]
  unfold spanin_Clean.f
  rw [if_pos (by omega), utf_Check_eq s (by omega), Option.bind_some]
  by_cases hc : checkV (L s) = 0
  · rw [if_pos hc, decide_eq_true hc, Bool.true_and]
    have h13 : strings_ContainsRune.f s 13 = some ((L s).contains 13) := by
      unfold strings_ContainsRune.f
      rw [if_pos (by omega)]
      exact congrArg some (contains_iff_indexByte (L s) 13).symm
    rw [h13, Option.bind_some, spanin_Clean.j0]
    cases (L s).contains 13 with
    | true => rfl
    | false =>
      rw [if_neg (by decide), L_toList]
      by_cases he : L s = []
      · rw [if_pos he, he]; rfl
      · have hcb : Lib.countB s ⟨#[10]⟩ ≤ s.size := Lib.countB_le _ (by decide) s.size s (Nat.le_refl _)
        have hsp : strings_Split.f s ⟨#[10]⟩ = some (Lib.splitB ⟨#[10]⟩ 0 (Lib.countB s ⟨#[10]⟩) s) := by
          unfold strings_Split.f
          rw [if_pos ⟨by omega, by decide, by omega⟩]
        have hlen := Lib.splitB_all ⟨#[10]⟩ (by decide) 0 _ s rfl
        have hdat := Lib.splitB_data ⟨#[10]⟩ 0 (Lib.countB s ⟨#[10]⟩) s
        have hmap : (Lib.splitB ⟨#[10]⟩ 0 (Lib.countB s ⟨#[10]⟩) s).map L = linesN (L s) := by
          rw [← split_lines]
          exact hdat
        rw [if_neg he, hsp, Option.bind_some]
        have hsz : ∀ x ∈ Lib.splitB ⟨#[10]⟩ 0 (Lib.countB s ⟨#[10]⟩) s, x.size ≤ 1048576 := by
          intro x hx
          have h1 : L x ∈ linesN (L s) := by rw [← hmap]; exact List.mem_map_of_mem hx
          have h2 : ∀ l : List UInt8, ∀ y ∈ linesN l, y.length ≤ l.length := by
            intro l
            induction l with
            | nil => intro y hy; simp [linesN] at hy; subst hy; exact Nat.le_refl _
            | cons c t ih =>
              intro y hy
              rw [linesN] at hy
              split at hy
              · rcases List.mem_cons.1 hy with rfl | hy
                · simp
                · exact Nat.le_trans (ih y hy) (by simp)
              · obtain ⟨h, r, e⟩ := linesN_ne t
                rw [e] at hy
                rcases List.mem_cons.1 hy with rfl | hy
                · have := ih h (by rw [e]; simp)
                  rw [List.length_cons, List.length_cons]; omega
                · exact Nat.le_trans (ih y (by rw [e]; exact List.mem_cons_of_mem _ hy)) (by simp)
          have h3 := h2 _ _ h1
          rw [L_size]
          omega
        have := clean_l0 k _ (Lib.splitB ⟨#[10]⟩ 0 (Lib.countB s ⟨#[10]⟩) s).length 0 (by omega) (by rw [hlen]; omega) hsz k (by rw [hlen]; omega)
        rw [show ((0 : Nat) : Int) = 0 from rfl] at this
        rw [this, List.drop_zero, hmap, ← (adjC_lines (L s)).1]
        have he2 : (L s).isEmpty = false := by cases hq : L s with | nil => exact absurd hq he | cons => rfl
        rw [he2]
        rfl
  · rw [if_neg hc, decide_eq_false hc, spanin_Clean.j0]
    rfl
end Go.Proofs.YtmfffpfenhgjbaaDoor.Pure
