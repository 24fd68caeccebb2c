/- What is parsed: in plain words; how much it weighs. -/
import Derived.Test.YtmfffpfenhgjbaaDoorPClean
import Derived.Test.YtmfffpfenhgjbaaDoorGivenReadAll
import Derived.Test.YtmfffpfenhgjbaaDoorGivenSame
import Derived.Test.YtmfffpfenhgjbaaDoorX9
set_option linter.unusedVariables false
set_option linter.unusedSimpArgs false
namespace Go.Proofs.YtmfffpfenhgjbaaDoor.Pure
open Go.RowKit Go.Lib Go.Proofs.YtmfffpfenhgjbaaDoor.X Go.Proofs.YtmfffpfenhgjbaaDoor.G Go.Proofs.YtmfffpfenhgjbaaDoorW.PrintWords Go.Proofs.YtmfffpfenhgjbaaDoorW.PrintLast Go.Proofs.YtmfffpfenhgjbaaDoorW.PrintMore
/-- The spans that a text tells. -/
def parseL (l : List UInt8) : List Sp := (rdL dstB false false [] l).1
theorem Parse_eq (s : ByteArray) (hs : s.size ≤ 1000000) : spanin_Parse.f s = some (parseL (L s)) := by
  unfold spanin_Parse.f spanin_reader_read.f parseL
  rw [if_pos ⟨hs, by omega, by omega⟩]
  rfl
theorem rdL_end (l : List UInt8) : (rdL dstB false false [] l).2 = [] := by
  have key : ∀ (n : Nat) (acc : List Sp) (l : List UInt8), l.length ≤ n → (rdL dstB false false acc l).2 = [] := by
    intro n
    induction n with
    | zero =>
      intro acc l h
      obtain rfl := List.eq_nil_of_length_eq_zero (Nat.le_zero.1 h)
      rw [rdL_nil]
    | succ n ih =>
      intro acc l h
      cases l with
      | nil => rw [rdL_nil]
      | cons c t =>
        rw [List.length_cons] at h
        have e1 : endB false false c = false := by unfold endB; simp
        rw [rdL_cons, e1, if_neg (by decide)]
        split
        · rename_i d r hd
          have := escL_lt hd
          rw [List.length_cons] at this
          exact ih _ _ (by omega)
        · split
          · rename_i x r hx
            have := enclL_lt (fun e k t _ => rdL_le dstB e k [] t) hx
            rw [List.length_cons] at this
            exact ih _ _ (by omega)
          · exact ih _ _ (by rw [List.length_drop, List.length_cons]; omega)
  exact key _ [] l (Nat.le_refl _)
/-! Weight -/
theorem putL_wt (b : List UInt8) : ∀ acc : List Sp, wtL (putL acc b) ≤ wtL acc + 1 + b.length
  | [] => by
    show wtL [tx b] ≤ _
    have : (tx b).f1.size = b.length := by show (⟨b.toArray⟩ : ByteArray).size = _; rw [L_size, L_mk]
    rw [wtL_cons, this]
    show 1 + b.length + wtL [] + wtL [] ≤ wtL [] + 1 + b.length
    rw [wtL]; omega
  | [x] => by
    rw [putL]
    split
    · have : (⟨(L x.f1 ++ b).toArray⟩ : ByteArray).size = x.f1.size + b.length := by rw [L_size, L_mk, List.length_append, ← L_size]
      rw [wtL_cons, wtL_cons]
      show 1 + (⟨(L x.f1 ++ b).toArray⟩ : ByteArray).size + wtL x.f2 + wtL [] ≤ _
      rw [this]; omega
    · have : (tx b).f1.size = b.length := by show (⟨b.toArray⟩ : ByteArray).size = _; rw [L_size, L_mk]
      rw [wtL_cons, wtL_cons, wtL_cons, this]
      show _ + (1 + b.length + wtL [] + wtL []) ≤ _
      rw [wtL]; omega
  | x :: y :: t => by
    have := putL_wt b (y :: t)
    rw [putL, wtL_cons, wtL_cons]
    omega
theorem encl_wt {R : Bool → Bool → List UInt8 → List Sp × List UInt8} {e k : Bool} {l : List UInt8} {x : Sp} {r : List UInt8} (hR : ∀ e k t, t.length < l.length → wtL (R e k t).1 + 2 * (R e k t).2.length ≤ 2 * t.length) (h : enclL dstB R e k l = some (x, r)) : wtV x + 2 * r.length ≤ 2 * l.length := by
  unfold enclL at h
  split at h
  · cases h
  · rename_i c t
    split at h
    · have h1 := hR true k t (by simp)
      split at h
      · rename_i d q hd
        split at h
        · injection h with h; injection h with h2 h3; subst h2; subst h3
          rw [hd, List.length_cons] at h1
          have : (mtP : ByteArray).size = 0 := rfl
          rw [wtV_eq, this, List.length_cons]
          show 1 + 0 + wtL (R true k t).1 + _ ≤ _
          omega
        · cases h
      · cases h
    · split at h
      · have h1 := hR e true t (by simp)
        split at h
        · rename_i d q hd
          split at h
          · cases ht : toL dstB q with
            | none => rw [ht] at h; cases h
            | some p =>
              rw [ht] at h
              injection h with h; injection h with h2 h3; subst h2; subst h3
              have hs := (toL_spec (a := p.1) (r := p.2) ht).1
              have hs2 := congrArg List.length hs
              simp only [List.length_cons, List.length_append] at hs2
              rw [hd, List.length_cons] at h1
              have : (⟨p.1.toArray⟩ : ByteArray).size = p.1.length := by rw [L_size, L_mk]
              rw [wtV_eq, List.length_cons]
              show 1 + (⟨p.1.toArray⟩ : ByteArray).size + wtL (R e true t).1 + _ ≤ _
              rw [this]
              omega
          · cases h
        · cases h
      · split at h
        · rename_i h96
          have h2 : 1 ≤ ticksL (c :: t) := by rw [ticksL, if_pos h96]; omega
          cases hc : codeL (ticksL (c :: t)) ((c :: t).length) [] ((c :: t).drop (ticksL (c :: t))) with
          | none => rw [hc] at h; cases h
          | some p =>
            rw [hc] at h
            injection h with h; injection h with h3 h4; subst h3; subst h4
            obtain ⟨y, g1, g2, _, _⟩ := code_spec _ h2 _ _ _ p.1 p.2 hc
            rw [List.nil_append] at g1
            have g3 := congrArg List.length g2
            simp only [List.length_drop, List.length_append, List.length_replicate] at g3
            have g4 := stripL_le p.1
            have g5 : p.1.length = y.length := by rw [g1]
            have : (⟨(stripL p.1).toArray⟩ : ByteArray).size = (stripL p.1).length := by rw [L_size, L_mk]
            have hle := ticksL_le (c :: t)
            rw [wtV_eq]
            show 1 + (⟨(stripL p.1).toArray⟩ : ByteArray).size + wtL [] + _ ≤ _
            rw [this, wtL]
            omega
        · cases h
theorem rdF_wt : ∀ (n : Nat) (e k : Bool) (acc : List Sp) (l : List UInt8), wtL (rdF dstB n e k acc l).1 + 2 * (rdF dstB n e k acc l).2.length ≤ wtL acc + 2 * l.length
  | 0, _, _, _, _ => by rw [rdF]; exact Nat.le_refl _
  | n + 1, e, k, acc, [] => by rw [rdF]; exact Nat.le_refl _
  | n + 1, e, k, acc, c :: t => by
    rw [rdF]
    split
    · exact Nat.le_refl _
    · split
      · rename_i d r hd
        have h1 := rdF_wt n e k (putL acc [d]) r
        have h2 := putL_wt [d] acc
        have h3 : r.length + 2 ≤ (c :: t).length := by
          unfold escL at hd
          split at hd
          · rename_i c' d' t' heq
            split at hd
            · injection hd with hd; injection hd with _ h; subst h
              rw [heq]; simp
            · cases hd
          · cases hd
        rw [List.length_singleton] at h2
        omega
      · split
        · rename_i x r hx
          have h1 := rdF_wt n e k (acc ++ [x]) r
          have h2 := encl_wt (fun e k t _ => by have := rdF_wt n e k [] t; rw [show wtL ([] : List Sp) = 0 from by rw [wtL]] at this; omega) hx
          rw [wtL_append, wtL_cons, show wtL ([] : List Sp) = 0 from by rw [wtL]] at h1
          rw [wtV_eq] at h2
          omega
        · have h1 := rdF_wt n e k (putL acc ((c :: t).take (max 1 (ticksL (c :: t))))) ((c :: t).drop (max 1 (ticksL (c :: t))))
          have h2 := putL_wt ((c :: t).take (max 1 (ticksL (c :: t)))) acc
          rw [List.length_take] at h2
          rw [List.length_drop] at h1
          have h3 := ticksL_le (c :: t)
          have h4 : 1 ≤ (c :: t).length := by simp
          omega
theorem parse_wt (l : List UInt8) : wtL (parseL l) ≤ 2 * l.length := by
  have := rdF_wt l.length false false [] l
  rw [show wtL ([] : List Sp) = 0 from by rw [wtL]] at this
  unfold parseL rdL
  omega
/-! Alike -/
theorem sameV_eq (x y : Sp) : sameV x y = ((x.f0 == y.f0) && ((L x.f1 == L y.f1) && sameL x.f2 y.f2)) := by cases x; cases y; rw [sameV]; rfl
theorem sameL_cons (x y : Sp) (s t : List Sp) : sameL (x :: s) (y :: t) = (sameV x y && sameL s t) := by rw [sameL]
/-- Spans are alike if they are the same, and not else. -/
theorem sameL_iff (n : Nat) : ∀ a b : List Sp, SizeOf.sizeOf a < n → (sameL a b = true ↔ a = b) := by
  induction n with
  | zero => intro a b h; omega
  | succ n ih =>
    intro a b h
    cases a with
    | nil =>
      cases b with
      | nil => rw [sameL]; simp
      | cons y t => simp [sameL]
    | cons x s =>
      cases b with
      | nil => simp [sameL]
      | cons y t =>
        have h1 := size_kids x s
        have h2 := size_tail x s
        have hx : 0 < SizeOf.sizeOf x := by cases x; simp; omega
        have hst : SizeOf.sizeOf s < n := by
          have : SizeOf.sizeOf (x :: s) = 1 + SizeOf.sizeOf x + SizeOf.sizeOf s := rfl
          omega
        rw [sameL_cons, sameV_eq]
        simp only [Bool.and_eq_true, beq_iff_eq]
        rw [ih x.f2 y.f2 (by omega), ih s t hst]
        constructor
        · rintro ⟨⟨g1, g2, g3⟩, rfl⟩
          obtain ⟨x0, x1, x2⟩ := x
          obtain ⟨y0, y1, y2⟩ := y
          dsimp only at g1 g2 g3
          subst g1; subst g3
          obtain rfl := L_ext g2
          rfl
        · intro g
          injection g with g1 g2
          subst g1; subst g2
          exact ⟨⟨rfl, rfl, rfl⟩, rfl⟩
theorem same_refl (a : List Sp) : sameL a a = true := (sameL_iff _ a a (Nat.lt_succ_self _)).2 rfl
theorem awake08 (k : Nat) (hk : 10 < k) : emendationlaw08_awake.f k = some true := by
  have p : parseL [97, 32, 42, 98, 42] = [⟨1, ⟨#[97, 32]⟩, []⟩, ⟨3, mtP, [⟨1, ⟨#[98]⟩, []⟩]⟩] := rfl
  unfold emendationlaw08_awake.f
  rw [Parse_eq _ (by decide)]
  show (some (parseL [97, 32, 42, 98, 42])).bind _ = _
  rw [p, Option.bind_some, if_pos (by decide), if_pos (by decide), if_pos (by rw [L_toList]; rfl), if_pos (by decide), if_pos (by rfl), Clean_eq _ k (by decide) (by show 1 + 3 < k; omega), Option.bind_some, if_pos (by decide)]
  have h := Ticks_eq (⟨#[97, 96, 96]⟩ : ByteArray) 1 k (by decide) (by show 3 < k; omega)
  rw [show ((1 : Nat) : Int) = 1 from rfl] at h
  rw [h]
  rfl
end Go.Proofs.YtmfffpfenhgjbaaDoor.Pure
