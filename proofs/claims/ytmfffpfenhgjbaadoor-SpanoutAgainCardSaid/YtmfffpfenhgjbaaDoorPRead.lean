/- Reading in plain words: the spans that bytes tell. -/
import Derived.Test.YtmfffpfenhgjbaaDoorBase
import Derived.Test.YtmfffpfenhgjbaaDoorX0
set_option linter.unusedVariables false
set_option linter.unusedSimpArgs false
namespace Go.Proofs.YtmfffpfenhgjbaaDoor.Pure
open Go.RowKit Go.Lib Go.Proofs.YtmfffpfenhgjbaaDoor.X Go.Proofs.YtmfffpfenhgjbaaDoorW.PrintWords Go.Proofs.YtmfffpfenhgjbaaDoorW.PrintLast Go.Proofs.YtmfffpfenhgjbaaDoorW.PrintMore
abbrev Sp := S26
abbrev mtP : ByteArray := ⟨#[]⟩
/-- A Text of bytes. -/
def tx (b : List UInt8) : Sp := ⟨1, ⟨b.toArray⟩, []⟩
/-- How many backticks bytes begin with. -/
def ticksL : List UInt8 → Nat
  | [] => 0
  | c :: t => if c.toNat = 96 then ticksL t + 1 else 0
theorem ticksL_le : ∀ l, ticksL l ≤ l.length
  | [] => Nat.le_refl _
  | c :: t => by
    rw [ticksL, List.length_cons]
    have := ticksL_le t
    split <;> omega
/-- Text behind spans. -/
def putL : List Sp → List UInt8 → List Sp
  | [], b => [tx b]
  | [x], b => if x.f0 = 1 then [⟨1, ⟨(L x.f1 ++ b).toArray⟩, x.f2⟩] else [x, tx b]
  | x :: y :: t, b => x :: putL (y :: t) b
/-- What a code encloses, without one space at each end. -/
def stripL (b : List UInt8) : List UInt8 :=
  if b.head? = some 32 ∧ b.getLast? = some 32 ∧ b.any (fun c => c != 32) = true then (b.drop 1).dropLast else b
/-- Behind n backticks: the bytes up to the next run of just n, and what is behind that; a line's end is the end. -/
def codeL (n : Nat) : Nat → List UInt8 → List UInt8 → Option (List UInt8 × List UInt8)
  | 0, _, _ => none
  | _ + 1, _, [] => none
  | k + 1, acc, c :: t =>
    if c.toNat = 10 then none
    else if ticksL (c :: t) = n then some (acc, (c :: t).drop n)
    else codeL n k (acc ++ (c :: t).take (max (ticksL (c :: t)) 1)) ((c :: t).drop (max (ticksL (c :: t)) 1))
/-- Where a link goes to, in round brackets, and what is behind it. -/
def toL (D : UInt8 → Bool) (l : List UInt8) : Option (List UInt8 × List UInt8) :=
  match l with
  | c :: t =>
    if c.toNat = 40 ∧ t.takeWhile D ≠ [] then
      match t.dropWhile D with
      | d :: r => if d.toNat = 41 then some (t.takeWhile D, r) else none
      | [] => none
    else none
  | [] => none
/-- The bytes that can be escaped. -/
def markB (c : UInt8) : Bool := (32 < c.toNat && c.toNat < 48) || (57 < c.toNat && c.toNat < 65) || (90 < c.toNat && c.toNat < 97) || (122 < c.toNat && c.toNat ≤ 126)
/-- An escape: the byte, and what is behind it. -/
def escL : List UInt8 → Option (UInt8 × List UInt8)
  | c :: d :: t => if c.toNat = 92 ∧ markB d = true then some (d, t) else none
  | _ => none
/-- The code, the emphasis, or the link that bytes begin with, and what is behind it. -/
def enclL (D : UInt8 → Bool) (R : Bool → Bool → List UInt8 → List Sp × List UInt8) (e k : Bool) (l : List UInt8) : Option (Sp × List UInt8) :=
  match l with
  | [] => none
  | c :: t =>
    if c.toNat = 42 then
      match (R true k t).2 with
      | d :: r => if d.toNat = 42 ∧ (R true k t).1 ≠ [] then some (⟨3, mtP, (R true k t).1⟩, r) else none
      | [] => none
    else if c.toNat = 91 ∧ k = false then
      match (R e true t).2 with
      | d :: r => if d.toNat = 93 ∧ (R e true t).1 ≠ [] then (toL D r).map (fun p => (⟨4, ⟨p.1.toArray⟩, (R e true t).1⟩, p.2)) else none
      | [] => none
    else if c.toNat = 96 then
      (codeL (ticksL (c :: t)) ((c :: t).length) [] ((c :: t).drop (ticksL (c :: t)))).map (fun p => (⟨2, ⟨(stripL p.1).toArray⟩, []⟩, p.2))
    else none
/-- Does reading end here? -/
def endB (e k : Bool) (c : UInt8) : Bool := (decide (c.toNat = 42) && e) || (decide (c.toNat = 93) && k)
/-- The spans that bytes tell, behind those that there are, and what is left. -/
def rdF (D : UInt8 → Bool) : Nat → Bool → Bool → List Sp → List UInt8 → List Sp × List UInt8
  | 0, _, _, acc, l => (acc, l)
  | n + 1, e, k, acc, l =>
    match l with
    | [] => (acc, [])
    | c :: t =>
      if endB e k c = true then (acc, c :: t)
      else match escL (c :: t) with
        | some (d, r) => rdF D n e k (putL acc [d]) r
        | none =>
          match enclL D (fun e k l => rdF D n e k [] l) e k (c :: t) with
          | some (x, r) => rdF D n e k (acc ++ [x]) r
          | none => rdF D n e k (putL acc ((c :: t).take (max 1 (ticksL (c :: t))))) ((c :: t).drop (max 1 (ticksL (c :: t))))
theorem escL_lt {l : List UInt8} {d : UInt8} {r : List UInt8} (h : escL l = some (d, r)) : r.length < l.length := by
  unfold escL at h
  split at h
  · split at h
    · injection h with h; injection h with _ h; subst h; simp only [List.length_cons]; omega
    · cases h
  · cases h
theorem codeL_le (n : Nat) : ∀ (k : Nat) (acc l : List UInt8) (a r : List UInt8), codeL n k acc l = some (a, r) → r.length ≤ l.length
  | 0, _, _, _, _, h => by rw [codeL] at h; cases h
  | k + 1, acc, [], _, _, h => by rw [codeL] at h; cases h
  | k + 1, acc, c :: t, a, r, h => by
    rw [codeL] at h
    split at h
    · cases h
    · split at h
      · injection h with h; injection h with _ h; subst h; rw [List.length_drop]; omega
      · have := codeL_le n k _ _ a r h
        rw [List.length_drop] at this; omega
theorem toL_le {D : UInt8 → Bool} {l a r : List UInt8} (h : toL D l = some (a, r)) : r.length ≤ l.length := by
  unfold toL at h
  split at h
  · rename_i c t
    split at h
    · split at h
      · rename_i d q hd
        split at h
        · injection h with h; injection h with _ h; subst h
          have := (List.dropWhile_sublist D (l := t)).length_le
          rw [hd] at this
          simp at this ⊢; omega
        · cases h
      · cases h
    · cases h
  · cases h
theorem enclL_lt {D : UInt8 → Bool} {R : Bool → Bool → List UInt8 → List Sp × List UInt8} {e k : Bool} {l : List UInt8} {x : Sp} {r : List UInt8} (hR : ∀ e k t, t.length < l.length → (R e k t).2.length ≤ t.length) (h : enclL D R e k l = some (x, r)) : r.length < l.length := by
  unfold enclL at h
  split at h
  · cases h
  · rename_i c t
    split at h
    · have h1 := hR true k t (by simp)
      split at h
      · rename_i d q hd
        split at h
        · injection h with h; injection h with _ h; subst h
          rw [hd] at h1; simp at h1 ⊢; omega
        · cases h
      · cases h
    · split at h
      · have h1 := hR e true t (by simp)
        split at h
        · rename_i d q hd
          split at h
          · cases ht : toL D q with
            | none => rw [ht] at h; cases h
            | some p =>
              rw [ht] at h
              injection h with h; injection h with _ h; subst h
              have := toL_le (a := p.1) (r := p.2) ht
              rw [hd] at h1; simp at h1 ⊢; omega
          · cases h
        · cases h
      · split at h
        · rename_i h96
          cases hc : codeL (ticksL (c :: t)) ((c :: t).length) [] ((c :: t).drop (ticksL (c :: t))) with
          | none => rw [hc] at h; cases h
          | some p =>
            rw [hc] at h
            injection h with h; injection h with _ h; subst h
            have := codeL_le _ _ _ _ p.1 p.2 hc
            have h2 : 1 ≤ ticksL (c :: t) := by rw [ticksL, if_pos h96]; omega
            rw [List.length_drop] at this
            simp at this ⊢; omega
        · cases h
theorem rdF_le (D : UInt8 → Bool) : ∀ (n : Nat) (e k : Bool) (acc : List Sp) (l : List UInt8), (rdF D n e k acc l).2.length ≤ l.length
  | 0, _, _, _, _ => by rw [rdF]; exact Nat.le_refl _
  | n + 1, e, k, acc, [] => by rw [rdF]; exact Nat.le_refl _
  | n + 1, e, k, acc, c :: t => by
    rw [rdF]
    split
    · exact Nat.le_refl _
    · split
      · rename_i d r hd
        exact Nat.le_trans (rdF_le D n e k _ r) (Nat.le_of_lt (escL_lt hd))
      · split
        · rename_i x r hx
          exact Nat.le_trans (rdF_le D n e k _ r) (Nat.le_of_lt (enclL_lt (fun e k t _ => rdF_le D n e k [] t) hx))
        · refine Nat.le_trans (rdF_le D n e k _ _) ?_
          rw [List.length_drop]; omega
/-- What is enclosed hangs on shorter bytes alone. -/
theorem enclL_congr {D : UInt8 → Bool} {R R' : Bool → Bool → List UInt8 → List Sp × List UInt8} {e k : Bool} {l : List UInt8} (hR : ∀ e k t, t.length < l.length → R e k t = R' e k t) : enclL D R e k l = enclL D R' e k l := by
  cases l with
  | nil => rfl
  | cons c t =>
    unfold enclL
    simp only [hR true k t (by simp), hR e true t (by simp)]
theorem rdF_more (D : UInt8 → Bool) : ∀ (n m : Nat) (e k : Bool) (acc : List Sp) (l : List UInt8), l.length ≤ n → l.length ≤ m → rdF D n e k acc l = rdF D m e k acc l := by
  intro n
  induction n with
  | zero =>
    intro m e k acc l h _
    obtain rfl : l = [] := List.eq_nil_of_length_eq_zero (by omega)
    cases m with
    | zero => rfl
    | succ m => rw [rdF, rdF]
  | succ n ih =>
    intro m e k acc l h h2
    cases l with
    | nil =>
      cases m with
      | zero => rw [rdF, rdF]
      | succ m => rw [rdF, rdF]
    | cons c t =>
      obtain ⟨m, rfl⟩ : ∃ j, m = j + 1 := ⟨m - 1, by simp at h2; omega⟩
      rw [List.length_cons] at h h2
      have hE : enclL D (fun e k l => rdF D n e k [] l) e k (c :: t) = enclL D (fun e k l => rdF D m e k [] l) e k (c :: t) := enclL_congr (fun e k t' ht => ih m e k [] t' (by simp at ht; omega) (by simp at ht; omega))
      rw [rdF, rdF, hE]
      split
      · rfl
      · split
        · rename_i d r hd
          have := escL_lt hd
          rw [List.length_cons] at this
          exact ih m e k _ r (by omega) (by omega)
        · split
          · rename_i x r hx
            have := enclL_lt (fun e k t _ => rdF_le D m e k [] t) hx
            rw [List.length_cons] at this
            exact ih m e k _ r (by omega) (by omega)
          · exact ih m e k _ _ (by rw [List.length_drop, List.length_cons]; omega) (by rw [List.length_drop, List.length_cons]; omega)
/-- The spans that bytes tell, and what is left. -/
def rdL (D : UInt8 → Bool) (e k : Bool) (acc : List Sp) (l : List UInt8) : List Sp × List UInt8 := rdF D l.length e k acc l
theorem rdL_nil (D : UInt8 → Bool) (e k : Bool) (acc : List Sp) : rdL D e k acc [] = (acc, []) := by unfold rdL; rw [List.length_nil, rdF]
theorem rdL_le (D : UInt8 → Bool) (e k : Bool) (acc : List Sp) (l : List UInt8) : (rdL D e k acc l).2.length ≤ l.length := rdF_le _ _ _ _ _ _
/-- One step. -/
theorem rdL_cons (D : UInt8 → Bool) (e k : Bool) (acc : List Sp) (c : UInt8) (t : List UInt8) : rdL D e k acc (c :: t) =
    if endB e k c = true then (acc, c :: t)
    else match escL (c :: t) with
      | some (d, r) => rdL D e k (putL acc [d]) r
      | none =>
        match enclL D (fun e k l => rdL D e k [] l) e k (c :: t) with
        | some (x, r) => rdL D e k (acc ++ [x]) r
        | none => rdL D e k (putL acc ((c :: t).take (max 1 (ticksL (c :: t))))) ((c :: t).drop (max 1 (ticksL (c :: t)))) := by
  unfold rdL
  have hE : enclL D (fun e k l => rdF D t.length e k [] l) e k (c :: t) = enclL D (fun e k l => rdF D l.length e k [] l) e k (c :: t) := enclL_congr (fun e k t' ht => rdF_more D _ _ e k [] t' (by simp at ht; omega) (Nat.le_refl _))
  rw [List.length_cons, rdF, hE]
  split
  · rfl
  · split
    · rename_i d r hd
      have := escL_lt hd
      rw [List.length_cons] at this
      exact rdF_more D _ _ e k _ r (by omega) (Nat.le_refl _)
    · split
      · rename_i x r hx
        have := enclL_lt (fun e k t _ => rdF_le D t.length e k [] t) hx
        rw [List.length_cons] at this
        exact rdF_more D _ _ e k _ r (by omega) (Nat.le_refl _)
      · exact rdF_more D _ _ e k _ _ (by rw [List.length_drop, List.length_cons]; omega) (Nat.le_refl _)
end Go.Proofs.YtmfffpfenhgjbaaDoor.Pure
