/- Scripts in plain words: the entries that bytes tell. -/
import Derived.Test.YtgiobiljneijiaaDoorBase
set_option linter.unusedVariables false
namespace Go.Proofs.YtgiobiljneijiaaDoor.Pure
open Go.RowKit Go.Proofs.YtgiobiljneijiaaDoorW.PrintWords Go.Proofs.YtgiobiljneijiaaDoorW.PrintLast Go.Proofs.YtgiobiljneijiaaDoorW.PrintMore
abbrev mtS : ByteArray := ⟨#[]⟩
/-- An entry of a script. -/
structure Ent where
  kind : Int
  what : Int
  size : Int
  name : ByteArray
  text : ByteArray
  n0 : ByteArray
  n1 : ByteArray
  n2 : ByteArray
/-- Its cells. -/
def Ent.cells (x : Ent) : List Value := [.int .i64 x.kind, .int .i64 x.what, .int .i64 x.size, .string x.name, .string x.text, .string x.n0, .string x.n1, .string x.n2]
/-- The name that a byte tells. -/
def nameB (n : Nat) : ByteArray := ⟨#[102, UInt8.ofNat (48 + n % 8)]⟩
/-- The entry of a kind that begins bytes, and what is behind it. -/
def entryL (k : Nat) (l : List UInt8) : Option (Ent × List UInt8) :=
  if k = 1 then
    match l with
    | n :: m :: t => if m.toNat ≤ t.length then some (⟨1, 0, 0, nameB n.toNat, ⟨(t.take m.toNat).toArray⟩, mtS, mtS, mtS⟩, t.drop m.toNat) else none
    | _ => none
  else if k = 2 then
    match l with
    | a :: n :: t => some (⟨2, ((a.toNat % 3 : Nat) : Int), 0, nameB n.toNat, mtS, mtS, mtS, mtS⟩, t)
    | _ => none
  else
    match l with
    | a :: b :: c :: s :: t => some (⟨3, 0, (s.toNat : Int), mtS, mtS, nameB a.toNat, nameB b.toNat, nameB c.toNat⟩, t)
    | _ => none
theorem entryL_lt {k : Nat} {l : List UInt8} {x : Ent} {r : List UInt8} (h : entryL k l = some (x, r)) : r.length < l.length := by
  unfold entryL at h
  split at h
  · split at h
    · split at h
      · injection h with h; injection h with _ h; subst h; simp; omega
      · cases h
    · cases h
  · split at h
    · split at h
      · injection h with h; injection h with _ h; subst h; simp; omega
      · cases h
    · split at h
      · injection h with h; injection h with _ h; subst h; simp; omega
      · cases h
/-- The entries that bytes tell. -/
def decodeL (l : List UInt8) : List Ent :=
  match l with
  | [] => []
  | k :: t =>
    if k.toNat < 1 ∨ 3 < k.toNat then decodeL t
    else match h : entryL k.toNat t with
      | none => []
      | some (x, r) => x :: decodeL r
termination_by l.length
decreasing_by
  · simp
  · have := entryL_lt h; simp; omega
theorem decodeL_nil : decodeL [] = [] := by rw [decodeL]
theorem decodeL_odd (k : UInt8) (t : List UInt8) (h : k.toNat < 1 ∨ 3 < k.toNat) : decodeL (k :: t) = decodeL t := by rw [decodeL, if_pos h]
theorem decodeL_none (k : UInt8) (t : List UInt8) (h : ¬(k.toNat < 1 ∨ 3 < k.toNat)) (he : entryL k.toNat t = none) : decodeL (k :: t) = [] := by
  rw [decodeL, if_neg h]
  split
  · rfl
  · rename_i x r hx; rw [he] at hx; cases hx
theorem decodeL_some (k : UInt8) (t : List UInt8) (h : ¬(k.toNat < 1 ∨ 3 < k.toNat)) {x : Ent} {r : List UInt8} (he : entryL k.toNat t = some (x, r)) : decodeL (k :: t) = x :: decodeL r := by
  rw [decodeL, if_neg h]
  split
  · rename_i hx; rw [he] at hx; cases hx
  · rename_i x' r' hx
    rw [he] at hx
    injection hx with hx
    injection hx with h1 h2
    subst h1
    subst h2
    rfl
theorem decodeL_odds (o : UInt8) (h : o.toNat < 1 ∨ 3 < o.toNat) (t : List UInt8) : ∀ n, decodeL (List.replicate n o ++ t) = decodeL t
  | 0 => by simp
  | n + 1 => by rw [List.replicate_succ, List.cons_append, decodeL_odd o _ h, decodeL_odds o h t n]
/-- The entries that ScriptEntries lays for a name. -/
def laidE (text : List UInt8) (size odd n : UInt8) : List UInt8 := [odd, 1, n, UInt8.ofNat text.length] ++ text ++ [2, UInt8.ofNat (n.toNat % 3), n, 3, n, n, n, size]
def threeE (text : List UInt8) (size n : UInt8) : List Ent :=
  [⟨1, 0, 0, nameB n.toNat, ⟨text.toArray⟩, mtS, mtS, mtS⟩, ⟨2, ((n.toNat % 3 : Nat) : Int), 0, nameB n.toNat, mtS, mtS, mtS, mtS⟩, ⟨3, 0, (size.toNat : Int), mtS, mtS, nameB n.toNat, nameB n.toNat, nameB n.toNat⟩]
theorem decodeL_laid (text : List UInt8) (size odd n : UInt8) (t : List UInt8) (h : odd.toNat < 1 ∨ 3 < odd.toNat) (ht : text.length ≤ 200) : decodeL (laidE text size odd n ++ t) = threeE text size n ++ decodeL t := by
  have e1 : (UInt8.ofNat text.length).toNat = text.length := by rw [UInt8.toNat_ofNat']; omega
  have e2 : (UInt8.ofNat (n.toNat % 3)).toNat = n.toNat % 3 := by rw [UInt8.toNat_ofNat']; omega
  unfold laidE threeE
  simp only [List.cons_append, List.nil_append, List.append_assoc]
  rw [decodeL_odd odd _ h]
  rw [decodeL_some 1 _ (by decide) (x := ⟨1, 0, 0, nameB n.toNat, ⟨text.toArray⟩, mtS, mtS, mtS⟩) (r := 2 :: UInt8.ofNat (n.toNat % 3) :: n :: 3 :: n :: n :: n :: size :: t)
    (by
      unfold entryL
      rw [if_pos (by decide)]
      simp only [e1]
      rw [if_pos (by simp)]
      simp)]
  rw [decodeL_some 2 _ (by decide) (x := ⟨2, ((n.toNat % 3 : Nat) : Int), 0, nameB n.toNat, mtS, mtS, mtS, mtS⟩) (r := 3 :: n :: n :: n :: size :: t)
    (by
      unfold entryL
      rw [if_neg (by decide), if_pos (by decide)]
      simp only [e2]
      simp)]
  rw [decodeL_some 3 _ (by decide) (x := ⟨3, 0, (size.toNat : Int), mtS, mtS, nameB n.toNat, nameB n.toNat, nameB n.toNat⟩) (r := t)
    (by
      unfold entryL
      rw [if_neg (by decide), if_neg (by decide)])]
end Go.Proofs.YtgiobiljneijiaaDoor.Pure
