/- A definition of a label and a place: what the program tells of the line, and whether the block is in normal form. -/
import Derived.Test.YticaofendehebaaDoorPAll
import Derived.Test.YticaofendehebaaDoorPKindR0
import Derived.Test.YticaofendehebaaDoorX11
import Derived.Test.YticaofendehebaaDoorGivenDef
set_option linter.unusedSimpArgs false
set_option linter.unusedVariables false
namespace Go.Proofs.YticaofendehebaaDoor.Pure
open Go.RowKit Go.Lib Go.Proofs.YticaofendehebaaDoor.X Go.Proofs.YticaofendehebaaDoor.G Go.Proofs.YticaofendehebaaDoorW.PrintWords Go.Proofs.YticaofendehebaaDoorW.PrintLast Go.Proofs.YticaofendehebaaDoorW.PrintMore
/-- A line of a definition. -/
def defLine (a b : List UInt8) : List UInt8 := 91 :: (a ++ 93 :: 58 :: 32 :: b)
theorem occ_at (a b : List UInt8) : Lib.occAt (defLine a b) sepL (a.length + 1) = true := by
  unfold Lib.occAt defLine
  rw [List.drop_succ_cons, List.drop_left]
  rfl
theorem defLine_len (a b : List UInt8) : (defLine a b).length = a.length + b.length + 4 := by
  unfold defLine
  simp
  omega
theorem defLine_label (a b : List UInt8) : ((defLine a b).take (a.length + 1)).drop 1 = a := by
  unfold defLine
  rw [List.take_succ_cons, List.drop_succ_cons, List.drop_zero, List.take_left]
theorem defLine_to (a b : List UInt8) : (defLine a b).drop (a.length + 1 + 3) = b := by
  unfold defLine
  rw [show a.length + 1 + 3 = (a.length + 3) + 1 by omega, List.drop_succ_cons, List.drop_append]
  rw [List.drop_of_length_le (by omega), List.nil_append, show a.length + 3 - a.length = 3 by omega]
  rfl
theorem dest_no_space (l : List UInt8) (h : destL l = true) : (32 : UInt8) ∉ l := by
  intro hm
  unfold destL at h
  have := List.all_eq_true.1 (Bool.and_eq_true_iff.1 h).2 32 hm
  exact absurd this (by decide +kernel)
theorem dest_ne (l : List UInt8) (h : destL l = true) : 0 < l.length := by
  cases l with
  | nil => cases h
  | cons => rw [List.length_cons]; omega
theorem def_at (a b : List UInt8) (h1 : labelV a = true) (h2 : destL b = true) : defAt (defLine a b) (a.length + 1) = true := by
  have hb := dest_ne b h2
  have hl := defLine_len a b
  unfold defAt
  rw [decide_eq_true (show 1 ≤ a.length + 1 by omega), decide_eq_true (show a.length + 1 + 3 < (defLine a b).length by omega), decide_eq_true (show (defLine a b)[0]? = some 91 from rfl), occ_at, defLine_label, defLine_to, h1, h2]
  rfl
theorem def_only (a b : List UInt8) (j : Nat) (h : defAt (defLine a b) j = true) : labelV a = true ∧ destL b = true := by
  have hi := defAt_index h
  obtain ⟨h1, h2, h3, h4, h5, h6⟩ := defAt_facts h
  have hle : j ≤ a.length + 1 := by
    rcases Nat.lt_or_ge (a.length + 1) j with g | g
    · exfalso
      rcases Lib.index_spec (defLine a b) sepL with ⟨e1, _⟩ | ⟨i, e1, e2, e3, e4⟩
      · rw [hi] at e1; omega
      · rw [hi] at e1
        have : j = i := Int.ofNat.inj e1
        subst this
        have := e4 (a.length + 1) g
        rw [occ_at] at this
        cases this
    · exact g
  rcases Nat.lt_or_ge j (a.length + 1) with g | g
  · exfalso
    refine dest_no_space _ h6 (List.mem_iff_getElem?.2 ⟨a.length + 3 - (j + 3), ?_⟩)
    rw [List.getElem?_drop, show j + 3 + (a.length + 3 - (j + 3)) = (a.length + 2) + 1 by omega]
    unfold defLine
    rw [List.getElem?_cons_succ, List.getElem?_append_right (by omega), show a.length + 2 - a.length = 2 by omega]
    rfl
  · obtain rfl : j = a.length + 1 := by omega
    rw [defLine_label] at h5
    rw [defLine_to] at h6
    exact ⟨h5, h6⟩
theorem defV_line (a b : List UInt8) : defV (defLine a b) = if (labelV a && destL b) = true then (a, b, true) else ([], [], false) := by
  by_cases h : (labelV a && destL b) = true
  · have h2 := Bool.and_eq_true_iff.1 h
    rw [if_pos h, defV_hit (def_at a b h2.1 h2.2), defLine_label, defLine_to]
  · rw [if_neg h]
    refine defV_none (fun j => ?_)
    cases hd : defAt (defLine a b) j with
    | false => rfl
    | true =>
      have := def_only a b j hd
      rw [this.1, this.2] at h
      exact absurd rfl h
theorem kind_bracket (t : List UInt8) : kindV (91 :: t) = if (defV (91 :: t)).2.2 = true then 7 else 8 := by
  have r35 : run (91 :: t) 35 = 0 := run_zero (fun x hx q => by simp at hx; subst hx; cases q)
  have r45 : run (91 :: t) 45 = 0 := run_zero (fun x hx q => by simp at hx; subst hx; cases q)
  have r96 : run (91 :: t) 96 = 0 := run_zero (fun x hx q => by simp at hx; subst hx; cases q)
  have e1 : headN (91 :: t) = 0 := by unfold headN; rw [r35]; split <;> rfl
  have e2 : openN (91 :: t) = 0 := by unfold openN; rw [r96]; split <;> rfl
  have g3 : ¬ (3 ≤ (91 :: t).length ∧ 0 = (91 :: t).length) := by rw [List.length_cons]; omega
  have g5 : ¬ (91 :: t)[0]? = some 62 := by rw [List.getElem?_cons_zero]; decide
  have g6 : ¬ (91 :: t = [45] ∨ (91 :: t).take 2 = [45, 32]) := by
    rintro (h | h)
    · exact absurd (List.cons.inj h).1 (by decide)
    · cases t with
      | nil => cases h
      | cons c t => exact absurd (List.cons.inj h).1 (by decide)
  unfold kindV
  rw [if_neg (trim_some List.mem_cons_self (by decide)), e1, r45, e2, if_neg (Nat.lt_irrefl 0), if_neg g3, if_neg (Nat.lt_irrefl 0), if_neg g5, if_neg g6]
/-- What kind.Define tells of a definition's line. -/
theorem Define_line (s : ByteArray) (a b : List UInt8) (hs : L s = defLine a b) (hz : s.size ≤ 1000000) (k : Nat) (hk : s.size + 10 < k) :
    ∃ r, kind_Define.f k s = some r ∧ (r.1 == 8) = (labelV a && destL b) ∧ ((labelV a && destL b) = true → L r.2.2.1 = a ∧ ∃ y, r.2.2.2.1 = [y] ∧ L y = b) := by
  have hd := defV_line a b
  have hk2 := kind_bracket (a ++ 93 :: 58 :: 32 :: b)
  change kindV (defLine a b) = if (defV (defLine a b)).2.2 = true then 7 else 8 at hk2
  unfold kind_Define.f
  rw [Of_eq s k hz hk, Option.bind_some, hs, hk2, hd]
  cases h : (labelV a && destL b) with
  | true =>
    rw [if_pos rfl, if_pos rfl, if_pos rfl]
    obtain ⟨x, y, hx, hxy⟩ := define_eq s k hz (by omega)
    rw [hs, hd, h, if_pos rfl] at hxy hx
    obtain ⟨e1, e2⟩ := hxy rfl
    rw [hx, Option.bind_some]
    exact ⟨_, rfl, rfl, fun _ => ⟨e1, y, rfl, e2⟩⟩
  | false =>
    have e : (if (false = true) then (a, b, true) else (([] : List UInt8), ([] : List UInt8), false)) = ([], [], false) := if_neg (by decide)
    rw [e, if_neg (show ¬ (false = true) by decide), if_neg (show ¬ ((8 : Int) = 7) by decide)]
    exact ⟨_, rfl, rfl, fun q => by cases q⟩
/-- A definition of a label and a place is in normal form just if that is a label, and this a place. -/
theorem Right_def (a b : ByteArray) (ha : a.size ≤ 1000000) (hb : b.size ≤ 1000000) (k : Nat) (hk : 2 * a.size + 20 * b.size + 100 < k) :
    emendationref10_Right.f k [(⟨8, 0, a, [b], [], []⟩ : S32)] = some (labelV (L a) && destL (L b)) := by
  have hL := Label10_eq a (by omega) k (by omega)
  have hD := ref_dest_eq b (by omega) k (by omega)
  show (if isDef (⟨8, 0, a, [b], [], []⟩ : S32) = true then defRight k (⟨8, 0, a, [b], [], []⟩ : S32) else none) = _
  rw [if_pos (by rfl)]
  show ((emendationref10_Label.f k a).bind fun t => if t = true then (emendationref07_Dest.f k b) else some false) = _
  rw [hL, Option.bind_some, hD]
  cases labelV (L a) <;> rfl
end Go.Proofs.YticaofendehebaaDoor.Pure
