/- Definitions in plain words: what tree.Right answers of the blocks that TreeLabels makes. -/
import Derived.Test.YtbbkjdcpmhpkjaaDoorPTreeZ
set_option linter.unusedSimpArgs false
set_option linter.unusedVariables false
namespace Go.Proofs.YtbbkjdcpmhpkjaaDoor.Pure
open Go.RowKit Go.Lib Go.Proofs.YtbbkjdcpmhpkjaaDoor.X Go.Proofs.YtbbkjdcpmhpkjaaDoor.G Go.Proofs.YtbbkjdcpmhpkjaaDoorW.PrintWords Go.Proofs.YtbbkjdcpmhpkjaaDoorW.PrintLast Go.Proofs.YtbbkjdcpmhpkjaaDoorW.PrintMore
theorem validB_low : ∀ l : List UInt8, (∀ b ∈ l, b.toNat < 128) → validD l = true
  | [], _ => validD_nil
  | c :: t, h => by
    rw [validD_cons c t (h c List.mem_cons_self)]
    exact validB_low t (fun b hb => h b (List.mem_cons_of_mem _ hb))
theorem lettersB_range (b : UInt8) (h : letters.data.toList.contains b = true) : 0 < b.toNat ∧ b.toNat < 128 := by
  have H : ∀ n : Fin 256, letters.data.toList.contains (UInt8.ofNat n.val) = true → 0 < (UInt8.ofNat n.val).toNat ∧ (UInt8.ofNat n.val).toNat < 128 := by decide +kernel
  have := H ⟨b.toNat, b.toNat_lt⟩
  simp only [UInt8.ofNat_toNat] at this
  exact this h
/-- A place to go to is a text. -/
theorem checkB_dest (l : List UInt8) (h : destL l = true) (hl : l.length ≤ 1048576) : checkV l = 0 := by
  unfold destL at h
  have ha := List.all_eq_true.1 (Bool.and_eq_true_iff.1 h).2
  unfold checkV
  rw [if_neg (by omega), if_neg, if_pos (validB_low l (fun b hb => (lettersB_range b (ha b hb)).2))]
  intro hc
  have hm : (0 : UInt8) ∈ l := List.contains_iff_mem.1 hc
  exact absurd (lettersB_range 0 (ha 0 hm)).1 (by decide)
abbrev cB : ByteArray := ⟨#[99]⟩
theorem code_ok (e m : Bool) : allV [(⟨2, cB, []⟩ : S33)] 0 e m = true := by
  have h1 : L cB = [99] := rfl
  have h2 : checkV [99] = 0 := checkB_dest [99] (by decide +kernel) (by decide)
  rw [allV_cons, oneV_eq]
  simp only [h1, h2, decide_true, Bool.true_and, allV, Bool.and_true]
  rfl
theorem link_right (b : ByteArray) (hb : b.size ≤ 1000000) : rightL [(⟨4, b, [⟨2, cB, []⟩]⟩ : S33)] = destL (L b) := by
  unfold rightL
  rw [allV_cons, oneV_eq]
  have h4 : ¬((4 : Int) = 1) := by decide
  have h42 : ¬((4 : Int) = 2) := by decide
  have h43 : ¬((4 : Int) = 3) := by decide
  simp only [if_neg h4, if_neg h42, if_neg h43, if_pos]
  have he : endsOk [(⟨4, b, [⟨2, cB, []⟩]⟩ : S33)] = true := rfl
  rw [he, code_ok]
  cases hd : destL (L b) with
  | false => simp
  | true =>
    rw [checkB_dest (L b) hd (by have := L_size b; omega)]
    simp [allV]
theorem emptyB2 : (L mtB).isEmpty = true := rfl
theorem right_para (b : ByteArray) (hb : b.size ≤ 1000000) : rightB [(⟨1, 0, mtB, [], [⟨4, b, [⟨2, cB, []⟩]⟩], []⟩ : BK)] = destL (L b) := by
  unfold rightB
  rw [allB_cons, oneB_eq]
  have h5 : ¬((1 : Int) = 5 ∨ (1 : Int) = 6 ∨ (1 : Int) = 7) := by decide
  simp only [if_neg h5]
  unfold leafV
  rw [if_pos rfl, link_right b hb, dpBL_cons]
  simp only [if_neg h5, emptyB2, allB, dpBL]
  cases destL (L b) <;> rfl
/-- A definition. -/
theorem right_def (lv : Int) (a : ByteArray) (ls : List ByteArray) (c : List BK) (hc : c = [] ∨ c ≠ []) : rightB [(⟨8, lv, a, ls, [], c⟩ : BK)] = (decide (lv = 0) && (c.isEmpty && (labelV (L a) && (decide (ls.length = 1) && destL (L (ls.getD 0 ByteArray.empty)))))) := by
  unfold rightB
  rw [allB_cons, oneB_eq]
  have h5 : ¬((8 : Int) = 5 ∨ (8 : Int) = 6 ∨ (8 : Int) = 7) := by decide
  simp only [if_neg h5]
  unfold leafV
  rw [if_neg (by decide), if_neg (by decide), if_neg (by decide), if_neg (by decide), if_pos rfl]
  cases c with
  | nil =>
    rw [dpBL_cons]
    simp only [if_neg h5, allB, dpBL, List.isEmpty_nil]
    generalize labelV (L a) = p
    generalize destL (L (ls.getD 0 ByteArray.empty)) = z
    generalize decide (ls.length = 1) = n
    generalize decide (lv = 0) = k
    cases p <;> cases z <;> cases n <;> cases k <;> rfl
  | cons x t =>
    simp only [List.isEmpty_cons, Bool.false_and, Bool.and_false]
theorem dest_some (b : ByteArray) (h : destL (L b) = true) : (b.toList != ([] : List UInt8)) = true := by
  have : b.toList = L b := L_toList b
  rw [this]
  unfold destL at h
  cases hl : L b with
  | nil => rw [hl] at h; simp at h
  | cons => rfl
end Go.Proofs.YtbbkjdcpmhpkjaaDoor.Pure
