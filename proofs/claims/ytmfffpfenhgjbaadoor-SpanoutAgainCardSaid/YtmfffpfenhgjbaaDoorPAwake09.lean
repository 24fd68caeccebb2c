/- Writing, as the laws of chapter 9 ask of it. -/
import Derived.Test.YtmfffpfenhgjbaaDoorPParse
import Derived.Test.YtmfffpfenhgjbaaDoorPSpanS
import Derived.Test.YtmfffpfenhgjbaaDoorPWriteF
import Derived.Test.YtmfffpfenhgjbaaDoorGivenWrite
import Derived.Test.YtmfffpfenhgjbaaDoorX15
set_option linter.unusedSimpArgs false
set_option linter.unusedVariables false
namespace Go.Proofs.YtmfffpfenhgjbaaDoor.Pure
open Go.RowKit Go.Lib Go.Proofs.YtmfffpfenhgjbaaDoor.X Go.Proofs.YtmfffpfenhgjbaaDoor.G Go.Proofs.YtmfffpfenhgjbaaDoorW.PrintWords Go.Proofs.YtmfffpfenhgjbaaDoorW.PrintLast Go.Proofs.YtmfffpfenhgjbaaDoorW.PrintMore
theorem wr_wt (n : Nat) : ∀ l : List Sp, SizeOf.sizeOf l < n → (wrL l).length ≤ 4 * wtL l := by
  induction n with
  | zero => intro l h; omega
  | succ n ih =>
    intro l
    induction l with
    | nil => intro _; rw [wrL]; simp
    | cons x t iht =>
      intro h
      have h1 := size_kids x t
      have h2 := size_tail x t
      have g1 := ih x.f2 (by omega)
      have g2 := iht (by omega)
      have hs := L_size x.f1
      rw [wrL_cons, List.length_append, wtL_cons, wrV_eq]
      split
      · have := escW_le (L x.f1); omega
      · split
        · have hf := fenceL_le (L x.f1)
          have hp : (padL (L x.f1)).length ≤ (L x.f1).length + 2 := by
            unfold padL; split
            · simp only [List.length_cons, List.length_append, List.length_nil]; omega
            · omega
          rw [List.length_append, List.length_append, List.length_replicate]
          omega
        · split
          · rw [List.length_cons, List.length_append, List.length_singleton]; omega
          · have h93 : ([93, 40] : List UInt8).length = 2 := rfl
            rw [List.length_cons, List.length_append, List.length_append, List.length_append, List.length_singleton]; omega
theorem wr_len (l : List Sp) : (wrL l).length ≤ 4 * wtL l := wr_wt _ l (Nat.lt_succ_self _)
theorem Write_eq (l : List Sp) (h : wtL l ≤ 200000) : spanout_Write.f l = some (if rightL l = true then (⟨(wrL l).toArray⟩, 0) else (⟨#[]⟩, 6)) := by
  have hl := wr_len l
  unfold spanout_Write.f span_Right.f
  rw [if_pos (by omega), Option.bind_some]
  cases rightL l with
  | true => rw [if_pos rfl, if_pos (by omega), if_pos rfl]
  | false => rw [if_neg (by decide), if_neg (by decide)]
/-- What is written is read as it was. -/
theorem parse_back (l : List Sp) (h : rightL l = true) : parseL (wrL l) = l := by
  have h1 := (Bool.and_eq_true_iff.1 h).1
  have := back _ l 0 false false [] [] (Nat.lt_succ_self _) h1 (fun x hx => by cases hx) (fun _ => rfl) (fun c hc => by cases hc)
  rw [List.append_nil, List.nil_append, rdL_nil] at this
  unfold parseL
  rw [this]
theorem size_mk (l : List UInt8) : (⟨l.toArray⟩ : ByteArray).size = l.length := by rw [L_size, L_mk]
theorem wt_nil : wtL ([] : List Sp) = 0 := by rw [wtL]
theorem awake09 : emendationlaw09_awake.f = some true := by
  have hr : rightL [(⟨1, (⟨#[97, 42, 98]⟩ : ByteArray), []⟩ : Sp)] = true := by decide
  have hw : wtL [(⟨1, (⟨#[97, 42, 98]⟩ : ByteArray), []⟩ : Sp)] ≤ 200000 := by
    rw [wtL_cons, wt_nil]; decide
  have hwr : wrL [(⟨1, (⟨#[97, 42, 98]⟩ : ByteArray), []⟩ : Sp)] = [97, 92, 42, 98] := by decide
  have hf : spanout_Fence.f (⟨#[96]⟩ : ByteArray) = some 2 := by
    unfold spanout_Fence.f
    rw [if_pos (by decide)]
    decide
  unfold emendationlaw09_awake.f
  rw [Write_eq _ hw, hr, if_pos rfl, Option.bind_some, hwr, if_pos (by decide), if_pos (by rw [L_toList]; rfl), hf]
  rfl
/-- Few enough to be looked at. -/
def few9 (l : List Sp) : Bool := decide (spendL l 30 5000 0 < 300)
theorem few9_wt (l : List Sp) (ho : okL l) (h : few9 l = true) : wtL l < 300 := by
  unfold few9 at h
  have h1 := of_decide_eq_true h
  have := spend_wt _ l 30 5000 0 (Nat.lt_succ_self _) ho (by omega) (by omega) (by omega)
  omega
theorem few09 (l : List Sp) (k : Nat) (ho : okL l) (hl : l.length ≤ 140737488351232) (hk : 2 * wtL l + 1 < k) : emendationlaw09_few.f k l = some (few9 l) := by
  unfold emendationlaw09_few.f
  rw [Size_eq l k ho hl hk]
  rfl
end Go.Proofs.YtmfffpfenhgjbaaDoor.Pure
