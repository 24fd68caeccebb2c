/- The given contract of span.Same: slices.EqualFunc over a closure that calls span.Same again; whether spans are alike. -/
import Derived.Test.YtmfffpfenhgjbaaDoorX0
import Derived.BigCall
import Derived.Lib.IndexAny
import Derived.Outline
set_option linter.unusedVariables false
namespace Go.Proofs.YtmfffpfenhgjbaaDoor.G
open Go.RowKit Go.Lib Go.Proofs Go.Proofs.YtmfffpfenhgjbaaDoor.X Go.Proofs.YtmfffpfenhgjbaaDoorW.PrintWords Go.Proofs.YtmfffpfenhgjbaaDoorW.PrintLast Go.Proofs.YtmfffpfenhgjbaaDoorW.PrintMore
mutual
/-- Whether spans are alike. -/
def sameV : S26 → S26 → Bool
  | ⟨k, s, c⟩, ⟨k', s', c'⟩ => (k == k') && ((s.data.toList == s'.data.toList) && sameL c c')
def sameL : List S26 → List S26 → Bool
  | [], [] => true
  | x :: a, y :: b => sameV x y && sameL a b
  | _, _ => false
end
theorem sameL_length : ∀ (a b : List S26), a.length ≠ b.length → sameL a b = false
  | [], [], h => absurd rfl h
  | x :: a, [], _ => by simp [sameL]
  | [], y :: b, _ => by simp [sameL]
  | x :: a, y :: b, h => by
    simp only [sameL]
    rw [sameL_length a b (fun e => h (by simp [e]))]
    simp
theorem sameL_at : ∀ (a b : List S26) (i : Nat) (ha : i < a.length) (hb : i < b.length), sameL (a.drop i) (b.drop i) = (sameV a[i] b[i] && sameL (a.drop (i + 1)) (b.drop (i + 1))) := by
  intro a b i ha hb
  rw [List.drop_eq_getElem_cons ha, List.drop_eq_getElem_cons hb]
  simp [sameL]
theorem same_kids_lt (l : List S26) (i : Nat) (h : i < l.length) : SizeOf.sizeOf (l[i]).f2 < SizeOf.sizeOf l := by
  have h1 := List.sizeOf_lt_of_mem (List.getElem_mem h)
  generalize l[i] = x at h1 ⊢
  obtain ⟨a, b, c⟩ := x
  have : SizeOf.sizeOf (S26.mk a b c) = 1 + SizeOf.sizeOf a + SizeOf.sizeOf b + SizeOf.sizeOf c := S26.mk.sizeOf_spec a b c
  show SizeOf.sizeOf c < _
  omega
theorem same_alloc (w : World) (o : Obj) : (w.alloc o).heap.size = w.heap.size + 1 := by
  show (w.heap.push o).size = _
  exact Array.size_push _
end Go.Proofs.YtmfffpfenhgjbaaDoor.G
