/- The law UtfClasses, as a statement of numbers and lists of bytes: classes, escapes and folded texts are as the reference has them. -/
import Derived.Test.YtmamjecpjookoaaDoorPUtfF
import Derived.Test.YtmamjecpjookoaaDoorX7
namespace Go.Proofs.YtmamjecpjookoaaDoor.Pure
open Go.RowKit Go.Lib Go.Proofs.YtmamjecpjookoaaDoor.X Go.Proofs.YtmamjecpjookoaaDoor.G Go.Proofs.YtmamjecpjookoaaDoorW.PrintWords Go.Proofs.YtmamjecpjookoaaDoorW.PrintLast Go.Proofs.YtmamjecpjookoaaDoorW.PrintMore
theorem UtfClasses (a0 a1 : Int) (a2 : ByteArray) (_h0 : (Lit.int .i64 a0).wf = true) (h1 : (Lit.int .u8 a1).wf = true) (h2 : a2.size ≤ 140737488351232) : ∃ k, emendationlaw01_UtfClasses.f k a0 a1 a2 = some true := by
  have hb0 : 0 ≤ a1 ∧ a1 ≤ 255 := by simpa [Lit.wf, IntKind.min, IntKind.max, IntKind.signed, IntKind.bits, Int.lt_add_one_iff] using h1
  have hb : 0 ≤ a1 ∧ a1 < 256 := by omega
  refine ⟨(a2.size + 40 + 9) + 1, ?_⟩
  unfold emendationlaw01_UtfClasses.f emendationlaw01_awake.f
  rw [Option.bind_some, if_pos rfl]
  simp only [emendationlaw01_UtfClasses.j0]
  by_cases h : (a2.size : Int) > 5000
  · rw [if_pos (by simpa using h)]; rfl
  · rw [if_neg (by simpa using h)]
    have hl : (⟨(foldV (L a2)).toArray⟩ : ByteArray).size ≤ a2.size := by rw [L_size, L_mk, L_size a2]; exact fold_length _
    rw [utf_Fold_eq a2 h2 _ (by omega), Option.bind_some, Class_eq, Option.bind_some, ref_Class_eq, Option.bind_some, if_pos rfl, Escapes_eq a1 hb.1 hb.2, Option.bind_some, wrap_small (by omega) (by omega), ref_Class_eq, Option.bind_some]
    rw [if_pos (by simp), ref_Fold_eq a2 h2 _ (by omega), Option.bind_some, if_pos rfl, utf_Fold_eq _ (by omega) _ (by omega), Option.bind_some, L_mk, fold_fold]
    simp
end Go.Proofs.YtmamjecpjookoaaDoor.Pure
