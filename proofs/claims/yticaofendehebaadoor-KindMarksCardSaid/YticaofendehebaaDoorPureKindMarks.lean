/- The law KindMarks, as a statement of bytes. -/
import Derived.Test.YticaofendehebaaDoorPAll
import Derived.Test.YticaofendehebaaDoorX11
set_option linter.unusedSimpArgs false
set_option linter.unusedVariables false
namespace Go.Proofs.YticaofendehebaaDoor.Pure
open Go.RowKit Go.Lib Go.Proofs.YticaofendehebaaDoor.X Go.Proofs.YticaofendehebaaDoor.G Go.Proofs.YticaofendehebaaDoorW.PrintWords Go.Proofs.YticaofendehebaaDoorW.PrintLast Go.Proofs.YticaofendehebaaDoorW.PrintMore
theorem KindMarks (a0 : ByteArray) (h0 : a0.size ≤ 140737488351232) : ∃ k, emendationlaw11_KindMarks.f k a0 = some true := by
  refine ⟨(2 * a0.size + 200) + 1, ?_⟩
  have hsl : a0.size = (L a0).length := L_size a0
  unfold emendationlaw11_KindMarks.f
  rw [awake11 _ (by omega), Option.bind_some, if_pos rfl, emendationlaw11_KindMarks.j0]
  by_cases h : (a0.size : Int) > 1000
  · rw [decide_eq_true h, if_pos rfl, awake11 _ (by omega)]; rfl
  · have hs : a0.size ≤ 1000 := by omega
    have z1 : ((⟨#[32, 32]⟩ : ByteArray) ++ a0).size = 2 + a0.size := by rw [size_append]; rfl
    have z2 : ((⟨#[62, 32]⟩ : ByteArray) ++ a0).size = 2 + a0.size := by rw [size_append]; rfl
    have z3 : ((⟨#[45, 32]⟩ : ByteArray) ++ a0).size = 2 + a0.size := by rw [size_append]; rfl
    have z4 : ((⟨#[62]⟩ : ByteArray) ++ a0).size = 1 + a0.size := by rw [size_append]; rfl
    have l1 : L ((⟨#[32, 32]⟩ : ByteArray) ++ a0) = 32 :: 32 :: L a0 := by rw [L_append]; rfl
    have l2 : L ((⟨#[62, 32]⟩ : ByteArray) ++ a0) = 62 :: 32 :: L a0 := by rw [L_append]; rfl
    have l3 : L ((⟨#[45, 32]⟩ : ByteArray) ++ a0) = 45 :: 32 :: L a0 := by rw [L_append]; rfl
    have l4 : L ((⟨#[62]⟩ : ByteArray) ++ a0) = 62 :: L a0 := by rw [L_append]; rfl
    obtain ⟨K, hK⟩ : ∃ K, K = 2 * a0.size + 200 := ⟨_, rfl⟩
    have hI := Inner_eq _ (show ((⟨#[32, 32]⟩ : ByteArray) ++ a0).size ≤ 1000000 by rw [z1]; omega)
    rw [l1, if_pos (show (32 :: 32 :: L a0).take 2 = [32, 32] from rfl), show (32 :: 32 :: L a0).drop 2 = L a0 from rfl] at hI
    have hQ := Of_eq _ K (show ((⟨#[62, 32]⟩ : ByteArray) ++ a0).size ≤ 1000000 by rw [z2]; omega) (by rw [z2]; omega)
    have hU := Unquote_eq _ K (show ((⟨#[62, 32]⟩ : ByteArray) ++ a0).size ≤ 1000000 by rw [z2]; omega) (by rw [z2]; omega)
    rw [l2, kind_quote] at hQ
    rw [l2, kind_quote, if_pos rfl, bare_space] at hU
    have hT := Of_eq _ K (show ((⟨#[45, 32]⟩ : ByteArray) ++ a0).size ≤ 1000000 by rw [z3]; omega) (by rw [z3]; omega)
    have hV := Unitem_eq _ K (show ((⟨#[45, 32]⟩ : ByteArray) ++ a0).size ≤ 1000000 by rw [z3]; omega) (by rw [z3]; omega)
    rw [l3, kind_item] at hT
    rw [l3, kind_item, if_pos rfl, bare_space] at hV
    have hL : (⟨(L a0).toArray⟩ : ByteArray).toList = a0.toList := by rw [L_toList, L_toList, L_mk]
    rw [← hK, decide_eq_false h, if_neg (by decide), if_pos (by omega), hI, Option.bind_some, hQ, Option.bind_some, if_pos rfl, hU, Option.bind_some, if_pos hL, hT, Option.bind_some, if_pos rfl, hV, Option.bind_some, if_pos hL]
    dsimp only
    rw [if_pos hL, if_pos rfl, L_toList]
    by_cases he : L a0 = []
    · rw [if_pos he]
    rw [if_neg he]
    obtain ⟨b, t, hbt⟩ : ∃ b t, L a0 = b :: t := by
      cases hh : L a0 with
      | nil => exact absurd hh he
      | cons b t => exact ⟨b, t, rfl⟩
    have hb : bt a0 0 = (b.toNat : Int) := bt_d a0 0 b t (by rw [List.drop_zero]; exact hbt)
    rw [if_pos (by rw [hsl, hbt, List.length_cons]; omega), hb]
    by_cases g : (b.toNat : Int) = 32
    · rw [if_pos g]
    · rw [if_neg g, if_pos (by omega), Unquote_eq _ K (by rw [z4]; omega) (by rw [z4]; omega), Option.bind_some, l4, kind_quote, if_pos rfl, bare_other 62 (L a0) (by
        rw [hbt]
        intro q
        exact g ((b32 b).2 (Option.some.inj q)))]
      rw [L_toList, L_mk, beq_self_eq_true]
end Go.Proofs.YticaofendehebaaDoor.Pure
