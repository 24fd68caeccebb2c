/- The law SpaninReads, as a statement of bytes. -/
import Derived.Test.YtmfffpfenhgjbaaDoorPParse
import Derived.Test.YtmfffpfenhgjbaaDoorPReadR
import Derived.Test.YtmfffpfenhgjbaaDoorX11
set_option linter.unusedSimpArgs false
set_option linter.unusedVariables false
namespace Go.Proofs.YtmfffpfenhgjbaaDoor.Pure
open Go.RowKit Go.Lib Go.Proofs.YtmfffpfenhgjbaaDoor.X Go.Proofs.YtmfffpfenhgjbaaDoor.G Go.Proofs.YtmfffpfenhgjbaaDoorW.PrintWords Go.Proofs.YtmfffpfenhgjbaaDoorW.PrintLast Go.Proofs.YtmfffpfenhgjbaaDoorW.PrintMore
theorem ticks_any (s : ByteArray) (x : Int) (k : Nat) (hs : s.size ≤ 300) (hk : 400 < k) (hx : -9223372036854775808 ≤ x ∧ x ≤ 9223372036854775807) : ∃ t, spanin_Ticks.f k s x = some t ∧ emendationref08_Ticks.f k s x = some t := by
  by_cases h0 : x < 0
  · refine ⟨0, ?_, ?_⟩
    · unfold spanin_Ticks.f; rw [if_pos h0]
    · obtain ⟨k, rfl⟩ : ∃ m, k = m + 1 := ⟨k - 1, by omega⟩
      unfold emendationref08_Ticks.f
      rw [emendationref08_Ticks.l0, if_neg (by omega)]
  · by_cases h1 : x < (s.size : Int)
    · obtain ⟨i, rfl⟩ : ∃ i : Nat, x = (i : Int) := ⟨x.toNat, by omega⟩
      exact ⟨_, Ticks_eq s i k (by omega) (by omega), refTicks_eq s i k (by omega) (by omega) (by omega)⟩
    · refine ⟨0, ?_, ?_⟩
      · unfold spanin_Ticks.f; rw [if_neg h0, if_pos (by omega)]
      · obtain ⟨k, rfl⟩ : ∃ m, k = m + 1 := ⟨k - 1, by omega⟩
        unfold emendationref08_Ticks.f
        rw [emendationref08_Ticks.l0, if_pos (by omega), Int.add_zero, wrap_small hx.1 hx.2, if_neg h1]
theorem SpaninReads (a0 : ByteArray) (a1 : Int) (h0 : a0.size ≤ 140737488351232) (h1 : (Lit.int .i64 a1).wf = true) : ∃ k, emendationlaw08_SpaninReads.f k a0 a1 = some true := by
  have hx : -9223372036854775808 ≤ a1 ∧ a1 ≤ 9223372036854775807 := by simpa [Lit.wf, IntKind.min, IntKind.max, IntKind.signed, IntKind.bits, Int.lt_add_one_iff] using h1
  refine ⟨2000 + 1, ?_⟩
  unfold emendationlaw08_SpaninReads.f
  rw [awake08 _ (by omega), Option.bind_some, if_pos rfl, emendationlaw08_SpaninReads.j0]
  by_cases h : (a0.size : Int) > 300
  · rw [if_pos (decide_eq_true h), awake08 _ (by omega)]; rfl
  · obtain ⟨t, e1, e2⟩ := ticks_any a0 a1 2000 (by omega) (by omega) hx
    rw [if_neg (by simpa using h), Parse_eq a0 (by omega), Option.bind_some, ref_Parse_eq a0 (by omega), Option.bind_some]
    unfold emendationref07_Same.f
    rw [Option.bind_some, same_refl, if_pos rfl, Clean_eq a0 2000 (by omega) (by omega), Option.bind_some, ref_Clean_eq a0 2000 (by omega) (by omega), Option.bind_some, if_pos (by simp), e1, Option.bind_some, e2, Option.bind_some]
    simp
end Go.Proofs.YtmfffpfenhgjbaaDoor.Pure
