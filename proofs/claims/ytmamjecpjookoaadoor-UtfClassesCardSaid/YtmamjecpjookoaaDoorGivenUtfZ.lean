/- The given contract of emendationlaw01.awake: it returns true. Its literal '[]byte("a\x00")' is a row with a conversion's mark, which no printed form tells: this walk is by hand, over the printed contracts of its callees (the set Y). -/
import Derived.Test.YtmamjecpjookoaaDoorGivenUtf
import Derived.Test.YtmamjecpjookoaaDoorY
import Derived.Lib.SlBytesConst
set_option linter.unusedVariables false
namespace Go.Proofs.YtmamjecpjookoaaDoor.G
open Go.Shelf Go.RowKit Go.Lib Go.Proofs Go.Proofs.YtmamjecpjookoaaDoorW.PrintWords Go.Proofs.YtmamjecpjookoaaDoorW.PrintLast Go.Proofs.YtmamjecpjookoaaDoorW.PrintMore

theorem constC (w : World) : Kd.C (Kd.int .u8) (w.alloc (.cells #[.int .u8 97, .int .u8 0] 5 (2, 3))) (some ⟨w.heap.size, 0, none⟩) 2 [97, 0] := by
  refine Kd.C_of_reads (d := (0 : Int)) ⟨rfl, by omega, fun _ => ⟨_, rfl, fun j hj => ?_⟩⟩
  rw [Go.WideShapes.add_plain]
  have h : (w.alloc (.cells #[.int .u8 97, .int .u8 0] 5 (2, 3))).heap[w.heap.size]? = some (.cells #[.int .u8 97, .int .u8 0] 5 (2, 3)) := by
    show (w.heap.push _)[w.heap.size]? = _
    simp
  unfold World.cell?
  simp only [h]
  rcases j with _ | _ | j
  · rfl
  · rfl
  · omega
def emendationlaw01_awake.f : Option Bool := some true
set_option maxHeartbeats 8000000 in
set_option maxRecDepth 100000 in
theorem emendationlaw01_awake.calls (r : Bool) (w : World) (hT : Tabs w) (h : emendationlaw01_awake.f = some r) :
    Calls Tryd.prog 10 #[] w fun e w' => e = .returned (.bool r) ∧ Below w.heap.size w w' := by
  obtain rfl := Option.some.inj h
  have c1 := Y.utf_Next.calls 5 ⟨#[195, 169]⟩ 0 233 2 w hT (by kernel_rfl)
  go_enter Tryd.func10, Tryd.ntmps10
  go_wp2_with (go_at_call 13; go_must (refine c1.mono ?_; rintro e w1 ⟨rfl, hb1⟩))
  rw [Lib.run_convert_bytes_const w1 25 5 #[.int .u8 97, .int .u8 0] 2 2 Tryd.underlying25 Tryd.underlying5]
  simp only [Result.andThen]
  rw [Oper.upon_value]
  have hb2 : Below w.heap.size w (w1.alloc (.cells #[.int .u8 97, .int .u8 0] 5 (2, 3))) := hb1.alloc hb1.size _
  have c2 := Y.utf_Check.calls (some ⟨w1.heap.size, 0, none⟩) 2 [97, 0] 3 _ (Tabs.at hT hb2) (constC w1) (by decide) (by kernel_rfl)
  have c3 := fun W => Y.utf_Class.calls 9 97 1 W (by kernel_rfl)
  go_wp2_with (first | (go_at_call 11; go_must (refine c2.mono ?_; rintro e w2 ⟨rfl, hb3⟩)) | (go_at_call 16; go_must (refine (c3 _).mono ?_; rintro e w3 ⟨rfl, ⟨nd, rfl⟩⟩)))
  go_ret
  exact ⟨rfl, (hb2.trans (hb3.mono hb2.size)).trans ⟨rfl, rfl, rfl, Nat.le_refl _, fun _ _ => rfl⟩⟩
end Go.Proofs.YtmamjecpjookoaaDoor.G
