/- The law TreeWraps: for every input it returns true, and leaves its arguments as they were. Row and card out of the printed function's contract and the pure theorem. -/
import Derived.Test.YtbbkjdcpmhpkjaaDoorCards
import Derived.Test.YtbbkjdcpmhpkjaaDoorTie
import Derived.Test.YtbbkjdcpmhpkjaaDoorOpenAll
import Derived.Test.YtbbkjdcpmhpkjaaDoorX4
import Derived.Test.YtbbkjdcpmhpkjaaDoorPureTreeWraps
import Derived.Deep.DeepHandedRow
import Derived.JoinedCond
import Derived.LaidLaws
import Derived.WalkKit
import Derived.ProofKit
import Derived.OpenShut
import Derived.ShutString
import Derived.ChangeOld
import Derived.Below
import Derived.SizedLaws
import Derived.Lay
import Derived.SevenTiedAt
import Derived.Carry
namespace Go.Proofs.YtbbkjdcpmhpkjaaDoor.treeWraps
open Go.ChangeShapes Go.WideShapes Go.ChangeAt Go.RowKit Go.Proofs.YtbbkjdcpmhpkjaaDoor.X Go.Proofs.YtbbkjdcpmhpkjaaDoor.G Go.Proofs.YtbbkjdcpmhpkjaaDoorW.PrintWords
open Go.ChangeMaps (open_string shut_string)
set_option linter.unusedVariables false
theorem own : ownKnob Tryd.prog.godebug = none := by kernel_rfl
theorem laidOut : laidOutB Tryd.prog = true := by kernel_rfl
theorem reads (os : Os) {H : Type} (enc : TypeId × Value → H) : ∃ places, DataW.whole enc Tryd.prog ((World.laidAll Tryd.prog os Rows.treeWrapsUptoRow.laid).forCall (fun _ _ => 0) ⟨#[], #[.slice none 0 0], []⟩).memory Tryd.f3.params.toList Rows.treeWrapsSpec.vars false (#[.slice none 0 0] : Array Value).toList 8 = some ([.nil], [], places) :=
  ⟨[], by kernel_rfl⟩
set_option maxRecDepth 100000 in
theorem lifted (os : Os) (started : os.Started) (H : Type) (enc : TypeId × Value → H) (F : Stop.Interp) :
    ReturnsInHanded {} Tryd.checked os 3 .any ((Rows.OpenSpec.upto Rows.treeWrapsSpec).preRow enc Tryd.prog Tryd.f3 Rows.treeWrapsUptoRow.domain false Rows.treeWrapsUptoRow.laid) (((Rows.OpenSpec.upto Rows.treeWrapsSpec).at F).post enc Tryd.prog Tryd.f3 false true false false) := by
  obtain ⟨places, hx⟩ := reads os enc
  refine returnsInHanded_of_row (C := Tryd.checked) (s := Rows.OpenSpec.upto Rows.treeWrapsSpec) own started (by kernel_rfl) Tryd.func3
    ⟨(World.laidAll Tryd.prog os Rows.treeWrapsUptoRow.laid), fun _ _ => 0, ⟨#[], #[.slice none 0 0], []⟩, World.laidAll_os _ _ _, World.shaped_of_ZipB (by kernel_rfl) (by kernel_rfl), rfl, (Input.okWide_of_okWideB (by kernel_rfl)).2,
      OpenSpec.preRow_of_cond 8 hx (by kernel_rfl) (fun k hk => by cases hk; kernel_rfl) (by kernel_rfl) (by rw [MakeChecks.laidMetH_plain _ _ _ (by kernel_rfl)]; exact laidMet_laidAll _ (by kernel_rfl) (by kernel_rfl)), by
        simp only [Assume.holds]
        exact ⟨by simp, by simp, fun _ => Modest.zero, by simp, by simp⟩⟩ ?_
  intro W base args ds gs before hval0 hW _ hcond hsz0 hL hS _
  have hbk : Rows.uptoBulkAll (ds ++ gs) ≤ 1048576 := of_decide_eq_true (hcond _ rfl)
  have hsz : (DataW.weightsEach Tryd.prog (Tryd.f3.params.toList ++ Rows.treeWrapsSpec.plain.varTypes Tryd.prog) (ds ++ gs)).all (· ≤ reachBytes) = true := hsz0
  have hval : ∀ (j : Nat) t v, Tryd.f3.params[j]? = some t → args[j]? = some v → Value.okWide Tryd.prog W .any base t v := hval0
  have hW' := hW
  obtain ⟨p, q, hA0, hV, rfl, hfz, hnd⟩ := hW
  have hA : DataW.TrodAll enc Tryd.prog W 0 (fun _ => true) true Tryd.f3.params.toList args.toList ds p := hA0
  rw [Tryd.params3] at hA hval hsz
  obtain ⟨v0, vs0, d0, ds0, p0, q0, hargs, rfl, rfl, h0, r0⟩ := trodAll_cons hA
  obtain ⟨rfl, rfl, rfl⟩ := trodAll_nil r0
  obtain rfl : args = #[v0] := by cases args; simp_all
  obtain ⟨rfl, rfl⟩ := trodVars_none hV
  rw [MakeChecks.laidMetH_plain _ _ _ (by kernel_rfl)] at hL
  have hT : Tabs W := Tabs.of_laid hL hS
  obtain ⟨A0, len0, cap0, rfl⟩ := okWide_slice Tryd.underlying22 (hval 0 22 v0 rfl rfl)
  have k0 := h0
  have lt0 : ∀ x ∈ p0, x.block < W.heap.size := by obtain ⟨m, hm⟩ := k0; exact DataW.trod_lt m _ _ _ hm
  obtain ⟨l0, rfl, hr0, hc0, hb0⟩ := open_blks_C h0
  have hw0 : Pure.wtBL l0 ≤ 2000000 := Nat.le_trans hb0 (Nat.le_trans (bulk_mem (by simp)) (Nat.le_trans hbk (by decide)))
  clear hA0 hval0 hsz0 hsz
  obtain ⟨k, hk⟩ := Pure.TreeWraps l0 hw0
  refine (X.emendationlaw10_TreeWraps.calls k (fun k => k < W.heap.size) _ _ l0 true W hT (blk_V hr0 hc0) hk).mono fun e W' ⟨he, bel0⟩ => ?_
  have bel : Below W.heap.size W W' := bel0
  subst he
  exact ⟨_, rfl, _, _, _, [], _, [], hW', trodAll_mk1 (shut_bool Tryd.underlying4 _), (trodAll_cons_mk (Below.trod laidOut (by kernel_rfl) (of_decide_eq_true (by kernel_rfl)) k0 bel lt0) trodAll_mk0), rfl, bel.frame _, fun h => by cases h⟩
theorem band {a b : Bool} (ha : a = true) (hb : b = true) : (a && b) = true := by rw [ha, hb]; rfl
theorem closed : joinedFacts Tryd.prog 3 Tryd.f3 Rows.treeWrapsSpec Rows.treeWrapsUptoRow = true := by
  unfold joinedFacts
  repeat' (with_reducible refine band ?_ ?_)
  all_goals first | (with_reducible exact mayEnter_) | (rw [liftsFinal_]; as_aux_lemma => kernel_rfl) | (rw [make_]; as_aux_lemma => kernel_rfl) | (as_aux_lemma => kernel_rfl)
theorem over : Rows.treeWrapsUptoRow.holds Tryd.pinned (Rows.OpenSpec.upto Rows.treeWrapsSpec) :=
  OpenClaim.holds_of_cond 3 Tryd.f3 rfl rfl rfl rfl rfl rfl rfl ⟨rfl, rfl, rfl, rfl, rfl⟩ rfl rfl rfl rfl rfl (by as_aux_lemma => kernel_rfl) Tryd.func3 closed
    (of_decide_eq_true (by as_aux_lemma => kernel_rfl)) (by as_aux_lemma => (unfold Func.isWrapper; first | (rw [if_pos (by decide +kernel)]; kernel_rfl) | (rw [if_neg (by decide +kernel)]; exact ⟨rfl, rfl⟩)))
    (fun os started H enc _ F => by rw [OpenClaim.pre_eq_preRow]; exact lifted os started H enc F)
theorem proved : Rows.TreeWrapsUptoSaid := over
theorem plain (f : FuncId) (fn : Func) (hf : Tryd.pinned.checked.prog.funcNamed "emendation/emendationlaw10.TreeWraps" = some f) (hfn : Tryd.pinned.checked.prog.funcs[f]? = some fn) :
    false = Tryd.pinned.checked.prog.looks [] ∧ ∀ (j : Nat) t, fn.params[j]? = some t → Tryd.pinned.checked.prog.wantsStandIn t = false := by
  obtain rfl : f = 3 := Option.some.inj ((show Tryd.prog.funcNamed "emendation/emendationlaw10.TreeWraps" = some 3 by kernel_rfl).symm.trans hf) |>.symm
  obtain rfl : fn = Tryd.f3 := (Option.some.inj (Tryd.func3.symm.trans hfn)).symm
  refine ⟨by kernel_rfl, fun j t ht => ?_⟩
  rw [Tryd.params3] at ht
  have hm : t ∈ [22] := by simpa using Array.mem_of_getElem? ht
  have hall : ([22].all fun u => !Tryd.prog.wantsStandIn u) = true := by kernel_rfl
  exact (show Tryd.prog.wantsStandIn t = false by simpa using List.all_eq_true.1 hall t hm)
theorem card : Rows.TreeWrapsUptoCardSaid :=
  Claim7.holds_tied_plain_at .later [] _ _ _ _ proved (fun _ h => by cases h) (by as_aux_lemma => kernel_rfl) (fun _ h => by cases h) treeWrapsUpto_row_tie rfl ⟨rfl, rfl⟩ mainIs_ rfl plain (by as_aux_lemma => kernel_rfl)
end Go.Proofs.YtbbkjdcpmhpkjaaDoor.treeWraps
namespace Go.Proofs.YtbbkjdcpmhpkjaaDoor
/-- The statement, under a short name, for the claim. -/
theorem treeWraps_holds : Rows.TreeWrapsUptoCardSaid := treeWraps.card
#print axioms treeWraps_holds
end Go.Proofs.YtbbkjdcpmhpkjaaDoor
