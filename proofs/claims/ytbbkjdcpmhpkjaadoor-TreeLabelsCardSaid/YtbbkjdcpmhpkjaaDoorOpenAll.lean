/- Words for the laws of this seat, several texts behind one another. -/
import Derived.Test.YtbbkjdcpmhpkjaaDoorCards
import Derived.ProofKit
import Derived.Test.YtbbkjdcpmhpkjaaDoorWMore
import Derived.SliceStrings
import Derived.ChangeSlices
import Derived.SizedLaws
import Derived.Test.YtbbkjdcpmhpkjaaDoorRows
import Derived.Test.YtbbkjdcpmhpkjaaDoorPAll
import Derived.ChangeArms
import Derived.DataElems
/-! MainIs -/
namespace Go.Proofs.YtbbkjdcpmhpkjaaDoor
set_option maxRecDepth 100000
abbrev c_ (n : Nat) : Char := Char.ofNat n
theorem order_ : Tryd.prog.initOrder = String.ofList [c_ 104, c_ 97, c_ 114, c_ 110, c_ 101, c_ 115, c_ 115, c_ 32, c_ 100, c_ 102, c_ 48, c_ 56, c_ 54, c_ 48, c_ 100, c_ 57, c_ 52, c_ 48, c_ 99, c_ 54, c_ 57, c_ 102, c_ 100, c_ 102, c_ 51, c_ 50, c_ 56, c_ 48, c_ 52, c_ 102, c_ 53, c_ 102, c_ 100, c_ 55, c_ 51, c_ 101, c_ 56, c_ 55, c_ 97, c_ 52, c_ 56, c_ 50, c_ 98, c_ 99, c_ 51, c_ 102, c_ 50, c_ 55, c_ 102, c_ 49, c_ 50, c_ 99, c_ 99, c_ 97, c_ 97, c_ 97, c_ 100, c_ 49, c_ 56, c_ 53, c_ 53, c_ 55, c_ 48, c_ 49, c_ 97, c_ 51, c_ 98, c_ 57, c_ 51, c_ 100, c_ 54, c_ 54, c_ 32, c_ 99, c_ 117, c_ 116, c_ 32, c_ 97, c_ 116, c_ 32, c_ 101, c_ 109, c_ 101, c_ 110, c_ 100, c_ 97, c_ 116, c_ 105, c_ 111, c_ 110, c_ 47, c_ 101, c_ 109, c_ 101, c_ 110, c_ 100, c_ 97, c_ 116, c_ 105, c_ 111, c_ 110, c_ 108, c_ 97, c_ 119, c_ 49, c_ 48, c_ 46, c_ 84, c_ 114, c_ 101, c_ 101, c_ 87, c_ 114, c_ 97, c_ 112, c_ 115, c_ 32, c_ 101, c_ 109, c_ 101, c_ 110, c_ 100, c_ 97, c_ 116, c_ 105, c_ 111, c_ 110, c_ 47, c_ 101, c_ 109, c_ 101, c_ 110, c_ 100, c_ 97, c_ 116, c_ 105, c_ 111, c_ 110, c_ 108, c_ 97, c_ 119, c_ 49, c_ 48, c_ 46, c_ 84, c_ 114, c_ 101, c_ 101, c_ 80, c_ 97, c_ 114, c_ 116, c_ 115, c_ 32, c_ 101, c_ 109, c_ 101, c_ 110, c_ 100, c_ 97, c_ 116, c_ 105, c_ 111, c_ 110, c_ 47, c_ 101, c_ 109, c_ 101, c_ 110, c_ 100, c_ 97, c_ 116, c_ 105, c_ 111, c_ 110, c_ 108, c_ 97, c_ 119, c_ 49, c_ 48, c_ 46, c_ 84, c_ 114, c_ 101, c_ 101, c_ 67, c_ 111, c_ 117, c_ 110, c_ 116, c_ 115, c_ 32, c_ 101, c_ 109, c_ 101, c_ 110, c_ 100, c_ 97, c_ 116, c_ 105, c_ 111, c_ 110, c_ 47, c_ 101, c_ 109, c_ 101, c_ 110, c_ 100, c_ 97, c_ 116, c_ 105, c_ 111, c_ 110, c_ 108, c_ 97, c_ 119, c_ 49, c_ 48, c_ 46, c_ 84, c_ 114, c_ 101, c_ 101, c_ 76, c_ 97, c_ 98, c_ 101, c_ 108, c_ 115] := by kernel_rfl
theorem sum_ : ("df0860d940c69fdf32804f5fd73e87a482bc3f27f12ccaaad1855701a3b93d66" : String).toList = [c_ 100, c_ 102, c_ 48, c_ 56, c_ 54, c_ 48, c_ 100, c_ 57, c_ 52, c_ 48, c_ 99, c_ 54, c_ 57, c_ 102, c_ 100, c_ 102, c_ 51, c_ 50, c_ 56, c_ 48, c_ 52, c_ 102, c_ 53, c_ 102, c_ 100, c_ 55, c_ 51, c_ 101, c_ 56, c_ 55, c_ 97, c_ 52, c_ 56, c_ 50, c_ 98, c_ 99, c_ 51, c_ 102, c_ 50, c_ 55, c_ 102, c_ 49, c_ 50, c_ 99, c_ 99, c_ 97, c_ 97, c_ 97, c_ 100, c_ 49, c_ 56, c_ 53, c_ 53, c_ 55, c_ 48, c_ 49, c_ 97, c_ 51, c_ 98, c_ 57, c_ 51, c_ 100, c_ 54, c_ 54] := String.toList_ofList
theorem words_ : wordsSigns Tryd.prog.initOrder.toList = [[c_ 104, c_ 97, c_ 114, c_ 110, c_ 101, c_ 115, c_ 115], [c_ 100, c_ 102, c_ 48, c_ 56, c_ 54, c_ 48, c_ 100, c_ 57, c_ 52, c_ 48, c_ 99, c_ 54, c_ 57, c_ 102, c_ 100, c_ 102, c_ 51, c_ 50, c_ 56, c_ 48, c_ 52, c_ 102, c_ 53, c_ 102, c_ 100, c_ 55, c_ 51, c_ 101, c_ 56, c_ 55, c_ 97, c_ 52, c_ 56, c_ 50, c_ 98, c_ 99, c_ 51, c_ 102, c_ 50, c_ 55, c_ 102, c_ 49, c_ 50, c_ 99, c_ 99, c_ 97, c_ 97, c_ 97, c_ 100, c_ 49, c_ 56, c_ 53, c_ 53, c_ 55, c_ 48, c_ 49, c_ 97, c_ 51, c_ 98, c_ 57, c_ 51, c_ 100, c_ 54, c_ 54], [c_ 99, c_ 117, c_ 116], [c_ 97, c_ 116], [c_ 101, c_ 109, c_ 101, c_ 110, c_ 100, c_ 97, c_ 116, c_ 105, c_ 111, c_ 110, c_ 47, c_ 101, c_ 109, c_ 101, c_ 110, c_ 100, c_ 97, c_ 116, c_ 105, c_ 111, c_ 110, c_ 108, c_ 97, c_ 119, c_ 49, c_ 48, c_ 46, c_ 84, c_ 114, c_ 101, c_ 101, c_ 87, c_ 114, c_ 97, c_ 112, c_ 115], [c_ 101, c_ 109, c_ 101, c_ 110, c_ 100, c_ 97, c_ 116, c_ 105, c_ 111, c_ 110, c_ 47, c_ 101, c_ 109, c_ 101, c_ 110, c_ 100, c_ 97, c_ 116, c_ 105, c_ 111, c_ 110, c_ 108, c_ 97, c_ 119, c_ 49, c_ 48, c_ 46, c_ 84, c_ 114, c_ 101, c_ 101, c_ 80, c_ 97, c_ 114, c_ 116, c_ 115], [c_ 101, c_ 109, c_ 101, c_ 110, c_ 100, c_ 97, c_ 116, c_ 105, c_ 111, c_ 110, c_ 47, c_ 101, c_ 109, c_ 101, c_ 110, c_ 100, c_ 97, c_ 116, c_ 105, c_ 111, c_ 110, c_ 108, c_ 97, c_ 119, c_ 49, c_ 48, c_ 46, c_ 84, c_ 114, c_ 101, c_ 101, c_ 67, c_ 111, c_ 117, c_ 110, c_ 116, c_ 115], [c_ 101, c_ 109, c_ 101, c_ 110, c_ 100, c_ 97, c_ 116, c_ 105, c_ 111, c_ 110, c_ 47, c_ 101, c_ 109, c_ 101, c_ 110, c_ 100, c_ 97, c_ 116, c_ 105, c_ 111, c_ 110, c_ 108, c_ 97, c_ 119, c_ 49, c_ 48, c_ 46, c_ 84, c_ 114, c_ 101, c_ 101, c_ 76, c_ 97, c_ 98, c_ 101, c_ 108, c_ 115]] := by
  rw [order_, String.toList_ofList]
  kernel_rfl
theorem mainIs_ : Tryd.prog.mainIs = some (true, ("df0860d940c69fdf32804f5fd73e87a482bc3f27f12ccaaad1855701a3b93d66" : String).toList) := by
  rw [sum_]
  unfold Program.mainIs
  rw [words_]
  kernel_rfl
theorem laysLater_ : Tryd.prog.laysLater = false := by kernel_rfl
theorem bearsReflect_ : Tryd.prog.bearsReflect = false := by kernel_rfl
theorem rows_ : Tryd.prog.doorRows = [[41, 111, 111, 116, 32, 115, 101, 108, 105, 102, 32, 116, 115, 101, 116, 32, 44, 49, 49, 32, 107, 111, 111, 108, 40, 32, 100, 114, 111, 119, 115, 114, 97, 118, 116, 117, 99, 32, 119, 111, 114, 32, 115, 39, 116, 115, 101, 102, 105, 110, 97, 109, 32, 101, 104, 116, 32, 101, 101, 115, 32, 59, 101, 110, 111, 108, 97, 32, 115, 114, 101, 115, 105, 108, 97, 105, 116, 105, 110, 105, 32, 115, 100, 108, 111, 104, 32, 115, 114, 97, 118, 46, 116, 117, 99, 46, 109, 101, 115, 111, 103, 32, 58, 114, 111, 111, 100, 32, 115, 39, 114, 97, 118], [41, 49, 49, 32, 107, 111, 111, 108, 40, 32, 116, 111, 111, 114, 32, 115, 39, 121, 114, 111, 116, 105, 115, 111, 112, 101, 114, 32, 101, 104, 116, 32, 115, 97, 32, 100, 101, 109, 97, 110, 32, 114, 101, 108, 108, 97, 99, 32, 101, 104, 116, 32, 116, 97, 104, 116, 32, 114, 101, 100, 108, 111, 102, 32, 101, 104, 116, 32, 114, 101, 118, 111, 32, 116, 110, 101, 119, 32, 115, 114, 97, 118, 46, 116, 117, 99, 46, 109, 101, 115, 111, 103, 32, 102, 111, 32, 107, 111, 111, 108, 32, 101, 104, 116, 32, 58, 114, 111, 111, 100, 32, 115, 39, 114, 97, 118], [41, 49, 49, 32, 107, 111, 111, 108, 40, 32, 97, 116, 97, 100, 32, 110, 105, 97, 108, 112, 32, 44, 114, 101, 115, 105, 108, 97, 105, 116, 105, 110, 105, 32, 110, 119, 111, 32, 115, 116, 105, 32, 121, 98, 32, 100, 105, 97, 108, 32, 115, 105, 32, 115, 101, 103, 110, 97, 82, 116, 112, 101, 99, 99, 97, 46, 56, 102, 116, 117, 47, 101, 100, 111, 99, 105, 110, 117, 32, 58, 114, 111, 111, 100, 32, 115, 39, 114, 97, 118], [41, 49, 32, 100, 101, 110, 110, 105, 112, 40, 32, 101, 110, 111, 108, 97, 32, 116, 120, 101, 116, 32, 115, 116, 105, 32, 121, 98, 32, 100, 105, 97, 108, 32, 115, 105, 32, 116, 115, 114, 105, 102, 46, 56, 102, 116, 117, 47, 101, 100, 111, 99, 105, 110, 117, 32, 58, 114, 111, 111, 100, 32, 115, 39, 114, 97, 118]] := by kernel_rfl
theorem mayEnter_ : Tryd.prog.mayEnter = true := by
  unfold Program.mayEnter Program.doorFits
  rw [words_]
  simp only [laysLater_, bearsReflect_, rows_]
  kernel_rfl
theorem liftsFinal_ : Tryd.prog.liftsFinal = false := by
  unfold Program.liftsFinal Program.headLifts
  rw [words_]
  kernel_rfl
theorem make_ : Tryd.prog.make = some .cut := by
  unfold Program.make
  rw [words_]
  kernel_rfl
end Go.Proofs.YtbbkjdcpmhpkjaaDoor
/-! Open -/
namespace Go.Proofs.YtbbkjdcpmhpkjaaDoor.G
open Go.ChangeShapes Go.WideShapes Go.RowKit Go.Proofs.YtbbkjdcpmhpkjaaDoorW.PrintWords Go.Proofs.YtbbkjdcpmhpkjaaDoorW.PrintLast Go.Proofs.YtbbkjdcpmhpkjaaDoorW.PrintMore

theorem C_nil_any {α : Type} (d : Kd α) (w : World) (A : Option Addr) : d.C w A 0 [] := ⟨rfl, by omega, fun h => absurd h (by omega)⟩

/-- A slice of strings that came in, as a list. -/
theorem open_strs_C {H : Type} {enc : TypeId × Value → H} {P : Program} {w : World} {base : Nat} {spare : Nat → Bool} {held : Bool} {t e : TypeId} {a : Option Addr} {len cap : Nat} {d : DataW H} {ps : List MemPlace}
    (ht : P.underlying t = some (.slice e)) (he : P.underlying e = some .string) (hc : P.cellsOf e = 1) (h : DataW.Trod enc P w base spare held t (.slice a len cap) d ps) :
    ∃ l : List ByteArray, len = l.length ∧ Kd.C Kd.string w a l.length l ∧ l.length ≤ cap := by
  obtain ⟨fuel, hf⟩ := h
  rcases open_strings ht he hc hf with ⟨hcs, _⟩ | ⟨x, l, c, zs, hcs, _, hl, hm, hz, _, hcell, hwz⟩
  · simp [Value.cells] at hcs
    obtain ⟨rfl, rfl, rfl⟩ := hcs
    exact ⟨[], rfl, C_nil_any _ _ _, Nat.le_refl _⟩
  · simp [Value.cells] at hcs
    obtain ⟨rfl, rfl, rfl⟩ := hcs
    have hlz : len ≤ zs.length := by
      rw [hz]
      split
      · exact hl
      · exact Nat.le_refl _
    have hlen : (zs.take len).length = len := by rw [List.length_take]; omega
    refine ⟨zs.take len, hlen.symm, ?_, by rw [hlen]; exact hl⟩
    rw [hlen]
    refine Kd.C_of_reads (d := ByteArray.empty) (h1 := fun _ => rfl) ⟨hlen, by unfold maxLen at hm; omega, fun _ => ⟨x, rfl, fun j hj => ?_⟩⟩
    rw [hcell j (by omega)]
    simp [List.getD_eq_getElem?_getD, hj]

/-- A slice of whole numbers that came in, as a list, each of its kind. -/
theorem open_ints_C {H : Type} {enc : TypeId × Value → H} {P : Program} {w : World} {base : Nat} {spare : Nat → Bool} {held : Bool} {t e : TypeId} {k : IntKind} {a : Option Addr} {len cap : Nat} {d : DataW H} {ps : List MemPlace}
    (ht : P.underlying t = some (.slice e)) (he : P.underlying e = some (.int k)) (hc : P.cellsOf e = 1) (h : DataW.Trod enc P w base spare held t (.slice a len cap) d ps) :
    ∃ l : List Int, len = l.length ∧ Kd.C (Kd.int k) w a l.length l ∧ l.length ≤ cap ∧ ∀ x ∈ l, (Lit.int k x).wf = true := by
  obtain ⟨fuel, hf⟩ := h
  rcases open_ints ht he hc hf with ⟨hcs, _⟩ | ⟨x, l, c, zs, hcs, _, hl, hm, hz, _, hcell, hwz⟩
  · simp [Value.cells] at hcs
    obtain ⟨rfl, rfl, rfl⟩ := hcs
    exact ⟨[], rfl, C_nil_any _ _ _, Nat.le_refl _, by simp⟩
  · simp [Value.cells] at hcs
    obtain ⟨rfl, rfl, rfl⟩ := hcs
    have hlz : len ≤ zs.length := by
      rw [hz]
      split
      · exact hl
      · exact Nat.le_refl _
    have hlen : (zs.take len).length = len := by rw [List.length_take]; omega
    refine ⟨zs.take len, hlen.symm, ?_, by rw [hlen]; exact hl, fun y hy => hwz y (List.mem_of_mem_take hy)⟩
    rw [hlen]
    refine Kd.C_of_reads (d := (0 : Int)) (h1 := fun _ => rfl) ⟨hlen, by unfold maxLen at hm; omega, fun _ => ⟨x, rfl, fun j hj => ?_⟩⟩
    rw [hcell j (by omega)]
    simp [List.getD_eq_getElem?_getD, hj]
end Go.Proofs.YtbbkjdcpmhpkjaaDoor.G
/-! OpenWords -/

/-! OpenBlk -/
set_option linter.unusedSimpArgs false
set_option linter.unusedVariables false
namespace Go.Proofs.YtbbkjdcpmhpkjaaDoor.G
open Go.ChangeShapes Go.WideShapes Go.RowKit Go.Proofs Go.Proofs.YtbbkjdcpmhpkjaaDoor.X Go.Proofs.YtbbkjdcpmhpkjaaDoor.Pure Go.Proofs.YtbbkjdcpmhpkjaaDoorW.PrintWords Go.Proofs.YtbbkjdcpmhpkjaaDoorW.PrintLast Go.Proofs.YtbbkjdcpmhpkjaaDoorW.PrintMore

theorem listU_of {α : Type} (p : Nat → α → Prop) : ∀ n : Nat, (∀ i, i < n → ∃ z, p i z) → ∃ l : List α, l.length = n ∧ ∀ i z, l[i]? = some z → p i z
  | 0, _ => ⟨[], rfl, fun i z h => by simp at h⟩
  | n + 1, h => by
    obtain ⟨l, hl, hp⟩ := listU_of p n (fun i hi => h i (by omega))
    obtain ⟨z, hz⟩ := h n (by omega)
    refine ⟨l ++ [z], by simp [hl], fun i y hy => ?_⟩
    rcases Nat.lt_or_ge i l.length with g | g
    · rw [List.getElem?_append_left g] at hy
      exact hp i y hy
    · have : i = n := by
        have := (List.getElem?_eq_some_iff.1 hy).1
        simp at this
        omega
      subst this
      rw [List.getElem?_append_right g, hl, Nat.sub_self] at hy
      simp at hy
      exact hy ▸ hz
theorem sumU_le {H : Type} {α : Type} (wt : α → Nat) (sum : List α → Nat) (h0 : sum [] = 0) (hs : ∀ x t, sum (x :: t) = wt x + sum t) : ∀ (l : List α) (ds : List (DataW H)), l.length ≤ ds.length → (∀ (i : Nat) (z : α) (d : DataW H), l[i]? = some z → ds[i]? = some d → wt z ≤ Rows.uptoBulk d) → sum l ≤ Rows.uptoBulkAll ds
  | [], ds, _, _ => by rw [h0]; exact Nat.zero_le _
  | x :: t, [], hl, _ => by simp at hl
  | x :: t, d :: ds, hl, h => by
    rw [hs, Rows.uptoBulkAll]
    have h1 := h 0 x d rfl rfl
    have h2 := sumU_le wt sum h0 hs t ds (by simpa using hl) (fun i z d' hz hd => h (i + 1) z d' (by simpa using hz) (by simpa using hd))
    omega
section
variable {H : Type} {enc : TypeId × Value → H} {w : World} {base : Nat} {spare : Nat → Bool} {held : Bool}
theorem cellsU_at {a : Addr} {n : Nat} {cs : List Value} (h : w.cells? base a n = some cs) (i : Nat) (u : Value) (hu : cs[i]? = some u) : w.cell? (a.add i) = some u := by
  obtain ⟨_, hl, hc⟩ := World.cells?_some h
  rw [hc i (by have := (List.getElem?_eq_some_iff.1 hu).1; omega), hu]
theorem open_strsU {fuel : Nat} {A : Option Addr} {len cap : Nat} {x : DataW H × List MemPlace} (h : DataW.trod enc Tryd.prog w base spare held fuel 25 [.slice A len cap] = some x) :
    ∃ l : List ByteArray, len = l.length ∧ Kd.C Kd.string w A l.length l ∧ l.length ≤ cap ∧ wtT l ≤ Rows.uptoBulk x.1 := by
  rcases open_strings Tryd.underlying25 Tryd.underlying9 (by kernel_rfl) h with ⟨hcs, rfl⟩ | ⟨a, l, c, zs, hcs, _, hl, hm, hz, rfl, hcell, hwz⟩
  · injection hcs with hcs _
    injection hcs with h1 h2 h3
    subst h1 h2
    exact ⟨[], rfl, C_nil_any _ _ _, Nat.zero_le _, by rw [wtT]; exact Nat.zero_le _⟩
  · injection hcs with hcs _
    injection hcs with h1 h2 h3
    subst h1 h2 h3
    have hlz : len ≤ zs.length := by
      rw [hz]
      split
      · exact hl
      · exact Nat.le_refl _
    have hlen : (zs.take len).length = len := by rw [List.length_take]; omega
    refine ⟨zs.take len, hlen.symm, ?_, by rw [hlen]; exact hl, ?_⟩
    · rw [hlen]
      refine Kd.C_of_reads (d := ByteArray.empty) (h1 := fun _ => rfl) ⟨hlen, by unfold maxLen at hm; omega, fun _ => ⟨a, rfl, fun j hj => ?_⟩⟩
      rw [hcell j (by omega)]
      simp [List.getD_eq_getElem?_getD, hj]
    · have h1 := sumU_le (H := H) (fun s : ByteArray => 1 + s.size) wtT (by rw [wtT]) (fun x t => by rw [wtT]) (zs.take len) (strs (zs.take len)) (by unfold strs; rw [List.length_map]; exact Nat.le_refl _) (fun i z d hzi hd => by
        unfold strs at hd
        rw [List.getElem?_map, hzi] at hd
        injection hd with hd
        subst hd
        simp only [Rows.uptoBulk, Array.length_toList]
        have : z.size = z.data.size := rfl
        omega)
      rw [Rows.uptoBulk]
      omega
set_option maxRecDepth 100000 in
theorem open_spansU (N : Nat) : ∀ (fuel : Nat) (A : Option Addr) (len cap : Nat) (x : DataW H × List MemPlace), fuel < N → DataW.trod enc Tryd.prog w base spare held fuel 26 [.slice A len cap] = some x →
    ∃ l : List S33, len = l.length ∧ Kd.C k33 w A l.length l ∧ l.length ≤ cap ∧ wtL l ≤ Rows.uptoBulk x.1 := by
  induction N with
  | zero => intro fuel A len cap x h; omega
  | succ N ih =>
    intro fuel A len cap x hf h
    rcases DataW.trod_slice Tryd.underlying26 h with ⟨hcs, rfl⟩ | ⟨a, len', cap', elems, rest, n, rfl, hcs, rfl, hb, hl, hm, hlen, hel, _, _⟩
    · injection hcs with hcs _
      injection hcs with h1 h2 h3
      subst h1 h2
      exact ⟨[], rfl, C_nil_any _ _ _, Nat.zero_le _, by rw [wtL]; exact Nat.zero_le _⟩
    · injection hcs with hcs _
      injection hcs with h1 h2 h3
      subst h1 h2 h3
      have hcell : Tryd.prog.cellsOf 33 = 3 := by kernel_rfl
      have c3 : Tryd.prog.cellsOf 3 = 1 := by kernel_rfl
      have c9 : Tryd.prog.cellsOf 9 = 1 := by kernel_rfl
      have c22 : Tryd.prog.cellsOf 26 = 1 := by kernel_rfl
      have each : ∀ i, i < len → ∃ z : S33, (∀ d, (elems.map (·.1))[i]? = some d → wtV z ≤ Rows.uptoBulk d) ∧ ∃ c, c.length = 3 ∧ k33.K w z c ∧ ∀ j u, c[j]? = some u → w.cell? (a.add (i * 3 + j)) = some u := by
        intro i hi
        have he := hel i hi
        obtain ⟨y, hy⟩ : ∃ y, elems[i]? = some y := ⟨elems[i]'(by omega), List.getElem?_eq_getElem (by omega)⟩
        rw [hy, hcell, Option.bind_eq_some_iff] at he
        obtain ⟨cs, hc, ht⟩ := he
        obtain ⟨xs, n', rfl, rfl, hcl, hxl, hfs⟩ := DataW.trod_struct Tryd.underlying33 ht
        rw [hcell] at hcl
        obtain ⟨v0, v1, v2, rfl⟩ : ∃ v0 v1 v2, cs = [v0, v1, v2] := by
          match cs, hcl with
          | [a, b, c], _ => exact ⟨a, b, c, rfl⟩
        obtain ⟨x0, x1, x2, rfl⟩ : ∃ v0 v1 v2, xs = [v0, v1, v2] := by
          match xs, hxl with
          | [a, b, c], _ => exact ⟨a, b, c, rfl⟩
        have f0 : DataW.trod enc Tryd.prog w base spare held n' 3 (List.take (Tryd.prog.cellsOf 3) [v0, v1, v2]) = some x0 := hfs 0 _ rfl
        have f1 : DataW.trod enc Tryd.prog w base spare held n' 9 (List.take (Tryd.prog.cellsOf 9) [v1, v2]) = some x1 := hfs 1 _ rfl
        have f2 : DataW.trod enc Tryd.prog w base spare held n' 26 (List.take (Tryd.prog.cellsOf 26) [v2]) = some x2 := hfs 2 _ rfl
        rw [c3] at f0
        rw [c9] at f1
        rw [c22] at f2
        change DataW.trod enc Tryd.prog w base spare held n' 3 [v0] = some x0 at f0
        change DataW.trod enc Tryd.prog w base spare held n' 9 [v1] = some x1 at f1
        change DataW.trod enc Tryd.prog w base spare held n' 26 [v2] = some x2 at f2
        obtain ⟨z0, e0, rfl, _⟩ := DataW.trod_int (k := .i64) (by kernel_rfl) f0
        obtain ⟨z1, e1, rfl, _⟩ := DataW.trod_string Tryd.underlying9 f1
        injection e0 with e0 _
        injection e1 with e1 _
        subst e0 e1
        have hv2 : ∃ A2 l2 c2, v2 = .slice A2 l2 c2 := by
          rcases DataW.trod_slice Tryd.underlying26 f2 with ⟨g, _⟩ | ⟨a', l', c', _, _, _, _, g, _⟩
          · injection g with g _; exact ⟨_, _, _, g⟩
          · injection g with g _; exact ⟨_, _, _, g⟩
        obtain ⟨A2, l2, c2, rfl⟩ := hv2
        obtain ⟨kids, rfl, hk, hk2, hk3⟩ := ih n' A2 l2 c2 x2 (by omega) f2
        refine ⟨⟨z0, z1, kids⟩, fun d hd => ?_, _, rfl, k33_mk w ⟨z0, z1, kids⟩ hk2 hk, fun j u hu => ?_⟩
        · rw [List.getElem?_map, hy] at hd
          injection hd with hd
          subst hd
          rw [wtV_eq]
          simp only [List.map_cons, List.map_nil, Rows.uptoBulk, Rows.uptoBulkAll, Array.length_toList]
          have : z1.size = z1.data.size := rfl
          omega
        · have := cellsU_at hc j u hu
          rw [Addr.add_add] at this
          exact this
      obtain ⟨l, hll, hp⟩ := listU_of _ len each
      refine ⟨l, hll.symm, ⟨rfl, by unfold maxLen at hm; omega, fun _ => ⟨a, rfl, fun j p hj => ?_⟩⟩, by omega, ?_⟩
      · obtain ⟨_, c, h1, h2, h3⟩ := hp j p hj
        exact ⟨c, h1, h2, h3⟩
      · have := sumU_le (H := H) wtV wtL (by rw [wtL]) (fun x t => by rw [wtL]) l (elems.map (·.1)) (by rw [List.length_map]; omega) (fun i z d hz hd => (hp i z hz).1 d hd)
        rw [Rows.uptoBulk]
        omega
set_option maxRecDepth 100000 in
theorem open_blksU (N : Nat) : ∀ (fuel : Nat) (A : Option Addr) (len cap : Nat) (x : DataW H × List MemPlace), fuel < N → DataW.trod enc Tryd.prog w base spare held fuel 22 [.slice A len cap] = some x →
    ∃ l : List BK, len = l.length ∧ Kd.C k28 w A l.length l ∧ l.length ≤ cap ∧ wtBL l ≤ Rows.uptoBulk x.1 := by
  induction N with
  | zero => intro fuel A len cap x h; omega
  | succ N ih =>
    intro fuel A len cap x hf h
    rcases DataW.trod_slice Tryd.underlying22 h with ⟨hcs, rfl⟩ | ⟨a, len', cap', elems, rest, n, rfl, hcs, rfl, hb, hl, hm, hlen, hel, _, _⟩
    · injection hcs with hcs _
      injection hcs with h1 h2 h3
      subst h1 h2
      exact ⟨[], rfl, C_nil_any _ _ _, Nat.zero_le _, by rw [wtBL]; exact Nat.zero_le _⟩
    · injection hcs with hcs _
      injection hcs with h1 h2 h3
      subst h1 h2 h3
      have hcell : Tryd.prog.cellsOf 28 = 6 := by kernel_rfl
      have c3 : Tryd.prog.cellsOf 3 = 1 := by kernel_rfl
      have c9 : Tryd.prog.cellsOf 9 = 1 := by kernel_rfl
      have c25 : Tryd.prog.cellsOf 25 = 1 := by kernel_rfl
      have c26 : Tryd.prog.cellsOf 26 = 1 := by kernel_rfl
      have c22 : Tryd.prog.cellsOf 22 = 1 := by kernel_rfl
      have each : ∀ i, i < len → ∃ z : BK, (∀ d, (elems.map (·.1))[i]? = some d → wtB z ≤ Rows.uptoBulk d) ∧ ∃ c, c.length = 6 ∧ k28.K w z c ∧ ∀ j u, c[j]? = some u → w.cell? (a.add (i * 6 + j)) = some u := by
        intro i hi
        have he := hel i hi
        obtain ⟨y, hy⟩ : ∃ y, elems[i]? = some y := ⟨elems[i]'(by omega), List.getElem?_eq_getElem (by omega)⟩
        rw [hy, hcell, Option.bind_eq_some_iff] at he
        obtain ⟨cs, hc, ht⟩ := he
        obtain ⟨xs, n', rfl, rfl, hcl, hxl, hfs⟩ := DataW.trod_struct Tryd.underlying28 ht
        rw [hcell] at hcl
        obtain ⟨v0, v1, v2, v3, v4, v5, rfl⟩ : ∃ v0 v1 v2 v3 v4 v5, cs = [v0, v1, v2, v3, v4, v5] := by
          match cs, hcl with
          | [a, b, c, d, e, f], _ => exact ⟨a, b, c, d, e, f, rfl⟩
        obtain ⟨x0, x1, x2, x3, x4, x5, rfl⟩ : ∃ v0 v1 v2 v3 v4 v5, xs = [v0, v1, v2, v3, v4, v5] := by
          match xs, hxl with
          | [a, b, c, d, e, f], _ => exact ⟨a, b, c, d, e, f, rfl⟩
        have f0 : DataW.trod enc Tryd.prog w base spare held n' 3 (List.take (Tryd.prog.cellsOf 3) [v0, v1, v2, v3, v4, v5]) = some x0 := hfs 0 _ rfl
        have f1 : DataW.trod enc Tryd.prog w base spare held n' 3 (List.take (Tryd.prog.cellsOf 3) [v1, v2, v3, v4, v5]) = some x1 := hfs 1 _ rfl
        have f2 : DataW.trod enc Tryd.prog w base spare held n' 9 (List.take (Tryd.prog.cellsOf 9) [v2, v3, v4, v5]) = some x2 := hfs 2 _ rfl
        have f3 : DataW.trod enc Tryd.prog w base spare held n' 25 (List.take (Tryd.prog.cellsOf 25) [v3, v4, v5]) = some x3 := hfs 3 _ rfl
        have f4 : DataW.trod enc Tryd.prog w base spare held n' 26 (List.take (Tryd.prog.cellsOf 26) [v4, v5]) = some x4 := hfs 4 _ rfl
        have f5 : DataW.trod enc Tryd.prog w base spare held n' 22 (List.take (Tryd.prog.cellsOf 22) [v5]) = some x5 := hfs 5 _ rfl
        rw [c3] at f0 f1
        rw [c9] at f2
        rw [c25] at f3
        rw [c26] at f4
        rw [c22] at f5
        change DataW.trod enc Tryd.prog w base spare held n' 3 [v0] = some x0 at f0
        change DataW.trod enc Tryd.prog w base spare held n' 3 [v1] = some x1 at f1
        change DataW.trod enc Tryd.prog w base spare held n' 9 [v2] = some x2 at f2
        change DataW.trod enc Tryd.prog w base spare held n' 25 [v3] = some x3 at f3
        change DataW.trod enc Tryd.prog w base spare held n' 26 [v4] = some x4 at f4
        change DataW.trod enc Tryd.prog w base spare held n' 22 [v5] = some x5 at f5
        obtain ⟨z0, e0, rfl, _⟩ := DataW.trod_int (k := .i64) (by kernel_rfl) f0
        obtain ⟨z1, e1, rfl, _⟩ := DataW.trod_int (k := .i64) (by kernel_rfl) f1
        obtain ⟨z2, e2, rfl, _⟩ := DataW.trod_string Tryd.underlying9 f2
        injection e0 with e0 _
        injection e1 with e1 _
        injection e2 with e2 _
        subst e0 e1 e2
        have hv3 : ∃ A2 l2 c2, v3 = .slice A2 l2 c2 := by
          rcases DataW.trod_slice Tryd.underlying25 f3 with ⟨g, _⟩ | ⟨a', l', c', _, _, _, _, g, _⟩
          · injection g with g _; exact ⟨_, _, _, g⟩
          · injection g with g _; exact ⟨_, _, _, g⟩
        have hv4 : ∃ A2 l2 c2, v4 = .slice A2 l2 c2 := by
          rcases DataW.trod_slice Tryd.underlying26 f4 with ⟨g, _⟩ | ⟨a', l', c', _, _, _, _, g, _⟩
          · injection g with g _; exact ⟨_, _, _, g⟩
          · injection g with g _; exact ⟨_, _, _, g⟩
        have hv5 : ∃ A2 l2 c2, v5 = .slice A2 l2 c2 := by
          rcases DataW.trod_slice Tryd.underlying22 f5 with ⟨g, _⟩ | ⟨a', l', c', _, _, _, _, g, _⟩
          · injection g with g _; exact ⟨_, _, _, g⟩
          · injection g with g _; exact ⟨_, _, _, g⟩
        obtain ⟨A3, n3, c3', rfl⟩ := hv3
        obtain ⟨A4, n4, c4', rfl⟩ := hv4
        obtain ⟨A5, n5, c5', rfl⟩ := hv5
        obtain ⟨ls, rfl, hs1, hs2, hs3⟩ := open_strsU f3
        obtain ⟨sp, rfl, hp1, hp2, hp3⟩ := open_spansU (n' + 1) n' A4 n4 c4' x4 (Nat.lt_succ_self _) f4
        obtain ⟨kids, rfl, hk1, hk2, hk3⟩ := ih n' A5 n5 c5' x5 (by omega) f5
        refine ⟨⟨z0, z1, z2, ls, sp, kids⟩, fun d hd => ?_, _, rfl, k28_mk w ⟨z0, z1, z2, ls, sp, kids⟩ hs2 hs1 hp2 hp1 hk2 hk1, fun j u hu => ?_⟩
        · rw [List.getElem?_map, hy] at hd
          injection hd with hd
          subst hd
          rw [wtB_eq]
          simp only [List.map_cons, List.map_nil, Rows.uptoBulk, Rows.uptoBulkAll, Array.length_toList]
          have : z2.size = z2.data.size := rfl
          omega
        · have := cellsU_at hc j u hu
          rw [Addr.add_add] at this
          exact this
      obtain ⟨l, hll, hp⟩ := listU_of _ len each
      refine ⟨l, hll.symm, ⟨rfl, by unfold maxLen at hm; omega, fun _ => ⟨a, rfl, fun j p hj => ?_⟩⟩, by omega, ?_⟩
      · obtain ⟨_, c, h1, h2, h3⟩ := hp j p hj
        exact ⟨c, h1, h2, h3⟩
      · have := sumU_le (H := H) wtB wtBL (by rw [wtBL]) (fun x t => by rw [wtBL]) l (elems.map (·.1)) (by rw [List.length_map]; omega) (fun i z d hz hd => (hp i z hz).1 d hd)
        rw [Rows.uptoBulk]
        omega
theorem open_blks_C {A : Option Addr} {len cap : Nat} {d : DataW H} {ps : List MemPlace} (h : DataW.Trod enc Tryd.prog w base spare held 22 (.slice A len cap) d ps) :
    ∃ l : List BK, len = l.length ∧ Kd.C k28 w A l.length l ∧ l.length ≤ cap ∧ wtBL l ≤ Rows.uptoBulk d := by
  obtain ⟨fuel, hf⟩ := h
  exact open_blksU (fuel + 1) fuel A len cap (d, ps) (by omega) hf
theorem bulk_mem {d : DataW H} : ∀ {l : List (DataW H)}, d ∈ l → Rows.uptoBulk d ≤ Rows.uptoBulkAll l
  | x :: r, h => by
    rw [Rows.uptoBulkAll]
    rcases List.mem_cons.1 h with rfl | h
    · omega
    · have := bulk_mem h; omega
end
open Go.Proofs.YtbbkjdcpmhpkjaaDoorW.PrintWords.Kd in
theorem heapU_span : Kd.Heap k33 := heap_fix (fun d hd => heap_iso _ (heap_pair (heap_int _) (heap_pair heap_string (heap_slice 33 hd))))
open Go.Proofs.YtbbkjdcpmhpkjaaDoorW.PrintWords.Kd in
theorem heap_blk : Kd.Heap k28 := heap_fix (fun d hd => heap_iso _ (heap_pair (heap_int _) (heap_pair (heap_int _) (heap_pair heap_string (heap_pair (heap_slice 9 heap_string) (heap_pair (heap_slice 33 heapU_span) (heap_slice 28 hd)))))))
open Go.Proofs.YtbbkjdcpmhpkjaaDoorW.PrintWords.Kd in
theorem blk_V {w : World} {A : Option Addr} {c : Nat} {l : List BK} (hr : Kd.C k28 w A l.length l) (hc : l.length ≤ c) : Kd.V k28 28 w w.heap.size (fun k_ => (fun k => k < w.heap.size) k_) (.slice A l.length c) l :=
  ⟨A, c, rfl, hc, C_F heap_blk hr⟩
end Go.Proofs.YtbbkjdcpmhpkjaaDoor.G
