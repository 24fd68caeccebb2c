/- The given contract of span.Dest: its closure asks strings.IndexRune of a constant of letters and marks; what it says of a text is told byte by byte. -/
import Derived.Test.YtmfffpfenhgjbaaDoorShelf
import Derived.Test.YtmfffpfenhgjbaaDoorStrAny
import Derived.Test.YtmfffpfenhgjbaaDoorWAll
import Derived.Shelf.Strings.FuncGrows
set_option linter.unusedVariables false
namespace Go.Proofs
open Go.Shelf Go.RowKit Go.Lib
variable {P : Program} {ρ : Ren}
set_option maxHeartbeats 2000000 in
set_option maxRecDepth 1000000 in
theorem Any.strings_IndexRune_invalid (L : Lays.n152 P ρ) (s : ByteArray) (r : Int) (w : World) (h1 : 128 ≤ r) (hr : (r == 65533) = false) (hv : Lib.validRune r = false) :
    Calls P (ρ.f 152) #[.string s, .int .i32 r] w fun e w' => e = .returned (.int .i64 (-1)) ∧ ∃ q, w' = w.drewN q := by
  have t3 := L.t3; have a3 := L.a3; have z3 := L.z3; have v3 := L.v3
  have t4 := L.t4; have a4 := L.a4; have z4 := L.z4; have v4 := L.v4
  have t5 := L.t5; have a5 := L.a5; have z5 := L.z5; have v5 := L.v5
  have t9 := L.t9; have a9 := L.a9; have z9 := L.z9; have v9 := L.v9
  have t21 := L.t21; have a21 := L.a21; have z21 := L.z21; have v21 := L.v21
  have e119 : ∀ args w, (callFunc (ρ.f 119) args).run P w = .ok (.enter (ρ.f 119) args) w := enters_of L.f119 (by kernel_rfl) rfl
  have mixed := L.mixed
  have hd : decide (r < 128) = false := decide_eq_false (by omega)
  go_enter L.f152, Body.n152_ntmps ρ
  go_wp2_with (go_at_fn (ρ.f 119); refine (Any.utf8_ValidRune { L with } _ _).mono ?_; rintro e w' ⟨rfl, hw⟩; rw [hw, hv])
  go_ret
  exact ⟨rfl, 0, rfl⟩
end Go.Proofs
namespace Go.Proofs.YtmfffpfenhgjbaaDoor.G
open Go.Shelf Go.RowKit Go.Lib Go.Proofs Go.Proofs.YtmfffpfenhgjbaaDoorW.PrintWords Go.Proofs.YtmfffpfenhgjbaaDoorW.PrintLast Go.Proofs.YtmfffpfenhgjbaaDoorW.PrintMore
/-- What a place to go to may have. -/
def letters : ByteArray := ⟨#[97, 98, 99, 100, 101, 102, 103, 104, 105, 106, 107, 108, 109, 110, 111, 112, 113, 114, 115, 116, 117, 118, 119, 120, 121, 122, 65, 66, 67, 68, 69, 70, 71, 72, 73, 74, 75, 76, 77, 78, 79, 80, 81, 82, 83, 84, 85, 86, 87, 88, 89, 90, 48, 49, 50, 51, 52, 53, 54, 55, 56, 57, 46, 47, 95, 45, 35, 63, 38, 58, 37]⟩
def destP (n : Nat) : Bool := if n < 128 then decide (Lib.indexByte letters.data.toList n.toUInt8 < 0) else true
theorem letters_ascii : ∀ (j : Nat) (b : UInt8), letters.data.toList[j]? = some b → b.toNat < 128 := by
  have h : letters.data.toList.all (fun b => decide (b.toNat < 128)) = true := by decide +kernel
  intro j b hj
  simpa using List.all_eq_true.1 h b (List.mem_of_getElem? hj)
theorem rune_of_letters (W : World) (x : Nat) (hx : x ≤ 1114111) : Calls Tryd.prog 73 #[.string letters, .int .i32 (x : Int)] W fun e w' => (∃ n : Int, e = .returned (.int .i64 n) ∧ destP x = decide (n < 0)) ∧ Below W.heap.size W w' := by
  by_cases h : x < 128
  · refine (Any.strings_IndexRune_ascii Tryd.lays152 letters (x : Int) W (by omega) (by omega)).mono ?_
    rintro e w' ⟨rfl, rfl⟩
    refine ⟨⟨_, rfl, ?_⟩, Below.refl _ _⟩
    unfold destP
    rw [if_pos h]
    simp
  · have hd : destP x = decide ((-1 : Int) < 0) := by unfold destP; rw [if_neg h]; rfl
    by_cases hv : Lib.validRune (x : Int) = true
    · refine (Any.strings_IndexRune_high Tryd.lays152 letters (x : Int) W (by omega) hv letters_ascii).mono ?_
      rintro e w' ⟨rfl, hb⟩
      exact ⟨⟨_, rfl, hd⟩, hb⟩
    · have hv' : Lib.validRune (x : Int) = false := by simpa using hv
      have hr : ((x : Int) == 65533) = false := by
        refine beq_eq_false_iff_ne.2 fun e => ?_
        rw [e] at hv'
        exact absurd hv' (by decide)
      refine (Any.strings_IndexRune_invalid Tryd.lays152 letters (x : Int) W (by omega) hr hv').mono ?_
      rintro e w' ⟨rfl, q, rfl⟩
      exact ⟨⟨_, rfl, hd⟩, below_drewNg _ _⟩
theorem dest_pred (w : World) : PredGrows Tryd.prog 121 #[] destP w := by
  intro W x hx hb
  have c := rune_of_letters W x hx
  unfold letters at c
  go_enter Tryd.func121, Tryd.ntmps121
  go_wp2_with (go_at_call 73; refine c.mono ?_; rintro e w1 ⟨⟨n, rfl, hn⟩, hb1⟩)
  go_ret
  exact ⟨by rw [hn]; rfl, hb1⟩
/-- Whether a link can go there. -/
def destL (l : List UInt8) : Bool := !l.isEmpty && l.all (fun b => letters.data.toList.contains b)
def span_Dest.f (a0 : ByteArray) : Option Bool := some (destL a0.data.toList)
theorem letters_high (b : UInt8) (h : 128 ≤ b.toNat) : letters.data.toList.contains b = false := by
  cases e : letters.data.toList.contains b with
  | false => rfl
  | true =>
    have hm : b ∈ letters.data.toList := by simpa using e
    obtain ⟨j, hj⟩ := List.getElem?_of_mem hm
    have := letters_ascii j b hj
    omega
theorem destP_low (b : UInt8) (h : b.toNat < 128) : destP b.toNat = !letters.data.toList.contains b := by
  unfold destP
  rw [if_pos h, contains_iff_indexByte, show b.toNat.toUInt8 = b from UInt8.ofNat_toNat]
  by_cases e : 0 ≤ indexByte letters.data.toList b
  · rw [decide_eq_true e, decide_eq_false (by omega)]; rfl
  · rw [decide_eq_false e, decide_eq_true (by omega)]; rfl
theorem dest_from (s : ByteArray) : ∀ (f pos : Nat), s.size ≤ pos + f → decide (0 ≤ Lib.idxFuncFrom destP true s f pos) = !((s.data.toList.drop pos).all (fun b => letters.data.toList.contains b)) := by
  have hL : s.data.toList.length = s.size := (Lib.size_eq s).symm
  intro f
  induction f with
  | zero =>
    intro pos h
    rw [List.drop_eq_nil_of_le (by omega)]
    rfl
  | succ f ih =>
    intro pos h
    unfold Lib.idxFuncFrom
    by_cases hp : pos < s.size
    · rw [if_pos hp]
      have hd : s.data.toList.drop pos = s[pos]'hp :: s.data.toList.drop (pos + 1) := by
        rw [List.drop_eq_getElem_cons (by omega)]
        rfl
      rw [hd, List.all_cons]
      by_cases ha : (s[pos]'hp).toNat < 128
      · rw [decode_ascii s pos hp ha, destP_low _ ha]
        cases hc : letters.data.toList.contains (s[pos]'hp) with
        | true =>
          rw [if_neg (by decide), ih (pos + 1) (by omega)]
          simp
        | false =>
          rw [if_pos (by decide), decide_eq_true (by omega)]
          simp
      · have hh := decode_high s pos hp (by omega)
        have hq : destP (Utf8.decode s pos).1 = true := by unfold destP; rw [if_neg (by omega)]
        rw [hq, if_pos rfl, decide_eq_true (by omega), letters_high _ (by omega)]
        simp
    · rw [if_neg hp, List.drop_eq_nil_of_le (by omega)]
      rfl
theorem dest_idx (s : ByteArray) : (!s.data.toList.isEmpty && !decide (0 ≤ Lib.idxFunc destP true s)) = destL s.data.toList := by
  unfold Lib.idxFunc destL
  rw [dest_from s s.size 0 (by omega), List.drop_zero, Bool.not_not]
theorem span_Dest.calls (a0 : ByteArray) (r : Bool) (w : World) (h : span_Dest.f a0 = some r) :
    Calls Tryd.prog 89 #[.string a0] w fun e w' => e = .returned (.bool r) ∧ Below w.heap.size w w' := by
  obtain rfl := Option.some.inj h
  have hd := dest_idx a0
  by_cases he : a0.data.toList = []
  · have e0 : (a0.data.toList.isEmpty) = true := by rw [he]; rfl
    have e1 : (a0.toList != []) = false := by rw [Lib.toList_data, he]; rfl
    have hx : a0 = ⟨#[]⟩ := by
      obtain ⟨⟨l⟩⟩ := a0
      simp at he
      subst he
      rfl
    subst hx
    go_enter Tryd.func89, Tryd.ntmps89
    go_wp2
    go_ret
    exact ⟨rfl, Below.refl _ _⟩
  · have c := Any.strings_ContainsFunc_grows Tryd.laysGw17 121 #[] (enters_of Tryd.func121 (by kernel_rfl) rfl) destP a0 w (dest_pred w)
    change Calls Tryd.prog 120 _ _ _ at c
    have e1 : (a0.toList == ([] : List UInt8)) = false := by rw [Lib.toList_data]; exact beq_eq_false_iff_ne.2 he
    have e2 : (a0.toList != ([] : List UInt8)) = true := by rw [Lib.toList_data]; exact bne_iff_ne.2 he
    have e3 : a0.toList.isEmpty = false := by rw [Lib.toList_data]; cases h : a0.data.toList with
      | nil => exact absurd h he
      | cons _ _ => rfl
    have e4 : a0.data.toList.isEmpty = false := by rw [← Lib.toList_data]; exact e3
    rw [e4] at hd
    go_enter Tryd.func89, Tryd.ntmps89
    go_wp2_with (go_at_call 120; refine c.mono ?_; rintro e w1 ⟨rfl, hb1⟩)
    go_ret
    exact ⟨by rw [← hd]; rfl, hb1⟩
end Go.Proofs.YtmfffpfenhgjbaaDoor.G
