/- Words of the printed texts. -/
import Derived.Shelf.Strings.Runes
import Derived.Shelf.Strings.IndexAnyAll
import Derived.Lib.IndexAny
import Derived.Lib.IndexBytes
import Derived.Lib.IndexLaws
import Derived.Laws.RangeAny
import Derived.Laws.Strings3
import Derived.Deep.LoopGhost
import Derived.Below
import Derived.Shelf.Small.Utf8
import Derived.Lib.Small
import Derived.WalkKit
import Derived.Scope
import Derived.WalkMore
import Derived.Lib.Hide
import Derived.Deep.DeepMust
import Derived.Lib.OthersKept
import Derived.Lib.QuoteLoop
import Derived.WalkSmall
import Derived.IntWalk
import Derived.Shelf.RegionOpenPlain
import Derived.Deep.DeepBigQuietO
namespace Go.Proofs
open Go.Shelf Go.RowKit Go.Lib
variable {P : Program} {ρ : Ren}
theorem enc_high (r : Int) (h : 128 ≤ r) : ∃ (n : Nat) (y : UInt8), (Utf8.encode r).size = n + 1 ∧ 1 ≤ n ∧ n ≤ 3 ∧ (Utf8.encode r).data.toList[n]? = some y ∧ 128 ≤ y.toNat := by
  obtain ⟨c, hc⟩ : ∃ c, (if Utf8.valid r then r.toNat else Utf8.runeError) = c := ⟨_, rfl⟩
  have h128 : ¬ c < 128 := by
    rw [← hc]; unfold Utf8.runeError; split <;> omega
  have he : Utf8.encode r = if c < 0x80 then ⟨#[UInt8.ofNat c]⟩ else if c < 0x800 then ⟨#[UInt8.ofNat (0xC0 + c / 64), UInt8.ofNat (0x80 + c % 64)]⟩
      else if c < 0x10000 then ⟨#[UInt8.ofNat (0xE0 + c / 4096), UInt8.ofNat (0x80 + c / 64 % 64), UInt8.ofNat (0x80 + c % 64)]⟩
      else ⟨#[UInt8.ofNat (0xF0 + c / 262144), UInt8.ofNat (0x80 + c / 4096 % 64), UInt8.ofNat (0x80 + c / 64 % 64), UInt8.ofNat (0x80 + c % 64)]⟩ := by
    unfold Utf8.encode
    simp only [hc]
  have hy : 128 ≤ (UInt8.ofNat (0x80 + c % 64)).toNat := by simp; omega
  rw [he, if_neg h128]
  split
  · exact ⟨1, _, rfl, by omega, by omega, rfl, hy⟩
  · split
    · exact ⟨2, _, rfl, by omega, by omega, rfl, hy⟩
    · exact ⟨3, _, rfl, by omega, by omega, rfl, hy⟩
theorem indexByte_ascii_none (l : List UInt8) (c : UInt8) (hc : 128 ≤ c.toNat) (hl : ∀ (j : Nat) b, l[j]? = some b → b.toNat < 128) : Lib.indexByte l c = -1 := by
  have hge := Lib.indexByte_ge l c
  by_cases h : Lib.indexByte l c = -1
  · exact h
  · obtain ⟨o, ho⟩ : ∃ o : Nat, Lib.indexByte l c = o := ⟨(Lib.indexByte l c).toNat, by omega⟩
    have := (Lib.indexByte_some ho).1
    have := hl _ _ this
    omega
set_option maxHeartbeats 2000000 in
set_option maxRecDepth 1000000 in
theorem Any.strings_IndexRune_valid (L : Lays.n152 P ρ) (s : ByteArray) (r : Int) (w : World) (h1 : 128 ≤ r) (hr : (r == 65533) = false) (hv : Lib.validRune r = true)
    (has : ∀ (j : Nat) b, s.data.toList[j]? = some b → b.toNat < 128) :
    Calls P (ρ.f 152) #[.string s, .int .i32 r] w fun e w' => e = .returned (.int .i64 (-1)) ∧ ∃ q, w' = w.drewN q := by
  have HA := Lib.hid has
  clear has
  have t3 := L.t3; have a3 := L.a3; have z3 := L.z3; have v3 := L.v3
  have t4 := L.t4; have a4 := L.a4; have z4 := L.z4; have v4 := L.v4
  have t5 := L.t5; have a5 := L.a5; have z5 := L.z5; have v5 := L.v5
  have t9 := L.t9; have a9 := L.a9; have z9 := L.z9; have v9 := L.v9
  have t21 := L.t21; have a21 := L.a21; have z21 := L.z21; have v21 := L.v21
  have e119 : ∀ args w, (callFunc (ρ.f 119) args).run P w = .ok (.enter (ρ.f 119) args) w := enters_of L.f119 (by kernel_rfl) rfl
  have e137 : ∀ args w, (callFunc (ρ.f 137) args).run P w = .ok (.enter (ρ.f 137) args) w := enters_of L.f137 (by kernel_rfl) rfl
  have mixed := L.mixed
  have hd : decide (r < 128) = false := decide_eq_false (by omega)
  obtain ⟨n, y, hn, hn1, hn3, hyl, hbig⟩ := enc_high r h1
  have HY := Lib.hid hyl
  clear hyl
  have HN := Lib.hid hn
  clear hn
  go_enter L.f152, Body.n152_ntmps ρ
  go_wp2_with (go_at_fn (ρ.f 119); refine (Any.utf8_ValidRune { L with } _ _).mono ?_; rintro e w' ⟨rfl, hw⟩; rw [hw, hv])
  go_step3
  go_wp2_with fail
  generalize Utf8.encode r = rs at HN HY ⊢
  have hsz : wrap64 ((rs.size : Int) - 1) = (n : Int) := by rw [HN.out]; unfold wrap64; omega
  rw [hsz]
  clear hsz
  go_loopg [9] 1 (fun g i wx => g = 1 ∧ i = .int .i64 (n : Int) ∧ wx = w)
  case atStart => exact ⟨rfl, rfl, rfl⟩
  case round =>
    obtain ⟨rfl, rfl, rfl⟩ := hrel
    have hnr : n < rs.size := by rw [HN.out]; omega
    by_cases hlt : n < s.size
    · have hlz : (n : Int) < (s.size : Int) := by omega
      have hsn : (s[n]'hlt).toNat < 128 := HA.out n _ (Lib.data_getElem? s n hlt)
      obtain ⟨x, hx⟩ : ∃ x : UInt8, s[n]'hlt = x := ⟨_, rfl⟩
      have hy : rs[n]'hnr = y := Option.some.inj ((Lib.data_getElem? rs n hnr).symm.trans HY.out)
      rw [hx] at hsn
      have hne : (((x.toNat : Int)) != ((y.toNat : Int))) = true := by rw [bne_iff_ne]; omega
      have hi : Lib.indexByte (s.extract (n + 1) s.size).data.toList y = -1 := indexByte_ascii_none _ _ hbig (fun j b hj => by
        have h' : (s.data.toList.drop (n + 1))[j]? = some b := by
          have e : (s.extract (n + 1) s.size).data.toList = s.data.toList.drop (n + 1) := by
            rw [ByteArray.data_extract, Array.toList_extract]
            simp only [List.extract_eq_take_drop]
            rw [List.take_of_length_le]
            rw [List.length_drop, Array.length_toList]
            exact Nat.le_refl _
          rw [e] at hj; exact hj
        rw [List.getElem?_drop] at h'
        exact HA.out _ b h')
      have HI := Lib.hid hi
      clear hi
      have hnn : (0 : Int) ≤ (n : Int) + 1 := by omega
      have hns : (n : Int) + 1 ≤ (s.size : Int) := by omega
      have hback : ((y.toNat : Int)).toNat.toUInt8 = y := by simp
      go_wp2_with fail
      go_step3
      go_wp2_with fail
      go_quiet_o (fail)
      obtain ⟨w1, hw1⟩ : ∃ w1, w1 = wr.drewN nq := ⟨_, rfl⟩
      rw [← hw1]
      have HW1 := Lib.hid hw1
      clear hw1
      go_wp2_with fail
      have hcall : ∀ W, Calls P (ρ.f 137) #[.string (s.extract (n + 1) s.size), .int .u8 (y.toNat : Int)] W fun e w' => e = .returned (.int .i64 (-1)) ∧ w' = W := fun W => by
        have h := Any.strings_IndexByte { L with } (s.extract (n + 1) s.size) (y.toNat : Int) W
        rw [hback, HI.out] at h
        exact h
      have HC := Lib.hid hcall
      clear hcall
      have hwr : IntKind.i64.wrap ((n : Int) + 1) = (n : Int) + 1 := IntWalk.i64_in _ (by omega)
      have htn : ((n : Int) + 1).toNat = n + 1 := by omega
      go_big_quiet_o ((go_at_fn (ρ.f 137); exact Calls.quiet_of_same (HC.out _)))
      go_wp2_with fail
      rw [Exit.noGoto_ret]
      go_wp2_with fail
      rw [Exit.noGoto_ret]
      go_ret
      exact ⟨rfl, _, by rw [HW1.out]; exact World.drewN_drewN _ _ _⟩
    · go_wp2_with fail
      rw [Exit.noGoto_ret]
      go_ret
      exact ⟨rfl, 0, rfl⟩
theorem below_iter (w : World) (s : ByteArray) (i : Nat) : Below w.heap.size w (w.iter s i) := (Below.refl _ _).alloc (Nat.le_refl _) _
set_option maxHeartbeats 2000000 in
set_option maxRecDepth 1000000 in
theorem Any.strings_IndexRune_error (L : Lays.n152 P ρ) (s : ByteArray) (w : World)
    (has : ∀ (j : Nat) b, s.data.toList[j]? = some b → b.toNat < 128) :
    Calls P (ρ.f 152) #[.string s, .int .i32 65533] w fun e w' => e = .returned (.int .i64 (-1)) ∧ Below w.heap.size w w' := by
  have HA := Lib.hid has
  clear has
  have t3 := L.t3; have a3 := L.a3; have z3 := L.z3; have v3 := L.v3
  have t4 := L.t4; have a4 := L.a4; have z4 := L.z4; have v4 := L.v4
  have t5 := L.t5; have a5 := L.a5; have z5 := L.z5; have v5 := L.v5
  have t9 := L.t9; have a9 := L.a9; have z9 := L.z9; have v9 := L.v9
  have t21 := L.t21; have a21 := L.a21; have z21 := L.z21; have v21 := L.v21
  have e119 : ∀ args w, (callFunc (ρ.f 119) args).run P w = .ok (.enter (ρ.f 119) args) w := enters_of L.f119 (by kernel_rfl) rfl
  have e137 : ∀ args w, (callFunc (ρ.f 137) args).run P w = .ok (.enter (ρ.f 137) args) w := enters_of L.f137 (by kernel_rfl) rfl
  have mixed := L.mixed
  go_enter L.f152, Body.n152_ntmps ρ
  go_wp2_with fail
  go_loopg [5, 6] s.size (fun g _ _ wx => ∃ i : Nat, i + g = s.size ∧ wx = w.iter s i)
  case atStart => exact ⟨0, by omega, rfl⟩
  case round =>
    obtain ⟨i, hig, rfl⟩ := hrel
    cases gk with
    | zero =>
      obtain rfl : i = s.size := by omega
      have hnx := run_next_end (P := P) w s s.size
      go_wp2
      go_ret
      exact ⟨rfl, below_iter _ _ _⟩
    | succ g =>
      have hi : i < s.size := by omega
      obtain ⟨x, hx⟩ : ∃ x : UInt8, s[i]'hi = x := ⟨_, rfl⟩
      have hx128 : x.toNat < 128 := HA.out i x (by rw [← hx]; exact Lib.data_getElem? s i hi)
      have hnx := fun ty => run_next_ascii (P := P) w s i ty hi (by rw [hx]; exact hx128)
      rw [hx] at hnx
      clear hx
      have hne : ((x.toNat : Int) == 65533) = false := beq_eq_false_iff_ne.2 (by omega)
      go_wp2
      go_roundg g
      case measure => omega
      case rel => exact ⟨i + 1, by omega, rfl⟩
theorem Any.strings_IndexRune_high (L : Lays.n152 P ρ) (s : ByteArray) (r : Int) (w : World) (h1 : 128 ≤ r) (hv : Lib.validRune r = true)
    (has : ∀ (j : Nat) b, s.data.toList[j]? = some b → b.toNat < 128) :
    Calls P (ρ.f 152) #[.string s, .int .i32 r] w fun e w' => e = .returned (.int .i64 (-1)) ∧ Below w.heap.size w w' := by
  by_cases h : r = 65533
  · subst h
    exact Any.strings_IndexRune_error L s w has
  · refine (Any.strings_IndexRune_valid L s r w h1 (beq_eq_false_iff_ne.2 h) hv has).mono ?_
    rintro e w' ⟨rfl, q, rfl⟩
    exact ⟨rfl, below_drewN (Below.refl _ _) q⟩
theorem decode_cont (s : ByteArray) (pos : Nat) (h : pos < s.size) (ha : 128 ≤ (s[pos]'h).toNat) :
    pos + (Utf8.decode s pos).2 ≤ s.size ∧ ∀ j, j < (Utf8.decode s pos).2 → 128 ≤ (s.get! (pos + j)).toNat := by
  have h0 : 128 ≤ (s.get! (pos + 0)).toNat := by rw [get_at s pos h]; exact ha
  have key : ∀ n, (n = 1 ∨ (n = 2 ∧ pos + 1 < s.size ∧ (s.get! (pos + 1)).toNat / 64 = 2) ∨ (n = 3 ∧ pos + 2 < s.size ∧ (s.get! (pos + 1)).toNat / 64 = 2 ∧ (s.get! (pos + 2)).toNat / 64 = 2) ∨ (n = 4 ∧ pos + 3 < s.size ∧ (s.get! (pos + 1)).toNat / 64 = 2 ∧ (s.get! (pos + 2)).toNat / 64 = 2 ∧ (s.get! (pos + 3)).toNat / 64 = 2)) →
      pos + n ≤ s.size ∧ ∀ j, j < n → 128 ≤ (s.get! (pos + j)).toNat := by
    intro n hn
    refine ⟨by omega, fun j hj => ?_⟩
    match j, hj with
    | 0, _ => exact h0
    | 1, _ => omega
    | 2, _ => omega
    | 3, _ => omega
    | j + 4, hj => omega
  apply key
  have hn : ¬ (s.get! (pos + 0)).toNat < 128 := by omega
  simp only [Utf8.decode, hn, if_false]
  repeat' split
  all_goals simp_all
theorem decode_cont' (s : ByteArray) (pos : Nat) (h : pos < s.size) (ha : 128 ≤ (s[pos]'h).toNat) (j : Nat) (b : UInt8) (hj : pos ≤ j) (hj2 : j < pos + (Utf8.decode s pos).2) (hb : s.data.toList[j]? = some b) : 128 ≤ b.toNat := by
  obtain ⟨h1, h2⟩ := decode_cont s pos h ha
  have h3 := h2 (j - pos) (by omega)
  have e : pos + (j - pos) = j := by omega
  rw [e] at h3
  have hjs : j < s.size := by omega
  have h4 : s.get! j = s[j]'hjs := by have := get_at s j hjs; simpa using this
  rw [h4] at h3
  have h5 : s.data.toList[j]? = some (s[j]'hjs) := by
    rw [Array.getElem?_toList]; exact Array.getElem?_eq_getElem hjs
  rw [h5] at hb
  cases hb
  exact h3
theorem rune_valid_at (s : ByteArray) (pos : Nat) : Lib.validRune ((Utf8.decode s pos).1 : Int) = true := by
  simp only [Lib.validRune, decide_eq_true_eq, Utf8.decode]
  have hb : ∀ k, (s.get! (pos + k)).toNat < 256 := fun k => (s.get! (pos + k)).toNat_lt
  have h0 := hb 0; have h1 := hb 1; have h2 := hb 2; have h3 := hb 3
  repeat' split
  all_goals simp_all [Utf8.runeError, Utf8.valid]
  all_goals omega
set_option maxHeartbeats 2000000 in
theorem Any.strings_IndexAny_small (L : Lays.n153 P ρ) (s chars : ByteArray) (w : World) (h2 : 2 ≤ chars.size) (h8 : s.size ≤ 8) (hac : ∀ (j : Nat) b, chars.data.toList[j]? = some b → b.toNat < 128) :
    Calls P (ρ.f 153) #[.string s, .string chars] w fun e w' => e = .returned (.int .i64 (Lib.indexAny s.data.toList chars.data.toList)) ∧ Below w.heap.size w w' := by
  have HA := Lib.hid hac
  clear hac
  have hemp : chars.toList.isEmpty = false := by
    rw [Lib.toList_data]
    cases h : chars.data.toList with
    | nil => have := Lib.size_eq chars; rw [h, List.length_nil] at this; omega
    | cons _ _ => rfl
  have hn1 : ((chars.size : Int) == 1) = false := beq_eq_false_iff_ne.2 (by omega)
  have h8z : decide ((8 : Int) < (s.size : Int)) = false := decide_eq_false (by omega)
  have t3 := L.t3; have a3 := L.a3; have z3 := L.z3; have v3 := L.v3
  have t4 := L.t4; have a4 := L.a4; have z4 := L.z4; have v4 := L.v4
  have t5 := L.t5; have a5 := L.a5; have z5 := L.z5; have v5 := L.v5
  have t9 := L.t9; have a9 := L.a9; have z9 := L.z9; have v9 := L.v9
  have t21 := L.t21; have a21 := L.a21; have z21 := L.z21; have v21 := L.v21
  have e152 : ∀ args w, (callFunc (ρ.f 152) args).run P w = .ok (.enter (ρ.f 152) args) w := enters_of L.f152 (by kernel_rfl) rfl
  have e226 : ∀ args w, (callFunc (ρ.f 226) args).run P w = .ok (.enter (ρ.f 226) args) w := enters_of L.f226 (by kernel_rfl) rfl
  go_enter L.f153, Body.n153_ntmps ρ
  go_wp2_with (go_at_fn (ρ.f 226); refine (Any.strings_shouldUseASCIISet { L with } _ _).mono ?_; rintro e w' ⟨rfl, hw⟩; rw [hw, h8z])
  go_loopg [9, 10] s.size (fun g _ _ wx => ∃ i : Nat, s.size ≤ i + g ∧ i ≤ s.size ∧ wx.heap[w.heap.size]? = some (.stringIter s i) ∧ Below w.heap.size w wx ∧ Aside (Lib.NoAny s.data.toList chars.data.toList i))
  case atStart => exact ⟨0, by omega, by omega, World.iter_heap _ _ _, below_iter _ _ _, Lib.NoAny.zero _ _⟩
  case round =>
    obtain ⟨i, hig, his, hit, hbw, HN⟩ := hrel
    have HT := Lib.hid hit
    clear hit
    by_cases hi : i < s.size
    · obtain ⟨g, rfl⟩ : ∃ g, gk = g + 1 := ⟨gk - 1, by omega⟩
      obtain ⟨x, hx⟩ : ∃ x : UInt8, s[i]'hi = x := ⟨_, rfl⟩
      have hxl : s.data.toList[i]? = some x := by rw [← hx]; exact Lib.data_getElem? s i hi
      have Hx : Aside (s.data.toList[i]? = some x) := hxl
      clear hxl
      have hit2 : ∀ p, (wr.iterAt w.heap.size s p).heap[w.heap.size]? = some (.stringIter s p) := fun p => iterAt_heap wr w.heap.size s i p HT.out
      have hbw2 : ∀ p, Below w.heap.size w (wr.iterAt w.heap.size s p) := fun p => below_iterAt hbw (Nat.le_refl _) s p
      have H2 := Lib.hid hit2
      have HB2 := Lib.hid hbw2
      clear hit2 hbw2
      by_cases ha : x.toNat < 128
      · have hnx := fun ty => run_next_ascii_at (P := P) wr w.heap.size s i ty HT.out hi (by rw [hx]; exact ha)
        rw [hx] at hnx
        clear hx
        have hcon := Lib.contains_iff_indexByte chars.data.toList x
        have hback : ((x.toNat : Int)).toNat.toUInt8 = x := by simp
        cases hin : chars.data.toList.contains x
        · rw [hin] at hcon
          have hlt : ¬ ((0 : Int) ≤ Lib.indexByte chars.data.toList x) := of_decide_eq_false hcon.symm
          clear hcon
          go_wp2_with (go_at_fn (ρ.f 152); refine (Any.strings_IndexRune_ascii { L with } _ _ _ (by omega) (by omega)).mono ?_; rintro e w' ⟨rfl, hw⟩; rw [hw, hback])
          go_roundg g
          case measure => omega
          case rel => exact ⟨i + 1, by omega, by omega, H2.out _, HB2.out _, HN.out.succ Hx.out hin⟩
        · rw [hin] at hcon
          have hge : (0 : Int) ≤ Lib.indexByte chars.data.toList x := of_decide_eq_true hcon.symm
          clear hcon
          go_wp2_with (go_at_fn (ρ.f 152); refine (Any.strings_IndexRune_ascii { L with } _ _ _ (by omega) (by omega)).mono ?_; rintro e w' ⟨rfl, hw⟩; rw [hw, hback])
          go_ret
          exact ⟨by rw [Lib.indexAny_hit HN.out Hx.out hin]; rfl, HB2.out _⟩
      · have hnx := fun ty => run_next_any_at (P := P) wr w.heap.size s i ty HT.out hi
        have hhi := decode_high s i hi (by rw [hx]; omega)
        have hval := Lib.hid (rune_valid_at s i)
        have hct := decode_cont s i hi (by rw [hx]; omega)
        have HC := Lib.hid (fun j b => decode_cont' s i hi (by rw [hx]; omega) j b)
        clear hx
        obtain ⟨r, hr⟩ : ∃ r, (Utf8.decode s i).1 = r := ⟨_, rfl⟩
        obtain ⟨wd, hwd⟩ : ∃ wd, (Utf8.decode s i).2 = wd := ⟨_, rfl⟩
        rw [hr, hwd] at hnx
        rw [hr, hwd] at hhi
        rw [hr] at hval
        rw [hwd] at hct HC
        clear hr hwd
        have hct1 := hct.1
        obtain ⟨hr128, hwd1⟩ := hhi
        clear hct
        have hneg : ¬ ((0 : Int) ≤ -1) := by decide
        go_wp2_with (go_at_fn (ρ.f 152); refine (Any.strings_IndexRune_high { L with } _ _ _ (by omega) hval.out HA.out).mono ?_; rintro e w' ⟨rfl, hw⟩)
        go_roundg g
        case measure => omega
        case rel =>
          refine ⟨i + wd, by omega, by omega, ?_, ?_, ?_⟩
          · have hk : w.heap.size < (wr.iterAt w.heap.size s (i + wd)).heap.size := by
              have h := H2.out (i + wd)
              exact (Array.getElem?_eq_some_iff.1 h).1
            exact (hw.block _ hk).trans (H2.out _)
          · have hle : w.heap.size ≤ (wr.iterAt w.heap.size s (i + wd)).heap.size := (HB2.out _).size
            exact (HB2.out _).trans (hw.mono hle)
          · intro j b hj hb
            by_cases hji : j < i
            · exact HN.out j b hji hb
            · have h128 := HC.out j b (by omega) hj hb
              cases hcb : chars.data.toList.contains b
              · rfl
              · have hmem : b ∈ chars.data.toList := by simpa using hcb
                obtain ⟨k, hk⟩ := List.getElem?_of_mem hmem
                have := HA.out k b hk
                omega
    · have hnx := fun ty => run_next_end_at (P := P) wr w.heap.size s i ty HT.out hi
      obtain rfl : i = s.size := by omega
      go_wp2
      go_ret
      exact ⟨by rw [Lib.indexAny_none (by rw [← Lib.size_eq]; exact HN.out)]; rfl, hbw⟩
theorem Any.strings_IndexAny_set (L : Lays.n153 P ρ) (h116 : (P.info? (ρ.t 116)).map (fun i => (i.zero, i.size)) = some (some (.agg (Array.replicate 256 (.bool false))), 256)) (s chars : ByteArray) (w : World) (h2 : 2 ≤ chars.size) (hs : s.size < 4294967281) (hcs : chars.size < 4294967281)
    (hac : ∀ (j : Nat) b, chars.data.toList[j]? = some b → b.toNat < 128) :
    Calls P (ρ.f 153) #[.string s, .string chars] w fun e w' => e = .returned (.int .i64 (Lib.indexAny s.data.toList chars.data.toList)) ∧ Below w.heap.size w w' := by
  by_cases h8 : s.size ≤ 8
  · exact Any.strings_IndexAny_small L s chars w h2 h8 hac
  · refine (Any.strings_IndexAny_long L (zero_of_info h116).1 (zero_of_info h116).2 s chars w h2 (by omega) hs hcs hac).mono ?_
    rintro e w' ⟨rfl, rfl⟩
    exact ⟨rfl, ((Below.refl _ _).alloc (Nat.le_refl _) _).alloc (by simp) _⟩
end Go.Proofs
