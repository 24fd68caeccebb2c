/- The given contract of the reference's read. -/
import Derived.Test.YtmfffpfenhgjbaaDoorGivenRefText
import Derived.Test.YtmfffpfenhgjbaaDoorGivenReadAll
import Derived.Test.YtmfffpfenhgjbaaDoorPReadR
set_option linter.unusedVariables false
set_option linter.unusedSimpArgs false
namespace Go.Proofs.YtmfffpfenhgjbaaDoor.G
open Go.RowKit Go.Lib Go.Proofs Go.Proofs.YtmfffpfenhgjbaaDoor.X Go.Proofs.YtmfffpfenhgjbaaDoor.Pure Go.Proofs.YtmfffpfenhgjbaaDoorW.PrintWords Go.Proofs.YtmfffpfenhgjbaaDoorW.PrintLast Go.Proofs.YtmfffpfenhgjbaaDoorW.PrintMore
/-- What the reference's read answers from a place on. -/
def RefOk (s : ByteArray) (q : Int) (e k : Bool) (rd : List Sp × List UInt8) : Prop := ∀ W,
  Calls Tryd.prog 44 #[.string s, .int .i64 q, .bool e, .bool k] W fun x w' => ∃ v0, x = .returned (.tuple #[v0, .int .i64 (toI s rd.2)]) ∧ Kd.R k26 26 w' W.heap.size (fun j => W.heap.size ≤ j) v0 rd.1 ∧ Below W.heap.size W w'
/-- Where the loop of the reference's read stands. -/
structure RefAt (w : World) (s : ByteArray) (q : Nat) (e k : Bool) (i : Nat) (acc : List Sp) (v : Value) (wr : World) : Prop where
  lo : q ≤ i
  hi : i ≤ s.size
  row : Kd.R k26 26 wr w.heap.size (fun j => w.heap.size ≤ j) v acc
  rd : rdL dstB e k acc ((L s).drop i) = rdL dstB e k [] ((L s).drop q)
  len : acc.length ≤ i - q
  last : ∀ x, acc.getLast? = some x → x.f1.size ≤ 1000000 + i
  below : Below w.heap.size w wr
theorem RefAt.done {w wr : World} {s : ByteArray} {q i : Nat} {e k : Bool} {acc : List Sp} {v : Value} (h : RefAt w s q e k i acc v wr) (hr : (acc, (L s).drop i) = rdL dstB e k [] ((L s).drop q)) :
    ∃ v0, Ending.returned (.tuple #[v, .int .i64 (i : Int)]) = Ending.returned (.tuple #[v0, .int .i64 (toI s (rdL dstB e k [] ((L s).drop q)).2)]) ∧ Kd.R k26 26 wr w.heap.size (fun j => w.heap.size ≤ j) v0 (rdL dstB e k [] ((L s).drop q)).1 ∧ Below w.heap.size w wr := by
  rw [← hr]
  refine ⟨v, ?_, h.row, h.below⟩
  have h1 := h.hi
  have : toI s ((L s).drop i) = (i : Int) := by unfold toI; rw [List.length_drop, ← L_size]; omega
  rw [this]
section
variable {w wr : World} {s : ByteArray} {q i : Nat} {e k : Bool} {acc : List Sp} {v : Value}
theorem RefAt.moved (h : RefAt w s q e k i acc v wr) {w1 : World} (hb : Below wr.heap.size wr w1) : RefAt w s q e k i acc v w1 :=
  ⟨h.lo, h.hi, Kd.R_below h.row hb, h.rd, h.len, h.last, h.below.trans (Below.mono hb h.below.size)⟩
theorem RefAt.put (h : RefAt w s q e k i acc v wr) {w1 : World} {v1 : Value} {b : List UInt8} {i' : Nat} (hrow : Kd.R k26 26 w1 w.heap.size (fun j => w.heap.size ≤ j) v1 (putL acc b)) (hb : Below w.heap.size wr w1)
    (h1 : i < i') (h2 : i' ≤ s.size) (h3 : b.length ≤ i' - i) (hrd : rdL dstB e k (putL acc b) ((L s).drop i') = rdL dstB e k [] ((L s).drop q)) : RefAt w s q e k i' (putL acc b) v1 w1 := by
  have hlo := h.lo
  have hlen := h.len
  refine ⟨by omega, h2, hrow, hrd, ?_, ?_, h.below.trans hb⟩
  · have := putL_length b acc; omega
  · intro x hx
    have := putL_last b (1000000 + i) acc h.last x hx
    omega
theorem RefAt.app (h : RefAt w s q e k i acc v wr) {w1 : World} {v1 : Value} {x : Sp} {i' : Nat} (hrow : Kd.R k26 26 w1 w.heap.size (fun j => w.heap.size ≤ j) v1 (acc ++ [x])) (hb : Below w.heap.size wr w1)
    (h1 : i < i') (h2 : i' ≤ s.size) (h3 : x.f1.size ≤ 1000000) (hrd : rdL dstB e k (acc ++ [x]) ((L s).drop i') = rdL dstB e k [] ((L s).drop q)) : RefAt w s q e k i' (acc ++ [x]) v1 w1 := by
  have hlo := h.lo
  have hlen := h.len
  refine ⟨by omega, h2, hrow, hrd, ?_, ?_, h.below.trans hb⟩
  · rw [List.length_append, List.length_singleton]; omega
  · intro y hy
    rw [List.getLast?_append] at hy
    obtain rfl : x = y := by simpa using hy
    omega
end
/-- What is enclosed, by its first byte. -/
theorem encl_other (R : Bool → Bool → List UInt8 → List Sp × List UInt8) (e k : Bool) (c : UInt8) (t : List UInt8) (h42 : c.toNat ≠ 42) (h91 : c.toNat = 91 → k = true) (h96 : c.toNat ≠ 96) : enclL dstB R e k (c :: t) = none := by
  unfold enclL
  dsimp only
  rw [if_neg h42, if_neg (fun h => by rw [h91 h.1] at h; cases h.2), if_neg h96]
theorem encl_star_eq (R : Bool → Bool → List UInt8 → List Sp × List UInt8) (e k : Bool) (c : UInt8) (t : List UInt8) (h42 : c.toNat = 42) : enclL dstB R e k (c :: t) = starV (R true k t) := by
  unfold enclL starV
  dsimp only
  rw [if_pos h42]
  rfl
theorem encl_tick_eq (R : Bool → Bool → List UInt8 → List Sp × List UInt8) (e k : Bool) (c : UInt8) (t : List UInt8) (h96 : c.toNat = 96) : enclL dstB R e k (c :: t) = (codeL (ticksL (c :: t)) ((c :: t).length) [] ((c :: t).drop (ticksL (c :: t)))).map (fun p => (⟨2, ⟨(stripL p.1).toArray⟩, []⟩, p.2)) := by
  unfold enclL
  dsimp only
  rw [if_neg (by omega), if_neg (by omega), if_pos h96]
/-- A link, if it is one. -/
def brackV (rd : List Sp × List UInt8) : Option (Sp × List UInt8) := match rd.2 with | d :: r => if d.toNat = 93 ∧ rd.1 ≠ [] then (toL dstB r).map (fun p => (⟨4, ⟨p.1.toArray⟩, rd.1⟩, p.2)) else none | [] => none
theorem encl_brack_eq (R : Bool → Bool → List UInt8 → List Sp × List UInt8) (e : Bool) (c : UInt8) (t : List UInt8) (h91 : c.toNat = 91) : enclL dstB R e false (c :: t) = brackV (R e true t) := by
  unfold enclL brackV
  dsimp only
  rw [if_neg (by omega), if_pos ⟨h91, rfl⟩]
  rfl
/-- A byte that is text alone. -/
theorem rd_one (e k : Bool) (acc : List Sp) (c : UInt8) (t : List UInt8) (h1 : endB e k c = false) (h2 : escL (c :: t) = none) (h3 : enclL dstB (fun e k l => rdL dstB e k [] l) e k (c :: t) = none) (h96 : c.toNat ≠ 96) : rdL dstB e k acc (c :: t) = rdL dstB e k (putL acc [c]) t := by
  rw [rdL_cons, h1, if_neg (by decide), h2]
  dsimp only
  rw [h3]
  dsimp only
  have : ticksL (c :: t) = 0 := by rw [ticksL, if_neg h96]
  rw [this]
  rfl

set_option maxHeartbeats 8000000 in
set_option maxRecDepth 1000000 in
theorem ref_read_loop (s : ByteArray) (q : Nat) (e k : Bool) (w : World) (hs : s.size ≤ 1000000) (hq : q ≤ s.size)
    (hR : ∀ i, q ≤ i → i < s.size → ∀ e k, RefOk s ((i : Int) + 1) e k (rdL dstB e k [] ((L s).drop (i + 1)))) :
    Calls Tryd.prog 44 #[.string s, .int .i64 (q : Int), .bool e, .bool k] w fun x w' => ∃ v0, x = .returned (.tuple #[v0, .int .i64 (toI s (rdL dstB e k [] ((L s).drop q)).2)]) ∧ Kd.R k26 26 w' w.heap.size (fun j => w.heap.size ≤ j) v0 (rdL dstB e k [] ((L s).drop q)).1 ∧ Below w.heap.size w w' := by
  have HS := Aside0.mk hs
  have HR := Aside0.mk hR
  have HQ := Aside0.mk hq
  clear hs hR hq
  go_enter Tryd.func44, Tryd.ntmps44
  go_wp2_with fail
  go_loopw [1, 10] (fun v1 v10 wr => ∃ (i : Nat) (acc : List Sp), v1 = .int .i64 (i : Int) ∧ RefAt w s q e k i acc v10 wr) (fun v1 _ _ => s.size - (intOf v1).toNat)
  case atStart => exact ⟨q, [], rfl, ⟨Nat.le_refl _, HQ.out, Kd.R_nil _ _ _ _ _, rfl, Nat.zero_le _, (fun x h => by cases h), Below.refl _ w⟩⟩
  case round =>
    obtain ⟨i, acc, rfl, hat⟩ := hrel
    have hi1 := hat.hi
    have HA := Aside0.mk hat
    obtain ⟨A, c, rfl⟩ := Kd.R_slice hat.row
    clear hat
    by_cases hlt : i < s.size
    · have hll : i < (L s).length := by rw [← L_size]; exact hlt
      have hd : decide ((i : Int) < (s.size : Int)) = true := decide_eq_true (by omega)
      have hdr : (L s).drop i = s[i]'hlt :: (L s).drop (i + 1) := List.drop_eq_getElem_cons hll
      have HD := Aside0.mk hdr
      have hS := HA.out.rd
      rw [hdr] at hS
      have hi2 : i < 1000000 := by have := HS.out; omega
      cases hend : endB e k (s[i]'hlt) with
      | true =>
        rw [rdL_cons, hend, if_pos rfl, ← hdr] at hS
        have HE := Aside0.mk hS
        clear hS hdr
        have hcase : ((s[i]'hlt).toNat = 42 ∧ e = true) ∨ ((s[i]'hlt).toNat ≠ 42 ∧ (s[i]'hlt).toNat = 93 ∧ k = true) ∨ ((s[i]'hlt).toNat = 42 ∧ e = false ∧ (s[i]'hlt).toNat = 93) := by
          unfold endB at hend
          by_cases h42 : (s[i]'hlt).toNat = 42
          · cases e with
            | true => exact Or.inl ⟨h42, rfl⟩
            | false => rw [h42] at hend; simp at hend
          · exact Or.inr (Or.inl ⟨h42, by simpa [h42] using hend⟩)
        rcases hcase with ⟨h42, rfl⟩ | ⟨h42, h93, rfl⟩ | ⟨h42, _, h93⟩
        · have hc0 : ((((s[i]'hlt).toNat : Nat) : Int) == 42) = true := beq_iff_eq.2 (by omega)
          clear hend h42
          as_aux_lemma =>
            go_wp2_with fail
            refine bodyPost_ret (v := .tuple #[.slice A acc.length c, .int .i64 (i : Int)]) (by simp [results, Tryd.results44, go_sem]) rfl (HA.out.done HE.out)
        · have hc0 : ((((s[i]'hlt).toNat : Nat) : Int) == 42) = false := beq_eq_false_iff_ne.2 (by omega)
          have hc1 : ((((s[i]'hlt).toNat : Nat) : Int) == 93) = true := beq_iff_eq.2 (by omega)
          clear hend h42 h93
          as_aux_lemma =>
            go_wp2_with fail
            refine bodyPost_ret (v := .tuple #[.slice A acc.length c, .int .i64 (i : Int)]) (by simp [results, Tryd.results44, go_sem]) rfl (HA.out.done HE.out)
        · omega
      | false =>
        have hput : ∀ (b : ByteArray) (W : World) (v : Value) (acc : List Sp) (i : Nat), RefAt w s q e k i acc v W → b.size ≤ 1000000 → Calls Tryd.prog 68 #[v, .string b] W fun x w' => ∃ v1, x = .returned v1 ∧ Kd.R k26 26 w' w.heap.size (fun j => w.heap.size ≤ j) v1 (putL acc (L b)) ∧ Below w.heap.size W w' ∧ W.grownBy w' v.ownBlock ∧ Moved W w' v v1 := by
          intro b W v acc i h hb
          have h1 := h.hi
          have h2 := h.len
          have h3 := HS.out
          exact text_calls w.heap.size _ v acc b W h.below.size (fun j hj => Nat.le_trans h.below.size hj) h.row (by omega) (fun x hx => by have := h.last x hx; omega)
        have hxb1 : L (s.extract i (i + 1)) = [s[i]'hlt] := by
          rw [L_extract, HD.out, show i + 1 - i = 1 from by omega]; rfl
        have hx1 : (s.extract i (i + 1)).size ≤ 1000000 := by rw [L_size, hxb1, List.length_singleton]; omega
        have b1 : (i : Int) ≤ (i : Int) + 1 := by omega
        have b2 : (i : Int) + 1 ≤ (s.size : Int) := by omega
        have b3 : ((i : Int) + 1).toNat = i + 1 := by omega
        by_cases h92 : (s[i]'hlt).toNat = 92
        · have hc0 : ((((s[i]'hlt).toNat : Nat) : Int) == 42) = false := beq_eq_false_iff_ne.2 (by omega)
          have hc1 : ((((s[i]'hlt).toNat : Nat) : Int) == 93) = false := beq_eq_false_iff_ne.2 (by omega)
          have hc2 : ((((s[i]'hlt).toNat : Nat) : Int) == 92) = true := beq_iff_eq.2 (by omega)
          have hc3 : ((((s[i]'hlt).toNat : Nat) : Int) == 96) = false := beq_eq_false_iff_ne.2 (by omega)
          have hc4 : ((((s[i]'hlt).toNat : Nat) : Int) == 91) = false := beq_eq_false_iff_ne.2 (by omega)
          have hen := encl_other (fun e k l => rdL dstB e k [] l) e k (s[i]'hlt) ((L s).drop (i + 1)) (by omega) (by omega) (by omega)
          by_cases h1 : i + 1 < s.size
          · have hd1 : decide ((i : Int) + 1 < (s.size : Int)) = true := decide_eq_true (by omega)
            have hl1 : i + 1 < (L s).length := by rw [← L_size]; exact h1
            have hdr1 : (L s).drop (i + 1) = s[i + 1]'h1 :: (L s).drop (i + 2) := List.drop_eq_getElem_cons hl1
            have hcC := fun W => emendationref01_Class.calls 2 (wrap64 (((s[i + 1]'h1).toNat : Nat) : Int)) (classV (((s[i + 1]'h1).toNat : Nat) : Int)) W (by rw [Go.Proofs.YtmfffpfenhgjbaaDoor.Pure.wrap_small (by omega) (by have := (s[i + 1]'h1).toNat_lt; omega)]; exact ref_class_eq (s[i + 1]'h1) 0)
            have hcm := class_mark (s[i + 1]'h1)
            generalize classV (((s[i + 1]'h1).toNat : Nat) : Int) = cv at hcC hcm
            cases hmk : markB (s[i + 1]'h1) with
            | true =>
              rw [hmk] at hcm
              have hesc : escL (s[i]'hlt :: (L s).drop (i + 1)) = some (s[i + 1]'h1, (L s).drop (i + 2)) := by
                rw [hdr1]; exact if_pos ⟨h92, hmk⟩
              rw [rdL_cons, hend, if_neg (by decide), hesc] at hS
              have HE := Aside0.mk hS
              have hxb : L (s.extract (i + 1) (i + 2)) = [s[i + 1]'h1] := by
                rw [L_extract, hdr1, show i + 2 - (i + 1) = 1 from by omega]; rfl
              have hxz : (s.extract (i + 1) (i + 2)).size ≤ 1000000 := by rw [L_size, hxb, List.length_singleton]; omega
              have b0 : (0 : Int) ≤ (i : Int) + 1 := by omega
              have b4 : (i : Int) + 1 ≤ (i : Int) + 2 := by omega
              have b5 : (i : Int) + 2 ≤ (s.size : Int) := by omega
              have b6 : ((i : Int) + 2).toNat = i + 2 := by omega
              clear hend h92 hS hdr hesc hen hdr1 hmk hxb1 hx1
              as_aux_lemma =>
                go_wp2_with fail
                refine (hcC _).mono ?_
                rintro x w1 ⟨rfl, hdw⟩
                have HA1 := Aside0.mk (HA.out.moved hdw.below)
                have cP := hput (s.extract (i + 1) (i + 2)) w1 _ _ _ HA1.out hxz
                clear hcC hput
                go_wp2_with fail
                refine cP.mono ?_
                rintro x w2 ⟨v1, rfl, hr2, hb2, hg2, _⟩
                rw [hxb] at hr2
                have HA2 := Aside0.mk (HA1.out.put hr2 hb2 (i' := i + 2) (by omega) (by omega) (by rw [List.length_singleton]; omega) HE.out)
                have HKI := Aside0.mk (show (i : Int) + 2 = ((i + 2 : Nat) : Int) by omega)
                clear cP hr2 hb2 hg2
                go_wp2_with fail
                go_roundw
                case rel => exact ⟨i + 2, _, congrArg _ HKI.out, HA2.out⟩
                case measure => simp [intOf]; omega
            | false =>
              rw [hmk] at hcm
              have hesc : escL (s[i]'hlt :: (L s).drop (i + 1)) = none := by
                rw [hdr1]; exact if_neg (fun h => by rw [hmk] at h; cases h.2)
              rw [rd_one e k acc _ _ hend hesc hen (by omega)] at hS
              have HE := Aside0.mk hS
              clear hend h92 hS hdr hesc hen hdr1 hmk
              as_aux_lemma =>
                go_wp2_with fail
                refine (hcC _).mono ?_
                rintro x w1 ⟨rfl, hdw⟩
                have HAq := Aside0.mk (HA.out.moved hdw.below)
                clear HA hcC
                have HA := HAq
                clear HAq
                have cP := hput (s.extract i (i + 1)) _ _ _ _ HA.out hx1
                clear hput
                go_wp2_with fail
                refine cP.mono ?_
                rintro x wp ⟨v1, rfl, hr2, hb2, hg2, _⟩
                rw [hxb1] at hr2
                have HA2 := Aside0.mk (HA.out.put hr2 hb2 (i' := i + 1) (by omega) (by omega) (by rw [List.length_singleton]; omega) HE.out)
                have HKI := Aside0.mk (show (i : Int) + 1 = ((i + 1 : Nat) : Int) by omega)
                clear cP hr2 hb2 hg2
                go_wp2_with fail
                go_roundw
                case rel => exact ⟨i + 1, _, congrArg _ HKI.out, HA2.out⟩
                case measure => simp [intOf]; omega
          · have hd1 : decide ((i : Int) + 1 < (s.size : Int)) = false := decide_eq_false (by omega)
            have hesc : escL (s[i]'hlt :: (L s).drop (i + 1)) = none := by
              rw [List.drop_eq_nil_of_le (by rw [← L_size]; omega)]; rfl
            rw [rd_one e k acc _ _ hend hesc hen (by omega)] at hS
            have HE := Aside0.mk hS
            clear hend h92 hS hdr hesc hen
            have cP := hput (s.extract i (i + 1)) _ _ _ _ HA.out hx1
            clear hput
            as_aux_lemma =>
              go_wp2_with fail
              refine cP.mono ?_
              rintro x wp ⟨v1, rfl, hr2, hb2, hg2, _⟩
              rw [hxb1] at hr2
              have HA2 := Aside0.mk (HA.out.put hr2 hb2 (i' := i + 1) (by omega) (by omega) (by rw [List.length_singleton]; omega) HE.out)
              have HKI := Aside0.mk (show (i : Int) + 1 = ((i + 1 : Nat) : Int) by omega)
              clear cP hr2 hb2 hg2
              go_wp2_with fail
              go_roundw
              case rel => exact ⟨i + 1, _, congrArg _ HKI.out, HA2.out⟩
              case measure => simp [intOf]; omega
        · have hesc : escL (s[i]'hlt :: (L s).drop (i + 1)) = none := by
            unfold escL
            split
            · rename_i c' d t' heq
              injection heq with g1 g2
              rw [if_neg (fun h => h92 (by rw [g1]; exact h.1))]
            · rfl
          have hc2 : ((((s[i]'hlt).toNat : Nat) : Int) == 92) = false := beq_eq_false_iff_ne.2 (by omega)
          by_cases h96 : (s[i]'hlt).toNat = 96
          · have hc0 : ((((s[i]'hlt).toNat : Nat) : Int) == 42) = false := beq_eq_false_iff_ne.2 (by omega)
            have hc1 : ((((s[i]'hlt).toNat : Nat) : Int) == 93) = false := beq_eq_false_iff_ne.2 (by omega)
            have hc3 : ((((s[i]'hlt).toNat : Nat) : Int) == 96) = true := beq_iff_eq.2 (by omega)
            rw [rdL_cons, hend, if_neg (by decide), hesc] at hS
            dsimp only at hS
            rw [encl_tick_eq _ e k _ _ h96, ← HD.out, List.drop_drop] at hS
            have htk := fun W => emendationref08_Ticks.calls (3 * s.size + 3) s (i : Int) _ W (refTicks_eq s i (3 * s.size + 3) (by have := HS.out; omega) hi1 (by omega))
            have htl := ticksL_le ((L s).drop i)
            rw [List.length_drop, ← L_size] at htl
            have htp : 0 < ticksL ((L s).drop i) := by rw [HD.out, ticksL, if_pos h96]; omega
            have hlen : ((L s).drop i).length = s.size - i := by rw [List.length_drop, ← L_size]
            rw [hlen] at hS
            generalize ticksL ((L s).drop i) = m at hS htk htl htp
            have hm1 : max 1 m = m := by omega
            have hmi : i + m ≤ s.size := by omega
            have hcd := fun W => emendationref08_code.calls (3 * s.size + 3) s (i : Int) (m : Int) _ _ W (refCode_eq s i m (3 * s.size + 3) (s.size - i) HS.out htp hmi (by omega) (by omega))
            rw [hm1] at hS
            cases hco : codeL m (s.size - i) [] ((L s).drop (i + m)) with
            | none =>
              rw [hco] at hS hcd
              dsimp only [Option.map_none] at hS
              rw [List.drop_drop] at hS
              have HE := Aside0.mk hS
              have hxb : L (s.extract i (i + m)) = ((L s).drop i).take m := by rw [L_extract, show i + m - i = m from by omega]
              have hxz : (s.extract i (i + m)).size ≤ 1000000 := Nat.le_trans (extract_le s i (i + m)) HS.out
              have b4 : (i : Int) ≤ (i : Int) + (m : Int) := by omega
              have b5 : (i : Int) + (m : Int) ≤ (s.size : Int) := by omega
              have b6 : ((i : Int) + (m : Int)).toNat = i + m := by omega
              have hm3 : (m : Int) ≤ 1000000 := by have := HS.out; omega
              have HM := Aside0.mk (And.intro htp hmi)
              clear hend h92 hS hdr hesc h96 hco hlen htl htp hmi hxb1 hx1 hm1
              as_aux_lemma =>
                go_wp2_with fail
                refine (htk _).mono ?_
                rintro x w1 ⟨rfl, hdw⟩
                have HA1 := Aside0.mk (HA.out.moved hdw.below)
                clear htk
                go_wp2_with fail
                refine (hcd _).mono ?_
                rintro x w2 ⟨rfl, hb1⟩
                have HA2 := Aside0.mk (HA1.out.moved hb1)
                have cP := hput (s.extract i (i + m)) w2 _ _ _ HA2.out hxz
                clear hcd hput
                dsimp only [refCodeV]
                go_wp2_with fail
                refine cP.mono ?_
                rintro x w3 ⟨v1, rfl, hr2, hb2, hg2, _⟩
                rw [hxb] at hr2
                have HA3 := Aside0.mk (HA2.out.put hr2 hb2 (i' := i + m) (by have := HM.out; omega) HM.out.2 (by rw [List.length_take]; omega) HE.out)
                have HKI := Aside0.mk (show (i : Int) + (m : Int) = ((i + m : Nat) : Int) by omega)
                clear cP hr2 hb2 hg2
                go_wp2_with fail
                go_roundw
                case rel => exact ⟨i + m, _, congrArg _ HKI.out, HA3.out⟩
                case measure => rw [HKI.out]; simp only [intOf, Int.toNat_natCast]; have := HM.out; omega
            | some bt =>
              obtain ⟨b, t⟩ := bt
              rw [hco] at hS hcd
              dsimp only [Option.map_some] at hS
              have hsf := codeL_suf _ _ _ _ b t hco
              have hst := stripL_le b
              have hsu := suf_drop (hsf.1.trans (List.drop_suffix (i + m) (L s)))
              rw [← L_size] at hsu
              have hl1 := codeL_le _ _ _ _ b t hco
              have hl2 := hsf.2
              rw [List.length_nil] at hl2
              rw [List.length_drop, ← L_size] at hl1 hl2
              have hnx : i < s.size - t.length ∧ s.size - t.length ≤ s.size := by omega
              have hxs : (⟨(stripL b).toArray⟩ : ByteArray).size ≤ 1000000 := by
                rw [L_size, L_mk]; have := HS.out; omega
              have HX := Aside0.mk (And.intro hxs (And.intro hsu hnx))
              dsimp only [refCodeV] at hcd
              have HE := Aside0.mk (show rdL dstB e k (acc ++ [⟨2, ⟨(stripL b).toArray⟩, []⟩]) ((L s).drop (s.size - t.length)) = rdL dstB e k [] ((L s).drop q) by rw [hsu]; exact hS)
              have hm3 : (m : Int) ≤ 1000000 := by have := HS.out; omega
              clear hend h92 hS hdr hesc h96 hco hlen htl htp hmi hxb1 hx1 hm1 hsf hst hsu hl1 hl2 hnx hxs hput
              generalize (⟨(stripL b).toArray⟩ : ByteArray) = xb at *
              generalize s.size - t.length = z at *
              have hz0 : decide ((z : Int) < 0) = false := decide_eq_false (by omega)
              as_aux_lemma =>
                go_wp2_with fail
                refine (htk _).mono ?_
                rintro x w1 ⟨rfl, hdw⟩
                have HA1 := Aside0.mk (HA.out.moved hdw.below)
                clear htk
                go_wp2_with fail
                refine (hcd _).mono ?_
                rintro x w2 ⟨rfl, hb1⟩
                have HA2 := Aside0.mk (HA1.out.moved hb1)
                clear hcd HA HA1
                have HA := HA2
                have HMM := Aside0.mk (k26_mkM w2 w.heap.size (fun _ => False) ⟨2, xb, []⟩ (Kd.R_nil _ _ _ _ _))
                have HLL := Aside0.mk (show (acc.length + 1) * 48 ≤ 140737488355328 by have := HA.out.len; omega)
                go_wp2_with ((with_reducible refine gate_builtin (b := .append) (xs := #[.tmp 95, .tmp 98]) rfl ?_); at_builtin; refine Kd.R_append k26 (w0 := w2) w.heap.size rfl (.tmp 95) (.tmp 98) 22 26 _ 48 rfl Tryd.underlying22 infoSP rfl (by decide) (by decide) (.slice A acc.length c) acc ⟨2, xb, []⟩ [.int .i64 2, .string xb, .slice none 0 0] (fun j => w.heap.size ≤ j) (fun _ => False) rfl rfl HMM.out (fun _ hk => hk.elim) (fun j hj => Nat.le_trans HA.out.below.size hj) HA.out.row (Below.refl _ _) HA.out.below.size HLL.out ?_; intro v1 w3 hr3 hb3 hg3 _)
                obtain ⟨k1, k2, k3, k4⟩ := HX.out
                refine ⟨⟨z, acc ++ [⟨2, xb, []⟩], rfl, HA.out.app hr3 hb3 k3 k4 k1 HE.out⟩, ?_⟩
                simp only [intOf, Int.toNat_natCast]
                omega
          · by_cases h42 : (s[i]'hlt).toNat = 42
            · have he : e = false := by
                cases e with
                | false => rfl
                | true => unfold endB at hend; rw [h42] at hend; simp at hend
              subst he
              have hc0 : ((((s[i]'hlt).toNat : Nat) : Int) == 42) = true := beq_iff_eq.2 (by omega)
              have hc1 : ((((s[i]'hlt).toNat : Nat) : Int) == 93) = false := beq_eq_false_iff_ne.2 (by omega)
              have hc3 : ((((s[i]'hlt).toNat : Nat) : Int) == 96) = false := beq_eq_false_iff_ne.2 (by omega)
              have hc4 : ((((s[i]'hlt).toNat : Nat) : Int) == 91) = false := beq_eq_false_iff_ne.2 (by omega)
              have hRd := HR.out i HA.out.lo hlt true k
              unfold RefOk at hRd
              have hens := encl_star_eq (fun e k l => rdL dstB e k [] l) false k (s[i]'hlt) ((L s).drop (i + 1)) h42
              have hsf := rdL_suf dstB true k [] ((L s).drop (i + 1))
              generalize rdL dstB true k [] ((L s).drop (i + 1)) = rd at hRd hens hsf
              have hsu := suf_drop (hsf.trans (List.drop_suffix (i + 1) (L s)))
              have hle := hsf.length_le
              rw [← L_size] at hsu
              rw [List.length_drop, ← L_size] at hle
              have hto : toI s rd.2 = ((s.size - rd.2.length : Nat) : Int) := rfl
              cases hst : starV rd with
              | none =>
                rw [hst] at hens
                rw [rd_one false k acc _ _ hend hesc hens h96] at hS
                have HE := Aside0.mk hS
                have hwhy : rd.2 = [] ∨ ∃ d r, rd.2 = d :: r ∧ (d.toNat ≠ 42 ∨ rd.1 = []) := by
                  unfold starV at hst
                  cases h2 : rd.2 with
                  | nil => exact Or.inl rfl
                  | cons d r =>
                    right
                    rw [h2] at hst
                    dsimp only at hst
                    refine ⟨d, r, rfl, ?_⟩
                    by_cases g : d.toNat = 42
                    · right
                      by_cases g2 : rd.1 = []
                      · exact g2
                      · rw [if_pos ⟨g, g2⟩] at hst; cases hst
                    · exact Or.inl g
                clear hens hst hS hdr hend hesc h92 h96 h42 hsf
                rcases hwhy with h2 | ⟨d, r, h2, hwhy⟩
                · have hzz : s.size - rd.2.length = s.size := by rw [h2]; rfl
                  rw [hto, hzz] at hRd
                  have hdz : decide ((s.size : Int) < (s.size : Int)) = false := decide_eq_false (by omega)
                  clear hzz hto h2 hsu hle
                  as_aux_lemma =>
                    go_wp2_with fail
                    refine (hRd _).mono ?_
                    rintro x w1 ⟨v0, rfl, hkr, hb1⟩
                    obtain ⟨A1, c1, rfl⟩ := Kd.R_slice hkr
                    have HAq := Aside0.mk (HA.out.moved hb1)
                    clear HA hRd hkr
                    have HA := HAq
                    clear HAq
                    have cP := hput (s.extract i (i + 1)) _ _ _ _ HA.out hx1
                    clear hput
                    go_wp2_with fail
                    refine cP.mono ?_
                    rintro x wp ⟨v1, rfl, hr2, hb2, hg2, _⟩
                    rw [hxb1] at hr2
                    have HA2 := Aside0.mk (HA.out.put hr2 hb2 (i' := i + 1) (by omega) (by omega) (by rw [List.length_singleton]; omega) HE.out)
                    have HKI := Aside0.mk (show (i : Int) + 1 = ((i + 1 : Nat) : Int) by omega)
                    clear cP hr2 hb2 hg2
                    go_wp2_with fail
                    go_roundw
                    case rel => exact ⟨i + 1, _, congrArg _ HKI.out, HA2.out⟩
                    case measure => simp [intOf]; omega
                · have hzz : s.size - rd.2.length < s.size := by rw [h2, List.length_cons]; omega
                  rw [hto] at hRd
                  generalize hz : s.size - rd.2.length = z at hRd hzz hsu
                  have hzl : z < (L s).length := by rw [← L_size]; exact hzz
                  have hsz : s[z]'hzz = d := by
                    rw [List.drop_eq_getElem_cons hzl, h2] at hsu
                    exact (List.cons.inj hsu).1
                  have hdz : decide ((z : Int) < (s.size : Int)) = true := decide_eq_true (by omega)
                  have hz9 : z < 1000000 := by have := HS.out; omega
                  clear hto hsu hle hz h2 hzl
                  by_cases g : d.toNat = 42
                  · have hc5 : ((((s[z]'hzz).toNat : Nat) : Int) == 42) = true := by rw [hsz]; exact beq_iff_eq.2 (by omega)
                    have hn : rd.1.length = 0 := by
                      rcases hwhy with h | h
                      · exact absurd g h
                      · rw [h]; rfl
                    rw [← hsz] at g
                    clear hwhy hsz
                    as_aux_lemma =>
                      go_wp2_with fail
                      refine (hRd _).mono ?_
                      rintro x w1 ⟨v0, rfl, hkr, hb1⟩
                      obtain ⟨A1, c1, rfl⟩ := Kd.R_slice hkr
                      rw [hn] at hkr ⊢
                      have HAq := Aside0.mk (HA.out.moved hb1)
                      clear HA hRd hkr
                      have HA := HAq
                      clear HAq
                      have cP := hput (s.extract i (i + 1)) _ _ _ _ HA.out hx1
                      clear hput
                      go_wp2_with fail
                      refine cP.mono ?_
                      rintro x wp ⟨v1, rfl, hr2, hb2, hg2, _⟩
                      rw [hxb1] at hr2
                      have HA2 := Aside0.mk (HA.out.put hr2 hb2 (i' := i + 1) (by omega) (by omega) (by rw [List.length_singleton]; omega) HE.out)
                      have HKI := Aside0.mk (show (i : Int) + 1 = ((i + 1 : Nat) : Int) by omega)
                      clear cP hr2 hb2 hg2
                      go_wp2_with fail
                      go_roundw
                      case rel => exact ⟨i + 1, _, congrArg _ HKI.out, HA2.out⟩
                      case measure => simp [intOf]; omega
                  · have hc5 : ((((s[z]'hzz).toNat : Nat) : Int) == 42) = false := by rw [hsz]; exact beq_eq_false_iff_ne.2 (by omega)
                    clear hwhy hsz g
                    as_aux_lemma =>
                      go_wp2_with fail
                      refine (hRd _).mono ?_
                      rintro x w1 ⟨v0, rfl, hkr, hb1⟩
                      obtain ⟨A1, c1, rfl⟩ := Kd.R_slice hkr
                      have HAq := Aside0.mk (HA.out.moved hb1)
                      clear HA hRd hkr
                      have HA := HAq
                      clear HAq
                      have cP := hput (s.extract i (i + 1)) _ _ _ _ HA.out hx1
                      clear hput
                      go_wp2_with fail
                      refine cP.mono ?_
                      rintro x wp ⟨v1, rfl, hr2, hb2, hg2, _⟩
                      rw [hxb1] at hr2
                      have HA2 := Aside0.mk (HA.out.put hr2 hb2 (i' := i + 1) (by omega) (by omega) (by rw [List.length_singleton]; omega) HE.out)
                      have HKI := Aside0.mk (show (i : Int) + 1 = ((i + 1 : Nat) : Int) by omega)
                      clear cP hr2 hb2 hg2
                      go_wp2_with fail
                      go_roundw
                      case rel => exact ⟨i + 1, _, congrArg _ HKI.out, HA2.out⟩
                      case measure => simp [intOf]; omega
              | some yl =>
                obtain ⟨y, r⟩ := yl
                rw [rdL_cons, hend, if_neg (by decide), hesc] at hS
                dsimp only at hS
                rw [hens, hst] at hS
                dsimp only at hS
                have hwhat : ∃ d, rd.2 = d :: r ∧ d.toNat = 42 ∧ rd.1 ≠ [] ∧ y = ⟨3, mtP, rd.1⟩ := by
                  unfold starV at hst
                  cases h2 : rd.2 with
                  | nil => rw [h2] at hst; cases hst
                  | cons d r' =>
                    rw [h2] at hst
                    dsimp only at hst
                    split at hst
                    · rename_i g
                      obtain ⟨rfl, rfl⟩ := Prod.mk.inj (Option.some.inj hst)
                      exact ⟨d, rfl, g.1, g.2, rfl⟩
                    · cases hst
                obtain ⟨d, h2, g, hn, rfl⟩ := hwhat
                have hzz : s.size - rd.2.length < s.size := by rw [h2, List.length_cons]; omega
                have hrl : r.length + 1 ≤ s.size - (i + 1) := by rw [h2, List.length_cons] at hle; exact hle
                have hz1 : s.size - rd.2.length + 1 = s.size - r.length := by rw [h2, List.length_cons]; omega
                rw [hto] at hRd
                generalize s.size - rd.2.length = z at hRd hzz hsu hz1
                have hzl : z < (L s).length := by rw [← L_size]; exact hzz
                have hds : s[z]'hzz = d ∧ (L s).drop (z + 1) = r := by
                  rw [List.drop_eq_getElem_cons hzl, h2] at hsu
                  exact List.cons.inj hsu
                have hdz : decide ((z : Int) < (s.size : Int)) = true := decide_eq_true (by omega)
                have hz9 : z < 1000000 := by have := HS.out; omega
                have hc5 : ((((s[z]'hzz).toNat : Nat) : Int) == 42) = true := by rw [hds.1]; exact beq_iff_eq.2 (by omega)
                have hn0 : 0 < rd.1.length := List.length_pos_iff.2 hn
                have hn1 : decide (0 < rd.1.length) = true := decide_eq_true hn0
                have HX := Aside0.mk (show i < z + 1 ∧ z + 1 ≤ s.size by omega)
                have HE := Aside0.mk (show rdL dstB false k (acc ++ [⟨3, mtP, rd.1⟩]) ((L s).drop (z + 1)) = rdL dstB false k [] ((L s).drop q) by rw [hds.2]; exact hS)
                clear hens hst hS hdr hend hesc h92 h96 h42 hsf hto hsu hle h2 g hn hrl hz1 hzl hds hput hxb1 hx1
                as_aux_lemma =>
                  go_wp2_with fail
                  refine (hRd _).mono ?_
                  rintro x w1 ⟨v0, rfl, hkr, hb1⟩
                  obtain ⟨A1, c1, rfl⟩ := Kd.R_slice hkr
                  have HAq := Aside0.mk (HA.out.moved hb1)
                  have HMM := Aside0.mk (k26_mkM w1 w.heap.size (fun j => wr.heap.size ≤ j) ⟨3, mtP, rd.1⟩ (Kd.R_lower hkr HA.out.below.size))
                  have HOKP := Aside0.mk (show ∀ j, wr.heap.size ≤ j → w.heap.size ≤ j ∧ some j ≠ (Value.slice A acc.length c).ownBlock from fun j hj => ⟨Nat.le_trans HA.out.below.size hj, fun he => by have := Kd.R_lt HA.out.row j he.symm; omega⟩)
                  have HLL := Aside0.mk (show (acc.length + 1) * 48 ≤ 140737488355328 by have := HA.out.len; omega)
                  clear HA hRd hkr hb1
                  have HA := HAq
                  clear HAq
                  go_wp2_with ((with_reducible refine gate_builtin (b := .append) (xs := #[.tmp 126, .tmp 129]) rfl ?_); at_builtin; refine Kd.R_append k26 (w0 := w1) w.heap.size rfl (.tmp 126) (.tmp 129) 22 26 _ 48 rfl Tryd.underlying22 infoSP rfl (by decide) (by decide) (.slice A acc.length c) acc ⟨3, mtP, rd.1⟩ [.int .i64 3, .string mtP, .slice A1 rd.1.length c1] (fun j => w.heap.size ≤ j) (fun j => wr.heap.size ≤ j) rfl rfl HMM.out HOKP.out (fun j hj => Nat.le_trans HA.out.below.size hj) HA.out.row (Below.refl _ _) HA.out.below.size HLL.out ?_; intro v1 w3 hr3 hb3 hg3 _)
                  obtain ⟨k3, k4⟩ := HX.out
                  have HKI := Aside0.mk (show (z : Int) + 1 = ((z + 1 : Nat) : Int) by omega)
                  refine ⟨⟨z + 1, acc ++ [⟨3, mtP, rd.1⟩], congrArg _ HKI.out, HA.out.app (x := ⟨3, mtP, rd.1⟩) hr3 hb3 k3 k4 (Nat.zero_le 1000000) HE.out⟩, ?_⟩
                  rw [HKI.out]
                  simp only [intOf, Int.toNat_natCast]
                  omega
            · have hc0 : ((((s[i]'hlt).toNat : Nat) : Int) == 42) = false := beq_eq_false_iff_ne.2 (by omega)
              have hc3 : ((((s[i]'hlt).toNat : Nat) : Int) == 96) = false := beq_eq_false_iff_ne.2 (by omega)
              by_cases h91 : (s[i]'hlt).toNat = 91
              · have hc1 : ((((s[i]'hlt).toNat : Nat) : Int) == 93) = false := beq_eq_false_iff_ne.2 (by omega)
                have hc4 : ((((s[i]'hlt).toNat : Nat) : Int) == 91) = true := beq_iff_eq.2 (by omega)
                cases k with
                | true =>
                  have hen := encl_other (fun e k l => rdL dstB e k [] l) e true (s[i]'hlt) ((L s).drop (i + 1)) h42 (fun _ => rfl) h96
                  rw [rd_one e true acc _ _ hend hesc hen h96] at hS
                  have HE := Aside0.mk hS
                  clear hend h92 hS hdr hesc hen h96 h42 h91
                  have cP := hput (s.extract i (i + 1)) _ _ _ _ HA.out hx1
                  clear hput
                  as_aux_lemma =>
                    go_wp2_with fail
                    refine cP.mono ?_
                    rintro x wp ⟨v1, rfl, hr2, hb2, hg2, _⟩
                    rw [hxb1] at hr2
                    have HA2 := Aside0.mk (HA.out.put hr2 hb2 (i' := i + 1) (by omega) (by omega) (by rw [List.length_singleton]; omega) HE.out)
                    have HKI := Aside0.mk (show (i : Int) + 1 = ((i + 1 : Nat) : Int) by omega)
                    clear cP hr2 hb2 hg2
                    go_wp2_with fail
                    go_roundw
                    case rel => exact ⟨i + 1, _, congrArg _ HKI.out, HA2.out⟩
                    case measure => simp [intOf]; omega
                | false =>
                  have hRd := HR.out i HA.out.lo hlt e true
                  unfold RefOk at hRd
                  have hens := encl_brack_eq (fun e k l => rdL dstB e k [] l) e (s[i]'hlt) ((L s).drop (i + 1)) h91
                  have hsf := rdL_suf dstB e true [] ((L s).drop (i + 1))
                  generalize rdL dstB e true [] ((L s).drop (i + 1)) = rd at hRd hens hsf
                  have hsu := suf_drop (hsf.trans (List.drop_suffix (i + 1) (L s)))
                  have hle := hsf.length_le
                  rw [← L_size] at hsu
                  rw [List.length_drop, ← L_size] at hle
                  have hto : toI s rd.2 = ((s.size - rd.2.length : Nat) : Int) := rfl
                  cases h2 : rd.2 with
                  | nil =>
                    have hst : brackV rd = none := by unfold brackV; rw [h2]
                    rw [hst] at hens
                    rw [rd_one e false acc _ _ hend hesc hens h96] at hS
                    have HE := Aside0.mk hS
                    have hzz : s.size - rd.2.length = s.size := by rw [h2]; rfl
                    rw [hto, hzz] at hRd
                    have hdz : decide ((s.size : Int) < (s.size : Int)) = false := decide_eq_false (by omega)
                    clear hens hst hS hdr hend hesc h92 h96 h42 h91 hsf hzz hto h2 hsu hle
                    as_aux_lemma =>
                      go_wp2_with fail
                      refine (hRd _).mono ?_
                      rintro x w1 ⟨v0, rfl, hkr, hb1⟩
                      obtain ⟨A1, c1, rfl⟩ := Kd.R_slice hkr
                      have HAq := Aside0.mk (HA.out.moved hb1)
                      clear HA hRd hkr
                      have HA := HAq
                      clear HAq
                      have cP := hput (s.extract i (i + 1)) _ _ _ _ HA.out hx1
                      clear hput
                      go_wp2_with fail
                      refine cP.mono ?_
                      rintro x wp ⟨v1, rfl, hr2, hb2, hg2, _⟩
                      rw [hxb1] at hr2
                      have HA2 := Aside0.mk (HA.out.put hr2 hb2 (i' := i + 1) (by omega) (by omega) (by rw [List.length_singleton]; omega) HE.out)
                      have HKI := Aside0.mk (show (i : Int) + 1 = ((i + 1 : Nat) : Int) by omega)
                      clear cP hr2 hb2 hg2
                      go_wp2_with fail
                      go_roundw
                      case rel => exact ⟨i + 1, _, congrArg _ HKI.out, HA2.out⟩
                      case measure => simp [intOf]; omega
                  | cons d r =>
                    have hzz : s.size - rd.2.length < s.size := by rw [h2, List.length_cons]; omega
                    have hrl : r.length + 1 ≤ s.size - (i + 1) := by rw [h2, List.length_cons] at hle; exact hle
                    have hz1 : s.size - rd.2.length + 1 = s.size - r.length := by rw [h2, List.length_cons]; omega
                    rw [hto] at hRd
                    have hbr : brackV rd = if d.toNat = 93 ∧ rd.1 ≠ [] then (toL dstB r).map (fun p => (⟨4, ⟨p.1.toArray⟩, rd.1⟩, p.2)) else none := by unfold brackV; rw [h2]
                    rw [hbr] at hens
                    clear hbr
                    generalize s.size - rd.2.length = z at hRd hzz hsu hz1
                    have hzl : z < (L s).length := by rw [← L_size]; exact hzz
                    have hds : s[z]'hzz = d ∧ (L s).drop (z + 1) = r := by
                      rw [List.drop_eq_getElem_cons hzl, h2] at hsu
                      exact List.cons.inj hsu
                    have hdz : decide ((z : Int) < (s.size : Int)) = true := decide_eq_true (by omega)
                    have hz9 : z < 1000000 := by have := HS.out; omega
                    clear hto hsu hle h2 hzl hsf
                    by_cases g : d.toNat = 93
                    · have hc5 : ((((s[z]'hzz).toNat : Nat) : Int) == 93) = true := by rw [hds.1]; exact beq_iff_eq.2 (by omega)
                      by_cases hn : rd.1 = []
                      · rw [if_neg (fun h => h.2 hn)] at hens
                        rw [rd_one e false acc _ _ hend hesc hens h96] at hS
                        have HE := Aside0.mk hS
                        have hn0 : rd.1.length = 0 := by rw [hn]; rfl
                        clear hens hS hdr hend hesc h92 h96 h42 h91 hds g hn hrl hz1
                        as_aux_lemma =>
                          go_wp2_with fail
                          refine (hRd _).mono ?_
                          rintro x w1 ⟨v0, rfl, hkr, hb1⟩
                          obtain ⟨A1, c1, rfl⟩ := Kd.R_slice hkr
                          rw [hn0] at hkr ⊢
                          have HAq := Aside0.mk (HA.out.moved hb1)
                          clear HA hRd hkr
                          have HA := HAq
                          clear HAq
                          have cP := hput (s.extract i (i + 1)) _ _ _ _ HA.out hx1
                          clear hput
                          go_wp2_with fail
                          refine cP.mono ?_
                          rintro x wp ⟨v1, rfl, hr2, hb2, hg2, _⟩
                          rw [hxb1] at hr2
                          have HA2 := Aside0.mk (HA.out.put hr2 hb2 (i' := i + 1) (by omega) (by omega) (by rw [List.length_singleton]; omega) HE.out)
                          have HKI := Aside0.mk (show (i : Int) + 1 = ((i + 1 : Nat) : Int) by omega)
                          clear cP hr2 hb2 hg2
                          go_wp2_with fail
                          go_roundw
                          case rel => exact ⟨i + 1, _, congrArg _ HKI.out, HA2.out⟩
                          case measure => simp [intOf]; omega
                      · rw [if_pos ⟨g, hn⟩] at hens
                        have hn1 : decide (0 < rd.1.length) = true := decide_eq_true (List.length_pos_iff.2 hn)
                        have hcd := fun W => emendationref08_dest.calls (s.size + 33) s ((z : Int) + 1) _ _ W (by
                          have := refDest_eq s (z + 1) (s.size + 33) HS.out (by omega)
                          rw [hds.2, show ((z + 1 : Nat) : Int) = (z : Int) + 1 by omega] at this
                          exact this)
                        cases htl : toL dstB r with
                        | none =>
                          rw [htl] at hens hcd
                          dsimp only [refDestV] at hcd
                          rw [rd_one e false acc _ _ hend hesc hens h96] at hS
                          have HE := Aside0.mk hS
                          clear hens hS hdr hend hesc h92 h96 h42 h91 hds g hn hrl hz1 htl
                          as_aux_lemma =>
                            go_wp2_with fail
                            refine (hRd _).mono ?_
                            rintro x w1 ⟨v0, rfl, hkr, hb1⟩
                            obtain ⟨A1, c1, rfl⟩ := Kd.R_slice hkr
                            have HAq := Aside0.mk (HA.out.moved hb1)
                            clear HA hRd hkr
                            have HA := HAq
                            clear HAq
                            go_wp2_with fail
                            refine (hcd _).mono ?_
                            rintro x w2 ⟨rfl, hdw⟩
                            have HAq := Aside0.mk (HA.out.moved hdw.below)
                            clear HA hcd
                            have HA := HAq
                            clear HAq
                            have cP := hput (s.extract i (i + 1)) _ _ _ _ HA.out hx1
                            clear hput
                            go_wp2_with fail
                            refine cP.mono ?_
                            rintro x wp ⟨v1, rfl, hr2, hb2, hg2, _⟩
                            rw [hxb1] at hr2
                            have HA2 := Aside0.mk (HA.out.put hr2 hb2 (i' := i + 1) (by omega) (by omega) (by rw [List.length_singleton]; omega) HE.out)
                            have HKI := Aside0.mk (show (i : Int) + 1 = ((i + 1 : Nat) : Int) by omega)
                            clear cP hr2 hb2 hg2
                            go_wp2_with fail
                            go_roundw
                            case rel => exact ⟨i + 1, _, congrArg _ HKI.out, HA2.out⟩
                            case measure => simp [intOf]; omega
                        | some bt =>
                          obtain ⟨b, t⟩ := bt
                          have hsf := toL_suf htl
                          have hl1 := toL_le htl
                          rw [htl] at hens hcd
                          dsimp only [refDestV] at hcd
                          rw [rdL_cons, hend, if_neg (by decide), hesc] at hS
                          dsimp only at hS
                          rw [hens] at hS
                          dsimp only [Option.map_some] at hS
                          have hrs : r <:+ L s := by rw [← hds.2]; exact List.drop_suffix _ _
                          have hsu := suf_drop (hsf.1.trans hrs)
                          rw [← L_size] at hsu
                          have hnx : i < s.size - t.length ∧ s.size - t.length ≤ s.size := by omega
                          have hbl : b.length ≤ s.size := by have := hsf.2; omega
                          have hxs : (⟨b.toArray⟩ : ByteArray).size ≤ 1000000 := by
                            rw [L_size, L_mk]; have := HS.out; omega
                          have HX := Aside0.mk (And.intro hxs hnx)
                          have HE := Aside0.mk (show rdL dstB e false (acc ++ [⟨4, ⟨b.toArray⟩, rd.1⟩]) ((L s).drop (s.size - t.length)) = rdL dstB e false [] ((L s).drop q) by rw [hsu]; exact hS)
                          clear hens hS hdr hend hesc h92 h96 h42 h91 hds g hn hrl hz1 htl hsf hl1 hrs hsu hnx hbl hxs hput hxb1 hx1
                          generalize (⟨b.toArray⟩ : ByteArray) = xb at *
                          generalize s.size - t.length = z2 at *
                          have hz0 : decide ((z2 : Int) ≥ 0) = true := decide_eq_true (by omega)
                          as_aux_lemma =>
                            go_wp2_with fail
                            refine (hRd _).mono ?_
                            rintro x w1 ⟨v0, rfl, hkr, hb1⟩
                            obtain ⟨A1, c1, rfl⟩ := Kd.R_slice hkr
                            have HMM0 := Aside0.mk (Kd.R_lower hkr HA.out.below.size)
                            have HOKP := Aside0.mk (show ∀ j, wr.heap.size ≤ j → w.heap.size ≤ j ∧ some j ≠ (Value.slice A acc.length c).ownBlock from fun j hj => ⟨Nat.le_trans HA.out.below.size hj, fun he => by have := Kd.R_lt HA.out.row j he.symm; omega⟩)
                            have HLL := Aside0.mk (show (acc.length + 1) * 48 ≤ 140737488355328 by have := HA.out.len; omega)
                            have HAq := Aside0.mk (HA.out.moved hb1)
                            clear HA hRd hkr
                            have HA := HAq
                            clear HAq
                            go_wp2_with fail
                            refine (hcd _).mono ?_
                            rintro x w2 ⟨rfl, hdw⟩
                            have HAq := Aside0.mk (HA.out.moved hdw.below)
                            have HMM := Aside0.mk (k26_mkM w2 w.heap.size (fun j => wr.heap.size ≤ j) ⟨4, xb, rd.1⟩ (Kd.R_below HMM0.out hdw.below))
                            clear HA hcd HMM0
                            have HA := HAq
                            clear HAq
                            go_wp2_with ((with_reducible refine gate_builtin (b := .append) (xs := #[.tmp 171, .tmp 175]) rfl ?_); at_builtin; refine Kd.R_append k26 (w0 := w2) w.heap.size rfl (.tmp 171) (.tmp 175) 22 26 _ 48 rfl Tryd.underlying22 infoSP rfl (by decide) (by decide) (.slice A acc.length c) acc ⟨4, xb, rd.1⟩ [.int .i64 4, .string xb, .slice A1 rd.1.length c1] (fun j => w.heap.size ≤ j) (fun j => wr.heap.size ≤ j) rfl rfl HMM.out HOKP.out (fun j hj => Nat.le_trans HA.out.below.size hj) HA.out.row (Below.refl _ _) HA.out.below.size HLL.out ?_; intro v1 w3 hr3 hb3 hg3 _)
                            obtain ⟨k1, k3, k4⟩ := HX.out
                            refine ⟨⟨z2, acc ++ [⟨4, xb, rd.1⟩], rfl, HA.out.app hr3 hb3 k3 k4 k1 HE.out⟩, ?_⟩
                            simp only [intOf, Int.toNat_natCast]
                            omega
                    · have hc5 : ((((s[z]'hzz).toNat : Nat) : Int) == 93) = false := by rw [hds.1]; exact beq_eq_false_iff_ne.2 (by omega)
                      rw [if_neg (fun h => g h.1)] at hens
                      rw [rd_one e false acc _ _ hend hesc hens h96] at hS
                      have HE := Aside0.mk hS
                      clear hens hS hdr hend hesc h92 h96 h42 h91 hds g hrl hz1
                      as_aux_lemma =>
                        go_wp2_with fail
                        refine (hRd _).mono ?_
                        rintro x w1 ⟨v0, rfl, hkr, hb1⟩
                        obtain ⟨A1, c1, rfl⟩ := Kd.R_slice hkr
                        have HAq := Aside0.mk (HA.out.moved hb1)
                        clear HA hRd hkr
                        have HA := HAq
                        clear HAq
                        have cP := hput (s.extract i (i + 1)) _ _ _ _ HA.out hx1
                        clear hput
                        go_wp2_with fail
                        refine cP.mono ?_
                        rintro x wp ⟨v1, rfl, hr2, hb2, hg2, _⟩
                        rw [hxb1] at hr2
                        have HA2 := Aside0.mk (HA.out.put hr2 hb2 (i' := i + 1) (by omega) (by omega) (by rw [List.length_singleton]; omega) HE.out)
                        have HKI := Aside0.mk (show (i : Int) + 1 = ((i + 1 : Nat) : Int) by omega)
                        clear cP hr2 hb2 hg2
                        go_wp2_with fail
                        go_roundw
                        case rel => exact ⟨i + 1, _, congrArg _ HKI.out, HA2.out⟩
                        case measure => simp [intOf]; omega
              · have hc4 : ((((s[i]'hlt).toNat : Nat) : Int) == 91) = false := beq_eq_false_iff_ne.2 (by omega)
                have hen := encl_other (fun e k l => rdL dstB e k [] l) e k (s[i]'hlt) ((L s).drop (i + 1)) h42 (fun h => absurd h h91) h96
                rw [rd_one e k acc _ _ hend hesc hen h96] at hS
                have HE := Aside0.mk hS
                by_cases h93 : (s[i]'hlt).toNat = 93
                · have hk : k = false := by
                    cases k with
                    | false => rfl
                    | true => unfold endB at hend; rw [h93] at hend; simp at hend
                  subst hk
                  have hc1 : ((((s[i]'hlt).toNat : Nat) : Int) == 93) = true := beq_iff_eq.2 (by omega)
                  clear hend h92 hS hdr hesc hen h96 h42 h91 h93
                  have cP := hput (s.extract i (i + 1)) _ _ _ _ HA.out hx1
                  clear hput
                  as_aux_lemma =>
                    go_wp2_with fail
                    refine cP.mono ?_
                    rintro x wp ⟨v1, rfl, hr2, hb2, hg2, _⟩
                    rw [hxb1] at hr2
                    have HA2 := Aside0.mk (HA.out.put hr2 hb2 (i' := i + 1) (by omega) (by omega) (by rw [List.length_singleton]; omega) HE.out)
                    have HKI := Aside0.mk (show (i : Int) + 1 = ((i + 1 : Nat) : Int) by omega)
                    clear cP hr2 hb2 hg2
                    go_wp2_with fail
                    go_roundw
                    case rel => exact ⟨i + 1, _, congrArg _ HKI.out, HA2.out⟩
                    case measure => simp [intOf]; omega
                · have hc1 : ((((s[i]'hlt).toNat : Nat) : Int) == 93) = false := beq_eq_false_iff_ne.2 (by omega)
                  clear hend h92 hS hdr hesc hen h96 h42 h91 h93
                  have cP := hput (s.extract i (i + 1)) _ _ _ _ HA.out hx1
                  clear hput
                  as_aux_lemma =>
                    go_wp2_with fail
                    refine cP.mono ?_
                    rintro x wp ⟨v1, rfl, hr2, hb2, hg2, _⟩
                    rw [hxb1] at hr2
                    have HA2 := Aside0.mk (HA.out.put hr2 hb2 (i' := i + 1) (by omega) (by omega) (by rw [List.length_singleton]; omega) HE.out)
                    have HKI := Aside0.mk (show (i : Int) + 1 = ((i + 1 : Nat) : Int) by omega)
                    clear cP hr2 hb2 hg2
                    go_wp2_with fail
                    go_roundw
                    case rel => exact ⟨i + 1, _, congrArg _ HKI.out, HA2.out⟩
                    case measure => simp [intOf]; omega
    · have hd : decide ((i : Int) < (s.size : Int)) = false := decide_eq_false (by omega)
      have hS := HA.out.rd
      rw [show (L s).drop i = [] from List.drop_eq_nil_of_le (by rw [← L_size]; omega), rdL_nil] at hS
      have HE := Aside0.mk (show (acc, (L s).drop i) = rdL dstB e k [] ((L s).drop q) by rw [List.drop_eq_nil_of_le (by rw [← L_size]; omega : (L s).length ≤ i)]; exact hS)
      clear hS
      as_aux_lemma =>
        go_wp2_with fail
        refine bodyPost_ret (v := .tuple #[.slice A acc.length c, .int .i64 (i : Int)]) (by simp [results, Tryd.results44, go_sem]) rfl (HA.out.done HE.out)
/-- What the reference reads from any place on. -/
theorem ref_read_ok (s : ByteArray) (hs : s.size ≤ 1000000) : ∀ (d q : Nat), q + d = s.size → ∀ e k, RefOk s (q : Int) e k (rdL dstB e k [] ((L s).drop q)) := by
  intro d
  induction d using Nat.strongRecOn with
  | ind d ih =>
    intro q hq e k W
    refine ref_read_loop s q e k W hs (by omega) (fun i h1 h2 e' k' => ?_)
    have := ih (s.size - (i + 1)) (by omega) (i + 1) (by omega) e' k'
    rwa [show ((i + 1 : Nat) : Int) = (i : Int) + 1 by omega] at this
def emendationref08_read.f (a0 : ByteArray) (a1 : Int) (e k : Bool) : Option (List Sp × Int) :=
  if a0.size ≤ 1000000 ∧ 0 ≤ a1 ∧ a1 ≤ (a0.size : Int) then some ((rdL dstB e k [] ((L a0).drop a1.toNat)).1, toI a0 (rdL dstB e k [] ((L a0).drop a1.toNat)).2) else none
theorem emendationref08_read.calls (a0 : ByteArray) (a1 : Int) (a2 a3 : Bool) (r1 : List Sp) (r2 : Int) (w : World) (h : emendationref08_read.f a0 a1 a2 a3 = some (r1, r2)) :
    Calls Tryd.prog 44 #[.string a0, .int .i64 a1, .bool a2, .bool a3] w fun e w' => ∃ v0, e = .returned (.tuple #[v0, .int .i64 r2]) ∧ Kd.R k26 26 w' w.heap.size (fun _ => True) v0 r1 ∧ Below w.heap.size w w' := by
  unfold emendationref08_read.f at h
  split at h
  · rename_i hc
    obtain ⟨h1, h2, h3⟩ := hc
    obtain ⟨rfl, rfl⟩ := Prod.mk.inj (Option.some.inj h)
    obtain ⟨q, rfl⟩ : ∃ q : Nat, a1 = (q : Int) := ⟨a1.toNat, by omega⟩
    rw [Int.toNat_natCast]
    refine (ref_read_ok a0 h1 (a0.size - q) q (by omega) a2 a3 w).mono ?_
    rintro e w' ⟨v0, rfl, hr, hb⟩
    exact ⟨v0, rfl, Kd.R_mono hr (fun _ _ => trivial), hb⟩
  · cases h
end Go.Proofs.YtmfffpfenhgjbaaDoor.G
