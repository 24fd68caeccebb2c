/- Contracts of script's reader: bytes that are read from the left, by a pointer. -/
import Derived.Test.YtgiobiljneijiaaDoorPScript
import Derived.Test.YtgiobiljneijiaaDoorShelf
import Derived.Test.YtgiobiljneijiaaDoorProg
import Derived.BigCall
import Derived.Outline
set_option linter.unusedVariables false
set_option linter.unusedSimpArgs false
namespace Go.Proofs.YtgiobiljneijiaaDoor.G
open Go.Shelf Go.RowKit Go.Lib Go.Proofs Go.Proofs.YtgiobiljneijiaaDoor.Pure Go.Proofs.YtgiobiljneijiaaDoorW.PrintWords Go.Proofs.YtgiobiljneijiaaDoorW.PrintLast Go.Proofs.YtgiobiljneijiaaDoorW.PrintMore
/-- Nothing but block g has turned. -/
structure Off (g : Nat) (w w' : World) : Prop where
  os : w'.os = w.os
  tape : w'.tape = w.tape
  output : w'.output = w.output
  size : w.heap.size ≤ w'.heap.size
  block : ∀ k, k < w.heap.size → k ≠ g → w'.heap[k]? = w.heap[k]?
theorem Off.refl (g : Nat) (w : World) : Off g w w := ⟨rfl, rfl, rfl, Nat.le_refl _, fun _ _ _ => rfl⟩
theorem Off.trans {g : Nat} {a b c : World} (h : Off g a b) (k : Off g b c) : Off g a c :=
  ⟨k.os.trans h.os, k.tape.trans h.tape, k.output.trans h.output, Nat.le_trans h.size k.size, fun i hi hg => (k.block i (Nat.lt_of_lt_of_le hi h.size) hg).trans (h.block i hi hg)⟩
theorem Off.of_below {g : Nat} {a b : World} (h : Below a.heap.size a b) : Off g a b := ⟨h.os, h.tape, h.output, h.size, fun i hi _ => h.block i hi⟩
theorem Off.set {g : Nat} {a b : World} (h : Off g a b) (i : Nat) (u : Value) : Off g a (b.setCell ⟨g, i, none⟩ u) :=
  h.trans ⟨rfl, rfl, rfl, by simp [World.setCell], fun k _ hg => Below.heap_setCell b ⟨g, i, none⟩ u k hg⟩
theorem Off.alloc {g : Nat} {a b : World} (h : Off g a b) (o : Obj) : Off g a (b.alloc o) := h.trans (Off.of_below ((Below.refl _ b).alloc (Nat.le_refl _) o))
theorem Off.setNew {g : Nat} {a b : World} (h : Off g a b) {p : Addr} (hp : a.heap.size ≤ p.block) (u : Value) : Off g a (b.setCell p u) :=
  ⟨h.os, h.tape, h.output, Nat.le_trans h.size (by simp [World.setCell]), fun k hk hg => (Below.heap_setCell b p u k (by omega)).trans (h.block k hk hg)⟩
theorem Off.blk {g : Nat} {a b : World} (h : Off g a b) {k : Nat} {o : Obj} (hk : a.heap[k]? = some o) (hg : k ≠ g) : b.heap[k]? = some o := (h.block k (blk_lt hk) hg).trans hk
theorem Off.below {g : Nat} {a b : World} (h : Off g a b) (hg : g ≤ a.heap.size) : Below g a b := ⟨h.os, h.tape, h.output, h.size, fun k hk => h.block k (by omega) (by omega)⟩
theorem Off.cell {g : Nat} {a b : World} (h : Off g a b) {p : Addr} {v : Value} (hp : a.cell? p = some v) (hg : p.block ≠ g) : b.cell? p = some v :=
  (World.cell?_of_block (w := a) (h.block p.block (World.block_lt_of_cell? a _ hp) hg)).trans hp
/-- A reader at block g that has l ahead of it; over. -/
def Rd (w : World) (g : Nat) (l : List UInt8) (o : Bool) : Prop :=
  ∃ A c, w.heap[g]? = some (.cells #[.slice A l.length c, .bool o] 37 (0, 0)) ∧ l.length ≤ c ∧ c ≤ 9223372036854775807 ∧ ∀ j b, l[j]? = some b → ∃ ad, A = some ad ∧ ad.block < g ∧ w.cell? (ad.add j) = some (.int .u8 (b.toNat : Int))
theorem Rd.lt {w : World} {g : Nat} {l : List UInt8} {o : Bool} (h : Rd w g l o) : g < w.heap.size := by
  obtain ⟨A, c, h, _⟩ := h
  exact blk_lt h
theorem Rd.keep {w w' : World} {g : Nat} {l : List UInt8} {o : Bool} (h : Rd w g l o) (hb : ∀ k, k ≤ g → w'.heap[k]? = w.heap[k]?) : Rd w' g l o := by
  obtain ⟨A, c, h1, h2, h3, h4⟩ := h
  refine ⟨A, c, (hb g (Nat.le_refl _)).trans h1, h2, h3, fun j b hj => ?_⟩
  obtain ⟨ad, e, hl, hc⟩ := h4 j b hj
  refine ⟨ad, e, hl, ?_⟩
  have hbl : (ad.add j).block = ad.block := add_block ad j
  exact (World.cell?_of_block (w := w) (hb _ (by omega))).trans hc
theorem Rd.alloc {w : World} {g : Nat} {l : List UInt8} {o : Bool} (h : Rd w g l o) (ob : Obj) : Rd (w.alloc ob) g l o := h.keep (fun k hk => Below.heap_alloc w ob k (by have := h.lt; omega))
theorem Rd.setAbove {w : World} {g : Nat} {l : List UInt8} {o : Bool} (h : Rd w g l o) {p : Addr} (hp : g < p.block) (u : Value) : Rd (w.setCell p u) g l o := h.keep (fun k hk => Below.heap_setCell w p u k (by omega))
theorem Rd.off {w w' : World} {g g' : Nat} {l : List UInt8} {o : Bool} (h : Rd w g l o) (hg : g < g') (hb : Off g' w w') : Rd w' g l o := h.keep (fun k hk => hb.block k (by have := h.lt; omega) (by omega))
theorem add_zero (ad : Addr) : ad.add 0 = ad := by simp [Addr.add]
theorem add_add' (a : Addr) (i j : Nat) : (a.add i).add j = a.add (i + j) := by
  unfold Addr.add
  by_cases h1 : i = 0 <;> by_cases h2 : j = 0 <;> simp [h1, h2, Nat.add_assoc]
/-- Behind a call of one. -/
def OnePost (g : Nat) (l : List UInt8) (o : Bool) (w : World) (e : Ending) (w' : World) : Prop :=
  Off g w w' ∧ match l with
    | [] => e = .returned (.int .i64 0) ∧ Rd w' g [] true
    | b :: t => e = .returned (.int .i64 (b.toNat : Int)) ∧ Rd w' g t o
set_option maxHeartbeats 1000000 in
set_option maxRecDepth 100000 in
theorem one_calls (w : World) (g : Nat) (l : List UInt8) (o : Bool) (h : Rd w g l o) : Calls Tryd.prog 9 #[.pointer (some ⟨g, 0, none⟩)] w (OnePost g l o w) := by
  obtain ⟨A, c, h1, h2, h3, h4⟩ := h
  have f0 := blk_frozen h1 0
  have f1 := blk_frozen h1 1
  have hc0 : w.cell? ⟨g, 0, none⟩ = some (.slice A l.length c) := blk_cell h1 0
  have hc1 : w.cell? ⟨g, 1, none⟩ = some (.bool o) := blk_cell h1 1
  cases l with
  | nil =>
    rw [List.length_nil] at hc0 h1
    go_enter Tryd.func9, Tryd.ntmps9
    go_wp2
    go_ret
    refine ⟨(Off.refl g w).set 1 _, rfl, A, c, blk_set h1 1 (.bool true), Nat.zero_le _, h3, fun j b hj => by cases hj⟩
  | cons b t =>
    obtain ⟨ad, rfl, hlt, hcell⟩ := h4 0 b rfl
    rw [add_zero] at hcell
    have hb0 : (0 : Int) ≤ (b.toNat : Int) := Int.natCast_nonneg _
    have hb1 : (b.toNat : Int) < 256 := byte_lt b
    rw [List.length_cons] at hc0 h1 h2
    have hx : ((t.length + 1 : Nat) : Int) = (t.length : Int) + 1 := by omega
    have e0 : (((t.length + 1 : Nat) : Int) == 0) = false := beq_eq_false_iff_ne.2 (by omega)
    have hrest : ∀ j b', t[j]? = some b' → ∃ ad', some (ad.add 1) = some ad' ∧ ad'.block < g ∧ w.cell? (ad'.add j) = some (.int .u8 (b'.toNat : Int)) := by
      intro j b' hj
      obtain ⟨ad', e, _, hc⟩ := h4 (j + 1) b' (by simpa using hj)
      injection e with e
      subst e
      exact ⟨_, rfl, by rw [add_block]; exact hlt, by rw [add_add', Nat.add_comm]; exact hc⟩
    have hrest0 : ∀ (u : Value) j b', t[j]? = some b' → ∃ ad', some (ad.add 1) = some ad' ∧ ad'.block < g ∧ (w.setCell ⟨g, 0, none⟩ u).cell? (ad'.add j) = some (.int .u8 (b'.toNat : Int)) := by
      intro u j b' hj
      obtain ⟨ad', e, q, hc⟩ := hrest j b' hj
      refine ⟨ad', e, q, (cell_far (by rw [add_block]; exact Nat.ne_of_lt q) u).trans hc⟩
    clear h4 hrest
    by_cases c1 : c = 1
    · subst c1
      have ht : t = [] := List.eq_nil_of_length_eq_zero (by omega)
      subst ht
      go_enter Tryd.func9, Tryd.ntmps9
      go_wp2
      go_ret
      exact ⟨(Off.refl g w).set 0 _, rfl, some ad, 0, blk_set h1 0 _, Nat.zero_le _, by decide, fun j b hj => by cases hj⟩
    · go_enter Tryd.func9, Tryd.ntmps9
      go_wp2
      go_ret
      exact ⟨(Off.refl g w).set 0 _, rfl, some (ad.add 1), c - 1, blk_set h1 0 _, by omega, by omega, hrest0 _⟩
/-- A digit. -/
def digS (n : Nat) : ByteArray := ⟨#[UInt8.ofNat (48 + n)]⟩
theorem digS_size (n : Nat) : (digS n).size = 1 := rfl
theorem itoa_at (x : Int) (h0 : 0 ≤ x) (h : x < 10) (w : World) : Calls Tryd.prog 16 #[.int .i64 x] w fun e w' => e = .returned (.string (digS x.toNat)) ∧ w' = w := by
  obtain ⟨n, rfl⟩ := Int.eq_ofNat_of_zero_le h0
  rw [Int.toNat_natCast]
  have := Tryd.strconv_Itoa_small n (by omega) w
  rw [Lib.decDigits, dif_pos (by omega)] at this
  exact this
/-- Behind a call of name. -/
def NamePost (g : Nat) (l : List UInt8) (o : Bool) (w : World) (e : Ending) (w' : World) : Prop :=
  Off g w w' ∧ match l with
    | [] => e = .returned (.string (nameB 0)) ∧ Rd w' g [] true
    | b :: t => e = .returned (.string (nameB b.toNat)) ∧ Rd w' g t o
set_option maxHeartbeats 1000000 in
set_option maxRecDepth 100000 in
theorem name_calls (w : World) (g : Nat) (l : List UInt8) (o : Bool) (h : Rd w g l o) : Calls Tryd.prog 13 #[.pointer (some ⟨g, 0, none⟩)] w (NamePost g l o w) := by
  cases l with
  | nil =>
    have c1 := one_calls w g [] o h
    clear h
    go_enter Tryd.func13, Tryd.ntmps13
    go_wp2_with fail
    refine c1.mono ?_
    rintro e w1 ⟨ho, rfl, hr⟩
    go_wp2_with fail
    refine (itoa_at 0 (by decide) (by decide) _).mono ?_
    rintro e w2 ⟨rfl, rfl⟩
    have hs := digS_size (0 : Int).toNat
    go_wp2_with fail
    go_ret
    exact ⟨ho, rfl, hr⟩
  | cons b t =>
    have c1 := one_calls w g (b :: t) o h
    clear h
    have hb0 : (0 : Int) ≤ (b.toNat : Int) := Int.natCast_nonneg _
    have hb1 : (b.toNat : Int) < 256 := byte_lt b
    go_enter Tryd.func13, Tryd.ntmps13
    go_wp2_with fail
    refine c1.mono ?_
    rintro e w1 ⟨ho, rfl, hr⟩
    go_wp2_with fail
    refine (itoa_at ((b.toNat : Int) % 8) (by omega) (by omega) _).mono ?_
    rintro e w2 ⟨rfl, rfl⟩
    have hs := digS_size (b.toNat % 8)
    go_wp2_with fail
    go_ret
    exact ⟨ho, rfl, hr⟩
theorem conv_row (w : World) (A : Option Addr) (n c : Nat) (l : List UInt8) (hn : l.length = n) (h : ∀ j b, l[j]? = some b → ∃ ad, A = some ad ∧ w.cell? (ad.add j) = some (.int .u8 (b.toNat : Int))) :
    (convert 25 9 (.slice A n c)).run Tryd.prog w = .ok (.string ⟨l.toArray⟩) w := by
  have hs : Tryd.prog.underlying 25 = some (.slice 5) := Tryd.underlying25
  have he : Tryd.prog.underlying 5 = some (.int .u8) := Tryd.underlying5
  have hd : Tryd.prog.underlying 9 = some .string := Tryd.underlying9
  cases A with
  | none =>
    have : l = [] := by
      cases l with
      | nil => rfl
      | cons b t => obtain ⟨ad, e, _⟩ := h 0 b rfl; cases e
    subst this
    exact run_convert_bytes_nil (P := Tryd.prog) w _ _ hs he n c _ hd
  | some ad =>
    have hl : (loadCells ad n).run Tryd.prog w = .ok ((l.map fun b => (b.toNat : Int)).map (Value.int .u8)).toArray w := by
      have := run_loadCells_list (P := Tryd.prog) w ad ((l.map fun b => (b.toNat : Int)).map (Value.int .u8)) (fun j v hj => by
        rw [List.getElem?_map, List.getElem?_map] at hj
        cases hb : l[j]? with
        | none => rw [hb] at hj; cases hj
        | some b =>
          rw [hb] at hj
          injection hj with hj
          subst hj
          obtain ⟨ad', e, hc⟩ := h j b hb
          injection e with e
          subst e
          exact hc)
      simpa [hn] using this
    rw [run_convert_bytes_string w _ _ _ _ n c hs he hd, run_bytesToString w ad n c _ hl, foldl_push_bytes]
    congr 2
    have : (l.map fun b => (b.toNat : Int)).map (fun n => UInt8.ofNat n.toNat) = l := by
      rw [List.map_map]
      conv => rhs; rw [← List.map_id l]
      apply List.map_congr_left
      intro x _
      simp
    rw [this]
    simp [ByteArray.empty, ByteArray.emptyWithCapacity]
    rfl
/-- Behind a call of text. -/
def TextPost (g : Nat) (l : List UInt8) (o : Bool) (w : World) (e : Ending) (w' : World) : Prop :=
  Off g w w' ∧ match l with
    | [] => e = .returned (.string mtS) ∧ Rd w' g [] true
    | m :: t => if m.toNat ≤ t.length then e = .returned (.string ⟨(t.take m.toNat).toArray⟩) ∧ Rd w' g (t.drop m.toNat) o else e = .returned (.string mtS) ∧ Rd w' g t true
set_option maxHeartbeats 1000000 in
set_option maxRecDepth 100000 in
theorem text_calls (w : World) (g : Nat) (l : List UInt8) (o : Bool) (h : Rd w g l o) : Calls Tryd.prog 14 #[.pointer (some ⟨g, 0, none⟩)] w (TextPost g l o w) := by
  cases l with
  | nil =>
    have c1 := one_calls w g [] o h
    clear h
    go_enter Tryd.func14, Tryd.ntmps14
    go_wp2_with fail
    refine c1.mono ?_
    rintro e w1 ⟨ho, rfl, A, c, h1, h2, h3, h4⟩
    rw [List.length_nil] at h1
    have f0 := blk_frozen h1 0
    have hc0 : w1.cell? ⟨g, 0, none⟩ = some (.slice A 0 c) := blk_cell h1 0
    have hcv := conv_row w1 A 0 c [] rfl (fun j b hj => by cases hj)
    have HC := Aside0.mk h1
    clear h1 h4
    by_cases c0 : c = 0
    · subst c0
      go_wp2_with fail
      go_ret
      exact ⟨ho.set 0 _, rfl, A, 0, blk_set HC.out 0 _, Nat.le_refl _, by decide, fun j b hj => by cases hj⟩
    · cases A with
      | none =>
        go_wp2_with fail
        go_ret
        exact ⟨ho.set 0 _, rfl, none, c, blk_set HC.out 0 _, Nat.zero_le _, h3, fun j b hj => by cases hj⟩
      | some ad =>
        go_wp2_with fail
        go_ret
        exact ⟨ho.set 0 _, rfl, some ad, c, blk_set HC.out 0 _, Nat.zero_le _, h3, fun j b hj => by cases hj⟩
  | cons m t =>
    have c1 := one_calls w g (m :: t) o h
    clear h
    have hb0 : (0 : Int) ≤ (m.toNat : Int) := Int.natCast_nonneg _
    have hb1 : (m.toNat : Int) < 256 := byte_lt m
    go_enter Tryd.func14, Tryd.ntmps14
    go_wp2_with fail
    refine c1.mono ?_
    rintro e w1 ⟨ho, rfl, A, c, h1, h2, h3, h4⟩
    have f0 := blk_frozen h1 0
    have f1 := blk_frozen h1 1
    have hc0 : w1.cell? ⟨g, 0, none⟩ = some (.slice A t.length c) := blk_cell h1 0
    have hc1 : w1.cell? ⟨g, 1, none⟩ = some (.bool o) := blk_cell h1 1
    have HC := Aside0.mk h1
    clear h1
    by_cases hm : m.toNat ≤ t.length
    · have hm1 : decide (t.length < m.toNat) = false := decide_eq_false (by omega)
      have hcv := conv_row w1 A m.toNat c (t.take m.toNat) (by rw [List.length_take]; omega) (fun j b hj => by
        rw [List.getElem?_take] at hj
        split at hj
        · obtain ⟨ad, e, _, hc⟩ := h4 j b hj; exact ⟨ad, e, hc⟩
        · cases hj)
      have hlen : (t.drop m.toNat).length = t.length - m.toNat := List.length_drop
      have hrest : ∀ u j b, (t.drop m.toNat)[j]? = some b → ∃ ad, A.map (·.add m.toNat) = some ad ∧ ad.block < g ∧ (w1.setCell ⟨g, 0, none⟩ u).cell? (ad.add j) = some (.int .u8 (b.toNat : Int)) := by
        intro u j b hj
        rw [List.getElem?_drop] at hj
        obtain ⟨ad, e, q, hc⟩ := h4 _ b hj
        subst e
        refine ⟨_, rfl, by rw [add_block]; exact q, ?_⟩
        rw [add_add']
        exact (cell_far (by rw [add_block]; exact Nat.ne_of_lt q) u).trans hc
      have HR := Aside0.mk hrest
      have hmc : m.toNat ≤ c := by omega
      clear h4 hrest
      by_cases c0 : c = m.toNat
      · subst c0
        have ht : t.length = m.toNat := by omega
        have hnil : t.drop m.toNat = [] := List.drop_eq_nil_of_le (by omega)
        rw [ht] at hc0 hlen
        clear hm hmc h2
        go_wp2_with fail
        go_ret
        refine ⟨ho.set 0 _, ?_⟩
        show (if m.toNat ≤ t.length then _ else _)
        rw [if_pos (by omega), hnil]
        exact ⟨rfl, A, 0, blk_set HC.out 0 _, Nat.le_refl _, by decide, fun j b hj => by cases hj⟩
      · go_wp2_with fail
        go_ret
        refine ⟨ho.set 0 _, ?_⟩
        show (if m.toNat ≤ t.length then _ else _)
        rw [if_pos hm]
        refine ⟨rfl, A.map (·.add m.toNat), c - m.toNat, by rw [hlen]; exact blk_set HC.out 0 _, by rw [hlen]; omega, by omega, HR.out _⟩
    · have hm1 : decide (t.length < m.toNat) = true := decide_eq_true (by omega)
      have HR := Aside0.mk h4
      have HM := Aside0.mk hm
      clear h4 hm
      go_wp2_with fail
      go_ret
      refine ⟨ho.set 1 _, ?_⟩
      show (if m.toNat ≤ t.length then _ else _)
      rw [if_neg HM.out]
      refine ⟨rfl, A, c, blk_set HC.out 1 (.bool true), h2, h3, fun j b hj => ?_⟩
      obtain ⟨ad, e, q, hc⟩ := HR.out j b hj
      exact ⟨ad, e, q, (cell_far (by rw [add_block]; exact Nat.ne_of_lt q) _).trans hc⟩
/-! The same, whatever there is ahead -/
def hdB (l : List UInt8) : Nat := (l.headD 0).toNat
theorem hdB_lt (l : List UInt8) : hdB l < 256 := UInt8.toNat_lt _
theorem one_any (w : World) (g : Nat) (l : List UInt8) (o : Bool) (h : Rd w g l o) : Calls Tryd.prog 9 #[.pointer (some ⟨g, 0, none⟩)] w fun e w' => e = .returned (.int .i64 (hdB l : Int)) ∧ Off g w w' ∧ Rd w' g l.tail (o || l.isEmpty) := by
  refine (one_calls w g l o h).mono ?_
  rintro e w' ⟨ho, hp⟩
  cases l with
  | nil => exact ⟨hp.1, ho, by rw [List.isEmpty_nil, Bool.or_true]; exact hp.2⟩
  | cons b t => exact ⟨hp.1, ho, by rw [List.isEmpty_cons, Bool.or_false]; exact hp.2⟩
theorem name_any (w : World) (g : Nat) (l : List UInt8) (o : Bool) (h : Rd w g l o) : Calls Tryd.prog 13 #[.pointer (some ⟨g, 0, none⟩)] w fun e w' => e = .returned (.string (nameB (hdB l))) ∧ Off g w w' ∧ Rd w' g l.tail (o || l.isEmpty) := by
  refine (name_calls w g l o h).mono ?_
  rintro e w' ⟨ho, hp⟩
  cases l with
  | nil => exact ⟨hp.1, ho, by rw [List.isEmpty_nil, Bool.or_true]; exact hp.2⟩
  | cons b t => exact ⟨hp.1, ho, by rw [List.isEmpty_cons, Bool.or_false]; exact hp.2⟩
/-- The text that is read, what is behind it, whether bytes lacked. -/
def textR (l : List UInt8) : List UInt8 := if hdB l ≤ l.tail.length then l.tail.take (hdB l) else []
def restR (l : List UInt8) : List UInt8 := if hdB l ≤ l.tail.length then l.tail.drop (hdB l) else l.tail
def lackR (l : List UInt8) : Bool := l.isEmpty || !decide (hdB l ≤ l.tail.length)
theorem text_any (w : World) (g : Nat) (l : List UInt8) (o : Bool) (h : Rd w g l o) : Calls Tryd.prog 14 #[.pointer (some ⟨g, 0, none⟩)] w fun e w' => e = .returned (.string ⟨(textR l).toArray⟩) ∧ Off g w w' ∧ Rd w' g (restR l) (o || lackR l) := by
  refine (text_calls w g l o h).mono ?_
  rintro e w' ⟨ho, hp⟩
  cases l with
  | nil => exact ⟨hp.1, ho, by unfold lackR; rw [List.isEmpty_nil, Bool.true_or, Bool.or_true]; exact hp.2⟩
  | cons m t =>
    unfold textR restR lackR
    show _ = Ending.returned (.string ⟨(if m.toNat ≤ t.length then t.take m.toNat else []).toArray⟩) ∧ _ ∧ Rd w' g (if m.toNat ≤ t.length then t.drop m.toNat else t) (o || (false || !decide (m.toNat ≤ t.length)))
    change (if m.toNat ≤ t.length then _ else _) at hp
    by_cases hm : m.toNat ≤ t.length
    · rw [if_pos hm] at hp ⊢
      rw [if_pos hm, decide_eq_true hm]
      exact ⟨hp.1, ho, by simpa using hp.2⟩
    · rw [if_neg hm] at hp ⊢
      rw [if_neg hm, decide_eq_false hm]
      exact ⟨hp.1, ho, by simpa using hp.2⟩
/-- The entry of a kind, what is behind it, whether bytes lacked. -/
def entV (k : Nat) (l : List UInt8) : Ent :=
  if k = 1 then ⟨1, 0, 0, nameB (hdB l), ⟨(textR l.tail).toArray⟩, mtS, mtS, mtS⟩
  else if k = 2 then ⟨2, ((hdB l % 3 : Nat) : Int), 0, nameB (hdB l.tail), mtS, mtS, mtS, mtS⟩
  else ⟨3, 0, (hdB l.tail.tail.tail : Int), mtS, mtS, nameB (hdB l), nameB (hdB l.tail), nameB (hdB l.tail.tail)⟩
def entR (k : Nat) (l : List UInt8) : List UInt8 := if k = 1 then restR l.tail else if k = 2 then l.tail.tail else l.tail.tail.tail.tail
def entO (k : Nat) (l : List UInt8) : Bool := if k = 1 then l.isEmpty || lackR l.tail else if k = 2 then l.isEmpty || l.tail.isEmpty else l.isEmpty || l.tail.isEmpty || l.tail.tail.isEmpty || l.tail.tail.tail.isEmpty
theorem ent_spec (k : Nat) (l : List UInt8) (hk : k = 1 ∨ k = 2 ∨ k = 3) : entryL k l = if entO k l = true then none else some (entV k l, entR k l) := by
  rcases hk with rfl | rfl | rfl
  · unfold entryL entO entV entR
    rw [if_pos rfl, if_pos rfl, if_pos rfl, if_pos rfl]
    unfold lackR textR restR
    match l with
    | [] => rfl
    | [n] => rfl
    | n :: m :: t =>
      show (if m.toNat ≤ t.length then _ else none) = if (!decide (m.toNat ≤ t.length)) = true then none else some ((⟨1, 0, 0, nameB n.toNat, ⟨(if m.toNat ≤ t.length then t.take m.toNat else []).toArray⟩, mtS, mtS, mtS⟩ : Ent), if m.toNat ≤ t.length then t.drop m.toNat else t)
      by_cases hm : m.toNat ≤ t.length
      · rw [if_pos hm, decide_eq_true hm, if_pos hm, if_pos hm]; rfl
      · rw [if_neg hm, decide_eq_false hm]; rfl
  · match l with
    | [] => rfl
    | [n] => rfl
    | n :: m :: t => rfl
  · match l with
    | [] => rfl
    | [a] => rfl
    | [a, b] => rfl
    | [a, b, c] => rfl
    | a :: b :: c :: s :: t => rfl
abbrev zE : Obj := .cells #[.int .i64 0, .int .i64 0, .int .i64 0, .string mtS, .string mtS, .string mtS, .string mtS, .string mtS] 31
abbrev kE (k : Int) : Obj := .cells #[.int .i64 k, .int .i64 0, .int .i64 0, .string mtS, .string mtS, .string mtS, .string mtS, .string mtS] 31
theorem cells8 {w : World} {g : Nat} {a0 a1 a2 a3 a4 a5 a6 a7 : Value} {t : TypeId} (h : w.heap[g]? = some (.cells #[a0, a1, a2, a3, a4, a5, a6, a7] t (0, 0))) :
    (w.cell? ⟨g, 0, none⟩ = some a0 ∧ w.cell? ⟨g, 1, none⟩ = some a1 ∧ w.cell? ⟨g, 2, none⟩ = some a2 ∧ w.cell? ⟨g, 3, none⟩ = some a3 ∧ w.cell? ⟨g, 4, none⟩ = some a4 ∧ w.cell? ⟨g, 5, none⟩ = some a5 ∧ w.cell? ⟨g, 6, none⟩ = some a6 ∧ w.cell? ⟨g, 7, none⟩ = some a7) ∧ ∀ i, w.frozen? ⟨g, i, none⟩ = false :=
  ⟨⟨blk_cell h 0, blk_cell h 1, blk_cell h 2, blk_cell h 3, blk_cell h 4, blk_cell h 5, blk_cell h 6, blk_cell h 7⟩, fun i => blk_frozen h i⟩
set_option maxHeartbeats 2000000 in
set_option maxRecDepth 100000 in
theorem entry_1 (w : World) (g : Nat) (l : List UInt8) (h : Rd w g l false) : Calls Tryd.prog 10 #[.pointer (some ⟨g, 0, none⟩), .int .i64 1] w fun e w' => e = .returned (.agg (entV 1 l).cells.toArray) ∧ Off g w w' ∧ Rd w' g (entR 1 l) (entO 1 l) := by
  have hlt := h.lt
  have hR := (h.alloc zE).alloc (kE 1)
  have hZ : ((w.alloc zE).alloc (kE 1)).heap[w.heap.size]? = some zE := blk_alloc (blk_new w zE) (kE 1)
  have hE : ((w.alloc zE).alloc (kE 1)).heap[w.heap.size + 1]? = some (kE 1) := by have := blk_new (w.alloc zE) (kE 1); rwa [show (w.alloc zE).heap.size = w.heap.size + 1 by simp] at this
  have hO := ((Off.refl g w).alloc zE).alloc (kE 1)
  have c1 := name_any _ g l false hR
  have ne1 : w.heap.size ≠ g := Nat.ne_of_gt hlt
  have ne2 : w.heap.size + 1 ≠ g := by omega
  clear h hR
  go_enter Tryd.func10, Tryd.ntmps10
  go_wp2_with fail
  refine c1.mono ?_
  rintro e w1 ⟨rfl, ho1, hr1⟩
  have hZ1 := ho1.blk hZ ne1
  have hE1 := ho1.blk hE ne2
  have hO1 := hO.trans ho1
  obtain ⟨⟨z0, z1, z2, z3, z4, z5, z6, z7⟩, zf⟩ := cells8 hE1
  have zf3 := zf 3
  clear c1 hZ hE hO ho1 zf
  have hE2 : (w1.setCell ⟨w.heap.size + 1, 3, none⟩ (.string (nameB (hdB l)))).heap[w.heap.size + 1]? = some (.cells #[.int .i64 1, .int .i64 0, .int .i64 0, .string (nameB (hdB l)), .string mtS, .string mtS, .string mtS, .string mtS] 31) := blk_set hE1 3 _
  have hZ2 := blk_far hZ1 (p := ⟨w.heap.size + 1, 3, none⟩) (by simp) (.string (nameB (hdB l)))
  have hR2 := hr1.setAbove (p := ⟨w.heap.size + 1, 3, none⟩) (by simp; omega) (.string (nameB (hdB l)))
  have c2 := text_any _ g _ _ hR2
  have HE := Aside0.mk hE2
  have HZ := Aside0.mk hZ2
  have HO := Aside0.mk (hO1.setNew (p := ⟨w.heap.size + 1, 3, none⟩) (by simp) (.string (nameB (hdB l))))
  clear hE1 hZ1 hE2 hZ2 hO1 hr1 hR2
  go_wp2_with fail
  refine c2.mono ?_
  rintro e w2 ⟨rfl, ho2, hr2⟩
  have hZ3 := ho2.blk HZ.out ne1
  have hE3 := ho2.blk HE.out ne2
  have hO3 := HO.out.trans ho2
  clear z0 z1 z2 z3 z4 z5 z6 z7 zf3 c2 ho2
  obtain ⟨⟨z0, z1, z2, z3, z4, z5, z6, z7⟩, zf⟩ := cells8 hE3
  obtain ⟨⟨y0, y1, y2, y3, y4, y5, y6, y7⟩, yf⟩ := cells8 hZ3
  have HO' := Aside0.mk hO3
  have HR := Aside0.mk hr2
  clear hZ3 hE3 hO3 hr2
  go_wp2_with fail
  refine bodyPost_ret (v := .agg (entV 1 l).cells.toArray) (by simp [results, Tryd.results10, go_sem, y0, y1, y2, y3, y4, y5, y6, y7]; rfl) rfl ⟨rfl, ?_, ?_⟩
  · exact ((((((((HO'.out.setNew (by simp) _).setNew (by simp) _).setNew (by simp) _).setNew (by simp) _).setNew (by simp) _).setNew (by simp) _).setNew (by simp) _).setNew (by simp) _).setNew (by simp) _
  · have h2 : g < w.heap.size + 1 := by omega
    exact ((((((((HR.out.setAbove h2 _).setAbove hlt _).setAbove hlt _).setAbove hlt _).setAbove hlt _).setAbove hlt _).setAbove hlt _).setAbove hlt _).setAbove hlt _
set_option maxHeartbeats 4000000 in
set_option maxRecDepth 100000 in
theorem entry_2 (w : World) (g : Nat) (l : List UInt8) (h : Rd w g l false) : Calls Tryd.prog 10 #[.pointer (some ⟨g, 0, none⟩), .int .i64 2] w fun e w' => e = .returned (.agg (entV 2 l).cells.toArray) ∧ Off g w w' ∧ Rd w' g (entR 2 l) (entO 2 l) := by
  have hlt := h.lt
  have hR := (h.alloc zE).alloc (kE 2)
  have hZ : ((w.alloc zE).alloc (kE 2)).heap[w.heap.size]? = some zE := blk_alloc (blk_new w zE) (kE 2)
  have hE : ((w.alloc zE).alloc (kE 2)).heap[w.heap.size + 1]? = some (kE 2) := by have := blk_new (w.alloc zE) (kE 2); rwa [show (w.alloc zE).heap.size = w.heap.size + 1 by simp] at this
  have hO := ((Off.refl g w).alloc zE).alloc (kE 2)
  have ne1 : w.heap.size ≠ g := Nat.ne_of_gt hlt
  have ne2 : w.heap.size + 1 ≠ g := by omega
  have c1 := one_any _ g l false hR
  clear h hR
  go_enter Tryd.func10, Tryd.ntmps10
  have hb1 := hdB_lt l
  go_wp2_with fail
  refine c1.mono ?_
  rintro e w1 ⟨rfl, ho1, hr1⟩
  have hZ1 := ho1.blk hZ ne1
  have hE1 := ho1.blk hE ne2
  have hO1 := hO.trans ho1
  clear c1 hE hZ hO ho1
  obtain ⟨⟨z0, z1, z2, z3, z4, z5, z6, z7⟩, zf⟩ := cells8 hE1
  have hEs : (w1.setCell ⟨w.heap.size + 1, 1, none⟩ (.int .i64 ((hdB l : Int) % 3))).heap[w.heap.size + 1]? = some (.cells #[.int .i64 2, .int .i64 ((hdB l : Int) % 3), .int .i64 0, .string mtS, .string mtS, .string mtS, .string mtS, .string mtS] 31 (0, 0)) := blk_set hE1 1 _
  have hZs := blk_far hZ1 (p := ⟨w.heap.size + 1, 1, none⟩) (by simp) (.int .i64 ((hdB l : Int) % 3))
  have hRs := hr1.setAbove (p := ⟨w.heap.size + 1, 1, none⟩) (by simp; omega) (.int .i64 ((hdB l : Int) % 3))
  have c2 := name_any _ g _ _ hRs
  have HE1 := Aside0.mk hEs
  have HZ1 := Aside0.mk hZs
  have HO1 := Aside0.mk (hO1.setNew (p := ⟨w.heap.size + 1, 1, none⟩) (by simp) (.int .i64 ((hdB l : Int) % 3)))
  clear hE1 hZ1 hEs hZs hO1 hr1 hRs
  go_wp2_with fail
  refine c2.mono ?_
  rintro e w2 ⟨rfl, ho2, hr2⟩
  have hZ2 := ho2.blk HZ1.out ne1
  have hE2 := ho2.blk HE1.out ne2
  have hO2 := HO1.out.trans ho2
  clear c2 ho2 z0 z1 z2 z3 z4 z5 z6 z7 zf
  obtain ⟨⟨z0, z1, z2, z3, z4, z5, z6, z7⟩, zf⟩ := cells8 hE2
  obtain ⟨⟨y0, y1, y2, y3, y4, y5, y6, y7⟩, yf⟩ := cells8 hZ2
  have HO' := Aside0.mk hO2
  have HR := Aside0.mk hr2
  clear hZ2 hE2 hO2 hr2
  go_wp2_with fail
  refine bodyPost_ret (v := .agg (entV 2 l).cells.toArray) (by simp [results, Tryd.results10, go_sem, y0, y1, y2, y3, y4, y5, y6, y7]; rfl) rfl ⟨rfl, ?_, ?_⟩
  · exact ((((((((HO'.out.setNew (by simp) _).setNew (by simp) _).setNew (by simp) _).setNew (by simp) _).setNew (by simp) _).setNew (by simp) _).setNew (by simp) _).setNew (by simp) _).setNew (by simp) _
  · have h2 : g < w.heap.size + 1 := by omega
    exact ((((((((HR.out.setAbove h2 _).setAbove hlt _).setAbove hlt _).setAbove hlt _).setAbove hlt _).setAbove hlt _).setAbove hlt _).setAbove hlt _).setAbove hlt _
def nameAt (l : List UInt8) (i : Nat) : ByteArray := nameB (hdB (l.drop i))
/-- The name in place j, when i are read. -/
def nmA (l : List UInt8) (i j : Nat) : ByteArray := if j < i then nameAt l j else mtS
theorem drop_empty : ∀ (i : Nat) (l : List UInt8), ((!decide (i ≤ l.length)) || (l.drop i).isEmpty) = !decide (i + 1 ≤ l.length)
  | 0, [] => rfl
  | 0, c :: t => by simp
  | i + 1, [] => by simp
  | i + 1, c :: t => by
    have := drop_empty i t
    rw [List.drop_succ_cons, List.length_cons]
    have e1 : decide (i + 1 ≤ t.length + 1) = decide (i ≤ t.length) := by rw [decide_eq_decide]; omega
    have e2 : decide (i + 1 + 1 ≤ t.length + 1) = decide (i + 1 ≤ t.length) := by rw [decide_eq_decide]; omega
    rw [e1, e2]; exact this
theorem tail_drop (l : List UInt8) (i : Nat) : (l.drop i).tail = l.drop (i + 1) := by simp [List.tail_drop]
theorem name_at (w : World) (g : Nat) (l : List UInt8) (i : Nat) (h : Rd w g (l.drop i) (!decide (i ≤ l.length))) : Calls Tryd.prog 13 #[.pointer (some ⟨g, 0, none⟩)] w fun e w' => e = .returned (.string (nameAt l i)) ∧ Off g w w' ∧ Rd w' g (l.drop (i + 1)) (!decide (i + 1 ≤ l.length)) := by
  refine (name_any w g _ _ h).mono ?_
  rintro e w' ⟨rfl, ho, hr⟩
  rw [tail_drop, drop_empty] at hr
  exact ⟨rfl, ho, hr⟩
set_option maxHeartbeats 4000000 in
set_option maxRecDepth 100000 in
theorem entry_3 (w : World) (g : Nat) (l : List UInt8) (h : Rd w g l false) : Calls Tryd.prog 10 #[.pointer (some ⟨g, 0, none⟩), .int .i64 3] w fun e w' => e = .returned (.agg (entV 3 l).cells.toArray) ∧ Off g w w' ∧ Rd w' g (entR 3 l) (entO 3 l) := by
  have hlt := h.lt
  have hR := (h.alloc zE).alloc (kE 3)
  have hZ : ((w.alloc zE).alloc (kE 3)).heap[w.heap.size]? = some zE := blk_alloc (blk_new w zE) (kE 3)
  have hE : ((w.alloc zE).alloc (kE 3)).heap[w.heap.size + 1]? = some (kE 3) := by have := blk_new (w.alloc zE) (kE 3); rwa [show (w.alloc zE).heap.size = w.heap.size + 1 by simp] at this
  have hO := ((Off.refl g w).alloc zE).alloc (kE 3)
  have ne1 : w.heap.size ≠ g := Nat.ne_of_gt hlt
  have ne2 : w.heap.size + 1 ≠ g := by omega
  clear h
  have HE := Aside0.mk hE
  have HZ := Aside0.mk hZ
  have HO := Aside0.mk hO
  have HR := Aside0.mk hR
  clear hE hZ hO hR
  go_enter Tryd.func10, Tryd.ntmps10
  go_wp2_with fail
  go_loopw [29] (fun v29 wr => ∃ i : Nat, i ≤ 3 ∧ v29 = .int .i64 (i : Int) ∧ wr.heap[w.heap.size + 1]? = some (.cells #[.int .i64 3, .int .i64 0, .int .i64 0, .string mtS, .string mtS, .string (nmA l i 0), .string (nmA l i 1), .string (nmA l i 2)] 31 (0, 0)) ∧ wr.heap[w.heap.size]? = some zE ∧ Off g w wr ∧ Rd wr g (l.drop i) (!decide (i ≤ l.length))) (fun v29 _ => 3 - (RowKit.intOf v29).toNat)
  case atStart => exact ⟨0, by omega, rfl, HE.out, HZ.out, HO.out, by simpa using HR.out⟩
  case round =>
    obtain ⟨i, hi, rfl, hEr, hZr, hOr, hRr⟩ := hrel
    clear HE HZ HO HR
    have hi3 : i = 0 ∨ i = 1 ∨ i = 2 ∨ i = 3 := by omega
    clear hi
    rcases hi3 with rfl | rfl | rfl | rfl
    · have c1 := name_at _ g l _ hRr
      have HE := Aside0.mk hEr
      have HZ := Aside0.mk hZr
      have HO := Aside0.mk hOr
      clear hEr hZr hOr hRr
      go_wp2_with fail
      refine c1.mono ?_
      rintro e w1 ⟨rfl, ho1, hr1⟩
      have hZ1 := ho1.blk HZ.out ne1
      have hE1 := ho1.blk HE.out ne2
      have hO1 := HO.out.trans ho1
      clear c1 ho1
      obtain ⟨⟨z0, z1, z2, z3, z4, z5, z6, z7⟩, zf⟩ := cells8 hE1
      have HE' : Aside0 ((w1.setCell ⟨w.heap.size + 1, 5, none⟩ (.string (nameAt l 0))).heap[w.heap.size + 1]? = some (.cells #[.int .i64 3, .int .i64 0, .int .i64 0, .string mtS, .string mtS, .string (nmA l 1 0), .string (nmA l 1 1), .string (nmA l 1 2)] 31 (0, 0))) := Aside0.mk (blk_set hE1 5 _)
      have HZ' := Aside0.mk (blk_far hZ1 (p := ⟨w.heap.size + 1, 5, none⟩) (by simp) (.string (nameAt l 0)))
      have HR' := Aside0.mk (hr1.setAbove (p := ⟨w.heap.size + 1, 5, none⟩) (by simp; omega) (.string (nameAt l 0)))
      have HO' := Aside0.mk (hO1.setNew (p := ⟨w.heap.size + 1, 5, none⟩) (by simp) (.string (nameAt l 0)))
      clear hE1 hZ1 hO1 hr1
      go_wp2_with fail
      go_roundw
      case rel => exact ⟨1, by omega, rfl, HE'.out, HZ'.out, HO'.out, HR'.out⟩
      case measure => simp [RowKit.intOf]
    · have c1 := name_at _ g l _ hRr
      have HE := Aside0.mk hEr
      have HZ := Aside0.mk hZr
      have HO := Aside0.mk hOr
      clear hEr hZr hOr hRr
      go_wp2_with fail
      refine c1.mono ?_
      rintro e w1 ⟨rfl, ho1, hr1⟩
      have hZ1 := ho1.blk HZ.out ne1
      have hE1 := ho1.blk HE.out ne2
      have hO1 := HO.out.trans ho1
      clear c1 ho1
      obtain ⟨⟨z0, z1, z2, z3, z4, z5, z6, z7⟩, zf⟩ := cells8 hE1
      have HE' : Aside0 ((w1.setCell ⟨w.heap.size + 1, 6, none⟩ (.string (nameAt l 1))).heap[w.heap.size + 1]? = some (.cells #[.int .i64 3, .int .i64 0, .int .i64 0, .string mtS, .string mtS, .string (nmA l 2 0), .string (nmA l 2 1), .string (nmA l 2 2)] 31 (0, 0))) := Aside0.mk (blk_set hE1 6 _)
      have HZ' := Aside0.mk (blk_far hZ1 (p := ⟨w.heap.size + 1, 6, none⟩) (by simp) (.string (nameAt l 1)))
      have HR' := Aside0.mk (hr1.setAbove (p := ⟨w.heap.size + 1, 6, none⟩) (by simp; omega) (.string (nameAt l 1)))
      have HO' := Aside0.mk (hO1.setNew (p := ⟨w.heap.size + 1, 6, none⟩) (by simp) (.string (nameAt l 1)))
      clear hE1 hZ1 hO1 hr1
      go_wp2_with fail
      go_roundw
      case rel => exact ⟨2, by omega, rfl, HE'.out, HZ'.out, HO'.out, HR'.out⟩
      case measure => simp [RowKit.intOf]
    · have c1 := name_at _ g l _ hRr
      have HE := Aside0.mk hEr
      have HZ := Aside0.mk hZr
      have HO := Aside0.mk hOr
      clear hEr hZr hOr hRr
      go_wp2_with fail
      refine c1.mono ?_
      rintro e w1 ⟨rfl, ho1, hr1⟩
      have hZ1 := ho1.blk HZ.out ne1
      have hE1 := ho1.blk HE.out ne2
      have hO1 := HO.out.trans ho1
      clear c1 ho1
      obtain ⟨⟨z0, z1, z2, z3, z4, z5, z6, z7⟩, zf⟩ := cells8 hE1
      have HE' : Aside0 ((w1.setCell ⟨w.heap.size + 1, 7, none⟩ (.string (nameAt l 2))).heap[w.heap.size + 1]? = some (.cells #[.int .i64 3, .int .i64 0, .int .i64 0, .string mtS, .string mtS, .string (nmA l 3 0), .string (nmA l 3 1), .string (nmA l 3 2)] 31 (0, 0))) := Aside0.mk (blk_set hE1 7 _)
      have HZ' := Aside0.mk (blk_far hZ1 (p := ⟨w.heap.size + 1, 7, none⟩) (by simp) (.string (nameAt l 2)))
      have HR' := Aside0.mk (hr1.setAbove (p := ⟨w.heap.size + 1, 7, none⟩) (by simp; omega) (.string (nameAt l 2)))
      have HO' := Aside0.mk (hO1.setNew (p := ⟨w.heap.size + 1, 7, none⟩) (by simp) (.string (nameAt l 2)))
      clear hE1 hZ1 hO1 hr1
      go_wp2_with fail
      go_roundw
      case rel => exact ⟨3, by omega, rfl, HE'.out, HZ'.out, HO'.out, HR'.out⟩
      case measure => simp [RowKit.intOf]
    · have hq : (!decide (3 ≤ l.length)) = (l.isEmpty || l.tail.isEmpty || l.tail.tail.isEmpty) := by
        match l with
        | [] => rfl
        | [_] => rfl
        | [_, _] => rfl
        | _ :: _ :: _ :: _ => simp
      have hd : l.drop 3 = l.tail.tail.tail := by
        rw [← tail_drop, ← tail_drop, ← tail_drop, List.drop_zero]
      rw [hq, hd] at hRr
      have e0 : nmA l 3 0 = nameB (hdB l) := rfl
      have e1 : nmA l 3 1 = nameB (hdB l.tail) := by show nameB (hdB (l.drop 1)) = _; rw [← tail_drop, List.drop_zero]
      have e2 : nmA l 3 2 = nameB (hdB l.tail.tail) := by show nameB (hdB (l.drop 2)) = _; rw [← tail_drop, ← tail_drop, List.drop_zero]
      rw [e0, e1, e2] at hEr
      clear e0 e1 e2 hq hd
      have c1 := one_any _ g _ _ hRr
      have HE := Aside0.mk hEr
      have HZ := Aside0.mk hZr
      have HO := Aside0.mk hOr
      clear hEr hZr hOr hRr
      go_wp2_with fail
      refine c1.mono ?_
      rintro e w1 ⟨rfl, ho1, hr1⟩
      have hZ1 := ho1.blk HZ.out ne1
      have hE1 := ho1.blk HE.out ne2
      have hO1 := HO.out.trans ho1
      clear c1 ho1
      obtain ⟨⟨z0, z1, z2, z3, z4, z5, z6, z7⟩, zf⟩ := cells8 hE1
      obtain ⟨⟨y0, y1, y2, y3, y4, y5, y6, y7⟩, yf⟩ := cells8 hZ1
      have HO' := Aside0.mk hO1
      have HR := Aside0.mk hr1
      clear hZ1 hE1 hO1 hr1
      go_wp2_with fail
      refine bodyPost_ret (v := .agg (entV 3 l).cells.toArray) (by simp [results, Tryd.results10, go_sem, y0, y1, y2, y3, y4, y5, y6, y7]; rfl) rfl ⟨rfl, ?_, ?_⟩
      · exact ((((((((HO'.out.setNew (by simp) _).setNew (by simp) _).setNew (by simp) _).setNew (by simp) _).setNew (by simp) _).setNew (by simp) _).setNew (by simp) _).setNew (by simp) _).setNew (by simp) _
      · have h2 : g < w.heap.size + 1 := by omega
        exact ((((((((HR.out.setAbove h2 _).setAbove hlt _).setAbove hlt _).setAbove hlt _).setAbove hlt _).setAbove hlt _).setAbove hlt _).setAbove hlt _).setAbove hlt _
end Go.Proofs.YtgiobiljneijiaaDoor.G
