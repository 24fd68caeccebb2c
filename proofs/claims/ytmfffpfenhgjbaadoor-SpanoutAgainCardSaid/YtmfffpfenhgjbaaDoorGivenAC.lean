/- Words for the laws of this seat, several texts behind one another. -/
import Derived.Test.YtmfffpfenhgjbaaDoorWAll
import Derived.Lib.ConvBytes
/-! GivenA -/
namespace Go.Proofs.YtmfffpfenhgjbaaDoor.G
theorem beq_nil_E (l : List UInt8) : (l == ([] : List UInt8)) = l.isEmpty := by cases l <;> rfl
theorem lit_size (l : List UInt8) : (⟨l.toArray⟩ : ByteArray).size = l.length := by simp [ByteArray.size]
end Go.Proofs.YtmfffpfenhgjbaaDoor.G
/-! GivenConv -/
namespace Go.Proofs.YtmfffpfenhgjbaaDoorW.PrintWords
open Go.RowKit
theorem bytesWorld_grown (W : World) (e : TypeId) (s : ByteArray) : W.grownBy (Lib.bytesWorld W e s) none := ⟨rfl, rfl, rfl, by rw [Lib.bytesWorld_size]; omega, fun k hk _ => Lib.bytesWorld_at_old W e s k hk⟩
theorem reads_moved {W W1 : World} {b n : Nat} {xs : List Int} (h : ReadsInt W .u8 (some ⟨b, 0, none⟩) n xs) (hb : W1.heap[b]? = W.heap[b]?) : ReadsInt W1 .u8 (some ⟨b, 0, none⟩) n xs := by
  obtain ⟨h1, h2, h3⟩ := h
  refine ⟨h1, h2, fun hn => ?_⟩
  obtain ⟨ad, e, hc⟩ := h3 hn
  cases e
  refine ⟨_, rfl, fun j hj => ?_⟩
  rw [← hc j hj, add_plain]
  exact World.cell?_of_block hb
theorem bytesWorld_V (W : World) (base : Nat) (e : TypeId) (s : ByteArray) (hl : s.size ≤ 9223372036854775807) :
    Kd.V (Kd.int .u8) e (Lib.bytesWorld W e s) base (fun k => W.heap.size ≤ k) (.slice (some ⟨W.heap.size, 0, none⟩) s.size (grownCap W s.size 0 e)) (bytesOf s) := by
  refine ⟨some ⟨W.heap.size, 0, none⟩, grownCap W s.size 0 e, by rw [bytesOf_length], by rw [bytesOf_length]; exact grownCap_ge W s.size 0 e, ?_⟩
  intro W' hW
  have h1 := hW W.heap.size (Nat.le_refl _) (by rw [Lib.bytesWorld_size]; omega)
  have h2 := reads_moved (bytes_reads W e s hl) h1
  rw [bytesOf_length]
  exact Kd.C_of_reads (d := (0 : Int)) h2
section
variable {P : Program} {ops : Array Oper} {rest : List Oper} {o : Oper} {a : Act} {Q : Exit → Act → World → Prop} {Kc : Act → World → Prop}
theorem conv_run {W : World} {src dst e : TypeId} {x : Operand} (ho : o.op = .convert src dst x) {s : ByteArray} (hx : a.eval x = .string s) {u : TypeDesc}
    (hs : P.underlying src = some u) (hdt : P.underlying dst = some (.slice e)) (he : P.underlying e = some (.int .u8)) :
    (execOp a.eval o).run P W = .ok (.value (.slice (some ⟨W.heap.size, 0, none⟩) s.size (grownCap W s.size 0 e))) (Lib.bytesWorld W e s) := by
  have hr := Lib.run_convert_string_bytes (P := P) W src dst e s hs hdt he
  simp [execOp, ho, hx, hr]
namespace Kd
theorem V_conv {w0 W : World} (base e : Nat) (hgd : o.guard = none) {N : Tmp} (_hd : o.dst = some N) (src dst : TypeId) (x : Operand) (ho : o.op = .convert src dst x) (s : ByteArray) (hx : a.eval x = .string s) {u : TypeDesc}
    (hs : P.underlying src = some u) (hdt : P.underlying dst = some (.slice e)) (he : P.underlying e = some (.int .u8)) (hl : s.size ≤ 9223372036854775807) (HB : Below base w0 W) (hbase : base ≤ W.heap.size)
    (h : ∀ v1 w1, Kd.V (Kd.int .u8) e w1 base (fun k => W.heap.size ≤ k) v1 (bytesOf s) → Below base w0 w1 → W.grownBy w1 none → (∃ b, v1.ownBlock = some b ∧ W.heap.size ≤ b) → wpList P ops Q rest (a.put o.dst v1) w1) : wpList P ops Q (o :: rest) a W :=
  event_run hgd (conv_run ho hx hs hdt he) (h _ _ (bytesWorld_V W base e s hl) (HB.grown (bytesWorld_grown W e s) hbase (fun k hk => by cases hk)) (bytesWorld_grown W e s) ⟨W.heap.size, by simp [Value.ownBlock], Nat.le_refl _⟩)
theorem V_conv_step {w0 W : World} (base e : Nat) (hw : Region.wanted o (yielded ops a.tmps) = true) {N : Tmp} (_hd : o.dst = some N) (src dst : TypeId) (x : Operand) (ho : o.op = .convert src dst x) (s : ByteArray) (hx : a.eval x = .string s) {u : TypeDesc}
    (hs : P.underlying src = some u) (hdt : P.underlying dst = some (.slice e)) (he : P.underlying e = some (.int .u8)) (hl : s.size ≤ 9223372036854775807) (HB : Below base w0 W) (hbase : base ≤ W.heap.size)
    (h : ∀ v1 w1, Kd.V (Kd.int .u8) e w1 base (fun k => W.heap.size ≤ k) v1 (bytesOf s) → Below base w0 w1 → W.grownBy w1 none → (∃ b, v1.ownBlock = some b ∧ W.heap.size ≤ b) → Kc (a.put o.dst v1) w1) : if Region.wanted o (yielded ops a.tmps) = true then Oper.wp P o a W Kc Q else Kc (a.put o.dst undef) W :=
  event_step hw (conv_run ho hx hs hdt he) (h _ _ (bytesWorld_V W base e s hl) (HB.grown (bytesWorld_grown W e s) hbase (fun k hk => by cases hk)) (bytesWorld_grown W e s) ⟨W.heap.size, by simp [Value.ownBlock], Nat.le_refl _⟩)
variable {α : Type}
theorem make0_run {W : World} {t e : TypeId} {x y : Operand} (ho : o.op = .makeSlice t x y) {n : Int} (hx : a.eval x = .int .i64 0) (hy : a.eval y = .int .i64 n) (ht : P.underlying t = some (.slice e)) {z : Value} {bytes sz : Nat}
    (hinfo : (P.info? e).map (fun i => (i.zero, i.size, i.bytes)) = some (some z, sz, bytes)) (hb0 : 0 < bytes) (h0 : 0 ≤ n) (hl : n.toNat * bytes ≤ 281474976710656) :
    (execOp a.eval o).run P W = .ok (.value (.slice (some ⟨W.heap.size, 0, none⟩) 0 n.toNat)) (W.alloc (.cells (madeCells z.cells (n.toNat * sz)) e)) := by
  obtain ⟨m, rfl⟩ := Int.eq_ofNat_of_zero_le h0
  simp only [Int.toNat_natCast] at hl ⊢
  obtain ⟨i0, hi, hzz⟩ := Option.map_eq_some_iff.1 hinfo
  simp only [Prod.mk.injEq] at hzz
  obtain ⟨hz0, hz1, hz2⟩ := hzz
  have hm : m ≤ 281474976710656 := Nat.le_trans (Nat.le_mul_of_pos_right _ hb0) hl
  have hr := run_make (P := P) W t e i0 z ht hi hz0 .i64 .i64 0 (m : Int) (by omega) (by omega)
    (by
      have h3 : ((i0.bytes * m : Nat) : Int) ≤ 281474976710656 := by rw [hz2, Nat.mul_comm]; omega
      rwa [Int.natCast_mul] at h3) (by omega)
  simp only [Int.toNat_natCast] at hr
  rw [hz1] at hr
  simp [execOp, ho, hx, hy, hr]
theorem R_fresh0 (d : Kd α) (W : World) (base e : Nat) (z : Value) (m : Nat) {ok : Nat → Prop} (hfresh : ok W.heap.size) (hbase : base ≤ W.heap.size) (_hz : z.cells.size = d.sz) (hm : m ≤ 9223372036854775807) :
    d.R e (W.alloc (.cells (madeCells z.cells (m * d.sz)) e)) base ok (.slice (some ⟨W.heap.size, 0, none⟩) 0 m) ([] : List α) := by
  have h1 := World.ownsRow_lit (base := base) (e := e) (size := d.sz) W (madeCells z.cells (m * d.sz)) m hbase (by simpa [maxLen] using hm) (by simp [size_madeCells])
  have h2 := own_take h1 (Nat.zero_le m)
  refine ⟨fun k hk => ?_, [], ?_, Reps.none _ _⟩
  · have : W.heap.size = k := by simpa [Value.ownBlock] using hk
    subst this
    exact hfresh
  · simpa using h2
theorem R_make0 (d : Kd α) {w0 W : World} (base e : Nat) (hgd : o.guard = none) {N : Tmp} (_hd : o.dst = some N) (t : TypeId) (x y : Operand) (ho : o.op = .makeSlice t x y) (n : Int) (hx : a.eval x = .int .i64 0) (hy : a.eval y = .int .i64 n)
    (ht : P.underlying t = some (.slice e)) (z : Value) (bytes : Nat) (hinfo : (P.info? e).map (fun i => (i.zero, i.size, i.bytes)) = some (some z, d.sz, bytes)) (hz : z.cells.size = d.sz) (_hs0 : 0 < d.sz) (hb0 : 0 < bytes)
    (z0 : α) {ok okp : Nat → Prop} (_hzero : d.M W base okp z0 z.cells.toList) (_hok : ∀ k, okp k → ok k) (hfresh : ok W.heap.size) (h0 : 0 ≤ n) (hl : n.toNat * bytes ≤ 281474976710656) (HB : Below base w0 W) (hbase : base ≤ W.heap.size)
    (h : ∀ v1 w1, d.R e w1 base ok v1 [] → Below base w0 w1 → W.grownBy w1 none → (∃ b, v1.ownBlock = some b ∧ W.heap.size ≤ b) → wpList P ops Q rest (a.put o.dst v1) w1) : wpList P ops Q (o :: rest) a W :=
  event_run hgd (make0_run ho hx hy ht hinfo hb0 h0 hl) (h _ _ (R_fresh0 d W base e z n.toNat hfresh hbase hz (by have := Nat.le_trans (Nat.le_mul_of_pos_right _ hb0) hl; omega)) (HB.alloc hbase _) (World.grownBy_alloc W _ none) ⟨W.heap.size, by simp [Value.ownBlock], Nat.le_refl _⟩)
end Kd
end
end Go.Proofs.YtmfffpfenhgjbaaDoorW.PrintWords
