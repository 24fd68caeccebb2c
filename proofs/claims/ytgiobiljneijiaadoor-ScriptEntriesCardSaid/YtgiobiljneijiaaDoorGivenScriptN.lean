/- The law ScriptEntries. -/
import Derived.Test.YtgiobiljneijiaaDoorGivenScriptS
set_option linter.unusedVariables false
set_option linter.unusedSimpArgs false
namespace Go.Proofs.YtgiobiljneijiaaDoor.G
open Go.Shelf Go.RowKit Go.Lib Go.Proofs Go.Proofs.YtgiobiljneijiaaDoor.Pure Go.Proofs.YtgiobiljneijiaaDoorW.PrintWords Go.Proofs.YtgiobiljneijiaaDoorW.PrintLast Go.Proofs.YtgiobiljneijiaaDoorW.PrintMore
/-- Numbers as bytes. -/
def u8s (l : List Int) : ByteArray := ⟨(l.map fun x => UInt8.ofNat x.toNat).toArray⟩
theorem u8s_L (l : List Int) : L (u8s l) = l.map fun x => UInt8.ofNat x.toNat := L_mk _
theorem u8s_size (l : List Int) : (u8s l).size = l.length := by rw [L_size, u8s_L, List.length_map]
/-- string([]byte{..}) -/
theorem conv_many (l : List Int) (h : ∀ x ∈ l, 0 ≤ x ∧ x < 256) (n : Nat) (hn : n = l.length) (w : World) : (convert 25 9 (.slice (some ⟨w.heap.size, 0, none⟩) n n)).run Tryd.prog (w.alloc (.cells (l.map (Value.int .u8)).toArray 5)) = .ok (.string (u8s l)) (w.alloc (.cells (l.map (Value.int .u8)).toArray 5)) := by
  refine conv_row _ (some ⟨w.heap.size, 0, none⟩) n n (l.map fun x => UInt8.ofNat x.toNat) (by rw [List.length_map, hn]) (fun j b hj => ?_)
  refine ⟨_, rfl, ?_⟩
  rw [Go.Proofs.YtgiobiljneijiaaDoorW.PrintWords.add_plain, blk_cell (blk_new w _) j]
  rw [List.getElem?_map] at hj
  cases hx : l[j]? with
  | none => rw [hx] at hj; cases hj
  | some x =>
    rw [hx] at hj
    injection hj with hj
    subst hj
    obtain ⟨h0, h1⟩ := h x (List.mem_of_getElem? hx)
    have : ((l.map (Value.int .u8)).toArray)[j]? = some (.int .u8 x) := by simp [hx]
    rw [this]
    have e : (((UInt8.ofNat x.toNat).toNat : Nat) : Int) = x := by rw [UInt8.toNat_ofNat']; omega
    rw [e]
/-- A name's number. -/
def numOf (l : List Int) (i : Nat) : Int := (l.getD i 0) % 8
/-- The bytes that are laid for the first names. -/
def accB (l : List Int) (text : ByteArray) (size odd : Int) : Nat → ByteArray
  | 0 => ⟨#[]⟩
  | i + 1 => ((accB l text size odd i ++ u8s [odd, 1, numOf l i, (text.size : Int)]) ++ text) ++ u8s [2, numOf l i % 3, numOf l i, 3, numOf l i, numOf l i, numOf l i, size]
theorem accB_size (l : List Int) (text : ByteArray) (size odd : Int) (ht : text.size ≤ 200) : ∀ i, (accB l text size odd i).size ≤ i * 212
  | 0 => by show (0 : Nat) ≤ _; omega
  | i + 1 => by
    have := accB_size l text size odd ht i
    rw [accB, size_append, size_append, size_append, u8s_size, u8s_size]
    simp only [List.length_cons, List.length_nil]
    omega
def u8n (x : Int) : UInt8 := UInt8.ofNat x.toNat
theorem accB_L (l : List Int) (text : ByteArray) (size odd : Int) (hl : ∀ x ∈ l, 0 ≤ x ∧ x < 256) : ∀ i, i ≤ l.length → L (accB l text size odd i) = (l.take i).flatMap fun x => laidE (L text) (u8n size) (u8n odd) (u8n (x % 8))
  | 0, _ => rfl
  | i + 1, h => by
    have ih := accB_L l text size odd hl i (by omega)
    have hi : i < l.length := h
    rw [accB, L_append, L_append, L_append, ih, u8s_L, u8s_L, List.take_succ_eq_append_getElem hi, List.flatMap_append, List.flatMap_singleton]
    have hx := hl _ (List.getElem_mem hi)
    have hn : numOf l i = l[i] % 8 := by unfold numOf; rw [List.getD_eq_getElem?_getD, List.getElem?_eq_getElem hi]; rfl
    rw [hn]
    unfold laidE
    have e1 : (UInt8.ofNat (text.size : Int).toNat) = UInt8.ofNat (L text).length := by rw [Int.toNat_natCast, L_size]
    have e2 : UInt8.ofNat ((l[i] % 8) % 3 : Int).toNat = UInt8.ofNat ((u8n (l[i] % 8)).toNat % 3) := by
      unfold u8n
      rw [UInt8.toNat_ofNat']
      congr 1
      have q0 : 0 ≤ l[i] % 8 ∧ l[i] % 8 < 8 := by omega
      generalize l[i] % 8 = q at q0
      obtain ⟨m, rfl⟩ := Int.eq_ofNat_of_zero_le q0.1
      have : m % 2 ^ 8 = m := Nat.mod_eq_of_lt (by have : (2 : Nat) ^ 8 = 256 := rfl; omega)
      rw [Int.toNat_natCast, this]
      omega
    simp only [List.map_cons, List.map_nil, e1, e2, List.append_assoc]
    rfl
def bigE (l : List Int) (text : ByteArray) (size : Int) : List Ent := l.flatMap fun x => threeE (L text) (u8n size) (u8n (x % 8))
theorem decode_big (text : ByteArray) (size odd : Int) (ho : (u8n odd).toNat < 1 ∨ 3 < (u8n odd).toNat) (ht : text.size ≤ 200) : ∀ l : List Int, decodeL (l.flatMap fun x => laidE (L text) (u8n size) (u8n odd) (u8n (x % 8))) = bigE l text size
  | [] => decodeL_nil
  | x :: l => by
    rw [List.flatMap_cons, decodeL_laid _ _ _ _ _ ho (by rw [← L_size]; exact ht), decode_big text size odd ho ht l]
    rfl
theorem bigE_length (text : ByteArray) (size : Int) : ∀ l : List Int, (bigE l text size).length = 3 * l.length
  | [] => rfl
  | x :: l => by
    have := bigE_length text size l
    unfold bigE at this ⊢
    rw [List.flatMap_cons, List.length_append, this]
    show 3 + _ = _
    rw [List.length_cons]; omega
theorem bigE_at (text : ByteArray) (size : Int) : ∀ (l : List Int) (i j : Nat), i < l.length → j < 3 → (bigE l text size)[3 * i + j]? = (threeE (L text) (u8n size) (u8n (numOf l i)))[j]?
  | [], i, j, h, _ => by simp at h
  | x :: l, 0, j, h, hj => by
    unfold bigE
    rw [List.flatMap_cons, Nat.mul_zero, Nat.zero_add, List.getElem?_append_left (by show j < 3; exact hj)]
    rfl
  | x :: l, i + 1, j, h, hj => by
    have := bigE_at text size l i j (by simpa using h) hj
    unfold bigE at this ⊢
    rw [List.flatMap_cons, List.getElem?_append_right (by show 3 ≤ _; omega)]
    have e : 3 * (i + 1) + j - (threeE (L text) (u8n size) (u8n (x % 8))).length = 3 * i + j := by show 3 * (i + 1) + j - 3 = _; omega
    rw [e, this]
    rfl
theorem slice_lit (q : Nat) (h : q < 8) (W : World) : (Instr.slice 9 (.string ⟨#[48, 49, 50, 51, 52, 53, 54, 55]⟩) (some (.int .u8 (q : Int))) (some (.int .u8 ((q : Int) + 1))) none).run Tryd.prog W = .ok (.string ((⟨#[48, 49, 50, 51, 52, 53, 54, 55]⟩ : ByteArray).extract q (q + 1))) W := by
  have : q = 0 ∨ q = 1 ∨ q = 2 ∨ q = 3 ∨ q = 4 ∨ q = 5 ∨ q = 6 ∨ q = 7 := by omega
  rcases this with rfl | rfl | rfl | rfl | rfl | rfl | rfl | rfl <;> rfl
theorem name_lit (n : Nat) (h : n < 8) : (⟨#[102]⟩ ++ (⟨#[48, 49, 50, 51, 52, 53, 54, 55]⟩ : ByteArray).extract n (n + 1) : ByteArray) = nameB n := by
  have : n = 0 ∨ n = 1 ∨ n = 2 ∨ n = 3 ∨ n = 4 ∨ n = 5 ∨ n = 6 ∨ n = 7 := by omega
  rcases this with rfl | rfl | rfl | rfl | rfl | rfl | rfl | rfl <;> rfl
theorem three_drew {w2 wr : World} (h : Below w2.heap.size w2 wr) (o1 o2 o3 : Obj) : Below w2.heap.size w2 (((wr.alloc o1).alloc o2).alloc o3).drew :=
  below_drew1 (((h.alloc h.size o1).alloc (h.alloc h.size o1).size o2).alloc ((h.alloc h.size o1).alloc (h.alloc h.size o1).size o2).size o3)
end Go.Proofs.YtgiobiljneijiaaDoor.G
