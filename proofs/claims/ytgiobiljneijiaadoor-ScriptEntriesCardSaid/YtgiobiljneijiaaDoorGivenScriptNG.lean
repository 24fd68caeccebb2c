/- The law ScriptEntries, all inputs. -/
import Derived.Test.YtgiobiljneijiaaDoorGivenScriptNF
import Derived.Test.YtgiobiljneijiaaDoorGivenScriptNT
set_option linter.unusedVariables false
set_option linter.unusedSimpArgs false
namespace Go.Proofs.YtgiobiljneijiaaDoor.G
open Go.Shelf Go.RowKit Go.Lib Go.Proofs Go.Proofs.YtgiobiljneijiaaDoor.Pure Go.Proofs.YtgiobiljneijiaaDoorW.PrintWords Go.Proofs.YtgiobiljneijiaaDoorW.PrintLast Go.Proofs.YtgiobiljneijiaaDoorW.PrintMore
set_option maxHeartbeats 8000000 in
set_option maxRecDepth 1000000 in
theorem entries_skip (A : Option Addr) (c : Nat) (n : Nat) (text : ByteArray) (x y : Int) (w : World) (h : n > 60 ∨ (n ≤ 60 ∧ text.size > 200) ∨ (n ≤ 60 ∧ text.size ≤ 200 ∧ y ≥ 1 ∧ y ≤ 3)) :
    Calls Tryd.prog 5 #[.slice A n c, .string text, .int .u8 x, .int .u8 y] w fun e w' => e = .returned (.bool true) ∧ Below w.heap.size w w' := by
  rcases h with h | ⟨h, h2⟩ | ⟨h, h2, h3, h4⟩
  · have hg1 : decide ((n : Int) > 60) = true := decide_eq_true (by omega)
    clear h
    go_enter Tryd.func5, Tryd.ntmps5
    go_wp2_with fail
    refine (awake22 w).mono ?_
    rintro e w1 ⟨rfl, hb1⟩
    go_wp2_with fail
    refine (awake22 w1).mono ?_
    rintro e w2 ⟨rfl, hb2⟩
    go_wp2_with fail
    go_ret
    exact ⟨rfl, hb1.trans (hb2.mono hb1.size)⟩
  · have hg1 : decide ((n : Int) > 60) = false := decide_eq_false (by omega)
    have hg2 : decide ((text.size : Int) > 200) = true := decide_eq_true (by omega)
    clear h h2
    go_enter Tryd.func5, Tryd.ntmps5
    go_wp2_with fail
    refine (awake22 w).mono ?_
    rintro e w1 ⟨rfl, hb1⟩
    go_wp2_with fail
    refine (awake22 w1).mono ?_
    rintro e w2 ⟨rfl, hb2⟩
    go_wp2_with fail
    go_ret
    exact ⟨rfl, hb1.trans (hb2.mono hb1.size)⟩
  · have hg1 : decide ((n : Int) > 60) = false := decide_eq_false (by omega)
    have hg2 : decide ((text.size : Int) > 200) = false := decide_eq_false (by omega)
    clear h h2
    have d1 : decide (y ≥ 1) = true := decide_eq_true h3
    have d2 : decide (y ≤ 3) = true := decide_eq_true h4
    clear h3 h4
    go_enter Tryd.func5, Tryd.ntmps5
    go_wp2_with fail
    refine (awake22 w).mono ?_
    rintro e w1 ⟨rfl, hb1⟩
    go_wp2_with fail
    refine (awake22 w1).mono ?_
    rintro e w2 ⟨rfl, hb2⟩
    go_wp2_with fail
    go_ret
    exact ⟨rfl, hb1.trans (hb2.mono hb1.size)⟩
theorem entries_any (A : Option Addr) (c : Nat) (l : List Int) (text : ByteArray) (x y : Int) (w : World) (hr : Kd.C (Kd.int .u8) w A l.length l) (hc : l.length ≤ c) (hl : ∀ x ∈ l, 0 ≤ x ∧ x < 256) (hs : text.size ≤ 140737488351232) (hx0 : 0 ≤ x) (hx : x < 256) (hy0 : 0 ≤ y) (hy : y < 256) :
    Calls Tryd.prog 5 #[.slice A l.length c, .string text, .int .u8 x, .int .u8 y] w fun e w' => e = .returned (.bool true) ∧ Below w.heap.size w w' := by
  by_cases h1 : l.length ≤ 60
  · by_cases h2 : text.size ≤ 200
    · by_cases h3 : y < 1
      · exact entries_f A c l text x y w hr hc hl hs hx0 hx hy0 hy h1 h2 h3 (Or.inl h3)
      · by_cases h4 : 3 < y
        · exact entries_t A c l text x y w hr hc hl hs hx0 hx hy0 hy h1 h2 h4 (Or.inr h4)
        · exact entries_skip A c l.length text x y w (Or.inr (Or.inr ⟨h1, h2, by omega, by omega⟩))
    · exact entries_skip A c l.length text x y w (Or.inr (Or.inl ⟨h1, by omega⟩))
  · exact entries_skip A c l.length text x y w (Or.inl (by omega))
end Go.Proofs.YtgiobiljneijiaaDoor.G
