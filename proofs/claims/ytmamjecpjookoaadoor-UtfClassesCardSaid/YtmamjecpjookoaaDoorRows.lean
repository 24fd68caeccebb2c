/-
  NARROWER THAN 'FOR EVERY INPUT', by the rows' own cells (each row's printed sentence says how): UtfChecks: laid · UtfNext: laid · UtfGoes: laid · UtfJoins: laid · UtfLong: laid · UtfFolds: laid · UtfClasses: laid.
  DERIVED. THE GIVEN ROWS OF THIS SEAT. 7 by the template 'for every input the law returns true; each argument reads behind the call as it read before'; 0 by the template 'total and deterministic' (their statements: YtmamjecpjookoaaDoorTotals.lean).
  GIVEN WITH THE SEED: the statements are not yours to turn. If you find one false, say at which input.
  Laid BY PROGRAM, IN A SANDBOX (cutbox-rows.mjs): the forced cells as the released guide's own fill.sh prints them over the translation d035c0589ff70104… (all of the seat's roots in one cut). By AI agents, Wed Nov 11 2026. No macro, syntax, notation, axiom, sorry.
-/
import Derived.Test.YtmamjecpjookoaaDoorChecked
import GoSem.PinnedTables
import GoSem.Claim
import GoSem.ClaimJoined
import GoSem.ClaimMapViews
import Derived.JoinedTies
import Derived.KernelRfl
namespace Go.Proofs.YtmamjecpjookoaaDoor
/- THE CELL 'sum', in the pinned program and in every row, IS THE sha256 OF THE DUMP (.gsa) THAT YtmamjecpjookoaaDoorProg.lean LOADS. Nothing in Lean hashes anything: it is a label: what it is worth is what the hold of that sum in a sandbox is worth. -/
noncomputable def Tryd.pinned : Pinned := { name := "ytmamjecpjookoaadoor", sum := "d035c0589ff70104932623ede21f34aee9bf1753b59a066a68ffcd7a1a00668f", checked := Tryd.checked }
namespace Rows
def none {H : Type} : Left H := { results := [], args := [] }

/- WHAT THE LISTED PACKAGE-LEVEL VARIABLES READ AS WHEN THE CALL BEGINS. Each datum BY PROGRAM (the guide's laid-datum.mjs) off the statement by which the dump's own 'gosem.cut.vars' lays the variable. In a bare row this is a premise. The card (YtmamjecpjookoaaDoorCards.lean) ties it to the program's text. -/
def laid_unicode_utf8_acceptRanges {H : Type} : DataW H := .agg [.agg [.lit (.int .u8 128), .lit (.int .u8 191)], .agg [.lit (.int .u8 160), .lit (.int .u8 191)], .agg [.lit (.int .u8 128), .lit (.int .u8 159)], .agg [.lit (.int .u8 144), .lit (.int .u8 191)], .agg [.lit (.int .u8 128), .lit (.int .u8 143)], .agg [.lit (.int .u8 0), .lit (.int .u8 0)], .agg [.lit (.int .u8 0), .lit (.int .u8 0)], .agg [.lit (.int .u8 0), .lit (.int .u8 0)], .agg [.lit (.int .u8 0), .lit (.int .u8 0)], .agg [.lit (.int .u8 0), .lit (.int .u8 0)], .agg [.lit (.int .u8 0), .lit (.int .u8 0)], .agg [.lit (.int .u8 0), .lit (.int .u8 0)], .agg [.lit (.int .u8 0), .lit (.int .u8 0)], .agg [.lit (.int .u8 0), .lit (.int .u8 0)], .agg [.lit (.int .u8 0), .lit (.int .u8 0)], .agg [.lit (.int .u8 0), .lit (.int .u8 0)]]
/-- One of Go's own tables, pinned by name: the form's constant. -/
def laid_unicode_utf8_first : DataW Unit := Go.Pinned.utf8First

/-- 'emendationlaw01.UtfChecks': WHATEVER THE INPUT: true; the input reads as it did. -/
def utfChecksSpec : ChangeSpec := { name := "utfChecks", fn := fun _ => fun
  | [d] => { results := [.lit (.bool true)], args := [d] }
  | _ => none }
def utfChecksRow : OpenClaim := { program := "ytmamjecpjookoaadoor", sum := "d035c0589ff70104932623ede21f34aee9bf1753b59a066a68ffcd7a1a00668f", func := "emendation/emendationlaw01.UtfChecks", spec := "utfChecks", inPlace := ["internal/bytealg.IndexByte"], named := ["unicode/utf8.first", "unicode/utf8.acceptRanges"], apart := false, laid := [("unicode/utf8.acceptRanges", laid_unicode_utf8_acceptRanges), ("unicode/utf8.first", laid_unicode_utf8_first)] }
def UtfChecksSaid : Prop := utfChecksRow.holds Tryd.pinned (OpenSpec.ofChange utfChecksSpec)

/-- ITS FALSE NEIGHBOUR: 'it returns false'. Refute it at one input. -/
def utfChecksWrong : ChangeSpec := { name := "utfChecks", fn := fun _ => fun
  | [d] => { results := [.lit (.bool false)], args := [d] }
  | _ => none }
def UtfChecksWrongFalsely : Prop := utfChecksRow.holds Tryd.pinned (OpenSpec.ofChange utfChecksWrong)

/-- 'emendationlaw01.UtfNext': WHATEVER THE INPUT: true; the input reads as it did. -/
def utfNextSpec : ChangeSpec := { name := "utfNext", fn := fun _ => fun
  | [d1, d2] => { results := [.lit (.bool true)], args := [d1, d2] }
  | _ => none }
def utfNextRow : OpenClaim := { program := "ytmamjecpjookoaadoor", sum := "d035c0589ff70104932623ede21f34aee9bf1753b59a066a68ffcd7a1a00668f", func := "emendation/emendationlaw01.UtfNext", spec := "utfNext", inPlace := ["internal/bytealg.IndexByte"], named := ["unicode/utf8.first", "unicode/utf8.acceptRanges"], apart := false, laid := [("unicode/utf8.acceptRanges", laid_unicode_utf8_acceptRanges), ("unicode/utf8.first", laid_unicode_utf8_first)] }
def UtfNextSaid : Prop := utfNextRow.holds Tryd.pinned (OpenSpec.ofChange utfNextSpec)

/-- ITS FALSE NEIGHBOUR: 'it returns false'. Refute it at one input. -/
def utfNextWrong : ChangeSpec := { name := "utfNext", fn := fun _ => fun
  | [d1, d2] => { results := [.lit (.bool false)], args := [d1, d2] }
  | _ => none }
def UtfNextWrongFalsely : Prop := utfNextRow.holds Tryd.pinned (OpenSpec.ofChange utfNextWrong)

/-- 'emendationlaw01.UtfGoes': WHATEVER THE INPUT: true; the input reads as it did. -/
def utfGoesSpec : ChangeSpec := { name := "utfGoes", fn := fun _ => fun
  | [d] => { results := [.lit (.bool true)], args := [d] }
  | _ => none }
def utfGoesRow : OpenClaim := { program := "ytmamjecpjookoaadoor", sum := "d035c0589ff70104932623ede21f34aee9bf1753b59a066a68ffcd7a1a00668f", func := "emendation/emendationlaw01.UtfGoes", spec := "utfGoes", inPlace := ["internal/bytealg.IndexByte"], named := ["unicode/utf8.first", "unicode/utf8.acceptRanges"], apart := false, laid := [("unicode/utf8.acceptRanges", laid_unicode_utf8_acceptRanges), ("unicode/utf8.first", laid_unicode_utf8_first)] }
def UtfGoesSaid : Prop := utfGoesRow.holds Tryd.pinned (OpenSpec.ofChange utfGoesSpec)

/-- ITS FALSE NEIGHBOUR: 'it returns false'. Refute it at one input. -/
def utfGoesWrong : ChangeSpec := { name := "utfGoes", fn := fun _ => fun
  | [d] => { results := [.lit (.bool false)], args := [d] }
  | _ => none }
def UtfGoesWrongFalsely : Prop := utfGoesRow.holds Tryd.pinned (OpenSpec.ofChange utfGoesWrong)

/-- 'emendationlaw01.UtfJoins': WHATEVER THE INPUT: true; the input reads as it did. -/
def utfJoinsSpec : ChangeSpec := { name := "utfJoins", fn := fun _ => fun
  | [d1, d2, d3] => { results := [.lit (.bool true)], args := [d1, d2, d3] }
  | _ => none }
def utfJoinsRow : OpenClaim := { program := "ytmamjecpjookoaadoor", sum := "d035c0589ff70104932623ede21f34aee9bf1753b59a066a68ffcd7a1a00668f", func := "emendation/emendationlaw01.UtfJoins", spec := "utfJoins", inPlace := ["internal/bytealg.IndexByte"], named := ["unicode/utf8.first", "unicode/utf8.acceptRanges"], apart := false, laid := [("unicode/utf8.acceptRanges", laid_unicode_utf8_acceptRanges), ("unicode/utf8.first", laid_unicode_utf8_first)] }
def UtfJoinsSaid : Prop := utfJoinsRow.holds Tryd.pinned (OpenSpec.ofChange utfJoinsSpec)

/-- ITS FALSE NEIGHBOUR: 'it returns false'. Refute it at one input. -/
def utfJoinsWrong : ChangeSpec := { name := "utfJoins", fn := fun _ => fun
  | [d1, d2, d3] => { results := [.lit (.bool false)], args := [d1, d2, d3] }
  | _ => none }
def UtfJoinsWrongFalsely : Prop := utfJoinsRow.holds Tryd.pinned (OpenSpec.ofChange utfJoinsWrong)

/-- 'emendationlaw01.UtfLong': WHATEVER THE INPUT: true; the input reads as it did. -/
def utfLongSpec : ChangeSpec := { name := "utfLong", fn := fun _ => fun
  | [d1, d2] => { results := [.lit (.bool true)], args := [d1, d2] }
  | _ => none }
def utfLongRow : OpenClaim := { program := "ytmamjecpjookoaadoor", sum := "d035c0589ff70104932623ede21f34aee9bf1753b59a066a68ffcd7a1a00668f", func := "emendation/emendationlaw01.UtfLong", spec := "utfLong", inPlace := ["internal/bytealg.IndexByte"], named := ["unicode/utf8.first", "unicode/utf8.acceptRanges"], apart := false, laid := [("unicode/utf8.acceptRanges", laid_unicode_utf8_acceptRanges), ("unicode/utf8.first", laid_unicode_utf8_first)] }
def UtfLongSaid : Prop := utfLongRow.holds Tryd.pinned (OpenSpec.ofChange utfLongSpec)

/-- ITS FALSE NEIGHBOUR: 'it returns false'. Refute it at one input. -/
def utfLongWrong : ChangeSpec := { name := "utfLong", fn := fun _ => fun
  | [d1, d2] => { results := [.lit (.bool false)], args := [d1, d2] }
  | _ => none }
def UtfLongWrongFalsely : Prop := utfLongRow.holds Tryd.pinned (OpenSpec.ofChange utfLongWrong)

/-- 'emendationlaw01.UtfFolds': WHATEVER THE INPUT: true; the input reads as it did. -/
def utfFoldsSpec : ChangeSpec := { name := "utfFolds", fn := fun _ => fun
  | [d1, d2] => { results := [.lit (.bool true)], args := [d1, d2] }
  | _ => none }
def utfFoldsRow : OpenClaim := { program := "ytmamjecpjookoaadoor", sum := "d035c0589ff70104932623ede21f34aee9bf1753b59a066a68ffcd7a1a00668f", func := "emendation/emendationlaw01.UtfFolds", spec := "utfFolds", inPlace := ["internal/bytealg.IndexByte", "internal/bytealg.IndexByteString", "internal/bytealg.IndexString"], named := ["unicode/utf8.first", "unicode/utf8.acceptRanges", "internal/bytealg.MaxLen"], apart := false, laid := [("unicode/utf8.acceptRanges", laid_unicode_utf8_acceptRanges), ("unicode/utf8.first", laid_unicode_utf8_first)] }
def UtfFoldsSaid : Prop := utfFoldsRow.holds Tryd.pinned (OpenSpec.ofChange utfFoldsSpec)

/-- ITS FALSE NEIGHBOUR: 'it returns false'. Refute it at one input. -/
def utfFoldsWrong : ChangeSpec := { name := "utfFolds", fn := fun _ => fun
  | [d1, d2] => { results := [.lit (.bool false)], args := [d1, d2] }
  | _ => none }
def UtfFoldsWrongFalsely : Prop := utfFoldsRow.holds Tryd.pinned (OpenSpec.ofChange utfFoldsWrong)

/-- 'emendationlaw01.UtfClasses': WHATEVER THE INPUT: true; the input reads as it did. -/
def utfClassesSpec : ChangeSpec := { name := "utfClasses", fn := fun _ => fun
  | [d1, d2, d3] => { results := [.lit (.bool true)], args := [d1, d2, d3] }
  | _ => none }
def utfClassesRow : OpenClaim := { program := "ytmamjecpjookoaadoor", sum := "d035c0589ff70104932623ede21f34aee9bf1753b59a066a68ffcd7a1a00668f", func := "emendation/emendationlaw01.UtfClasses", spec := "utfClasses", inPlace := ["internal/bytealg.IndexByte", "internal/bytealg.IndexByteString", "internal/bytealg.IndexString"], named := ["unicode/utf8.first", "unicode/utf8.acceptRanges", "internal/bytealg.MaxLen"], apart := false, laid := [("unicode/utf8.acceptRanges", laid_unicode_utf8_acceptRanges), ("unicode/utf8.first", laid_unicode_utf8_first)] }
def UtfClassesSaid : Prop := utfClassesRow.holds Tryd.pinned (OpenSpec.ofChange utfClassesSpec)

/-- ITS FALSE NEIGHBOUR: 'it returns false'. Refute it at one input. -/
def utfClassesWrong : ChangeSpec := { name := "utfClasses", fn := fun _ => fun
  | [d1, d2, d3] => { results := [.lit (.bool false)], args := [d1, d2, d3] }
  | _ => none }
def UtfClassesWrongFalsely : Prop := utfClassesRow.holds Tryd.pinned (OpenSpec.ofChange utfClassesWrong)

/- THE SECOND FORM. 'bulk': how many values and letters a reading holds, each counted each time it is reached (what is shared counts as often as it is met; a slice's spare places count too). A statement '..UptoSaid' is the law's where the arguments, and the package variables that the reading takes, are together of bulk at most 1048576: NARROWER than '..Said'. Prove '..Said' where nothing that the law and all that it calls make is longer than what came in: it says more and counts as full. Else prove '..UptoSaid'. A law counts once. -/
mutual
def uptoBulk {H : Type} : DataW H → Nat
  | .lit (.string bytes) => bytes.length + 1
  | .lit _ => 1
  | .nil => 1
  | .ptr d => uptoBulk d + 1
  | .slice elems spare => uptoBulkAll elems + uptoBulkAll spare + 1
  | .agg parts => uptoBulkAll parts + 1
  | .iface _ d => uptoBulk d + 1
  | .map entries => uptoBulkEntries entries + 1
  | .held _ => 1
def uptoBulkAll {H : Type} : List (DataW H) → Nat
  | [] => 0
  | d :: r => uptoBulk d + uptoBulkAll r
def uptoBulkEntries {H : Type} : List (Lit × DataW H) → Nat
  | [] => 0
  | x :: r => uptoBulkEntry x + uptoBulkEntries r
def uptoBulkEntry {H : Type} : Lit × DataW H → Nat
  | (.string bytes, d) => bytes.length + uptoBulk d + 1
  | (_, d) => uptoBulk d + 1
 end
def uptoSmall : (H : Type) → List (DataW H) → Bool := fun _ ds => decide (uptoBulkAll ds ≤ 1048576)
def OpenSpec.upto (s : _root_.Go.ChangeSpec) : _root_.Go.OpenSpec := { _root_.Go.OpenSpec.ofChange s with cond := some uptoSmall }

/-- 'emendationlaw01.UtfChecks', WHERE WHAT IT READS IS OF BULK AT MOST 1048576: true; the input reads as it did. -/
def utfChecksUptoRow : OpenClaim := { program := "ytmamjecpjookoaadoor", sum := "d035c0589ff70104932623ede21f34aee9bf1753b59a066a68ffcd7a1a00668f", func := "emendation/emendationlaw01.UtfChecks", spec := "utfChecks", inPlace := ["internal/bytealg.IndexByte"], named := ["unicode/utf8.first", "unicode/utf8.acceptRanges"], apart := false, laid := [("unicode/utf8.acceptRanges", laid_unicode_utf8_acceptRanges), ("unicode/utf8.first", laid_unicode_utf8_first)], narrowed := true }
def UtfChecksUptoSaid : Prop := utfChecksUptoRow.holds Tryd.pinned (OpenSpec.upto utfChecksSpec)

/-- 'emendationlaw01.UtfNext', WHERE WHAT IT READS IS OF BULK AT MOST 1048576: true; the input reads as it did. -/
def utfNextUptoRow : OpenClaim := { program := "ytmamjecpjookoaadoor", sum := "d035c0589ff70104932623ede21f34aee9bf1753b59a066a68ffcd7a1a00668f", func := "emendation/emendationlaw01.UtfNext", spec := "utfNext", inPlace := ["internal/bytealg.IndexByte"], named := ["unicode/utf8.first", "unicode/utf8.acceptRanges"], apart := false, laid := [("unicode/utf8.acceptRanges", laid_unicode_utf8_acceptRanges), ("unicode/utf8.first", laid_unicode_utf8_first)], narrowed := true }
def UtfNextUptoSaid : Prop := utfNextUptoRow.holds Tryd.pinned (OpenSpec.upto utfNextSpec)

/-- 'emendationlaw01.UtfGoes', WHERE WHAT IT READS IS OF BULK AT MOST 1048576: true; the input reads as it did. -/
def utfGoesUptoRow : OpenClaim := { program := "ytmamjecpjookoaadoor", sum := "d035c0589ff70104932623ede21f34aee9bf1753b59a066a68ffcd7a1a00668f", func := "emendation/emendationlaw01.UtfGoes", spec := "utfGoes", inPlace := ["internal/bytealg.IndexByte"], named := ["unicode/utf8.first", "unicode/utf8.acceptRanges"], apart := false, laid := [("unicode/utf8.acceptRanges", laid_unicode_utf8_acceptRanges), ("unicode/utf8.first", laid_unicode_utf8_first)], narrowed := true }
def UtfGoesUptoSaid : Prop := utfGoesUptoRow.holds Tryd.pinned (OpenSpec.upto utfGoesSpec)

/-- 'emendationlaw01.UtfJoins', WHERE WHAT IT READS IS OF BULK AT MOST 1048576: true; the input reads as it did. -/
def utfJoinsUptoRow : OpenClaim := { program := "ytmamjecpjookoaadoor", sum := "d035c0589ff70104932623ede21f34aee9bf1753b59a066a68ffcd7a1a00668f", func := "emendation/emendationlaw01.UtfJoins", spec := "utfJoins", inPlace := ["internal/bytealg.IndexByte"], named := ["unicode/utf8.first", "unicode/utf8.acceptRanges"], apart := false, laid := [("unicode/utf8.acceptRanges", laid_unicode_utf8_acceptRanges), ("unicode/utf8.first", laid_unicode_utf8_first)], narrowed := true }
def UtfJoinsUptoSaid : Prop := utfJoinsUptoRow.holds Tryd.pinned (OpenSpec.upto utfJoinsSpec)

/-- 'emendationlaw01.UtfLong', WHERE WHAT IT READS IS OF BULK AT MOST 1048576: true; the input reads as it did. -/
def utfLongUptoRow : OpenClaim := { program := "ytmamjecpjookoaadoor", sum := "d035c0589ff70104932623ede21f34aee9bf1753b59a066a68ffcd7a1a00668f", func := "emendation/emendationlaw01.UtfLong", spec := "utfLong", inPlace := ["internal/bytealg.IndexByte"], named := ["unicode/utf8.first", "unicode/utf8.acceptRanges"], apart := false, laid := [("unicode/utf8.acceptRanges", laid_unicode_utf8_acceptRanges), ("unicode/utf8.first", laid_unicode_utf8_first)], narrowed := true }
def UtfLongUptoSaid : Prop := utfLongUptoRow.holds Tryd.pinned (OpenSpec.upto utfLongSpec)

/-- 'emendationlaw01.UtfFolds', WHERE WHAT IT READS IS OF BULK AT MOST 1048576: true; the input reads as it did. -/
def utfFoldsUptoRow : OpenClaim := { program := "ytmamjecpjookoaadoor", sum := "d035c0589ff70104932623ede21f34aee9bf1753b59a066a68ffcd7a1a00668f", func := "emendation/emendationlaw01.UtfFolds", spec := "utfFolds", inPlace := ["internal/bytealg.IndexByte", "internal/bytealg.IndexByteString", "internal/bytealg.IndexString"], named := ["unicode/utf8.first", "unicode/utf8.acceptRanges", "internal/bytealg.MaxLen"], apart := false, laid := [("unicode/utf8.acceptRanges", laid_unicode_utf8_acceptRanges), ("unicode/utf8.first", laid_unicode_utf8_first)], narrowed := true }
def UtfFoldsUptoSaid : Prop := utfFoldsUptoRow.holds Tryd.pinned (OpenSpec.upto utfFoldsSpec)

/-- 'emendationlaw01.UtfClasses', WHERE WHAT IT READS IS OF BULK AT MOST 1048576: true; the input reads as it did. -/
def utfClassesUptoRow : OpenClaim := { program := "ytmamjecpjookoaadoor", sum := "d035c0589ff70104932623ede21f34aee9bf1753b59a066a68ffcd7a1a00668f", func := "emendation/emendationlaw01.UtfClasses", spec := "utfClasses", inPlace := ["internal/bytealg.IndexByte", "internal/bytealg.IndexByteString", "internal/bytealg.IndexString"], named := ["unicode/utf8.first", "unicode/utf8.acceptRanges", "internal/bytealg.MaxLen"], apart := false, laid := [("unicode/utf8.acceptRanges", laid_unicode_utf8_acceptRanges), ("unicode/utf8.first", laid_unicode_utf8_first)], narrowed := true }
def UtfClassesUptoSaid : Prop := utfClassesUptoRow.holds Tryd.pinned (OpenSpec.upto utfClassesSpec)

end Rows
end Go.Proofs.YtmamjecpjookoaaDoor
