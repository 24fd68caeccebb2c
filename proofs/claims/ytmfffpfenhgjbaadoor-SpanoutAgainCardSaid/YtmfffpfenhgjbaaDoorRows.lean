/-
  NARROWER THAN 'FOR EVERY INPUT', by the rows' own cells (each row's printed sentence says how): SpanParts: loops, laid · SpaninReads: laid · SpaninPlain: laid · SpaninShort: laid · SpaninLinks: laid · SpaninCodes: laid · SpaninNormal: laid · SpanoutAgain: laid · SpanoutWrites: loops, laid · SpanoutUnlike: loops, laid · SpanoutJoins: loops, laid · SpanoutEscapes: laid · SpanoutKinds: laid.
  DERIVED. THE GIVEN ROWS OF THIS SEAT. 13 by the template 'for every input the law returns true; each argument reads behind the call as it read before'; 0 by the template 'total and deterministic' (their statements: YtmfffpfenhgjbaaDoorTotals.lean).
  GIVEN WITH THE SEED: the statements are not yours to turn. If you find one false, say at which input.
  Laid BY PROGRAM, IN A SANDBOX (cutbox-rows.mjs): the forced cells as the released guide's own fill.sh prints them over the translation 789f626b348a20c3… (all of the seat's roots in one cut). By AI agents, Wed Nov 11 2026. No macro, syntax, notation, axiom, sorry.
-/
import Derived.Test.YtmfffpfenhgjbaaDoorChecked
import GoSem.PinnedTables
import GoSem.Claim
import GoSem.ClaimJoined
import GoSem.ClaimMapViews
import Derived.JoinedTies
import Derived.KernelRfl
namespace Go.Proofs.YtmfffpfenhgjbaaDoor
/- THE CELL 'sum', in the pinned program and in every row, IS THE sha256 OF THE DUMP (.gsa) THAT YtmfffpfenhgjbaaDoorProg.lean LOADS. Nothing in Lean hashes anything: it is a label: what it is worth is what the hold of that sum in a sandbox is worth. -/
noncomputable def Tryd.pinned : Pinned := { name := "ytmfffpfenhgjbaadoor", sum := "789f626b348a20c3c40d111095b21166565258ccaa57acd78080d27524d2bf2f", checked := Tryd.checked }
namespace Rows
def none {H : Type} : Left H := { results := [], args := [] }

/- WHAT THE LISTED PACKAGE-LEVEL VARIABLES READ AS WHEN THE CALL BEGINS. Each datum BY PROGRAM (the guide's laid-datum.mjs) off the statement by which the dump's own 'gosem.cut.vars' lays the variable. In a bare row this is a premise. The card (YtmfffpfenhgjbaaDoorCards.lean) ties it to the program's text. -/
def laid_unicode_utf8_acceptRanges {H : Type} : DataW H := .agg [.agg [.lit (.int .u8 128), .lit (.int .u8 191)], .agg [.lit (.int .u8 160), .lit (.int .u8 191)], .agg [.lit (.int .u8 128), .lit (.int .u8 159)], .agg [.lit (.int .u8 144), .lit (.int .u8 191)], .agg [.lit (.int .u8 128), .lit (.int .u8 143)], .agg [.lit (.int .u8 0), .lit (.int .u8 0)], .agg [.lit (.int .u8 0), .lit (.int .u8 0)], .agg [.lit (.int .u8 0), .lit (.int .u8 0)], .agg [.lit (.int .u8 0), .lit (.int .u8 0)], .agg [.lit (.int .u8 0), .lit (.int .u8 0)], .agg [.lit (.int .u8 0), .lit (.int .u8 0)], .agg [.lit (.int .u8 0), .lit (.int .u8 0)], .agg [.lit (.int .u8 0), .lit (.int .u8 0)], .agg [.lit (.int .u8 0), .lit (.int .u8 0)], .agg [.lit (.int .u8 0), .lit (.int .u8 0)], .agg [.lit (.int .u8 0), .lit (.int .u8 0)]]
/-- One of Go's own tables, pinned by name: the form's constant. -/
def laid_unicode_utf8_first : DataW Unit := Go.Pinned.utf8First

/-- 'emendationlaw07.SpanParts': WHATEVER THE INPUT: true; the input reads as it did. -/
def spanPartsSpec : ChangeSpec := { name := "spanParts", fn := fun _ => fun
  | [d1, d2, d3] => { results := [.lit (.bool true)], args := [d1, d2, d3] }
  | _ => none }
def spanPartsRow : OpenClaim := { program := "ytmfffpfenhgjbaadoor", sum := "789f626b348a20c3c40d111095b21166565258ccaa57acd78080d27524d2bf2f", func := "emendation/emendationlaw07.SpanParts", spec := "spanParts", inPlace := ["internal/bytealg.IndexByte", "internal/bytealg.IndexByteString", "internal/bytealg.IndexString", "internal/abi.NoEscape", "internal/bytealg.CountString"], unfollowed := true, recurses := true, named := ["unicode/utf8.first", "unicode/utf8.acceptRanges", "internal/bytealg.MaxLen"], loops := true, apart := false, laid := [("unicode/utf8.acceptRanges", laid_unicode_utf8_acceptRanges), ("unicode/utf8.first", laid_unicode_utf8_first)] }
def SpanPartsSaid : Prop := spanPartsRow.holds Tryd.pinned (OpenSpec.ofChange spanPartsSpec)

/-- ITS FALSE NEIGHBOUR: 'it returns false'. Refute it at one input. -/
def spanPartsWrong : ChangeSpec := { name := "spanParts", fn := fun _ => fun
  | [d1, d2, d3] => { results := [.lit (.bool false)], args := [d1, d2, d3] }
  | _ => none }
def SpanPartsWrongFalsely : Prop := spanPartsRow.holds Tryd.pinned (OpenSpec.ofChange spanPartsWrong)

/-- 'emendationlaw08.SpaninReads': WHATEVER THE INPUT: true; the input reads as it did. -/
def spaninReadsSpec : ChangeSpec := { name := "spaninReads", fn := fun _ => fun
  | [d1, d2] => { results := [.lit (.bool true)], args := [d1, d2] }
  | _ => none }
def spaninReadsRow : OpenClaim := { program := "ytmfffpfenhgjbaadoor", sum := "789f626b348a20c3c40d111095b21166565258ccaa57acd78080d27524d2bf2f", func := "emendation/emendationlaw08.SpaninReads", spec := "spaninReads", inPlace := ["internal/bytealg.IndexByteString", "internal/bytealg.IndexString", "internal/bytealg.IndexByte", "internal/bytealg.CountString"], unfollowed := true, recurses := true, named := ["unicode/utf8.first", "unicode/utf8.acceptRanges", "internal/bytealg.MaxLen"], apart := false, laid := [("unicode/utf8.acceptRanges", laid_unicode_utf8_acceptRanges), ("unicode/utf8.first", laid_unicode_utf8_first)] }
def SpaninReadsSaid : Prop := spaninReadsRow.holds Tryd.pinned (OpenSpec.ofChange spaninReadsSpec)

/-- ITS FALSE NEIGHBOUR: 'it returns false'. Refute it at one input. -/
def spaninReadsWrong : ChangeSpec := { name := "spaninReads", fn := fun _ => fun
  | [d1, d2] => { results := [.lit (.bool false)], args := [d1, d2] }
  | _ => none }
def SpaninReadsWrongFalsely : Prop := spaninReadsRow.holds Tryd.pinned (OpenSpec.ofChange spaninReadsWrong)

/-- 'emendationlaw08.SpaninPlain': WHATEVER THE INPUT: true; the input reads as it did. -/
def spaninPlainSpec : ChangeSpec := { name := "spaninPlain", fn := fun _ => fun
  | [d] => { results := [.lit (.bool true)], args := [d] }
  | _ => none }
def spaninPlainRow : OpenClaim := { program := "ytmfffpfenhgjbaadoor", sum := "789f626b348a20c3c40d111095b21166565258ccaa57acd78080d27524d2bf2f", func := "emendation/emendationlaw08.SpaninPlain", spec := "spaninPlain", inPlace := ["internal/bytealg.IndexByteString", "internal/bytealg.IndexString", "internal/bytealg.IndexByte", "internal/bytealg.CountString"], unfollowed := true, recurses := true, named := ["unicode/utf8.first", "unicode/utf8.acceptRanges", "internal/bytealg.MaxLen"], apart := false, laid := [("unicode/utf8.acceptRanges", laid_unicode_utf8_acceptRanges), ("unicode/utf8.first", laid_unicode_utf8_first)] }
def SpaninPlainSaid : Prop := spaninPlainRow.holds Tryd.pinned (OpenSpec.ofChange spaninPlainSpec)

/-- ITS FALSE NEIGHBOUR: 'it returns false'. Refute it at one input. -/
def spaninPlainWrong : ChangeSpec := { name := "spaninPlain", fn := fun _ => fun
  | [d] => { results := [.lit (.bool false)], args := [d] }
  | _ => none }
def SpaninPlainWrongFalsely : Prop := spaninPlainRow.holds Tryd.pinned (OpenSpec.ofChange spaninPlainWrong)

/-- 'emendationlaw08.SpaninShort': WHATEVER THE INPUT: true; the input reads as it did. -/
def spaninShortSpec : ChangeSpec := { name := "spaninShort", fn := fun _ => fun
  | [d] => { results := [.lit (.bool true)], args := [d] }
  | _ => none }
def spaninShortRow : OpenClaim := { program := "ytmfffpfenhgjbaadoor", sum := "789f626b348a20c3c40d111095b21166565258ccaa57acd78080d27524d2bf2f", func := "emendation/emendationlaw08.SpaninShort", spec := "spaninShort", inPlace := ["internal/bytealg.IndexByteString", "internal/bytealg.IndexString", "internal/bytealg.IndexByte", "internal/bytealg.CountString"], unfollowed := true, recurses := true, named := ["unicode/utf8.first", "unicode/utf8.acceptRanges", "internal/bytealg.MaxLen"], apart := false, laid := [("unicode/utf8.acceptRanges", laid_unicode_utf8_acceptRanges), ("unicode/utf8.first", laid_unicode_utf8_first)] }
def SpaninShortSaid : Prop := spaninShortRow.holds Tryd.pinned (OpenSpec.ofChange spaninShortSpec)

/-- ITS FALSE NEIGHBOUR: 'it returns false'. Refute it at one input. -/
def spaninShortWrong : ChangeSpec := { name := "spaninShort", fn := fun _ => fun
  | [d] => { results := [.lit (.bool false)], args := [d] }
  | _ => none }
def SpaninShortWrongFalsely : Prop := spaninShortRow.holds Tryd.pinned (OpenSpec.ofChange spaninShortWrong)

/-- 'emendationlaw08.SpaninLinks': WHATEVER THE INPUT: true; the input reads as it did. -/
def spaninLinksSpec : ChangeSpec := { name := "spaninLinks", fn := fun _ => fun
  | [d1, d2] => { results := [.lit (.bool true)], args := [d1, d2] }
  | _ => none }
def spaninLinksRow : OpenClaim := { program := "ytmfffpfenhgjbaadoor", sum := "789f626b348a20c3c40d111095b21166565258ccaa57acd78080d27524d2bf2f", func := "emendation/emendationlaw08.SpaninLinks", spec := "spaninLinks", inPlace := ["internal/bytealg.IndexByteString", "internal/bytealg.IndexString", "internal/bytealg.IndexByte", "internal/bytealg.CountString"], unfollowed := true, recurses := true, named := ["unicode/utf8.first", "unicode/utf8.acceptRanges", "internal/bytealg.MaxLen"], apart := false, laid := [("unicode/utf8.acceptRanges", laid_unicode_utf8_acceptRanges), ("unicode/utf8.first", laid_unicode_utf8_first)] }
def SpaninLinksSaid : Prop := spaninLinksRow.holds Tryd.pinned (OpenSpec.ofChange spaninLinksSpec)

/-- ITS FALSE NEIGHBOUR: 'it returns false'. Refute it at one input. -/
def spaninLinksWrong : ChangeSpec := { name := "spaninLinks", fn := fun _ => fun
  | [d1, d2] => { results := [.lit (.bool false)], args := [d1, d2] }
  | _ => none }
def SpaninLinksWrongFalsely : Prop := spaninLinksRow.holds Tryd.pinned (OpenSpec.ofChange spaninLinksWrong)

/-- 'emendationlaw08.SpaninCodes': WHATEVER THE INPUT: true; the input reads as it did. -/
def spaninCodesSpec : ChangeSpec := { name := "spaninCodes", fn := fun _ => fun
  | [d] => { results := [.lit (.bool true)], args := [d] }
  | _ => none }
def spaninCodesRow : OpenClaim := { program := "ytmfffpfenhgjbaadoor", sum := "789f626b348a20c3c40d111095b21166565258ccaa57acd78080d27524d2bf2f", func := "emendation/emendationlaw08.SpaninCodes", spec := "spaninCodes", inPlace := ["internal/bytealg.IndexByteString", "internal/bytealg.IndexString", "internal/bytealg.IndexByte", "internal/bytealg.CountString"], unfollowed := true, recurses := true, named := ["unicode/utf8.first", "unicode/utf8.acceptRanges", "internal/bytealg.MaxLen"], apart := false, laid := [("unicode/utf8.acceptRanges", laid_unicode_utf8_acceptRanges), ("unicode/utf8.first", laid_unicode_utf8_first)] }
def SpaninCodesSaid : Prop := spaninCodesRow.holds Tryd.pinned (OpenSpec.ofChange spaninCodesSpec)

/-- ITS FALSE NEIGHBOUR: 'it returns false'. Refute it at one input. -/
def spaninCodesWrong : ChangeSpec := { name := "spaninCodes", fn := fun _ => fun
  | [d] => { results := [.lit (.bool false)], args := [d] }
  | _ => none }
def SpaninCodesWrongFalsely : Prop := spaninCodesRow.holds Tryd.pinned (OpenSpec.ofChange spaninCodesWrong)

/-- 'emendationlaw08.SpaninNormal': WHATEVER THE INPUT: true; the input reads as it did. -/
def spaninNormalSpec : ChangeSpec := { name := "spaninNormal", fn := fun _ => fun
  | [d] => { results := [.lit (.bool true)], args := [d] }
  | _ => none }
def spaninNormalRow : OpenClaim := { program := "ytmfffpfenhgjbaadoor", sum := "789f626b348a20c3c40d111095b21166565258ccaa57acd78080d27524d2bf2f", func := "emendation/emendationlaw08.SpaninNormal", spec := "spaninNormal", inPlace := ["internal/bytealg.IndexByteString", "internal/bytealg.IndexString", "internal/bytealg.IndexByte", "internal/bytealg.CountString"], unfollowed := true, recurses := true, named := ["unicode/utf8.first", "unicode/utf8.acceptRanges", "internal/bytealg.MaxLen"], apart := false, laid := [("unicode/utf8.acceptRanges", laid_unicode_utf8_acceptRanges), ("unicode/utf8.first", laid_unicode_utf8_first)] }
def SpaninNormalSaid : Prop := spaninNormalRow.holds Tryd.pinned (OpenSpec.ofChange spaninNormalSpec)

/-- ITS FALSE NEIGHBOUR: 'it returns false'. Refute it at one input. -/
def spaninNormalWrong : ChangeSpec := { name := "spaninNormal", fn := fun _ => fun
  | [d] => { results := [.lit (.bool false)], args := [d] }
  | _ => none }
def SpaninNormalWrongFalsely : Prop := spaninNormalRow.holds Tryd.pinned (OpenSpec.ofChange spaninNormalWrong)

/-- 'emendationlaw09.SpanoutAgain': WHATEVER THE INPUT: true; the input reads as it did. -/
def spanoutAgainSpec : ChangeSpec := { name := "spanoutAgain", fn := fun _ => fun
  | [d] => { results := [.lit (.bool true)], args := [d] }
  | _ => none }
def spanoutAgainRow : OpenClaim := { program := "ytmfffpfenhgjbaadoor", sum := "789f626b348a20c3c40d111095b21166565258ccaa57acd78080d27524d2bf2f", func := "emendation/emendationlaw09.SpanoutAgain", spec := "spanoutAgain", inPlace := ["internal/bytealg.IndexByte", "internal/bytealg.IndexByteString", "internal/bytealg.IndexString", "internal/abi.NoEscape", "internal/bytealg.MakeNoZero", "internal/bytealg.CountString"], unfollowed := true, recurses := true, named := ["unicode/utf8.first", "unicode/utf8.acceptRanges", "internal/bytealg.MaxLen"], apart := false, laid := [("unicode/utf8.acceptRanges", laid_unicode_utf8_acceptRanges), ("unicode/utf8.first", laid_unicode_utf8_first)] }
def SpanoutAgainSaid : Prop := spanoutAgainRow.holds Tryd.pinned (OpenSpec.ofChange spanoutAgainSpec)

/-- ITS FALSE NEIGHBOUR: 'it returns false'. Refute it at one input. -/
def spanoutAgainWrong : ChangeSpec := { name := "spanoutAgain", fn := fun _ => fun
  | [d] => { results := [.lit (.bool false)], args := [d] }
  | _ => none }
def SpanoutAgainWrongFalsely : Prop := spanoutAgainRow.holds Tryd.pinned (OpenSpec.ofChange spanoutAgainWrong)

/-- 'emendationlaw09.SpanoutWrites': WHATEVER THE INPUT: true; the input reads as it did. -/
def spanoutWritesSpec : ChangeSpec := { name := "spanoutWrites", fn := fun _ => fun
  | [d1, d2] => { results := [.lit (.bool true)], args := [d1, d2] }
  | _ => none }
def spanoutWritesRow : OpenClaim := { program := "ytmfffpfenhgjbaadoor", sum := "789f626b348a20c3c40d111095b21166565258ccaa57acd78080d27524d2bf2f", func := "emendation/emendationlaw09.SpanoutWrites", spec := "spanoutWrites", inPlace := ["internal/bytealg.IndexByte", "internal/bytealg.IndexByteString", "internal/bytealg.IndexString", "internal/abi.NoEscape", "internal/bytealg.MakeNoZero"], unfollowed := true, recurses := true, named := ["unicode/utf8.first", "unicode/utf8.acceptRanges", "internal/bytealg.MaxLen"], loops := true, apart := false, laid := [("unicode/utf8.acceptRanges", laid_unicode_utf8_acceptRanges), ("unicode/utf8.first", laid_unicode_utf8_first)] }
def SpanoutWritesSaid : Prop := spanoutWritesRow.holds Tryd.pinned (OpenSpec.ofChange spanoutWritesSpec)

/-- ITS FALSE NEIGHBOUR: 'it returns false'. Refute it at one input. -/
def spanoutWritesWrong : ChangeSpec := { name := "spanoutWrites", fn := fun _ => fun
  | [d1, d2] => { results := [.lit (.bool false)], args := [d1, d2] }
  | _ => none }
def SpanoutWritesWrongFalsely : Prop := spanoutWritesRow.holds Tryd.pinned (OpenSpec.ofChange spanoutWritesWrong)

/-- 'emendationlaw09.SpanoutUnlike': WHATEVER THE INPUT: true; the input reads as it did. -/
def spanoutUnlikeSpec : ChangeSpec := { name := "spanoutUnlike", fn := fun _ => fun
  | [d1, d2] => { results := [.lit (.bool true)], args := [d1, d2] }
  | _ => none }
def spanoutUnlikeRow : OpenClaim := { program := "ytmfffpfenhgjbaadoor", sum := "789f626b348a20c3c40d111095b21166565258ccaa57acd78080d27524d2bf2f", func := "emendation/emendationlaw09.SpanoutUnlike", spec := "spanoutUnlike", inPlace := ["internal/bytealg.IndexByte", "internal/bytealg.IndexByteString", "internal/bytealg.IndexString", "internal/abi.NoEscape", "internal/bytealg.MakeNoZero"], unfollowed := true, recurses := true, named := ["unicode/utf8.first", "unicode/utf8.acceptRanges", "internal/bytealg.MaxLen"], loops := true, apart := false, laid := [("unicode/utf8.acceptRanges", laid_unicode_utf8_acceptRanges), ("unicode/utf8.first", laid_unicode_utf8_first)] }
def SpanoutUnlikeSaid : Prop := spanoutUnlikeRow.holds Tryd.pinned (OpenSpec.ofChange spanoutUnlikeSpec)

/-- ITS FALSE NEIGHBOUR: 'it returns false'. Refute it at one input. -/
def spanoutUnlikeWrong : ChangeSpec := { name := "spanoutUnlike", fn := fun _ => fun
  | [d1, d2] => { results := [.lit (.bool false)], args := [d1, d2] }
  | _ => none }
def SpanoutUnlikeWrongFalsely : Prop := spanoutUnlikeRow.holds Tryd.pinned (OpenSpec.ofChange spanoutUnlikeWrong)

/-- 'emendationlaw09.SpanoutJoins': WHATEVER THE INPUT: true; the input reads as it did. -/
def spanoutJoinsSpec : ChangeSpec := { name := "spanoutJoins", fn := fun _ => fun
  | [d1, d2] => { results := [.lit (.bool true)], args := [d1, d2] }
  | _ => none }
def spanoutJoinsRow : OpenClaim := { program := "ytmfffpfenhgjbaadoor", sum := "789f626b348a20c3c40d111095b21166565258ccaa57acd78080d27524d2bf2f", func := "emendation/emendationlaw09.SpanoutJoins", spec := "spanoutJoins", inPlace := ["internal/bytealg.IndexByte", "internal/bytealg.IndexByteString", "internal/bytealg.IndexString", "internal/abi.NoEscape", "internal/bytealg.MakeNoZero"], unfollowed := true, recurses := true, named := ["unicode/utf8.first", "unicode/utf8.acceptRanges", "internal/bytealg.MaxLen"], loops := true, apart := false, laid := [("unicode/utf8.acceptRanges", laid_unicode_utf8_acceptRanges), ("unicode/utf8.first", laid_unicode_utf8_first)] }
def SpanoutJoinsSaid : Prop := spanoutJoinsRow.holds Tryd.pinned (OpenSpec.ofChange spanoutJoinsSpec)

/-- ITS FALSE NEIGHBOUR: 'it returns false'. Refute it at one input. -/
def spanoutJoinsWrong : ChangeSpec := { name := "spanoutJoins", fn := fun _ => fun
  | [d1, d2] => { results := [.lit (.bool false)], args := [d1, d2] }
  | _ => none }
def SpanoutJoinsWrongFalsely : Prop := spanoutJoinsRow.holds Tryd.pinned (OpenSpec.ofChange spanoutJoinsWrong)

/-- 'emendationlaw09.SpanoutEscapes': WHATEVER THE INPUT: true; the input reads as it did. -/
def spanoutEscapesSpec : ChangeSpec := { name := "spanoutEscapes", fn := fun _ => fun
  | [d1, d2] => { results := [.lit (.bool true)], args := [d1, d2] }
  | _ => none }
def spanoutEscapesRow : OpenClaim := { program := "ytmfffpfenhgjbaadoor", sum := "789f626b348a20c3c40d111095b21166565258ccaa57acd78080d27524d2bf2f", func := "emendation/emendationlaw09.SpanoutEscapes", spec := "spanoutEscapes", inPlace := ["internal/bytealg.IndexByte", "internal/bytealg.IndexByteString", "internal/bytealg.IndexString", "internal/abi.NoEscape", "internal/bytealg.MakeNoZero"], unfollowed := true, recurses := true, named := ["unicode/utf8.first", "unicode/utf8.acceptRanges", "internal/bytealg.MaxLen"], apart := false, laid := [("unicode/utf8.acceptRanges", laid_unicode_utf8_acceptRanges), ("unicode/utf8.first", laid_unicode_utf8_first)] }
def SpanoutEscapesSaid : Prop := spanoutEscapesRow.holds Tryd.pinned (OpenSpec.ofChange spanoutEscapesSpec)

/-- ITS FALSE NEIGHBOUR: 'it returns false'. Refute it at one input. -/
def spanoutEscapesWrong : ChangeSpec := { name := "spanoutEscapes", fn := fun _ => fun
  | [d1, d2] => { results := [.lit (.bool false)], args := [d1, d2] }
  | _ => none }
def SpanoutEscapesWrongFalsely : Prop := spanoutEscapesRow.holds Tryd.pinned (OpenSpec.ofChange spanoutEscapesWrong)

/-- 'emendationlaw09.SpanoutKinds': WHATEVER THE INPUT: true; the input reads as it did. -/
def spanoutKindsSpec : ChangeSpec := { name := "spanoutKinds", fn := fun _ => fun
  | [d1, d2] => { results := [.lit (.bool true)], args := [d1, d2] }
  | _ => none }
def spanoutKindsRow : OpenClaim := { program := "ytmfffpfenhgjbaadoor", sum := "789f626b348a20c3c40d111095b21166565258ccaa57acd78080d27524d2bf2f", func := "emendation/emendationlaw09.SpanoutKinds", spec := "spanoutKinds", inPlace := ["internal/bytealg.IndexByte", "internal/bytealg.IndexByteString", "internal/bytealg.IndexString", "internal/abi.NoEscape", "internal/bytealg.MakeNoZero"], unfollowed := true, recurses := true, named := ["unicode/utf8.first", "unicode/utf8.acceptRanges", "internal/bytealg.MaxLen"], apart := false, laid := [("unicode/utf8.acceptRanges", laid_unicode_utf8_acceptRanges), ("unicode/utf8.first", laid_unicode_utf8_first)] }
def SpanoutKindsSaid : Prop := spanoutKindsRow.holds Tryd.pinned (OpenSpec.ofChange spanoutKindsSpec)

/-- ITS FALSE NEIGHBOUR: 'it returns false'. Refute it at one input. -/
def spanoutKindsWrong : ChangeSpec := { name := "spanoutKinds", fn := fun _ => fun
  | [d1, d2] => { results := [.lit (.bool false)], args := [d1, d2] }
  | _ => none }
def SpanoutKindsWrongFalsely : Prop := spanoutKindsRow.holds Tryd.pinned (OpenSpec.ofChange spanoutKindsWrong)

/- THE SECOND FORM. 'bulk': how many values and letters a reading holds, each counted each time it is reached (what is shared counts as often as it is met; a slice's spare places count too). A statement '..UptoSaid' is the law's where the arguments, and the package variables that the reading takes, are together of bulk at most 1048576: NARROWER than '..Said'. Prove '..Said' where nothing that the law and all that it calls make is longer than what came in: it says more and counts as full. Else prove '..UptoSaid'. A law counts once. -/
mutual
def uptoBulk {H : Type} : DataW H → Nat
  | .lit (.string bytes) => bytes.length + 1
  | .lit _ => 1
  | .nil => 1
  | .ptr d => uptoBulk d + 1
  | .slice elems spare => uptoBulkAll elems + uptoBulkAll spare + 1
  | .agg parts => uptoBulkAll parts + 1
  | .iface _ d => uptoBulk d + 1
  | .map entries => uptoBulkEntries entries + 1
  | .held _ => 1
def uptoBulkAll {H : Type} : List (DataW H) → Nat
  | [] => 0
  | d :: r => uptoBulk d + uptoBulkAll r
def uptoBulkEntries {H : Type} : List (Lit × DataW H) → Nat
  | [] => 0
  | x :: r => uptoBulkEntry x + uptoBulkEntries r
def uptoBulkEntry {H : Type} : Lit × DataW H → Nat
  | (.string bytes, d) => bytes.length + uptoBulk d + 1
  | (_, d) => uptoBulk d + 1
 end
def uptoSmall : (H : Type) → List (DataW H) → Bool := fun _ ds => decide (uptoBulkAll ds ≤ 1048576)
def OpenSpec.upto (s : _root_.Go.ChangeSpec) : _root_.Go.OpenSpec := { _root_.Go.OpenSpec.ofChange s with cond := some uptoSmall }

/-- 'emendationlaw07.SpanParts', WHERE WHAT IT READS IS OF BULK AT MOST 1048576: true; the input reads as it did. -/
def spanPartsUptoRow : OpenClaim := { program := "ytmfffpfenhgjbaadoor", sum := "789f626b348a20c3c40d111095b21166565258ccaa57acd78080d27524d2bf2f", func := "emendation/emendationlaw07.SpanParts", spec := "spanParts", inPlace := ["internal/bytealg.IndexByte", "internal/bytealg.IndexByteString", "internal/bytealg.IndexString", "internal/abi.NoEscape", "internal/bytealg.CountString"], unfollowed := true, recurses := true, named := ["unicode/utf8.first", "unicode/utf8.acceptRanges", "internal/bytealg.MaxLen"], loops := true, apart := false, laid := [("unicode/utf8.acceptRanges", laid_unicode_utf8_acceptRanges), ("unicode/utf8.first", laid_unicode_utf8_first)], narrowed := true }
def SpanPartsUptoSaid : Prop := spanPartsUptoRow.holds Tryd.pinned (OpenSpec.upto spanPartsSpec)

/-- 'emendationlaw08.SpaninReads', WHERE WHAT IT READS IS OF BULK AT MOST 1048576: true; the input reads as it did. -/
def spaninReadsUptoRow : OpenClaim := { program := "ytmfffpfenhgjbaadoor", sum := "789f626b348a20c3c40d111095b21166565258ccaa57acd78080d27524d2bf2f", func := "emendation/emendationlaw08.SpaninReads", spec := "spaninReads", inPlace := ["internal/bytealg.IndexByteString", "internal/bytealg.IndexString", "internal/bytealg.IndexByte", "internal/bytealg.CountString"], unfollowed := true, recurses := true, named := ["unicode/utf8.first", "unicode/utf8.acceptRanges", "internal/bytealg.MaxLen"], apart := false, laid := [("unicode/utf8.acceptRanges", laid_unicode_utf8_acceptRanges), ("unicode/utf8.first", laid_unicode_utf8_first)], narrowed := true }
def SpaninReadsUptoSaid : Prop := spaninReadsUptoRow.holds Tryd.pinned (OpenSpec.upto spaninReadsSpec)

/-- 'emendationlaw08.SpaninPlain', WHERE WHAT IT READS IS OF BULK AT MOST 1048576: true; the input reads as it did. -/
def spaninPlainUptoRow : OpenClaim := { program := "ytmfffpfenhgjbaadoor", sum := "789f626b348a20c3c40d111095b21166565258ccaa57acd78080d27524d2bf2f", func := "emendation/emendationlaw08.SpaninPlain", spec := "spaninPlain", inPlace := ["internal/bytealg.IndexByteString", "internal/bytealg.IndexString", "internal/bytealg.IndexByte", "internal/bytealg.CountString"], unfollowed := true, recurses := true, named := ["unicode/utf8.first", "unicode/utf8.acceptRanges", "internal/bytealg.MaxLen"], apart := false, laid := [("unicode/utf8.acceptRanges", laid_unicode_utf8_acceptRanges), ("unicode/utf8.first", laid_unicode_utf8_first)], narrowed := true }
def SpaninPlainUptoSaid : Prop := spaninPlainUptoRow.holds Tryd.pinned (OpenSpec.upto spaninPlainSpec)

/-- 'emendationlaw08.SpaninShort', WHERE WHAT IT READS IS OF BULK AT MOST 1048576: true; the input reads as it did. -/
def spaninShortUptoRow : OpenClaim := { program := "ytmfffpfenhgjbaadoor", sum := "789f626b348a20c3c40d111095b21166565258ccaa57acd78080d27524d2bf2f", func := "emendation/emendationlaw08.SpaninShort", spec := "spaninShort", inPlace := ["internal/bytealg.IndexByteString", "internal/bytealg.IndexString", "internal/bytealg.IndexByte", "internal/bytealg.CountString"], unfollowed := true, recurses := true, named := ["unicode/utf8.first", "unicode/utf8.acceptRanges", "internal/bytealg.MaxLen"], apart := false, laid := [("unicode/utf8.acceptRanges", laid_unicode_utf8_acceptRanges), ("unicode/utf8.first", laid_unicode_utf8_first)], narrowed := true }
def SpaninShortUptoSaid : Prop := spaninShortUptoRow.holds Tryd.pinned (OpenSpec.upto spaninShortSpec)

/-- 'emendationlaw08.SpaninLinks', WHERE WHAT IT READS IS OF BULK AT MOST 1048576: true; the input reads as it did. -/
def spaninLinksUptoRow : OpenClaim := { program := "ytmfffpfenhgjbaadoor", sum := "789f626b348a20c3c40d111095b21166565258ccaa57acd78080d27524d2bf2f", func := "emendation/emendationlaw08.SpaninLinks", spec := "spaninLinks", inPlace := ["internal/bytealg.IndexByteString", "internal/bytealg.IndexString", "internal/bytealg.IndexByte", "internal/bytealg.CountString"], unfollowed := true, recurses := true, named := ["unicode/utf8.first", "unicode/utf8.acceptRanges", "internal/bytealg.MaxLen"], apart := false, laid := [("unicode/utf8.acceptRanges", laid_unicode_utf8_acceptRanges), ("unicode/utf8.first", laid_unicode_utf8_first)], narrowed := true }
def SpaninLinksUptoSaid : Prop := spaninLinksUptoRow.holds Tryd.pinned (OpenSpec.upto spaninLinksSpec)

/-- 'emendationlaw08.SpaninCodes', WHERE WHAT IT READS IS OF BULK AT MOST 1048576: true; the input reads as it did. -/
def spaninCodesUptoRow : OpenClaim := { program := "ytmfffpfenhgjbaadoor", sum := "789f626b348a20c3c40d111095b21166565258ccaa57acd78080d27524d2bf2f", func := "emendation/emendationlaw08.SpaninCodes", spec := "spaninCodes", inPlace := ["internal/bytealg.IndexByteString", "internal/bytealg.IndexString", "internal/bytealg.IndexByte", "internal/bytealg.CountString"], unfollowed := true, recurses := true, named := ["unicode/utf8.first", "unicode/utf8.acceptRanges", "internal/bytealg.MaxLen"], apart := false, laid := [("unicode/utf8.acceptRanges", laid_unicode_utf8_acceptRanges), ("unicode/utf8.first", laid_unicode_utf8_first)], narrowed := true }
def SpaninCodesUptoSaid : Prop := spaninCodesUptoRow.holds Tryd.pinned (OpenSpec.upto spaninCodesSpec)

/-- 'emendationlaw08.SpaninNormal', WHERE WHAT IT READS IS OF BULK AT MOST 1048576: true; the input reads as it did. -/
def spaninNormalUptoRow : OpenClaim := { program := "ytmfffpfenhgjbaadoor", sum := "789f626b348a20c3c40d111095b21166565258ccaa57acd78080d27524d2bf2f", func := "emendation/emendationlaw08.SpaninNormal", spec := "spaninNormal", inPlace := ["internal/bytealg.IndexByteString", "internal/bytealg.IndexString", "internal/bytealg.IndexByte", "internal/bytealg.CountString"], unfollowed := true, recurses := true, named := ["unicode/utf8.first", "unicode/utf8.acceptRanges", "internal/bytealg.MaxLen"], apart := false, laid := [("unicode/utf8.acceptRanges", laid_unicode_utf8_acceptRanges), ("unicode/utf8.first", laid_unicode_utf8_first)], narrowed := true }
def SpaninNormalUptoSaid : Prop := spaninNormalUptoRow.holds Tryd.pinned (OpenSpec.upto spaninNormalSpec)

/-- 'emendationlaw09.SpanoutAgain', WHERE WHAT IT READS IS OF BULK AT MOST 1048576: true; the input reads as it did. -/
def spanoutAgainUptoRow : OpenClaim := { program := "ytmfffpfenhgjbaadoor", sum := "789f626b348a20c3c40d111095b21166565258ccaa57acd78080d27524d2bf2f", func := "emendation/emendationlaw09.SpanoutAgain", spec := "spanoutAgain", inPlace := ["internal/bytealg.IndexByte", "internal/bytealg.IndexByteString", "internal/bytealg.IndexString", "internal/abi.NoEscape", "internal/bytealg.MakeNoZero", "internal/bytealg.CountString"], unfollowed := true, recurses := true, named := ["unicode/utf8.first", "unicode/utf8.acceptRanges", "internal/bytealg.MaxLen"], apart := false, laid := [("unicode/utf8.acceptRanges", laid_unicode_utf8_acceptRanges), ("unicode/utf8.first", laid_unicode_utf8_first)], narrowed := true }
def SpanoutAgainUptoSaid : Prop := spanoutAgainUptoRow.holds Tryd.pinned (OpenSpec.upto spanoutAgainSpec)

/-- 'emendationlaw09.SpanoutWrites', WHERE WHAT IT READS IS OF BULK AT MOST 1048576: true; the input reads as it did. -/
def spanoutWritesUptoRow : OpenClaim := { program := "ytmfffpfenhgjbaadoor", sum := "789f626b348a20c3c40d111095b21166565258ccaa57acd78080d27524d2bf2f", func := "emendation/emendationlaw09.SpanoutWrites", spec := "spanoutWrites", inPlace := ["internal/bytealg.IndexByte", "internal/bytealg.IndexByteString", "internal/bytealg.IndexString", "internal/abi.NoEscape", "internal/bytealg.MakeNoZero"], unfollowed := true, recurses := true, named := ["unicode/utf8.first", "unicode/utf8.acceptRanges", "internal/bytealg.MaxLen"], loops := true, apart := false, laid := [("unicode/utf8.acceptRanges", laid_unicode_utf8_acceptRanges), ("unicode/utf8.first", laid_unicode_utf8_first)], narrowed := true }
def SpanoutWritesUptoSaid : Prop := spanoutWritesUptoRow.holds Tryd.pinned (OpenSpec.upto spanoutWritesSpec)

/-- 'emendationlaw09.SpanoutUnlike', WHERE WHAT IT READS IS OF BULK AT MOST 1048576: true; the input reads as it did. -/
def spanoutUnlikeUptoRow : OpenClaim := { program := "ytmfffpfenhgjbaadoor", sum := "789f626b348a20c3c40d111095b21166565258ccaa57acd78080d27524d2bf2f", func := "emendation/emendationlaw09.SpanoutUnlike", spec := "spanoutUnlike", inPlace := ["internal/bytealg.IndexByte", "internal/bytealg.IndexByteString", "internal/bytealg.IndexString", "internal/abi.NoEscape", "internal/bytealg.MakeNoZero"], unfollowed := true, recurses := true, named := ["unicode/utf8.first", "unicode/utf8.acceptRanges", "internal/bytealg.MaxLen"], loops := true, apart := false, laid := [("unicode/utf8.acceptRanges", laid_unicode_utf8_acceptRanges), ("unicode/utf8.first", laid_unicode_utf8_first)], narrowed := true }
def SpanoutUnlikeUptoSaid : Prop := spanoutUnlikeUptoRow.holds Tryd.pinned (OpenSpec.upto spanoutUnlikeSpec)

/-- 'emendationlaw09.SpanoutJoins', WHERE WHAT IT READS IS OF BULK AT MOST 1048576: true; the input reads as it did. -/
def spanoutJoinsUptoRow : OpenClaim := { program := "ytmfffpfenhgjbaadoor", sum := "789f626b348a20c3c40d111095b21166565258ccaa57acd78080d27524d2bf2f", func := "emendation/emendationlaw09.SpanoutJoins", spec := "spanoutJoins", inPlace := ["internal/bytealg.IndexByte", "internal/bytealg.IndexByteString", "internal/bytealg.IndexString", "internal/abi.NoEscape", "internal/bytealg.MakeNoZero"], unfollowed := true, recurses := true, named := ["unicode/utf8.first", "unicode/utf8.acceptRanges", "internal/bytealg.MaxLen"], loops := true, apart := false, laid := [("unicode/utf8.acceptRanges", laid_unicode_utf8_acceptRanges), ("unicode/utf8.first", laid_unicode_utf8_first)], narrowed := true }
def SpanoutJoinsUptoSaid : Prop := spanoutJoinsUptoRow.holds Tryd.pinned (OpenSpec.upto spanoutJoinsSpec)

/-- 'emendationlaw09.SpanoutEscapes', WHERE WHAT IT READS IS OF BULK AT MOST 1048576: true; the input reads as it did. -/
def spanoutEscapesUptoRow : OpenClaim := { program := "ytmfffpfenhgjbaadoor", sum := "789f626b348a20c3c40d111095b21166565258ccaa57acd78080d27524d2bf2f", func := "emendation/emendationlaw09.SpanoutEscapes", spec := "spanoutEscapes", inPlace := ["internal/bytealg.IndexByte", "internal/bytealg.IndexByteString", "internal/bytealg.IndexString", "internal/abi.NoEscape", "internal/bytealg.MakeNoZero"], unfollowed := true, recurses := true, named := ["unicode/utf8.first", "unicode/utf8.acceptRanges", "internal/bytealg.MaxLen"], apart := false, laid := [("unicode/utf8.acceptRanges", laid_unicode_utf8_acceptRanges), ("unicode/utf8.first", laid_unicode_utf8_first)], narrowed := true }
def SpanoutEscapesUptoSaid : Prop := spanoutEscapesUptoRow.holds Tryd.pinned (OpenSpec.upto spanoutEscapesSpec)

/-- 'emendationlaw09.SpanoutKinds', WHERE WHAT IT READS IS OF BULK AT MOST 1048576: true; the input reads as it did. -/
def spanoutKindsUptoRow : OpenClaim := { program := "ytmfffpfenhgjbaadoor", sum := "789f626b348a20c3c40d111095b21166565258ccaa57acd78080d27524d2bf2f", func := "emendation/emendationlaw09.SpanoutKinds", spec := "spanoutKinds", inPlace := ["internal/bytealg.IndexByte", "internal/bytealg.IndexByteString", "internal/bytealg.IndexString", "internal/abi.NoEscape", "internal/bytealg.MakeNoZero"], unfollowed := true, recurses := true, named := ["unicode/utf8.first", "unicode/utf8.acceptRanges", "internal/bytealg.MaxLen"], apart := false, laid := [("unicode/utf8.acceptRanges", laid_unicode_utf8_acceptRanges), ("unicode/utf8.first", laid_unicode_utf8_first)], narrowed := true }
def SpanoutKindsUptoSaid : Prop := spanoutKindsUptoRow.holds Tryd.pinned (OpenSpec.upto spanoutKindsSpec)

end Rows
end Go.Proofs.YtmfffpfenhgjbaaDoor
