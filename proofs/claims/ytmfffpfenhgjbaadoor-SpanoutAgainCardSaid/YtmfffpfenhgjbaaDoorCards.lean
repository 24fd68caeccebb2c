/-
  DERIVED. GIVEN WITH THE SEED: THE CARDS: each row of YtmfffpfenhgjbaaDoorRows.lean that lists a variable, with what it lists TIED to the program's text (the seventh form; the later family's looks); each row that meets fmt, with fmt's text TOLD by the authors' own Lean function (tested against real Go, not proved from fmt's source: count such statements apart). THE CARD IS WHAT COUNTS. Prove the row's statement (the work); the ties are given (YtmfffpfenhgjbaaDoorTie.lean); close each card by the builder's one call (the guide's Derived/Test/ToyasCard.lean, 'card_holds'). Laid BY PROGRAM, IN A SANDBOX (cutbox-door.mjs). By AI agents, Wed Nov 11 2026. No macro, syntax, notation, axiom, sorry.
-/
import Derived.Test.YtmfffpfenhgjbaaDoorRows
import GoSem.ClaimSeven
namespace Go.Proofs.YtmfffpfenhgjbaaDoor
namespace Rows

/-- THE TIED CARD OF 'emendationlaw07.SpanParts'. -/
def spanPartsCard : Claim7 := { stood := { row := spanPartsRow, standIns := [], harness := (true, "6ab5b3b858160343e9bc06fdc3de3319f5952006b74332ac398b88c6a63a037b"), looks := false }, kinds := [], alts := [], laidByText := true, laidKinds := [.data, .pinned], laidTests := true, laidLooks := .later }
def SpanPartsCardSaid : Prop := Claim7.holds Tryd.pinned (.plain (OpenSpec.ofChange spanPartsSpec)) spanPartsCard

/-- THE TIED CARD OF 'emendationlaw08.SpaninReads'. -/
def spaninReadsCard : Claim7 := { stood := { row := spaninReadsRow, standIns := [], harness := (true, "6ab5b3b858160343e9bc06fdc3de3319f5952006b74332ac398b88c6a63a037b"), looks := false }, kinds := [], alts := [], laidByText := true, laidKinds := [.data, .pinned], laidTests := true, laidLooks := .later }
def SpaninReadsCardSaid : Prop := Claim7.holds Tryd.pinned (.plain (OpenSpec.ofChange spaninReadsSpec)) spaninReadsCard

/-- THE TIED CARD OF 'emendationlaw08.SpaninPlain'. -/
def spaninPlainCard : Claim7 := { stood := { row := spaninPlainRow, standIns := [], harness := (true, "6ab5b3b858160343e9bc06fdc3de3319f5952006b74332ac398b88c6a63a037b"), looks := false }, kinds := [], alts := [], laidByText := true, laidKinds := [.data, .pinned], laidTests := true, laidLooks := .later }
def SpaninPlainCardSaid : Prop := Claim7.holds Tryd.pinned (.plain (OpenSpec.ofChange spaninPlainSpec)) spaninPlainCard

/-- THE TIED CARD OF 'emendationlaw08.SpaninShort'. -/
def spaninShortCard : Claim7 := { stood := { row := spaninShortRow, standIns := [], harness := (true, "6ab5b3b858160343e9bc06fdc3de3319f5952006b74332ac398b88c6a63a037b"), looks := false }, kinds := [], alts := [], laidByText := true, laidKinds := [.data, .pinned], laidTests := true, laidLooks := .later }
def SpaninShortCardSaid : Prop := Claim7.holds Tryd.pinned (.plain (OpenSpec.ofChange spaninShortSpec)) spaninShortCard

/-- THE TIED CARD OF 'emendationlaw08.SpaninLinks'. -/
def spaninLinksCard : Claim7 := { stood := { row := spaninLinksRow, standIns := [], harness := (true, "6ab5b3b858160343e9bc06fdc3de3319f5952006b74332ac398b88c6a63a037b"), looks := false }, kinds := [], alts := [], laidByText := true, laidKinds := [.data, .pinned], laidTests := true, laidLooks := .later }
def SpaninLinksCardSaid : Prop := Claim7.holds Tryd.pinned (.plain (OpenSpec.ofChange spaninLinksSpec)) spaninLinksCard

/-- THE TIED CARD OF 'emendationlaw08.SpaninCodes'. -/
def spaninCodesCard : Claim7 := { stood := { row := spaninCodesRow, standIns := [], harness := (true, "6ab5b3b858160343e9bc06fdc3de3319f5952006b74332ac398b88c6a63a037b"), looks := false }, kinds := [], alts := [], laidByText := true, laidKinds := [.data, .pinned], laidTests := true, laidLooks := .later }
def SpaninCodesCardSaid : Prop := Claim7.holds Tryd.pinned (.plain (OpenSpec.ofChange spaninCodesSpec)) spaninCodesCard

/-- THE TIED CARD OF 'emendationlaw08.SpaninNormal'. -/
def spaninNormalCard : Claim7 := { stood := { row := spaninNormalRow, standIns := [], harness := (true, "6ab5b3b858160343e9bc06fdc3de3319f5952006b74332ac398b88c6a63a037b"), looks := false }, kinds := [], alts := [], laidByText := true, laidKinds := [.data, .pinned], laidTests := true, laidLooks := .later }
def SpaninNormalCardSaid : Prop := Claim7.holds Tryd.pinned (.plain (OpenSpec.ofChange spaninNormalSpec)) spaninNormalCard

/-- THE TIED CARD OF 'emendationlaw09.SpanoutAgain'. -/
def spanoutAgainCard : Claim7 := { stood := { row := spanoutAgainRow, standIns := [], harness := (true, "6ab5b3b858160343e9bc06fdc3de3319f5952006b74332ac398b88c6a63a037b"), looks := false }, kinds := [], alts := [], laidByText := true, laidKinds := [.data, .pinned], laidTests := true, laidLooks := .later }
def SpanoutAgainCardSaid : Prop := Claim7.holds Tryd.pinned (.plain (OpenSpec.ofChange spanoutAgainSpec)) spanoutAgainCard

/-- THE TIED CARD OF 'emendationlaw09.SpanoutWrites'. -/
def spanoutWritesCard : Claim7 := { stood := { row := spanoutWritesRow, standIns := [], harness := (true, "6ab5b3b858160343e9bc06fdc3de3319f5952006b74332ac398b88c6a63a037b"), looks := false }, kinds := [], alts := [], laidByText := true, laidKinds := [.data, .pinned], laidTests := true, laidLooks := .later }
def SpanoutWritesCardSaid : Prop := Claim7.holds Tryd.pinned (.plain (OpenSpec.ofChange spanoutWritesSpec)) spanoutWritesCard

/-- THE TIED CARD OF 'emendationlaw09.SpanoutUnlike'. -/
def spanoutUnlikeCard : Claim7 := { stood := { row := spanoutUnlikeRow, standIns := [], harness := (true, "6ab5b3b858160343e9bc06fdc3de3319f5952006b74332ac398b88c6a63a037b"), looks := false }, kinds := [], alts := [], laidByText := true, laidKinds := [.data, .pinned], laidTests := true, laidLooks := .later }
def SpanoutUnlikeCardSaid : Prop := Claim7.holds Tryd.pinned (.plain (OpenSpec.ofChange spanoutUnlikeSpec)) spanoutUnlikeCard

/-- THE TIED CARD OF 'emendationlaw09.SpanoutJoins'. -/
def spanoutJoinsCard : Claim7 := { stood := { row := spanoutJoinsRow, standIns := [], harness := (true, "6ab5b3b858160343e9bc06fdc3de3319f5952006b74332ac398b88c6a63a037b"), looks := false }, kinds := [], alts := [], laidByText := true, laidKinds := [.data, .pinned], laidTests := true, laidLooks := .later }
def SpanoutJoinsCardSaid : Prop := Claim7.holds Tryd.pinned (.plain (OpenSpec.ofChange spanoutJoinsSpec)) spanoutJoinsCard

/-- THE TIED CARD OF 'emendationlaw09.SpanoutEscapes'. -/
def spanoutEscapesCard : Claim7 := { stood := { row := spanoutEscapesRow, standIns := [], harness := (true, "6ab5b3b858160343e9bc06fdc3de3319f5952006b74332ac398b88c6a63a037b"), looks := false }, kinds := [], alts := [], laidByText := true, laidKinds := [.data, .pinned], laidTests := true, laidLooks := .later }
def SpanoutEscapesCardSaid : Prop := Claim7.holds Tryd.pinned (.plain (OpenSpec.ofChange spanoutEscapesSpec)) spanoutEscapesCard

/-- THE TIED CARD OF 'emendationlaw09.SpanoutKinds'. -/
def spanoutKindsCard : Claim7 := { stood := { row := spanoutKindsRow, standIns := [], harness := (true, "6ab5b3b858160343e9bc06fdc3de3319f5952006b74332ac398b88c6a63a037b"), looks := false }, kinds := [], alts := [], laidByText := true, laidKinds := [.data, .pinned], laidTests := true, laidLooks := .later }
def SpanoutKindsCardSaid : Prop := Claim7.holds Tryd.pinned (.plain (OpenSpec.ofChange spanoutKindsSpec)) spanoutKindsCard

/-- THE SECOND FORM's CARD OF 'emendationlaw07.SpanParts'. -/
def spanPartsUptoCard : Claim7 := { stood := { row := spanPartsUptoRow, standIns := [], harness := (true, "6ab5b3b858160343e9bc06fdc3de3319f5952006b74332ac398b88c6a63a037b"), looks := false }, kinds := [], alts := [], laidByText := true, laidKinds := [.data, .pinned], laidTests := true, laidLooks := .later }
def SpanPartsUptoCardSaid : Prop := Claim7.holds Tryd.pinned (.plain (OpenSpec.upto spanPartsSpec)) spanPartsUptoCard

/-- THE SECOND FORM's CARD OF 'emendationlaw08.SpaninReads'. -/
def spaninReadsUptoCard : Claim7 := { stood := { row := spaninReadsUptoRow, standIns := [], harness := (true, "6ab5b3b858160343e9bc06fdc3de3319f5952006b74332ac398b88c6a63a037b"), looks := false }, kinds := [], alts := [], laidByText := true, laidKinds := [.data, .pinned], laidTests := true, laidLooks := .later }
def SpaninReadsUptoCardSaid : Prop := Claim7.holds Tryd.pinned (.plain (OpenSpec.upto spaninReadsSpec)) spaninReadsUptoCard

/-- THE SECOND FORM's CARD OF 'emendationlaw08.SpaninPlain'. -/
def spaninPlainUptoCard : Claim7 := { stood := { row := spaninPlainUptoRow, standIns := [], harness := (true, "6ab5b3b858160343e9bc06fdc3de3319f5952006b74332ac398b88c6a63a037b"), looks := false }, kinds := [], alts := [], laidByText := true, laidKinds := [.data, .pinned], laidTests := true, laidLooks := .later }
def SpaninPlainUptoCardSaid : Prop := Claim7.holds Tryd.pinned (.plain (OpenSpec.upto spaninPlainSpec)) spaninPlainUptoCard

/-- THE SECOND FORM's CARD OF 'emendationlaw08.SpaninShort'. -/
def spaninShortUptoCard : Claim7 := { stood := { row := spaninShortUptoRow, standIns := [], harness := (true, "6ab5b3b858160343e9bc06fdc3de3319f5952006b74332ac398b88c6a63a037b"), looks := false }, kinds := [], alts := [], laidByText := true, laidKinds := [.data, .pinned], laidTests := true, laidLooks := .later }
def SpaninShortUptoCardSaid : Prop := Claim7.holds Tryd.pinned (.plain (OpenSpec.upto spaninShortSpec)) spaninShortUptoCard

/-- THE SECOND FORM's CARD OF 'emendationlaw08.SpaninLinks'. -/
def spaninLinksUptoCard : Claim7 := { stood := { row := spaninLinksUptoRow, standIns := [], harness := (true, "6ab5b3b858160343e9bc06fdc3de3319f5952006b74332ac398b88c6a63a037b"), looks := false }, kinds := [], alts := [], laidByText := true, laidKinds := [.data, .pinned], laidTests := true, laidLooks := .later }
def SpaninLinksUptoCardSaid : Prop := Claim7.holds Tryd.pinned (.plain (OpenSpec.upto spaninLinksSpec)) spaninLinksUptoCard

/-- THE SECOND FORM's CARD OF 'emendationlaw08.SpaninCodes'. -/
def spaninCodesUptoCard : Claim7 := { stood := { row := spaninCodesUptoRow, standIns := [], harness := (true, "6ab5b3b858160343e9bc06fdc3de3319f5952006b74332ac398b88c6a63a037b"), looks := false }, kinds := [], alts := [], laidByText := true, laidKinds := [.data, .pinned], laidTests := true, laidLooks := .later }
def SpaninCodesUptoCardSaid : Prop := Claim7.holds Tryd.pinned (.plain (OpenSpec.upto spaninCodesSpec)) spaninCodesUptoCard

/-- THE SECOND FORM's CARD OF 'emendationlaw08.SpaninNormal'. -/
def spaninNormalUptoCard : Claim7 := { stood := { row := spaninNormalUptoRow, standIns := [], harness := (true, "6ab5b3b858160343e9bc06fdc3de3319f5952006b74332ac398b88c6a63a037b"), looks := false }, kinds := [], alts := [], laidByText := true, laidKinds := [.data, .pinned], laidTests := true, laidLooks := .later }
def SpaninNormalUptoCardSaid : Prop := Claim7.holds Tryd.pinned (.plain (OpenSpec.upto spaninNormalSpec)) spaninNormalUptoCard

/-- THE SECOND FORM's CARD OF 'emendationlaw09.SpanoutAgain'. -/
def spanoutAgainUptoCard : Claim7 := { stood := { row := spanoutAgainUptoRow, standIns := [], harness := (true, "6ab5b3b858160343e9bc06fdc3de3319f5952006b74332ac398b88c6a63a037b"), looks := false }, kinds := [], alts := [], laidByText := true, laidKinds := [.data, .pinned], laidTests := true, laidLooks := .later }
def SpanoutAgainUptoCardSaid : Prop := Claim7.holds Tryd.pinned (.plain (OpenSpec.upto spanoutAgainSpec)) spanoutAgainUptoCard

/-- THE SECOND FORM's CARD OF 'emendationlaw09.SpanoutWrites'. -/
def spanoutWritesUptoCard : Claim7 := { stood := { row := spanoutWritesUptoRow, standIns := [], harness := (true, "6ab5b3b858160343e9bc06fdc3de3319f5952006b74332ac398b88c6a63a037b"), looks := false }, kinds := [], alts := [], laidByText := true, laidKinds := [.data, .pinned], laidTests := true, laidLooks := .later }
def SpanoutWritesUptoCardSaid : Prop := Claim7.holds Tryd.pinned (.plain (OpenSpec.upto spanoutWritesSpec)) spanoutWritesUptoCard

/-- THE SECOND FORM's CARD OF 'emendationlaw09.SpanoutUnlike'. -/
def spanoutUnlikeUptoCard : Claim7 := { stood := { row := spanoutUnlikeUptoRow, standIns := [], harness := (true, "6ab5b3b858160343e9bc06fdc3de3319f5952006b74332ac398b88c6a63a037b"), looks := false }, kinds := [], alts := [], laidByText := true, laidKinds := [.data, .pinned], laidTests := true, laidLooks := .later }
def SpanoutUnlikeUptoCardSaid : Prop := Claim7.holds Tryd.pinned (.plain (OpenSpec.upto spanoutUnlikeSpec)) spanoutUnlikeUptoCard

/-- THE SECOND FORM's CARD OF 'emendationlaw09.SpanoutJoins'. -/
def spanoutJoinsUptoCard : Claim7 := { stood := { row := spanoutJoinsUptoRow, standIns := [], harness := (true, "6ab5b3b858160343e9bc06fdc3de3319f5952006b74332ac398b88c6a63a037b"), looks := false }, kinds := [], alts := [], laidByText := true, laidKinds := [.data, .pinned], laidTests := true, laidLooks := .later }
def SpanoutJoinsUptoCardSaid : Prop := Claim7.holds Tryd.pinned (.plain (OpenSpec.upto spanoutJoinsSpec)) spanoutJoinsUptoCard

/-- THE SECOND FORM's CARD OF 'emendationlaw09.SpanoutEscapes'. -/
def spanoutEscapesUptoCard : Claim7 := { stood := { row := spanoutEscapesUptoRow, standIns := [], harness := (true, "6ab5b3b858160343e9bc06fdc3de3319f5952006b74332ac398b88c6a63a037b"), looks := false }, kinds := [], alts := [], laidByText := true, laidKinds := [.data, .pinned], laidTests := true, laidLooks := .later }
def SpanoutEscapesUptoCardSaid : Prop := Claim7.holds Tryd.pinned (.plain (OpenSpec.upto spanoutEscapesSpec)) spanoutEscapesUptoCard

/-- THE SECOND FORM's CARD OF 'emendationlaw09.SpanoutKinds'. -/
def spanoutKindsUptoCard : Claim7 := { stood := { row := spanoutKindsUptoRow, standIns := [], harness := (true, "6ab5b3b858160343e9bc06fdc3de3319f5952006b74332ac398b88c6a63a037b"), looks := false }, kinds := [], alts := [], laidByText := true, laidKinds := [.data, .pinned], laidTests := true, laidLooks := .later }
def SpanoutKindsUptoCardSaid : Prop := Claim7.holds Tryd.pinned (.plain (OpenSpec.upto spanoutKindsSpec)) spanoutKindsUptoCard
end Rows
end Go.Proofs.YtmfffpfenhgjbaaDoor
