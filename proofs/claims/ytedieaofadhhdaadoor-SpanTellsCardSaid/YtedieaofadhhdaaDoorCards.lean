/-
  DERIVED. GIVEN WITH THE SEED: THE CARDS: each row of YtedieaofadhhdaaDoorRows.lean that lists a variable, with what it lists TIED to the program's text (the seventh form; the later family's looks); each row that meets fmt, with fmt's text TOLD by the authors' own Lean function (tested against real Go, not proved from fmt's source: count such statements apart). THE CARD IS WHAT COUNTS. Prove the row's statement (the work); the ties are given (YtedieaofadhhdaaDoorTie.lean); close each card by the builder's one call (the guide's Derived/Test/ToyasCard.lean, 'card_holds'). Laid BY PROGRAM, IN A SANDBOX (cutbox-door.mjs). By AI agents, Wed Nov 11 2026. No macro, syntax, notation, axiom, sorry.
-/
import Derived.Test.YtedieaofadhhdaaDoorRows
import GoSem.ClaimSeven
namespace Go.Proofs.YtedieaofadhhdaaDoor
namespace Rows

/-- THE TIED CARD OF 'emendationlaw07.SpanTells'. -/
def spanTellsCard : Claim7 := { stood := { row := spanTellsRow, standIns := [], harness := (true, "0d12dbc995ee72af4d8551164d770732987edafaa4aad9b9121a3c830060482f"), looks := false }, kinds := [], alts := [], laidByText := true, laidKinds := [.data, .pinned], laidTests := true, laidLooks := .later }
def SpanTellsCardSaid : Prop := Claim7.holds Tryd.pinned (.plain (OpenSpec.ofChange spanTellsSpec)) spanTellsCard

/-- THE TIED CARD OF 'emendationlaw07.SpanWraps'. -/
def spanWrapsCard : Claim7 := { stood := { row := spanWrapsRow, standIns := [], harness := (true, "0d12dbc995ee72af4d8551164d770732987edafaa4aad9b9121a3c830060482f"), looks := false }, kinds := [], alts := [], laidByText := true, laidKinds := [.data, .pinned], laidTests := true, laidLooks := .later }
def SpanWrapsCardSaid : Prop := Claim7.holds Tryd.pinned (.plain (OpenSpec.ofChange spanWrapsSpec)) spanWrapsCard

/-- THE TIED CARD OF 'emendationlaw07.SpanJoins'. -/
def spanJoinsCard : Claim7 := { stood := { row := spanJoinsRow, standIns := [], harness := (true, "0d12dbc995ee72af4d8551164d770732987edafaa4aad9b9121a3c830060482f"), looks := false }, kinds := [], alts := [], laidByText := true, laidKinds := [.data, .pinned], laidTests := true, laidLooks := .later }
def SpanJoinsCardSaid : Prop := Claim7.holds Tryd.pinned (.plain (OpenSpec.ofChange spanJoinsSpec)) spanJoinsCard

/-- THE TIED CARD OF 'emendationlaw07.SpanDests'. -/
def spanDestsCard : Claim7 := { stood := { row := spanDestsRow, standIns := [], harness := (true, "0d12dbc995ee72af4d8551164d770732987edafaa4aad9b9121a3c830060482f"), looks := false }, kinds := [], alts := [], laidByText := true, laidKinds := [.data, .pinned], laidTests := true, laidLooks := .later }
def SpanDestsCardSaid : Prop := Claim7.holds Tryd.pinned (.plain (OpenSpec.ofChange spanDestsSpec)) spanDestsCard

/-- THE TIED CARD OF 'emendationlaw07.SpanSame'. -/
def spanSameCard : Claim7 := { stood := { row := spanSameRow, standIns := [], harness := (true, "0d12dbc995ee72af4d8551164d770732987edafaa4aad9b9121a3c830060482f"), looks := false }, kinds := [], alts := [], laidByText := true, laidKinds := [.data, .pinned], laidTests := true, laidLooks := .later }
def SpanSameCardSaid : Prop := Claim7.holds Tryd.pinned (.plain (OpenSpec.ofChange spanSameSpec)) spanSameCard

/-- THE TIED CARD OF 'emendationlaw07.SpanParts'. -/
def spanPartsCard : Claim7 := { stood := { row := spanPartsRow, standIns := [], harness := (true, "0d12dbc995ee72af4d8551164d770732987edafaa4aad9b9121a3c830060482f"), looks := false }, kinds := [], alts := [], laidByText := true, laidKinds := [.data, .pinned], laidTests := true, laidLooks := .later }
def SpanPartsCardSaid : Prop := Claim7.holds Tryd.pinned (.plain (OpenSpec.ofChange spanPartsSpec)) spanPartsCard

/-- THE SECOND FORM's CARD OF 'emendationlaw07.SpanTells'. -/
def spanTellsUptoCard : Claim7 := { stood := { row := spanTellsUptoRow, standIns := [], harness := (true, "0d12dbc995ee72af4d8551164d770732987edafaa4aad9b9121a3c830060482f"), looks := false }, kinds := [], alts := [], laidByText := true, laidKinds := [.data, .pinned], laidTests := true, laidLooks := .later }
def SpanTellsUptoCardSaid : Prop := Claim7.holds Tryd.pinned (.plain (OpenSpec.upto spanTellsSpec)) spanTellsUptoCard

/-- THE SECOND FORM's CARD OF 'emendationlaw07.SpanWraps'. -/
def spanWrapsUptoCard : Claim7 := { stood := { row := spanWrapsUptoRow, standIns := [], harness := (true, "0d12dbc995ee72af4d8551164d770732987edafaa4aad9b9121a3c830060482f"), looks := false }, kinds := [], alts := [], laidByText := true, laidKinds := [.data, .pinned], laidTests := true, laidLooks := .later }
def SpanWrapsUptoCardSaid : Prop := Claim7.holds Tryd.pinned (.plain (OpenSpec.upto spanWrapsSpec)) spanWrapsUptoCard

/-- THE SECOND FORM's CARD OF 'emendationlaw07.SpanJoins'. -/
def spanJoinsUptoCard : Claim7 := { stood := { row := spanJoinsUptoRow, standIns := [], harness := (true, "0d12dbc995ee72af4d8551164d770732987edafaa4aad9b9121a3c830060482f"), looks := false }, kinds := [], alts := [], laidByText := true, laidKinds := [.data, .pinned], laidTests := true, laidLooks := .later }
def SpanJoinsUptoCardSaid : Prop := Claim7.holds Tryd.pinned (.plain (OpenSpec.upto spanJoinsSpec)) spanJoinsUptoCard

/-- THE SECOND FORM's CARD OF 'emendationlaw07.SpanDests'. -/
def spanDestsUptoCard : Claim7 := { stood := { row := spanDestsUptoRow, standIns := [], harness := (true, "0d12dbc995ee72af4d8551164d770732987edafaa4aad9b9121a3c830060482f"), looks := false }, kinds := [], alts := [], laidByText := true, laidKinds := [.data, .pinned], laidTests := true, laidLooks := .later }
def SpanDestsUptoCardSaid : Prop := Claim7.holds Tryd.pinned (.plain (OpenSpec.upto spanDestsSpec)) spanDestsUptoCard

/-- THE SECOND FORM's CARD OF 'emendationlaw07.SpanSame'. -/
def spanSameUptoCard : Claim7 := { stood := { row := spanSameUptoRow, standIns := [], harness := (true, "0d12dbc995ee72af4d8551164d770732987edafaa4aad9b9121a3c830060482f"), looks := false }, kinds := [], alts := [], laidByText := true, laidKinds := [.data, .pinned], laidTests := true, laidLooks := .later }
def SpanSameUptoCardSaid : Prop := Claim7.holds Tryd.pinned (.plain (OpenSpec.upto spanSameSpec)) spanSameUptoCard

/-- THE SECOND FORM's CARD OF 'emendationlaw07.SpanParts'. -/
def spanPartsUptoCard : Claim7 := { stood := { row := spanPartsUptoRow, standIns := [], harness := (true, "0d12dbc995ee72af4d8551164d770732987edafaa4aad9b9121a3c830060482f"), looks := false }, kinds := [], alts := [], laidByText := true, laidKinds := [.data, .pinned], laidTests := true, laidLooks := .later }
def SpanPartsUptoCardSaid : Prop := Claim7.holds Tryd.pinned (.plain (OpenSpec.upto spanPartsSpec)) spanPartsUptoCard
end Rows
end Go.Proofs.YtedieaofadhhdaaDoor
