/-
  DERIVED. GIVEN WITH THE SEED: THE CARDS: each row of YtgiobiljneijiaaDoorRows.lean that lists a variable, with what it lists TIED to the program's text (the seventh form; the later family's looks); each row that meets fmt, with fmt's text TOLD by the authors' own Lean function (tested against real Go, not proved from fmt's source: count such statements apart). THE CARD IS WHAT COUNTS. Prove the row's statement (the work); the ties are given (YtgiobiljneijiaaDoorTie.lean); close each card by the builder's one call (the guide's Derived/Test/ToyasCard.lean, 'card_holds'). Laid BY PROGRAM, IN A SANDBOX (cutbox-door.mjs). By AI agents, Wed Nov 11 2026. No macro, syntax, notation, axiom, sorry.
-/
import Derived.Test.YtgiobiljneijiaaDoorRows
import GoSem.ClaimSeven
namespace Go.Proofs.YtgiobiljneijiaaDoor
namespace Rows

/-- THE TIED CARD OF 'emendationlaw22.ScriptDecodes'. -/
def scriptDecodesCard : Claim7 := { stood := { row := scriptDecodesRow, standIns := [], harness := (true, "262cb371d9790af59dbc104969b15e61f88190a58024d38cee1e4a42604d0a1d"), looks := false }, kinds := [], alts := [], laidByText := true, laidKinds := [.data, .data, .data], laidTests := true, laidLooks := .later }
def ScriptDecodesCardSaid : Prop := Claim7.holds Tryd.pinned (.plain (OpenSpec.ofChange scriptDecodesSpec)) scriptDecodesCard

/-- THE TIED CARD OF 'emendationlaw22.ScriptSkips'. -/
def scriptSkipsCard : Claim7 := { stood := { row := scriptSkipsRow, standIns := [], harness := (true, "262cb371d9790af59dbc104969b15e61f88190a58024d38cee1e4a42604d0a1d"), looks := false }, kinds := [], alts := [], laidByText := true, laidKinds := [.data, .data, .data], laidTests := true, laidLooks := .later }
def ScriptSkipsCardSaid : Prop := Claim7.holds Tryd.pinned (.plain (OpenSpec.ofChange scriptSkipsSpec)) scriptSkipsCard

/-- THE TIED CARD OF 'emendationlaw22.ScriptEntries'. -/
def scriptEntriesCard : Claim7 := { stood := { row := scriptEntriesRow, standIns := [], harness := (true, "262cb371d9790af59dbc104969b15e61f88190a58024d38cee1e4a42604d0a1d"), looks := false }, kinds := [], alts := [], laidByText := true, laidKinds := [.data, .data, .data], laidTests := true, laidLooks := .later }
def ScriptEntriesCardSaid : Prop := Claim7.holds Tryd.pinned (.plain (OpenSpec.ofChange scriptEntriesSpec)) scriptEntriesCard

/-- THE SECOND FORM's CARD OF 'emendationlaw22.ScriptDecodes'. -/
def scriptDecodesUptoCard : Claim7 := { stood := { row := scriptDecodesUptoRow, standIns := [], harness := (true, "262cb371d9790af59dbc104969b15e61f88190a58024d38cee1e4a42604d0a1d"), looks := false }, kinds := [], alts := [], laidByText := true, laidKinds := [.data, .data, .data], laidTests := true, laidLooks := .later }
def ScriptDecodesUptoCardSaid : Prop := Claim7.holds Tryd.pinned (.plain (OpenSpec.upto scriptDecodesSpec)) scriptDecodesUptoCard

/-- THE SECOND FORM's CARD OF 'emendationlaw22.ScriptSkips'. -/
def scriptSkipsUptoCard : Claim7 := { stood := { row := scriptSkipsUptoRow, standIns := [], harness := (true, "262cb371d9790af59dbc104969b15e61f88190a58024d38cee1e4a42604d0a1d"), looks := false }, kinds := [], alts := [], laidByText := true, laidKinds := [.data, .data, .data], laidTests := true, laidLooks := .later }
def ScriptSkipsUptoCardSaid : Prop := Claim7.holds Tryd.pinned (.plain (OpenSpec.upto scriptSkipsSpec)) scriptSkipsUptoCard

/-- THE SECOND FORM's CARD OF 'emendationlaw22.ScriptEntries'. -/
def scriptEntriesUptoCard : Claim7 := { stood := { row := scriptEntriesUptoRow, standIns := [], harness := (true, "262cb371d9790af59dbc104969b15e61f88190a58024d38cee1e4a42604d0a1d"), looks := false }, kinds := [], alts := [], laidByText := true, laidKinds := [.data, .data, .data], laidTests := true, laidLooks := .later }
def ScriptEntriesUptoCardSaid : Prop := Claim7.holds Tryd.pinned (.plain (OpenSpec.upto scriptEntriesSpec)) scriptEntriesUptoCard
end Rows
end Go.Proofs.YtgiobiljneijiaaDoor
