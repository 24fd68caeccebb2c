/-
  DERIVED. GIVEN WITH THE SEED: THE CARDS: each row of YtmamjecpjookoaaDoorRows.lean that lists a variable, with what it lists TIED to the program's text (the seventh form; the later family's looks); each row that meets fmt, with fmt's text TOLD by the authors' own Lean function (tested against real Go, not proved from fmt's source: count such statements apart). THE CARD IS WHAT COUNTS. Prove the row's statement (the work); the ties are given (YtmamjecpjookoaaDoorTie.lean); close each card by the builder's one call (the guide's Derived/Test/ToyasCard.lean, 'card_holds'). Laid BY PROGRAM, IN A SANDBOX (cutbox-door.mjs). By AI agents, Wed Nov 11 2026. No macro, syntax, notation, axiom, sorry.
-/
import Derived.Test.YtmamjecpjookoaaDoorRows
import GoSem.ClaimSeven
namespace Go.Proofs.YtmamjecpjookoaaDoor
namespace Rows

/-- THE TIED CARD OF 'emendationlaw01.UtfChecks'. -/
def utfChecksCard : Claim7 := { stood := { row := utfChecksRow, standIns := [], harness := (true, "7065d9e3a3447b60b86afd20f24ce4f2a589da0cf51c9f4344ab74ef1e312e3a"), looks := false }, kinds := [], alts := [], laidByText := true, laidKinds := [.data, .pinned], laidTests := true, laidLooks := .later }
def UtfChecksCardSaid : Prop := Claim7.holds Tryd.pinned (.plain (OpenSpec.ofChange utfChecksSpec)) utfChecksCard

/-- THE TIED CARD OF 'emendationlaw01.UtfNext'. -/
def utfNextCard : Claim7 := { stood := { row := utfNextRow, standIns := [], harness := (true, "7065d9e3a3447b60b86afd20f24ce4f2a589da0cf51c9f4344ab74ef1e312e3a"), looks := false }, kinds := [], alts := [], laidByText := true, laidKinds := [.data, .pinned], laidTests := true, laidLooks := .later }
def UtfNextCardSaid : Prop := Claim7.holds Tryd.pinned (.plain (OpenSpec.ofChange utfNextSpec)) utfNextCard

/-- THE TIED CARD OF 'emendationlaw01.UtfGoes'. -/
def utfGoesCard : Claim7 := { stood := { row := utfGoesRow, standIns := [], harness := (true, "7065d9e3a3447b60b86afd20f24ce4f2a589da0cf51c9f4344ab74ef1e312e3a"), looks := false }, kinds := [], alts := [], laidByText := true, laidKinds := [.data, .pinned], laidTests := true, laidLooks := .later }
def UtfGoesCardSaid : Prop := Claim7.holds Tryd.pinned (.plain (OpenSpec.ofChange utfGoesSpec)) utfGoesCard

/-- THE TIED CARD OF 'emendationlaw01.UtfJoins'. -/
def utfJoinsCard : Claim7 := { stood := { row := utfJoinsRow, standIns := [], harness := (true, "7065d9e3a3447b60b86afd20f24ce4f2a589da0cf51c9f4344ab74ef1e312e3a"), looks := false }, kinds := [], alts := [], laidByText := true, laidKinds := [.data, .pinned], laidTests := true, laidLooks := .later }
def UtfJoinsCardSaid : Prop := Claim7.holds Tryd.pinned (.plain (OpenSpec.ofChange utfJoinsSpec)) utfJoinsCard

/-- THE TIED CARD OF 'emendationlaw01.UtfLong'. -/
def utfLongCard : Claim7 := { stood := { row := utfLongRow, standIns := [], harness := (true, "7065d9e3a3447b60b86afd20f24ce4f2a589da0cf51c9f4344ab74ef1e312e3a"), looks := false }, kinds := [], alts := [], laidByText := true, laidKinds := [.data, .pinned], laidTests := true, laidLooks := .later }
def UtfLongCardSaid : Prop := Claim7.holds Tryd.pinned (.plain (OpenSpec.ofChange utfLongSpec)) utfLongCard

/-- THE TIED CARD OF 'emendationlaw01.UtfFolds'. -/
def utfFoldsCard : Claim7 := { stood := { row := utfFoldsRow, standIns := [], harness := (true, "7065d9e3a3447b60b86afd20f24ce4f2a589da0cf51c9f4344ab74ef1e312e3a"), looks := false }, kinds := [], alts := [], laidByText := true, laidKinds := [.data, .pinned], laidTests := true, laidLooks := .later }
def UtfFoldsCardSaid : Prop := Claim7.holds Tryd.pinned (.plain (OpenSpec.ofChange utfFoldsSpec)) utfFoldsCard

/-- THE TIED CARD OF 'emendationlaw01.UtfClasses'. -/
def utfClassesCard : Claim7 := { stood := { row := utfClassesRow, standIns := [], harness := (true, "7065d9e3a3447b60b86afd20f24ce4f2a589da0cf51c9f4344ab74ef1e312e3a"), looks := false }, kinds := [], alts := [], laidByText := true, laidKinds := [.data, .pinned], laidTests := true, laidLooks := .later }
def UtfClassesCardSaid : Prop := Claim7.holds Tryd.pinned (.plain (OpenSpec.ofChange utfClassesSpec)) utfClassesCard

/-- THE SECOND FORM's CARD OF 'emendationlaw01.UtfChecks'. -/
def utfChecksUptoCard : Claim7 := { stood := { row := utfChecksUptoRow, standIns := [], harness := (true, "7065d9e3a3447b60b86afd20f24ce4f2a589da0cf51c9f4344ab74ef1e312e3a"), looks := false }, kinds := [], alts := [], laidByText := true, laidKinds := [.data, .pinned], laidTests := true, laidLooks := .later }
def UtfChecksUptoCardSaid : Prop := Claim7.holds Tryd.pinned (.plain (OpenSpec.upto utfChecksSpec)) utfChecksUptoCard

/-- THE SECOND FORM's CARD OF 'emendationlaw01.UtfNext'. -/
def utfNextUptoCard : Claim7 := { stood := { row := utfNextUptoRow, standIns := [], harness := (true, "7065d9e3a3447b60b86afd20f24ce4f2a589da0cf51c9f4344ab74ef1e312e3a"), looks := false }, kinds := [], alts := [], laidByText := true, laidKinds := [.data, .pinned], laidTests := true, laidLooks := .later }
def UtfNextUptoCardSaid : Prop := Claim7.holds Tryd.pinned (.plain (OpenSpec.upto utfNextSpec)) utfNextUptoCard

/-- THE SECOND FORM's CARD OF 'emendationlaw01.UtfGoes'. -/
def utfGoesUptoCard : Claim7 := { stood := { row := utfGoesUptoRow, standIns := [], harness := (true, "7065d9e3a3447b60b86afd20f24ce4f2a589da0cf51c9f4344ab74ef1e312e3a"), looks := false }, kinds := [], alts := [], laidByText := true, laidKinds := [.data, .pinned], laidTests := true, laidLooks := .later }
def UtfGoesUptoCardSaid : Prop := Claim7.holds Tryd.pinned (.plain (OpenSpec.upto utfGoesSpec)) utfGoesUptoCard

/-- THE SECOND FORM's CARD OF 'emendationlaw01.UtfJoins'. -/
def utfJoinsUptoCard : Claim7 := { stood := { row := utfJoinsUptoRow, standIns := [], harness := (true, "7065d9e3a3447b60b86afd20f24ce4f2a589da0cf51c9f4344ab74ef1e312e3a"), looks := false }, kinds := [], alts := [], laidByText := true, laidKinds := [.data, .pinned], laidTests := true, laidLooks := .later }
def UtfJoinsUptoCardSaid : Prop := Claim7.holds Tryd.pinned (.plain (OpenSpec.upto utfJoinsSpec)) utfJoinsUptoCard

/-- THE SECOND FORM's CARD OF 'emendationlaw01.UtfLong'. -/
def utfLongUptoCard : Claim7 := { stood := { row := utfLongUptoRow, standIns := [], harness := (true, "7065d9e3a3447b60b86afd20f24ce4f2a589da0cf51c9f4344ab74ef1e312e3a"), looks := false }, kinds := [], alts := [], laidByText := true, laidKinds := [.data, .pinned], laidTests := true, laidLooks := .later }
def UtfLongUptoCardSaid : Prop := Claim7.holds Tryd.pinned (.plain (OpenSpec.upto utfLongSpec)) utfLongUptoCard

/-- THE SECOND FORM's CARD OF 'emendationlaw01.UtfFolds'. -/
def utfFoldsUptoCard : Claim7 := { stood := { row := utfFoldsUptoRow, standIns := [], harness := (true, "7065d9e3a3447b60b86afd20f24ce4f2a589da0cf51c9f4344ab74ef1e312e3a"), looks := false }, kinds := [], alts := [], laidByText := true, laidKinds := [.data, .pinned], laidTests := true, laidLooks := .later }
def UtfFoldsUptoCardSaid : Prop := Claim7.holds Tryd.pinned (.plain (OpenSpec.upto utfFoldsSpec)) utfFoldsUptoCard

/-- THE SECOND FORM's CARD OF 'emendationlaw01.UtfClasses'. -/
def utfClassesUptoCard : Claim7 := { stood := { row := utfClassesUptoRow, standIns := [], harness := (true, "7065d9e3a3447b60b86afd20f24ce4f2a589da0cf51c9f4344ab74ef1e312e3a"), looks := false }, kinds := [], alts := [], laidByText := true, laidKinds := [.data, .pinned], laidTests := true, laidLooks := .later }
def UtfClassesUptoCardSaid : Prop := Claim7.holds Tryd.pinned (.plain (OpenSpec.upto utfClassesSpec)) utfClassesUptoCard
end Rows
end Go.Proofs.YtmamjecpjookoaaDoor
