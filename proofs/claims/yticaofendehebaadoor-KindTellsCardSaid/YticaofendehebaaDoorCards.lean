/-
  DERIVED. GIVEN WITH THE SEED: THE CARDS: each row of YticaofendehebaaDoorRows.lean that lists a variable, with what it lists TIED to the program's text (the seventh form; the later family's looks); each row that meets fmt, with fmt's text TOLD by the authors' own Lean function (tested against real Go, not proved from fmt's source: count such statements apart). THE CARD IS WHAT COUNTS. Prove the row's statement (the work); the ties are given (YticaofendehebaaDoorTie.lean); close each card by the builder's one call (the guide's Derived/Test/ToyasCard.lean, 'card_holds'). Laid BY PROGRAM, IN A SANDBOX (cutbox-door.mjs). By AI agents, Wed Nov 11 2026. No macro, syntax, notation, axiom, sorry.
-/
import Derived.Test.YticaofendehebaaDoorRows
import GoSem.ClaimSeven
namespace Go.Proofs.YticaofendehebaaDoor
namespace Rows

/-- THE TIED CARD OF 'emendationlaw11.KindPlain'. -/
def kindPlainCard : Claim7 := { stood := { row := kindPlainRow, standIns := [], harness := (true, "3138d95b648d28867df48fb05d272d83c2ccdff6f6be5549ad7af8d60d25ce0f"), looks := false }, kinds := [], alts := [], laidByText := true, laidKinds := [.data, .pinned], laidTests := true, laidLooks := .later }
def KindPlainCardSaid : Prop := Claim7.holds Tryd.pinned (.plain (OpenSpec.ofChange kindPlainSpec)) kindPlainCard

/-- THE TIED CARD OF 'emendationlaw11.KindHeads'. -/
def kindHeadsCard : Claim7 := { stood := { row := kindHeadsRow, standIns := [], harness := (true, "3138d95b648d28867df48fb05d272d83c2ccdff6f6be5549ad7af8d60d25ce0f"), looks := false }, kinds := [], alts := [], laidByText := true, laidKinds := [.data, .pinned], laidTests := true, laidLooks := .later }
def KindHeadsCardSaid : Prop := Claim7.holds Tryd.pinned (.plain (OpenSpec.ofChange kindHeadsSpec)) kindHeadsCard

/-- THE TIED CARD OF 'emendationlaw11.KindFences'. -/
def kindFencesCard : Claim7 := { stood := { row := kindFencesRow, standIns := [], harness := (true, "3138d95b648d28867df48fb05d272d83c2ccdff6f6be5549ad7af8d60d25ce0f"), looks := false }, kinds := [], alts := [], laidByText := true, laidKinds := [.data, .pinned], laidTests := true, laidLooks := .later }
def KindFencesCardSaid : Prop := Claim7.holds Tryd.pinned (.plain (OpenSpec.ofChange kindFencesSpec)) kindFencesCard

/-- THE TIED CARD OF 'emendationlaw11.KindMarks'. -/
def kindMarksCard : Claim7 := { stood := { row := kindMarksRow, standIns := [], harness := (true, "3138d95b648d28867df48fb05d272d83c2ccdff6f6be5549ad7af8d60d25ce0f"), looks := false }, kinds := [], alts := [], laidByText := true, laidKinds := [.data, .pinned], laidTests := true, laidLooks := .later }
def KindMarksCardSaid : Prop := Claim7.holds Tryd.pinned (.plain (OpenSpec.ofChange kindMarksSpec)) kindMarksCard

/-- THE TIED CARD OF 'emendationlaw11.KindTells'. -/
def kindTellsCard : Claim7 := { stood := { row := kindTellsRow, standIns := [], harness := (true, "3138d95b648d28867df48fb05d272d83c2ccdff6f6be5549ad7af8d60d25ce0f"), looks := false }, kinds := [], alts := [], laidByText := true, laidKinds := [.data, .pinned], laidTests := true, laidLooks := .later }
def KindTellsCardSaid : Prop := Claim7.holds Tryd.pinned (.plain (OpenSpec.ofChange kindTellsSpec)) kindTellsCard

/-- THE SECOND FORM's CARD OF 'emendationlaw11.KindPlain'. -/
def kindPlainUptoCard : Claim7 := { stood := { row := kindPlainUptoRow, standIns := [], harness := (true, "3138d95b648d28867df48fb05d272d83c2ccdff6f6be5549ad7af8d60d25ce0f"), looks := false }, kinds := [], alts := [], laidByText := true, laidKinds := [.data, .pinned], laidTests := true, laidLooks := .later }
def KindPlainUptoCardSaid : Prop := Claim7.holds Tryd.pinned (.plain (OpenSpec.upto kindPlainSpec)) kindPlainUptoCard

/-- THE SECOND FORM's CARD OF 'emendationlaw11.KindHeads'. -/
def kindHeadsUptoCard : Claim7 := { stood := { row := kindHeadsUptoRow, standIns := [], harness := (true, "3138d95b648d28867df48fb05d272d83c2ccdff6f6be5549ad7af8d60d25ce0f"), looks := false }, kinds := [], alts := [], laidByText := true, laidKinds := [.data, .pinned], laidTests := true, laidLooks := .later }
def KindHeadsUptoCardSaid : Prop := Claim7.holds Tryd.pinned (.plain (OpenSpec.upto kindHeadsSpec)) kindHeadsUptoCard

/-- THE SECOND FORM's CARD OF 'emendationlaw11.KindFences'. -/
def kindFencesUptoCard : Claim7 := { stood := { row := kindFencesUptoRow, standIns := [], harness := (true, "3138d95b648d28867df48fb05d272d83c2ccdff6f6be5549ad7af8d60d25ce0f"), looks := false }, kinds := [], alts := [], laidByText := true, laidKinds := [.data, .pinned], laidTests := true, laidLooks := .later }
def KindFencesUptoCardSaid : Prop := Claim7.holds Tryd.pinned (.plain (OpenSpec.upto kindFencesSpec)) kindFencesUptoCard

/-- THE SECOND FORM's CARD OF 'emendationlaw11.KindMarks'. -/
def kindMarksUptoCard : Claim7 := { stood := { row := kindMarksUptoRow, standIns := [], harness := (true, "3138d95b648d28867df48fb05d272d83c2ccdff6f6be5549ad7af8d60d25ce0f"), looks := false }, kinds := [], alts := [], laidByText := true, laidKinds := [.data, .pinned], laidTests := true, laidLooks := .later }
def KindMarksUptoCardSaid : Prop := Claim7.holds Tryd.pinned (.plain (OpenSpec.upto kindMarksSpec)) kindMarksUptoCard

/-- THE SECOND FORM's CARD OF 'emendationlaw11.KindTells'. -/
def kindTellsUptoCard : Claim7 := { stood := { row := kindTellsUptoRow, standIns := [], harness := (true, "3138d95b648d28867df48fb05d272d83c2ccdff6f6be5549ad7af8d60d25ce0f"), looks := false }, kinds := [], alts := [], laidByText := true, laidKinds := [.data, .pinned], laidTests := true, laidLooks := .later }
def KindTellsUptoCardSaid : Prop := Claim7.holds Tryd.pinned (.plain (OpenSpec.upto kindTellsSpec)) kindTellsUptoCard
end Rows
end Go.Proofs.YticaofendehebaaDoor
