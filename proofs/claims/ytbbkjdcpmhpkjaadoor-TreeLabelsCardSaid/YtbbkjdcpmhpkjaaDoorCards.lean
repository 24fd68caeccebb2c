/-
  DERIVED. GIVEN WITH THE SEED: THE CARDS: each row of YtbbkjdcpmhpkjaaDoorRows.lean that lists a variable, with what it lists TIED to the program's text (the seventh form; the later family's looks); each row that meets fmt, with fmt's text TOLD by the authors' own Lean function (tested against real Go, not proved from fmt's source: count such statements apart). THE CARD IS WHAT COUNTS. Prove the row's statement (the work); the ties are given (YtbbkjdcpmhpkjaaDoorTie.lean); close each card by the builder's one call (the guide's Derived/Test/ToyasCard.lean, 'card_holds'). Laid BY PROGRAM, IN A SANDBOX (cutbox-door.mjs). By AI agents, Wed Nov 11 2026. No macro, syntax, notation, axiom, sorry.
-/
import Derived.Test.YtbbkjdcpmhpkjaaDoorRows
import GoSem.ClaimSeven
namespace Go.Proofs.YtbbkjdcpmhpkjaaDoor
namespace Rows

/-- THE TIED CARD OF 'emendationlaw10.TreeWraps'. -/
def treeWrapsCard : Claim7 := { stood := { row := treeWrapsRow, standIns := [], harness := (true, "df0860d940c69fdf32804f5fd73e87a482bc3f27f12ccaaad1855701a3b93d66"), looks := false }, kinds := [], alts := [], laidByText := true, laidKinds := [.data, .pinned], laidTests := true, laidLooks := .later }
def TreeWrapsCardSaid : Prop := Claim7.holds Tryd.pinned (.plain (OpenSpec.ofChange treeWrapsSpec)) treeWrapsCard

/-- THE TIED CARD OF 'emendationlaw10.TreeParts'. -/
def treePartsCard : Claim7 := { stood := { row := treePartsRow, standIns := [], harness := (true, "df0860d940c69fdf32804f5fd73e87a482bc3f27f12ccaaad1855701a3b93d66"), looks := false }, kinds := [], alts := [], laidByText := true, laidKinds := [.data, .pinned], laidTests := true, laidLooks := .later }
def TreePartsCardSaid : Prop := Claim7.holds Tryd.pinned (.plain (OpenSpec.ofChange treePartsSpec)) treePartsCard

/-- THE TIED CARD OF 'emendationlaw10.TreeCounts'. -/
def treeCountsCard : Claim7 := { stood := { row := treeCountsRow, standIns := [], harness := (true, "df0860d940c69fdf32804f5fd73e87a482bc3f27f12ccaaad1855701a3b93d66"), looks := false }, kinds := [], alts := [], laidByText := true, laidKinds := [.data, .pinned], laidTests := true, laidLooks := .later }
def TreeCountsCardSaid : Prop := Claim7.holds Tryd.pinned (.plain (OpenSpec.ofChange treeCountsSpec)) treeCountsCard

/-- THE TIED CARD OF 'emendationlaw10.TreeLabels'. -/
def treeLabelsCard : Claim7 := { stood := { row := treeLabelsRow, standIns := [], harness := (true, "df0860d940c69fdf32804f5fd73e87a482bc3f27f12ccaaad1855701a3b93d66"), looks := false }, kinds := [], alts := [], laidByText := true, laidKinds := [.data, .pinned], laidTests := true, laidLooks := .later }
def TreeLabelsCardSaid : Prop := Claim7.holds Tryd.pinned (.plain (OpenSpec.ofChange treeLabelsSpec)) treeLabelsCard

/-- THE SECOND FORM's CARD OF 'emendationlaw10.TreeWraps'. -/
def treeWrapsUptoCard : Claim7 := { stood := { row := treeWrapsUptoRow, standIns := [], harness := (true, "df0860d940c69fdf32804f5fd73e87a482bc3f27f12ccaaad1855701a3b93d66"), looks := false }, kinds := [], alts := [], laidByText := true, laidKinds := [.data, .pinned], laidTests := true, laidLooks := .later }
def TreeWrapsUptoCardSaid : Prop := Claim7.holds Tryd.pinned (.plain (OpenSpec.upto treeWrapsSpec)) treeWrapsUptoCard

/-- THE SECOND FORM's CARD OF 'emendationlaw10.TreeParts'. -/
def treePartsUptoCard : Claim7 := { stood := { row := treePartsUptoRow, standIns := [], harness := (true, "df0860d940c69fdf32804f5fd73e87a482bc3f27f12ccaaad1855701a3b93d66"), looks := false }, kinds := [], alts := [], laidByText := true, laidKinds := [.data, .pinned], laidTests := true, laidLooks := .later }
def TreePartsUptoCardSaid : Prop := Claim7.holds Tryd.pinned (.plain (OpenSpec.upto treePartsSpec)) treePartsUptoCard

/-- THE SECOND FORM's CARD OF 'emendationlaw10.TreeCounts'. -/
def treeCountsUptoCard : Claim7 := { stood := { row := treeCountsUptoRow, standIns := [], harness := (true, "df0860d940c69fdf32804f5fd73e87a482bc3f27f12ccaaad1855701a3b93d66"), looks := false }, kinds := [], alts := [], laidByText := true, laidKinds := [.data, .pinned], laidTests := true, laidLooks := .later }
def TreeCountsUptoCardSaid : Prop := Claim7.holds Tryd.pinned (.plain (OpenSpec.upto treeCountsSpec)) treeCountsUptoCard

/-- THE SECOND FORM's CARD OF 'emendationlaw10.TreeLabels'. -/
def treeLabelsUptoCard : Claim7 := { stood := { row := treeLabelsUptoRow, standIns := [], harness := (true, "df0860d940c69fdf32804f5fd73e87a482bc3f27f12ccaaad1855701a3b93d66"), looks := false }, kinds := [], alts := [], laidByText := true, laidKinds := [.data, .pinned], laidTests := true, laidLooks := .later }
def TreeLabelsUptoCardSaid : Prop := Claim7.holds Tryd.pinned (.plain (OpenSpec.upto treeLabelsSpec)) treeLabelsUptoCard
end Rows
end Go.Proofs.YtbbkjdcpmhpkjaaDoor
