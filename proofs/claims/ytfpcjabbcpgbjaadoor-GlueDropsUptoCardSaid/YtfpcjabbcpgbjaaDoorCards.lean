/-
  DERIVED. GIVEN WITH THE SEED: THE CARDS: each row of YtfpcjabbcpgbjaaDoorRows.lean that lists a variable, with what it lists TIED to the program's text (the seventh form; the later family's looks); each row that meets fmt, with fmt's text TOLD by the authors' own Lean function (tested against real Go, not proved from fmt's source: count such statements apart). THE CARD IS WHAT COUNTS. Prove the row's statement (the work); the ties are given (YtfpcjabbcpgbjaaDoorTie.lean); close each card by the builder's one call (the guide's Derived/Test/ToyasCard.lean, 'card_holds'). Laid BY PROGRAM, IN A SANDBOX (cutbox-door.mjs). By AI agents, Wed Nov 11 2026. No macro, syntax, notation, axiom, sorry.
-/
import Derived.Test.YtfpcjabbcpgbjaaDoorRows
import GoSem.ClaimSeven
namespace Go.Proofs.YtfpcjabbcpgbjaaDoor
namespace Rows

/-- THE TIED CARD OF 'leaseholdlaw25.GlueShapes'. -/
def glueShapesCard : Claim7 := { stood := { row := glueShapesRow, standIns := [], harness := (true, "6f3fa446eb2bd5c17c5d5fd5ee3214cad8334a9f094544dcc28f49df72690654"), looks := true }, kinds := [], alts := [], laidByText := true, laidKinds := [.data, .data, .data], laidTests := true, laidLooks := .later }
def GlueShapesCardSaid : Prop := Claim7.holds Tryd.pinned (.plain (OpenSpec.ofChange glueShapesSpec)) glueShapesCard

/-- THE TIED CARD OF 'leaseholdlaw25.GlueEquivalence'. -/
def glueEquivalenceCard : Claim7 := { stood := { row := glueEquivalenceRow, standIns := [], harness := (true, "6f3fa446eb2bd5c17c5d5fd5ee3214cad8334a9f094544dcc28f49df72690654"), looks := true }, kinds := [], alts := [], laidByText := true, laidKinds := [.data, .data, .data], laidTests := true, laidLooks := .later }
def GlueEquivalenceCardSaid : Prop := Claim7.holds Tryd.pinned (.plain (OpenSpec.ofChange glueEquivalenceSpec)) glueEquivalenceCard

/-- THE TIED CARD OF 'leaseholdlaw25.GlueNames'. -/
def glueNamesCard : Claim7 := { stood := { row := glueNamesRow, standIns := [], harness := (true, "6f3fa446eb2bd5c17c5d5fd5ee3214cad8334a9f094544dcc28f49df72690654"), looks := true }, kinds := [], alts := [], laidByText := true, laidKinds := [.data, .data, .data], laidTests := true, laidLooks := .later }
def GlueNamesCardSaid : Prop := Claim7.holds Tryd.pinned (.plain (OpenSpec.ofChange glueNamesSpec)) glueNamesCard

/-- THE TIED CARD OF 'leaseholdlaw25.GlueDrops'. -/
def glueDropsCard : Claim7 := { stood := { row := glueDropsRow, standIns := [], harness := (true, "6f3fa446eb2bd5c17c5d5fd5ee3214cad8334a9f094544dcc28f49df72690654"), looks := true }, kinds := [], alts := [], laidByText := true, laidKinds := [.data, .data, .data], laidTests := true, laidLooks := .later }
def GlueDropsCardSaid : Prop := Claim7.holds Tryd.pinned (.plain (OpenSpec.ofChange glueDropsSpec)) glueDropsCard

/-- THE SECOND FORM's CARD OF 'leaseholdlaw25.GlueShapes'. -/
def glueShapesUptoCard : Claim7 := { stood := { row := glueShapesUptoRow, standIns := [], harness := (true, "6f3fa446eb2bd5c17c5d5fd5ee3214cad8334a9f094544dcc28f49df72690654"), looks := true }, kinds := [], alts := [], laidByText := true, laidKinds := [.data, .data, .data], laidTests := true, laidLooks := .later }
def GlueShapesUptoCardSaid : Prop := Claim7.holds Tryd.pinned (.plain (OpenSpec.upto glueShapesSpec)) glueShapesUptoCard

/-- THE SECOND FORM's CARD OF 'leaseholdlaw25.GlueEquivalence'. -/
def glueEquivalenceUptoCard : Claim7 := { stood := { row := glueEquivalenceUptoRow, standIns := [], harness := (true, "6f3fa446eb2bd5c17c5d5fd5ee3214cad8334a9f094544dcc28f49df72690654"), looks := true }, kinds := [], alts := [], laidByText := true, laidKinds := [.data, .data, .data], laidTests := true, laidLooks := .later }
def GlueEquivalenceUptoCardSaid : Prop := Claim7.holds Tryd.pinned (.plain (OpenSpec.upto glueEquivalenceSpec)) glueEquivalenceUptoCard

/-- THE SECOND FORM's CARD OF 'leaseholdlaw25.GlueNames'. -/
def glueNamesUptoCard : Claim7 := { stood := { row := glueNamesUptoRow, standIns := [], harness := (true, "6f3fa446eb2bd5c17c5d5fd5ee3214cad8334a9f094544dcc28f49df72690654"), looks := true }, kinds := [], alts := [], laidByText := true, laidKinds := [.data, .data, .data], laidTests := true, laidLooks := .later }
def GlueNamesUptoCardSaid : Prop := Claim7.holds Tryd.pinned (.plain (OpenSpec.upto glueNamesSpec)) glueNamesUptoCard

/-- THE SECOND FORM's CARD OF 'leaseholdlaw25.GlueDrops'. -/
def glueDropsUptoCard : Claim7 := { stood := { row := glueDropsUptoRow, standIns := [], harness := (true, "6f3fa446eb2bd5c17c5d5fd5ee3214cad8334a9f094544dcc28f49df72690654"), looks := true }, kinds := [], alts := [], laidByText := true, laidKinds := [.data, .data, .data], laidTests := true, laidLooks := .later }
def GlueDropsUptoCardSaid : Prop := Claim7.holds Tryd.pinned (.plain (OpenSpec.upto glueDropsSpec)) glueDropsUptoCard
end Rows
end Go.Proofs.YtfpcjabbcpgbjaaDoor
