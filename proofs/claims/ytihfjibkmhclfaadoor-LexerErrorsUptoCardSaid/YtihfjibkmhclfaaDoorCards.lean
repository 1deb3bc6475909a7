/-
  DERIVED. GIVEN WITH THE SEED: THE CARDS: each row of YtihfjibkmhclfaaDoorRows.lean that lists a variable, with what it lists TIED to the program's text (the seventh form; the later family's looks); each row that meets fmt, with fmt's text TOLD by the authors' own Lean function (tested against real Go, not proved from fmt's source: count such statements apart). THE CARD IS WHAT COUNTS. Prove the row's statement (the work); the ties are given (YtihfjibkmhclfaaDoorTie.lean); close each card by the builder's one call (the guide's Derived/Test/ToyasCard.lean, 'card_holds'). Laid BY PROGRAM, IN A SANDBOX (cutbox-door.mjs). By AI agents, Wed Nov 11 2026. No macro, syntax, notation, axiom, sorry.
-/
import Derived.Test.YtihfjibkmhclfaaDoorRows
import GoSem.ClaimSeven
namespace Go.Proofs.YtihfjibkmhclfaaDoor
namespace Rows

/-- THE TIED CARD OF 'leaseholdlaw01.LexerMatchesReference'. -/
def lexerMatchesReferenceCard : Claim7 := { stood := { row := lexerMatchesReferenceRow, standIns := [], harness := (true, "316d5b32aca034fced3b9e124d71f16fd1286fb59b33f47f7ceebc1037874517"), looks := true }, kinds := [], alts := [], laidByText := true, laidKinds := [.data, .data, .data, .sentinel, .sentinel, .listed, .data], laidTests := true, laidLooks := .later }
def LexerMatchesReferenceCardSaid : Prop := Claim7.holds Tryd.pinned (.plain (OpenSpec.ofChange lexerMatchesReferenceSpec)) lexerMatchesReferenceCard

/-- THE TIED CARD OF 'leaseholdlaw01.LexerCovers'. -/
def lexerCoversCard : Claim7 := { stood := { row := lexerCoversRow, standIns := [], harness := (true, "316d5b32aca034fced3b9e124d71f16fd1286fb59b33f47f7ceebc1037874517"), looks := true }, kinds := [], alts := [], laidByText := true, laidKinds := [.data, .data, .data, .sentinel, .sentinel, .listed, .data], laidTests := true, laidLooks := .later }
def LexerCoversCardSaid : Prop := Claim7.holds Tryd.pinned (.plain (OpenSpec.ofChange lexerCoversSpec)) lexerCoversCard

/-- THE TIED CARD OF 'leaseholdlaw01.LexerLongest'. -/
def lexerLongestCard : Claim7 := { stood := { row := lexerLongestRow, standIns := [], harness := (true, "316d5b32aca034fced3b9e124d71f16fd1286fb59b33f47f7ceebc1037874517"), looks := true }, kinds := [], alts := [], laidByText := true, laidKinds := [.data, .data, .data, .sentinel, .sentinel, .listed, .data], laidTests := true, laidLooks := .later }
def LexerLongestCardSaid : Prop := Claim7.holds Tryd.pinned (.plain (OpenSpec.ofChange lexerLongestSpec)) lexerLongestCard

/-- THE TIED CARD OF 'leaseholdlaw01.LexerConcatenates'. -/
def lexerConcatenatesCard : Claim7 := { stood := { row := lexerConcatenatesRow, standIns := [], harness := (true, "316d5b32aca034fced3b9e124d71f16fd1286fb59b33f47f7ceebc1037874517"), looks := true }, kinds := [], alts := [], laidByText := true, laidKinds := [.data, .data, .data, .sentinel, .sentinel, .listed, .data], laidTests := true, laidLooks := .later }
def LexerConcatenatesCardSaid : Prop := Claim7.holds Tryd.pinned (.plain (OpenSpec.ofChange lexerConcatenatesSpec)) lexerConcatenatesCard

/-- THE TIED CARD OF 'leaseholdlaw01.LexerSeparates'. -/
def lexerSeparatesCard : Claim7 := { stood := { row := lexerSeparatesRow, standIns := [], harness := (true, "316d5b32aca034fced3b9e124d71f16fd1286fb59b33f47f7ceebc1037874517"), looks := true }, kinds := [], alts := [], laidByText := true, laidKinds := [.data, .data, .data, .sentinel, .sentinel, .listed, .data], laidTests := true, laidLooks := .later }
def LexerSeparatesCardSaid : Prop := Claim7.holds Tryd.pinned (.plain (OpenSpec.ofChange lexerSeparatesSpec)) lexerSeparatesCard

/-- THE TIED CARD OF 'leaseholdlaw01.LexerErrors'. -/
def lexerErrorsCard : Claim7 := { stood := { row := lexerErrorsRow, standIns := [], harness := (true, "316d5b32aca034fced3b9e124d71f16fd1286fb59b33f47f7ceebc1037874517"), looks := true }, kinds := [], alts := [], laidByText := true, laidKinds := [.data, .data, .data, .sentinel, .sentinel, .listed, .data], laidTests := true, laidLooks := .later }
def LexerErrorsCardSaid : Prop := Claim7.holds Tryd.pinned (.plain (OpenSpec.ofChange lexerErrorsSpec)) lexerErrorsCard

/-- THE SECOND FORM's CARD OF 'leaseholdlaw01.LexerMatchesReference'. -/
def lexerMatchesReferenceUptoCard : Claim7 := { stood := { row := lexerMatchesReferenceUptoRow, standIns := [], harness := (true, "316d5b32aca034fced3b9e124d71f16fd1286fb59b33f47f7ceebc1037874517"), looks := true }, kinds := [], alts := [], laidByText := true, laidKinds := [.data, .data, .data, .sentinel, .sentinel, .listed, .data], laidTests := true, laidLooks := .later }
def LexerMatchesReferenceUptoCardSaid : Prop := Claim7.holds Tryd.pinned (.plain (OpenSpec.upto lexerMatchesReferenceSpec)) lexerMatchesReferenceUptoCard

/-- THE SECOND FORM's CARD OF 'leaseholdlaw01.LexerCovers'. -/
def lexerCoversUptoCard : Claim7 := { stood := { row := lexerCoversUptoRow, standIns := [], harness := (true, "316d5b32aca034fced3b9e124d71f16fd1286fb59b33f47f7ceebc1037874517"), looks := true }, kinds := [], alts := [], laidByText := true, laidKinds := [.data, .data, .data, .sentinel, .sentinel, .listed, .data], laidTests := true, laidLooks := .later }
def LexerCoversUptoCardSaid : Prop := Claim7.holds Tryd.pinned (.plain (OpenSpec.upto lexerCoversSpec)) lexerCoversUptoCard

/-- THE SECOND FORM's CARD OF 'leaseholdlaw01.LexerLongest'. -/
def lexerLongestUptoCard : Claim7 := { stood := { row := lexerLongestUptoRow, standIns := [], harness := (true, "316d5b32aca034fced3b9e124d71f16fd1286fb59b33f47f7ceebc1037874517"), looks := true }, kinds := [], alts := [], laidByText := true, laidKinds := [.data, .data, .data, .sentinel, .sentinel, .listed, .data], laidTests := true, laidLooks := .later }
def LexerLongestUptoCardSaid : Prop := Claim7.holds Tryd.pinned (.plain (OpenSpec.upto lexerLongestSpec)) lexerLongestUptoCard

/-- THE SECOND FORM's CARD OF 'leaseholdlaw01.LexerConcatenates'. -/
def lexerConcatenatesUptoCard : Claim7 := { stood := { row := lexerConcatenatesUptoRow, standIns := [], harness := (true, "316d5b32aca034fced3b9e124d71f16fd1286fb59b33f47f7ceebc1037874517"), looks := true }, kinds := [], alts := [], laidByText := true, laidKinds := [.data, .data, .data, .sentinel, .sentinel, .listed, .data], laidTests := true, laidLooks := .later }
def LexerConcatenatesUptoCardSaid : Prop := Claim7.holds Tryd.pinned (.plain (OpenSpec.upto lexerConcatenatesSpec)) lexerConcatenatesUptoCard

/-- THE SECOND FORM's CARD OF 'leaseholdlaw01.LexerSeparates'. -/
def lexerSeparatesUptoCard : Claim7 := { stood := { row := lexerSeparatesUptoRow, standIns := [], harness := (true, "316d5b32aca034fced3b9e124d71f16fd1286fb59b33f47f7ceebc1037874517"), looks := true }, kinds := [], alts := [], laidByText := true, laidKinds := [.data, .data, .data, .sentinel, .sentinel, .listed, .data], laidTests := true, laidLooks := .later }
def LexerSeparatesUptoCardSaid : Prop := Claim7.holds Tryd.pinned (.plain (OpenSpec.upto lexerSeparatesSpec)) lexerSeparatesUptoCard

/-- THE SECOND FORM's CARD OF 'leaseholdlaw01.LexerErrors'. -/
def lexerErrorsUptoCard : Claim7 := { stood := { row := lexerErrorsUptoRow, standIns := [], harness := (true, "316d5b32aca034fced3b9e124d71f16fd1286fb59b33f47f7ceebc1037874517"), looks := true }, kinds := [], alts := [], laidByText := true, laidKinds := [.data, .data, .data, .sentinel, .sentinel, .listed, .data], laidTests := true, laidLooks := .later }
def LexerErrorsUptoCardSaid : Prop := Claim7.holds Tryd.pinned (.plain (OpenSpec.upto lexerErrorsSpec)) lexerErrorsUptoCard
end Rows
end Go.Proofs.YtihfjibkmhclfaaDoor
