/-
  DERIVED. GIVEN WITH THE SEED: THE CARDS: each row of YtffmphmiicnaeaaDoorRows.lean that lists a variable, with what it lists TIED to the program's text (the seventh form; the later family's looks); each row that meets fmt, with fmt's text TOLD by the authors' own Lean function (tested against real Go, not proved from fmt's source: count such statements apart). THE CARD IS WHAT COUNTS. Prove the row's statement (the work); the ties are given (YtffmphmiicnaeaaDoorTie.lean); close each card by the builder's one call (the guide's Derived/Test/ToyasCard.lean, 'card_holds'). Laid BY PROGRAM, IN A SANDBOX (cutbox-door.mjs). By AI agents, Wed Nov 11 2026. No macro, syntax, notation, axiom, sorry.
-/
import Derived.Test.YtffmphmiicnaeaaDoorRows
import GoSem.ClaimSeven
namespace Go.Proofs.YtffmphmiicnaeaaDoor
namespace Rows

/-- THE TIED CARD OF 'leaseholdlaw09.LiftMatchesReference'. -/
def liftMatchesReferenceCard : Claim7 := { stood := { row := liftMatchesReferenceRow, standIns := [], harness := (true, "039ce9e5410f6f671cd92a346c98ca43f2beced9adff28a025c3ed34406fe49a"), looks := true }, kinds := [], alts := [], laidByText := true, laidKinds := [.data, .data, .data], laidTests := true, laidLooks := .later }
def LiftMatchesReferenceCardSaid : Prop := Claim7.holds Tryd.pinned (.plain (OpenSpec.ofChange liftMatchesReferenceSpec)) liftMatchesReferenceCard

/-- THE TIED CARD OF 'leaseholdlaw09.LiftCalls'. -/
def liftCallsCard : Claim7 := { stood := { row := liftCallsRow, standIns := [], harness := (true, "039ce9e5410f6f671cd92a346c98ca43f2beced9adff28a025c3ed34406fe49a"), looks := true }, kinds := [], alts := [], laidByText := true, laidKinds := [.data, .data, .data], laidTests := true, laidLooks := .later }
def LiftCallsCardSaid : Prop := Claim7.holds Tryd.pinned (.plain (OpenSpec.ofChange liftCallsSpec)) liftCallsCard

/-- THE TIED CARD OF 'leaseholdlaw09.LiftParts'. -/
def liftPartsCard : Claim7 := { stood := { row := liftPartsRow, standIns := [], harness := (true, "039ce9e5410f6f671cd92a346c98ca43f2beced9adff28a025c3ed34406fe49a"), looks := true }, kinds := [], alts := [], laidByText := true, laidKinds := [.data, .data, .data], laidTests := true, laidLooks := .later }
def LiftPartsCardSaid : Prop := Claim7.holds Tryd.pinned (.plain (OpenSpec.ofChange liftPartsSpec)) liftPartsCard

/-- THE TIED CARD OF 'leaseholdlaw09.LiftOrder'. -/
def liftOrderCard : Claim7 := { stood := { row := liftOrderRow, standIns := [], harness := (true, "039ce9e5410f6f671cd92a346c98ca43f2beced9adff28a025c3ed34406fe49a"), looks := true }, kinds := [], alts := [], laidByText := true, laidKinds := [.data, .data, .data], laidTests := true, laidLooks := .later }
def LiftOrderCardSaid : Prop := Claim7.holds Tryd.pinned (.plain (OpenSpec.ofChange liftOrderSpec)) liftOrderCard

/-- THE SECOND FORM's CARD OF 'leaseholdlaw09.LiftMatchesReference'. -/
def liftMatchesReferenceUptoCard : Claim7 := { stood := { row := liftMatchesReferenceUptoRow, standIns := [], harness := (true, "039ce9e5410f6f671cd92a346c98ca43f2beced9adff28a025c3ed34406fe49a"), looks := true }, kinds := [], alts := [], laidByText := true, laidKinds := [.data, .data, .data], laidTests := true, laidLooks := .later }
def LiftMatchesReferenceUptoCardSaid : Prop := Claim7.holds Tryd.pinned (.plain (OpenSpec.upto liftMatchesReferenceSpec)) liftMatchesReferenceUptoCard

/-- THE SECOND FORM's CARD OF 'leaseholdlaw09.LiftCalls'. -/
def liftCallsUptoCard : Claim7 := { stood := { row := liftCallsUptoRow, standIns := [], harness := (true, "039ce9e5410f6f671cd92a346c98ca43f2beced9adff28a025c3ed34406fe49a"), looks := true }, kinds := [], alts := [], laidByText := true, laidKinds := [.data, .data, .data], laidTests := true, laidLooks := .later }
def LiftCallsUptoCardSaid : Prop := Claim7.holds Tryd.pinned (.plain (OpenSpec.upto liftCallsSpec)) liftCallsUptoCard

/-- THE SECOND FORM's CARD OF 'leaseholdlaw09.LiftParts'. -/
def liftPartsUptoCard : Claim7 := { stood := { row := liftPartsUptoRow, standIns := [], harness := (true, "039ce9e5410f6f671cd92a346c98ca43f2beced9adff28a025c3ed34406fe49a"), looks := true }, kinds := [], alts := [], laidByText := true, laidKinds := [.data, .data, .data], laidTests := true, laidLooks := .later }
def LiftPartsUptoCardSaid : Prop := Claim7.holds Tryd.pinned (.plain (OpenSpec.upto liftPartsSpec)) liftPartsUptoCard

/-- THE SECOND FORM's CARD OF 'leaseholdlaw09.LiftOrder'. -/
def liftOrderUptoCard : Claim7 := { stood := { row := liftOrderUptoRow, standIns := [], harness := (true, "039ce9e5410f6f671cd92a346c98ca43f2beced9adff28a025c3ed34406fe49a"), looks := true }, kinds := [], alts := [], laidByText := true, laidKinds := [.data, .data, .data], laidTests := true, laidLooks := .later }
def LiftOrderUptoCardSaid : Prop := Claim7.holds Tryd.pinned (.plain (OpenSpec.upto liftOrderSpec)) liftOrderUptoCard
end Rows
end Go.Proofs.YtffmphmiicnaeaaDoor
