/-
  DERIVED. GIVEN WITH THE SEED: THE CARDS: each row of YtfiehjbijdmbaaaDoorRows.lean that lists a variable, with what it lists TIED to the program's text (the seventh form; the later family's looks); each row that meets fmt, with fmt's text TOLD by the authors' own Lean function (tested against real Go, not proved from fmt's source: count such statements apart). THE CARD IS WHAT COUNTS. Prove the row's statement (the work); the ties are given (YtfiehjbijdmbaaaDoorTie.lean); close each card by the builder's one call (the guide's Derived/Test/ToyasCard.lean, 'card_holds'). Laid BY PROGRAM, IN A SANDBOX (cutbox-door.mjs). By AI agents, Wed Nov 11 2026. No macro, syntax, notation, axiom, sorry.
-/
import Derived.Test.YtfiehjbijdmbaaaDoorRows
import GoSem.ClaimSeven
namespace Go.Proofs.YtfiehjbijdmbaaaDoor
namespace Rows

/-- THE TIED CARD OF 'leaseholdlaw39.CacheMatchesReference'. -/
def cacheMatchesReferenceCard : Claim7 := { stood := { row := cacheMatchesReferenceRow, standIns := [], harness := (true, "03134a29ab2b94c63d680618cd306a300196e8dd189346c82f9bd065e10d5846"), looks := false }, kinds := [], alts := [], laidByText := true, laidKinds := [.data, .data, .data], laidTests := true, laidLooks := .later }
def CacheMatchesReferenceCardSaid : Prop := Claim7.holds Tryd.pinned (.plain (OpenSpec.ofChange cacheMatchesReferenceSpec)) cacheMatchesReferenceCard

/-- THE TIED CARD OF 'leaseholdlaw39.CachePuts'. -/
def cachePutsCard : Claim7 := { stood := { row := cachePutsRow, standIns := [], harness := (true, "03134a29ab2b94c63d680618cd306a300196e8dd189346c82f9bd065e10d5846"), looks := false }, kinds := [], alts := [], laidByText := true, laidKinds := [.data, .data, .data], laidTests := true, laidLooks := .later }
def CachePutsCardSaid : Prop := Claim7.holds Tryd.pinned (.plain (OpenSpec.ofChange cachePutsSpec)) cachePutsCard

/-- THE TIED CARD OF 'leaseholdlaw39.CacheDamage'. -/
def cacheDamageCard : Claim7 := { stood := { row := cacheDamageRow, standIns := [], harness := (true, "03134a29ab2b94c63d680618cd306a300196e8dd189346c82f9bd065e10d5846"), looks := false }, kinds := [], alts := [], laidByText := true, laidKinds := [.data, .data, .data], laidTests := true, laidLooks := .later }
def CacheDamageCardSaid : Prop := Claim7.holds Tryd.pinned (.plain (OpenSpec.ofChange cacheDamageSpec)) cacheDamageCard

/-- THE TIED CARD OF 'leaseholdlaw39.CacheTrims'. -/
def cacheTrimsCard : Claim7 := { stood := { row := cacheTrimsRow, standIns := [], harness := (true, "03134a29ab2b94c63d680618cd306a300196e8dd189346c82f9bd065e10d5846"), looks := false }, kinds := [], alts := [], laidByText := true, laidKinds := [.data, .data, .data], laidTests := true, laidLooks := .later }
def CacheTrimsCardSaid : Prop := Claim7.holds Tryd.pinned (.plain (OpenSpec.ofChange cacheTrimsSpec)) cacheTrimsCard

/-- THE TIED CARD OF 'leaseholdlaw39.CacheSound'. -/
def cacheSoundCard : Claim7 := { stood := { row := cacheSoundRow, standIns := [], harness := (true, "03134a29ab2b94c63d680618cd306a300196e8dd189346c82f9bd065e10d5846"), looks := false }, kinds := [], alts := [], laidByText := true, laidKinds := [.data, .data, .data], laidTests := true, laidLooks := .later }
def CacheSoundCardSaid : Prop := Claim7.holds Tryd.pinned (.plain (OpenSpec.ofChange cacheSoundSpec)) cacheSoundCard

/-- THE TIED CARD OF 'leaseholdlaw39.CacheOrder'. -/
def cacheOrderCard : Claim7 := { stood := { row := cacheOrderRow, standIns := [], harness := (true, "03134a29ab2b94c63d680618cd306a300196e8dd189346c82f9bd065e10d5846"), looks := false }, kinds := [], alts := [], laidByText := true, laidKinds := [.data, .data, .data], laidTests := true, laidLooks := .later }
def CacheOrderCardSaid : Prop := Claim7.holds Tryd.pinned (.plain (OpenSpec.ofChange cacheOrderSpec)) cacheOrderCard

/-- THE SECOND FORM's CARD OF 'leaseholdlaw39.CacheMatchesReference'. -/
def cacheMatchesReferenceUptoCard : Claim7 := { stood := { row := cacheMatchesReferenceUptoRow, standIns := [], harness := (true, "03134a29ab2b94c63d680618cd306a300196e8dd189346c82f9bd065e10d5846"), looks := false }, kinds := [], alts := [], laidByText := true, laidKinds := [.data, .data, .data], laidTests := true, laidLooks := .later }
def CacheMatchesReferenceUptoCardSaid : Prop := Claim7.holds Tryd.pinned (.plain (OpenSpec.upto cacheMatchesReferenceSpec)) cacheMatchesReferenceUptoCard

/-- THE SECOND FORM's CARD OF 'leaseholdlaw39.CachePuts'. -/
def cachePutsUptoCard : Claim7 := { stood := { row := cachePutsUptoRow, standIns := [], harness := (true, "03134a29ab2b94c63d680618cd306a300196e8dd189346c82f9bd065e10d5846"), looks := false }, kinds := [], alts := [], laidByText := true, laidKinds := [.data, .data, .data], laidTests := true, laidLooks := .later }
def CachePutsUptoCardSaid : Prop := Claim7.holds Tryd.pinned (.plain (OpenSpec.upto cachePutsSpec)) cachePutsUptoCard

/-- THE SECOND FORM's CARD OF 'leaseholdlaw39.CacheDamage'. -/
def cacheDamageUptoCard : Claim7 := { stood := { row := cacheDamageUptoRow, standIns := [], harness := (true, "03134a29ab2b94c63d680618cd306a300196e8dd189346c82f9bd065e10d5846"), looks := false }, kinds := [], alts := [], laidByText := true, laidKinds := [.data, .data, .data], laidTests := true, laidLooks := .later }
def CacheDamageUptoCardSaid : Prop := Claim7.holds Tryd.pinned (.plain (OpenSpec.upto cacheDamageSpec)) cacheDamageUptoCard

/-- THE SECOND FORM's CARD OF 'leaseholdlaw39.CacheTrims'. -/
def cacheTrimsUptoCard : Claim7 := { stood := { row := cacheTrimsUptoRow, standIns := [], harness := (true, "03134a29ab2b94c63d680618cd306a300196e8dd189346c82f9bd065e10d5846"), looks := false }, kinds := [], alts := [], laidByText := true, laidKinds := [.data, .data, .data], laidTests := true, laidLooks := .later }
def CacheTrimsUptoCardSaid : Prop := Claim7.holds Tryd.pinned (.plain (OpenSpec.upto cacheTrimsSpec)) cacheTrimsUptoCard

/-- THE SECOND FORM's CARD OF 'leaseholdlaw39.CacheSound'. -/
def cacheSoundUptoCard : Claim7 := { stood := { row := cacheSoundUptoRow, standIns := [], harness := (true, "03134a29ab2b94c63d680618cd306a300196e8dd189346c82f9bd065e10d5846"), looks := false }, kinds := [], alts := [], laidByText := true, laidKinds := [.data, .data, .data], laidTests := true, laidLooks := .later }
def CacheSoundUptoCardSaid : Prop := Claim7.holds Tryd.pinned (.plain (OpenSpec.upto cacheSoundSpec)) cacheSoundUptoCard

/-- THE SECOND FORM's CARD OF 'leaseholdlaw39.CacheOrder'. -/
def cacheOrderUptoCard : Claim7 := { stood := { row := cacheOrderUptoRow, standIns := [], harness := (true, "03134a29ab2b94c63d680618cd306a300196e8dd189346c82f9bd065e10d5846"), looks := false }, kinds := [], alts := [], laidByText := true, laidKinds := [.data, .data, .data], laidTests := true, laidLooks := .later }
def CacheOrderUptoCardSaid : Prop := Claim7.holds Tryd.pinned (.plain (OpenSpec.upto cacheOrderSpec)) cacheOrderUptoCard
end Rows
end Go.Proofs.YtfiehjbijdmbaaaDoor
