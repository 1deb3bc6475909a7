/-
  NARROWER THAN 'FOR EVERY INPUT', by the rows' own cells (each row's printed sentence says how): UnwindMatchesReference: loops · UnwindOrders: loops · UnwindLeavesNothing: loops · UnwindAccounts: loops · UnwindOthers: loops · UnwindStops: loops.
  DERIVED. THE GIVEN ROWS OF THIS SEAT. 6 by the template 'for every input the law returns true; each argument reads behind the call as it read before'; 0 by the template 'total and deterministic' (their statements: YtfgjjnfdcgkpoaaTotals.lean).
  GIVEN WITH THE SEED: the statements are not yours to turn. If you find one false, say at which input.
  Laid BY PROGRAM, IN A SANDBOX (cutbox-rows.mjs): the forced cells as the released guide's own fill.sh prints them over the translation b2f17fa85b0852ae… (all of the seat's roots in one cut). By AI agents, Wed Nov 11 2026. No macro, syntax, notation, axiom, sorry.
-/
import Derived.Test.YtfgjjnfdcgkpoaaChecked
import GoSem.Claim
import GoSem.ClaimJoined
import GoSem.ClaimMapViews
import Derived.JoinedTies
import Derived.KernelRfl
namespace Go.Proofs.Ytfgjjnfdcgkpoaa
/- THE CELL 'sum', in the pinned program and in every row, IS THE sha256 OF THE DUMP (.gsa) THAT YtfgjjnfdcgkpoaaProg.lean LOADS. Nothing in Lean hashes anything: it is a label: what it is worth is what the hold of that sum in a sandbox is worth. -/
noncomputable def Try.pinned : Pinned := { name := "ytfgjjnfdcgkpoaa", sum := "b2f17fa85b0852ae7baa9e86e20c70017a13cc04cdc8af54dc0bece4a1fa2e50", checked := Try.checked }
namespace Rows
def none {H : Type} : Left H := { results := [], args := [] }

/-- 'leaseholdlaw31.UnwindMatchesReference': WHATEVER THE INPUT: true; the input reads as it did. -/
def unwindMatchesReferenceSpec : ChangeSpec := { name := "unwindMatchesReference", fn := fun _ => fun
  | [d1, d2, d3, d4] => { results := [.lit (.bool true)], args := [d1, d2, d3, d4] }
  | _ => none }
def unwindMatchesReferenceRow : OpenClaim := { program := "ytfgjjnfdcgkpoaa", sum := "b2f17fa85b0852ae7baa9e86e20c70017a13cc04cdc8af54dc0bece4a1fa2e50", func := "leasehold/leaseholdlaw31.UnwindMatchesReference", spec := "unwindMatchesReference", unfollowed := true, recurses := true, loops := true, apart := false }
def UnwindMatchesReferenceSaid : Prop := unwindMatchesReferenceRow.holds Try.pinned (OpenSpec.ofChange unwindMatchesReferenceSpec)

/-- ITS FALSE NEIGHBOUR: 'it returns false'. Refute it at one input. -/
def unwindMatchesReferenceWrong : ChangeSpec := { name := "unwindMatchesReference", fn := fun _ => fun
  | [d1, d2, d3, d4] => { results := [.lit (.bool false)], args := [d1, d2, d3, d4] }
  | _ => none }
def UnwindMatchesReferenceWrongFalsely : Prop := unwindMatchesReferenceRow.holds Try.pinned (OpenSpec.ofChange unwindMatchesReferenceWrong)

/-- 'leaseholdlaw31.UnwindOrders': WHATEVER THE INPUT: true; the input reads as it did. -/
def unwindOrdersSpec : ChangeSpec := { name := "unwindOrders", fn := fun _ => fun
  | [d] => { results := [.lit (.bool true)], args := [d] }
  | _ => none }
def unwindOrdersRow : OpenClaim := { program := "ytfgjjnfdcgkpoaa", sum := "b2f17fa85b0852ae7baa9e86e20c70017a13cc04cdc8af54dc0bece4a1fa2e50", func := "leasehold/leaseholdlaw31.UnwindOrders", spec := "unwindOrders", unfollowed := true, recurses := true, loops := true, apart := false }
def UnwindOrdersSaid : Prop := unwindOrdersRow.holds Try.pinned (OpenSpec.ofChange unwindOrdersSpec)

/-- ITS FALSE NEIGHBOUR: 'it returns false'. Refute it at one input. -/
def unwindOrdersWrong : ChangeSpec := { name := "unwindOrders", fn := fun _ => fun
  | [d] => { results := [.lit (.bool false)], args := [d] }
  | _ => none }
def UnwindOrdersWrongFalsely : Prop := unwindOrdersRow.holds Try.pinned (OpenSpec.ofChange unwindOrdersWrong)

/-- 'leaseholdlaw31.UnwindLeavesNothing': WHATEVER THE INPUT: true; the input reads as it did. -/
def unwindLeavesNothingSpec : ChangeSpec := { name := "unwindLeavesNothing", fn := fun _ => fun
  | [d1, d2, d3] => { results := [.lit (.bool true)], args := [d1, d2, d3] }
  | _ => none }
def unwindLeavesNothingRow : OpenClaim := { program := "ytfgjjnfdcgkpoaa", sum := "b2f17fa85b0852ae7baa9e86e20c70017a13cc04cdc8af54dc0bece4a1fa2e50", func := "leasehold/leaseholdlaw31.UnwindLeavesNothing", spec := "unwindLeavesNothing", unfollowed := true, recurses := true, loops := true, apart := false }
def UnwindLeavesNothingSaid : Prop := unwindLeavesNothingRow.holds Try.pinned (OpenSpec.ofChange unwindLeavesNothingSpec)

/-- ITS FALSE NEIGHBOUR: 'it returns false'. Refute it at one input. -/
def unwindLeavesNothingWrong : ChangeSpec := { name := "unwindLeavesNothing", fn := fun _ => fun
  | [d1, d2, d3] => { results := [.lit (.bool false)], args := [d1, d2, d3] }
  | _ => none }
def UnwindLeavesNothingWrongFalsely : Prop := unwindLeavesNothingRow.holds Try.pinned (OpenSpec.ofChange unwindLeavesNothingWrong)

/-- 'leaseholdlaw31.UnwindAccounts': WHATEVER THE INPUT: true; the input reads as it did. -/
def unwindAccountsSpec : ChangeSpec := { name := "unwindAccounts", fn := fun _ => fun
  | [d1, d2] => { results := [.lit (.bool true)], args := [d1, d2] }
  | _ => none }
def unwindAccountsRow : OpenClaim := { program := "ytfgjjnfdcgkpoaa", sum := "b2f17fa85b0852ae7baa9e86e20c70017a13cc04cdc8af54dc0bece4a1fa2e50", func := "leasehold/leaseholdlaw31.UnwindAccounts", spec := "unwindAccounts", unfollowed := true, recurses := true, loops := true, apart := false }
def UnwindAccountsSaid : Prop := unwindAccountsRow.holds Try.pinned (OpenSpec.ofChange unwindAccountsSpec)

/-- ITS FALSE NEIGHBOUR: 'it returns false'. Refute it at one input. -/
def unwindAccountsWrong : ChangeSpec := { name := "unwindAccounts", fn := fun _ => fun
  | [d1, d2] => { results := [.lit (.bool false)], args := [d1, d2] }
  | _ => none }
def UnwindAccountsWrongFalsely : Prop := unwindAccountsRow.holds Try.pinned (OpenSpec.ofChange unwindAccountsWrong)

/-- 'leaseholdlaw31.UnwindOthers': WHATEVER THE INPUT: true; the input reads as it did. -/
def unwindOthersSpec : ChangeSpec := { name := "unwindOthers", fn := fun _ => fun
  | [d1, d2] => { results := [.lit (.bool true)], args := [d1, d2] }
  | _ => none }
def unwindOthersRow : OpenClaim := { program := "ytfgjjnfdcgkpoaa", sum := "b2f17fa85b0852ae7baa9e86e20c70017a13cc04cdc8af54dc0bece4a1fa2e50", func := "leasehold/leaseholdlaw31.UnwindOthers", spec := "unwindOthers", unfollowed := true, recurses := true, loops := true, apart := false }
def UnwindOthersSaid : Prop := unwindOthersRow.holds Try.pinned (OpenSpec.ofChange unwindOthersSpec)

/-- ITS FALSE NEIGHBOUR: 'it returns false'. Refute it at one input. -/
def unwindOthersWrong : ChangeSpec := { name := "unwindOthers", fn := fun _ => fun
  | [d1, d2] => { results := [.lit (.bool false)], args := [d1, d2] }
  | _ => none }
def UnwindOthersWrongFalsely : Prop := unwindOthersRow.holds Try.pinned (OpenSpec.ofChange unwindOthersWrong)

/-- 'leaseholdlaw31.UnwindStops': WHATEVER THE INPUT: true; the input reads as it did. -/
def unwindStopsSpec : ChangeSpec := { name := "unwindStops", fn := fun _ => fun
  | [d1, d2] => { results := [.lit (.bool true)], args := [d1, d2] }
  | _ => none }
def unwindStopsRow : OpenClaim := { program := "ytfgjjnfdcgkpoaa", sum := "b2f17fa85b0852ae7baa9e86e20c70017a13cc04cdc8af54dc0bece4a1fa2e50", func := "leasehold/leaseholdlaw31.UnwindStops", spec := "unwindStops", unfollowed := true, recurses := true, loops := true, apart := false }
def UnwindStopsSaid : Prop := unwindStopsRow.holds Try.pinned (OpenSpec.ofChange unwindStopsSpec)

/-- ITS FALSE NEIGHBOUR: 'it returns false'. Refute it at one input. -/
def unwindStopsWrong : ChangeSpec := { name := "unwindStops", fn := fun _ => fun
  | [d1, d2] => { results := [.lit (.bool false)], args := [d1, d2] }
  | _ => none }
def UnwindStopsWrongFalsely : Prop := unwindStopsRow.holds Try.pinned (OpenSpec.ofChange unwindStopsWrong)

/- THE SECOND FORM. 'bulk': how many values and letters a reading holds, each counted each time it is reached (what is shared counts as often as it is met; a slice's spare places count too). A statement '..UptoSaid' is the law's where the arguments, and the package variables that the reading takes, are together of bulk at most 1048576: NARROWER than '..Said'. Prove '..Said' where nothing that the law and all that it calls make is longer than what came in: it says more and counts as full. Else prove '..UptoSaid'. A law counts once. -/
mutual
def uptoBulk {H : Type} : DataW H → Nat
  | .lit (.string bytes) => bytes.length + 1
  | .lit _ => 1
  | .nil => 1
  | .ptr d => uptoBulk d + 1
  | .slice elems spare => uptoBulkAll elems + uptoBulkAll spare + 1
  | .agg parts => uptoBulkAll parts + 1
  | .iface _ d => uptoBulk d + 1
  | .map entries => uptoBulkEntries entries + 1
  | .held _ => 1
def uptoBulkAll {H : Type} : List (DataW H) → Nat
  | [] => 0
  | d :: r => uptoBulk d + uptoBulkAll r
def uptoBulkEntries {H : Type} : List (Lit × DataW H) → Nat
  | [] => 0
  | x :: r => uptoBulkEntry x + uptoBulkEntries r
def uptoBulkEntry {H : Type} : Lit × DataW H → Nat
  | (.string bytes, d) => bytes.length + uptoBulk d + 1
  | (_, d) => uptoBulk d + 1
 end
def uptoSmall : (H : Type) → List (DataW H) → Bool := fun _ ds => decide (uptoBulkAll ds ≤ 1048576)
def OpenSpec.upto (s : _root_.Go.ChangeSpec) : _root_.Go.OpenSpec := { _root_.Go.OpenSpec.ofChange s with cond := some uptoSmall }

/-- 'leaseholdlaw31.UnwindMatchesReference', WHERE WHAT IT READS IS OF BULK AT MOST 1048576: true; the input reads as it did. -/
def unwindMatchesReferenceUptoRow : OpenClaim := { program := "ytfgjjnfdcgkpoaa", sum := "b2f17fa85b0852ae7baa9e86e20c70017a13cc04cdc8af54dc0bece4a1fa2e50", func := "leasehold/leaseholdlaw31.UnwindMatchesReference", spec := "unwindMatchesReference", unfollowed := true, recurses := true, loops := true, apart := false, narrowed := true }
def UnwindMatchesReferenceUptoSaid : Prop := unwindMatchesReferenceUptoRow.holds Try.pinned (OpenSpec.upto unwindMatchesReferenceSpec)

/-- 'leaseholdlaw31.UnwindOrders', WHERE WHAT IT READS IS OF BULK AT MOST 1048576: true; the input reads as it did. -/
def unwindOrdersUptoRow : OpenClaim := { program := "ytfgjjnfdcgkpoaa", sum := "b2f17fa85b0852ae7baa9e86e20c70017a13cc04cdc8af54dc0bece4a1fa2e50", func := "leasehold/leaseholdlaw31.UnwindOrders", spec := "unwindOrders", unfollowed := true, recurses := true, loops := true, apart := false, narrowed := true }
def UnwindOrdersUptoSaid : Prop := unwindOrdersUptoRow.holds Try.pinned (OpenSpec.upto unwindOrdersSpec)

/-- 'leaseholdlaw31.UnwindLeavesNothing', WHERE WHAT IT READS IS OF BULK AT MOST 1048576: true; the input reads as it did. -/
def unwindLeavesNothingUptoRow : OpenClaim := { program := "ytfgjjnfdcgkpoaa", sum := "b2f17fa85b0852ae7baa9e86e20c70017a13cc04cdc8af54dc0bece4a1fa2e50", func := "leasehold/leaseholdlaw31.UnwindLeavesNothing", spec := "unwindLeavesNothing", unfollowed := true, recurses := true, loops := true, apart := false, narrowed := true }
def UnwindLeavesNothingUptoSaid : Prop := unwindLeavesNothingUptoRow.holds Try.pinned (OpenSpec.upto unwindLeavesNothingSpec)

/-- 'leaseholdlaw31.UnwindAccounts', WHERE WHAT IT READS IS OF BULK AT MOST 1048576: true; the input reads as it did. -/
def unwindAccountsUptoRow : OpenClaim := { program := "ytfgjjnfdcgkpoaa", sum := "b2f17fa85b0852ae7baa9e86e20c70017a13cc04cdc8af54dc0bece4a1fa2e50", func := "leasehold/leaseholdlaw31.UnwindAccounts", spec := "unwindAccounts", unfollowed := true, recurses := true, loops := true, apart := false, narrowed := true }
def UnwindAccountsUptoSaid : Prop := unwindAccountsUptoRow.holds Try.pinned (OpenSpec.upto unwindAccountsSpec)

/-- 'leaseholdlaw31.UnwindOthers', WHERE WHAT IT READS IS OF BULK AT MOST 1048576: true; the input reads as it did. -/
def unwindOthersUptoRow : OpenClaim := { program := "ytfgjjnfdcgkpoaa", sum := "b2f17fa85b0852ae7baa9e86e20c70017a13cc04cdc8af54dc0bece4a1fa2e50", func := "leasehold/leaseholdlaw31.UnwindOthers", spec := "unwindOthers", unfollowed := true, recurses := true, loops := true, apart := false, narrowed := true }
def UnwindOthersUptoSaid : Prop := unwindOthersUptoRow.holds Try.pinned (OpenSpec.upto unwindOthersSpec)

/-- 'leaseholdlaw31.UnwindStops', WHERE WHAT IT READS IS OF BULK AT MOST 1048576: true; the input reads as it did. -/
def unwindStopsUptoRow : OpenClaim := { program := "ytfgjjnfdcgkpoaa", sum := "b2f17fa85b0852ae7baa9e86e20c70017a13cc04cdc8af54dc0bece4a1fa2e50", func := "leasehold/leaseholdlaw31.UnwindStops", spec := "unwindStops", unfollowed := true, recurses := true, loops := true, apart := false, narrowed := true }
def UnwindStopsUptoSaid : Prop := unwindStopsUptoRow.holds Try.pinned (OpenSpec.upto unwindStopsSpec)

end Rows
end Go.Proofs.Ytfgjjnfdcgkpoaa
