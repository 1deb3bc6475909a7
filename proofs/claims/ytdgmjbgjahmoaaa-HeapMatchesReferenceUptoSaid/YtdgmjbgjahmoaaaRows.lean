/-
  NARROWER THAN 'FOR EVERY INPUT', by the rows' own cells (each row's printed sentence says how): HeapAllocates: loops · HeapPanics: loops · HeapOrder: loops · HeapIndependent: loops · HeapMatchesReference: loops · HeapDrops: loops.
  DERIVED. THE GIVEN ROWS OF THIS SEAT. 6 by the template 'for every input the law returns true; each argument reads behind the call as it read before'; 0 by the template 'total and deterministic' (their statements: YtdgmjbgjahmoaaaTotals.lean).
  GIVEN WITH THE SEED: the statements are not yours to turn. If you find one false, say at which input.
  Laid BY PROGRAM, IN A SANDBOX (cutbox-rows.mjs): the forced cells as the released guide's own fill.sh prints them over the translation be3ec9875dd3187a… (all of the seat's roots in one cut). By AI agents, Wed Nov 11 2026. No macro, syntax, notation, axiom, sorry.
-/
import Derived.Test.YtdgmjbgjahmoaaaChecked
import GoSem.Claim
import GoSem.ClaimJoined
import GoSem.ClaimMapViews
import Derived.JoinedTies
import Derived.KernelRfl
namespace Go.Proofs.Ytdgmjbgjahmoaaa
/- THE CELL 'sum', in the pinned program and in every row, IS THE sha256 OF THE DUMP (.gsa) THAT YtdgmjbgjahmoaaaProg.lean LOADS. Nothing in Lean hashes anything: it is a label: what it is worth is what the hold of that sum in a sandbox is worth. -/
noncomputable def Try.pinned : Pinned := { name := "ytdgmjbgjahmoaaa", sum := "be3ec9875dd3187ab6b99dfca0a87dc8b39e43ecc574c03bdce5e260f8133f46", checked := Try.checked }
namespace Rows
def none {H : Type} : Left H := { results := [], args := [] }

/-- 'leaseholdlaw18.HeapAllocates': WHATEVER THE INPUT: true; the input reads as it did. -/
def heapAllocatesSpec : ChangeSpec := { name := "heapAllocates", fn := fun _ => fun
  | [d1, d2, d3] => { results := [.lit (.bool true)], args := [d1, d2, d3] }
  | _ => none }
def heapAllocatesRow : OpenClaim := { program := "ytdgmjbgjahmoaaa", sum := "be3ec9875dd3187ab6b99dfca0a87dc8b39e43ecc574c03bdce5e260f8133f46", func := "leasehold/leaseholdlaw18.HeapAllocates", spec := "heapAllocates", unfollowed := true, recurses := true, loops := true, apart := false }
def HeapAllocatesSaid : Prop := heapAllocatesRow.holds Try.pinned (OpenSpec.ofChange heapAllocatesSpec)

/-- ITS FALSE NEIGHBOUR: 'it returns false'. Refute it at one input. -/
def heapAllocatesWrong : ChangeSpec := { name := "heapAllocates", fn := fun _ => fun
  | [d1, d2, d3] => { results := [.lit (.bool false)], args := [d1, d2, d3] }
  | _ => none }
def HeapAllocatesWrongFalsely : Prop := heapAllocatesRow.holds Try.pinned (OpenSpec.ofChange heapAllocatesWrong)

/-- 'leaseholdlaw18.HeapPanics': WHATEVER THE INPUT: true; the input reads as it did. -/
def heapPanicsSpec : ChangeSpec := { name := "heapPanics", fn := fun _ => fun
  | [d1, d2, d3] => { results := [.lit (.bool true)], args := [d1, d2, d3] }
  | _ => none }
def heapPanicsRow : OpenClaim := { program := "ytdgmjbgjahmoaaa", sum := "be3ec9875dd3187ab6b99dfca0a87dc8b39e43ecc574c03bdce5e260f8133f46", func := "leasehold/leaseholdlaw18.HeapPanics", spec := "heapPanics", unfollowed := true, recurses := true, loops := true, apart := false }
def HeapPanicsSaid : Prop := heapPanicsRow.holds Try.pinned (OpenSpec.ofChange heapPanicsSpec)

/-- ITS FALSE NEIGHBOUR: 'it returns false'. Refute it at one input. -/
def heapPanicsWrong : ChangeSpec := { name := "heapPanics", fn := fun _ => fun
  | [d1, d2, d3] => { results := [.lit (.bool false)], args := [d1, d2, d3] }
  | _ => none }
def HeapPanicsWrongFalsely : Prop := heapPanicsRow.holds Try.pinned (OpenSpec.ofChange heapPanicsWrong)

/-- 'leaseholdlaw18.HeapOrder': WHATEVER THE INPUT: true; the input reads as it did. -/
def heapOrderSpec : ChangeSpec := { name := "heapOrder", fn := fun _ => fun
  | [d1, d2, d3, d4] => { results := [.lit (.bool true)], args := [d1, d2, d3, d4] }
  | _ => none }
def heapOrderRow : OpenClaim := { program := "ytdgmjbgjahmoaaa", sum := "be3ec9875dd3187ab6b99dfca0a87dc8b39e43ecc574c03bdce5e260f8133f46", func := "leasehold/leaseholdlaw18.HeapOrder", spec := "heapOrder", unfollowed := true, recurses := true, loops := true, apart := false }
def HeapOrderSaid : Prop := heapOrderRow.holds Try.pinned (OpenSpec.ofChange heapOrderSpec)

/-- ITS FALSE NEIGHBOUR: 'it returns false'. Refute it at one input. -/
def heapOrderWrong : ChangeSpec := { name := "heapOrder", fn := fun _ => fun
  | [d1, d2, d3, d4] => { results := [.lit (.bool false)], args := [d1, d2, d3, d4] }
  | _ => none }
def HeapOrderWrongFalsely : Prop := heapOrderRow.holds Try.pinned (OpenSpec.ofChange heapOrderWrong)

/-- 'leaseholdlaw18.HeapIndependent': WHATEVER THE INPUT: true; the input reads as it did. -/
def heapIndependentSpec : ChangeSpec := { name := "heapIndependent", fn := fun _ => fun
  | [d1, d2, d3, d4] => { results := [.lit (.bool true)], args := [d1, d2, d3, d4] }
  | _ => none }
def heapIndependentRow : OpenClaim := { program := "ytdgmjbgjahmoaaa", sum := "be3ec9875dd3187ab6b99dfca0a87dc8b39e43ecc574c03bdce5e260f8133f46", func := "leasehold/leaseholdlaw18.HeapIndependent", spec := "heapIndependent", unfollowed := true, recurses := true, loops := true, apart := false }
def HeapIndependentSaid : Prop := heapIndependentRow.holds Try.pinned (OpenSpec.ofChange heapIndependentSpec)

/-- ITS FALSE NEIGHBOUR: 'it returns false'. Refute it at one input. -/
def heapIndependentWrong : ChangeSpec := { name := "heapIndependent", fn := fun _ => fun
  | [d1, d2, d3, d4] => { results := [.lit (.bool false)], args := [d1, d2, d3, d4] }
  | _ => none }
def HeapIndependentWrongFalsely : Prop := heapIndependentRow.holds Try.pinned (OpenSpec.ofChange heapIndependentWrong)

/-- 'leaseholdlaw18.HeapMatchesReference': WHATEVER THE INPUT: true; the input reads as it did. -/
def heapMatchesReferenceSpec : ChangeSpec := { name := "heapMatchesReference", fn := fun _ => fun
  | [d1, d2, d3, d4, d5] => { results := [.lit (.bool true)], args := [d1, d2, d3, d4, d5] }
  | _ => none }
def heapMatchesReferenceRow : OpenClaim := { program := "ytdgmjbgjahmoaaa", sum := "be3ec9875dd3187ab6b99dfca0a87dc8b39e43ecc574c03bdce5e260f8133f46", func := "leasehold/leaseholdlaw18.HeapMatchesReference", spec := "heapMatchesReference", unfollowed := true, recurses := true, loops := true, apart := false }
def HeapMatchesReferenceSaid : Prop := heapMatchesReferenceRow.holds Try.pinned (OpenSpec.ofChange heapMatchesReferenceSpec)

/-- ITS FALSE NEIGHBOUR: 'it returns false'. Refute it at one input. -/
def heapMatchesReferenceWrong : ChangeSpec := { name := "heapMatchesReference", fn := fun _ => fun
  | [d1, d2, d3, d4, d5] => { results := [.lit (.bool false)], args := [d1, d2, d3, d4, d5] }
  | _ => none }
def HeapMatchesReferenceWrongFalsely : Prop := heapMatchesReferenceRow.holds Try.pinned (OpenSpec.ofChange heapMatchesReferenceWrong)

/-- 'leaseholdlaw18.HeapDrops': WHATEVER THE INPUT: true; the input reads as it did. -/
def heapDropsSpec : ChangeSpec := { name := "heapDrops", fn := fun _ => fun
  | [d1, d2, d3] => { results := [.lit (.bool true)], args := [d1, d2, d3] }
  | _ => none }
def heapDropsRow : OpenClaim := { program := "ytdgmjbgjahmoaaa", sum := "be3ec9875dd3187ab6b99dfca0a87dc8b39e43ecc574c03bdce5e260f8133f46", func := "leasehold/leaseholdlaw18.HeapDrops", spec := "heapDrops", unfollowed := true, recurses := true, loops := true, apart := false }
def HeapDropsSaid : Prop := heapDropsRow.holds Try.pinned (OpenSpec.ofChange heapDropsSpec)

/-- ITS FALSE NEIGHBOUR: 'it returns false'. Refute it at one input. -/
def heapDropsWrong : ChangeSpec := { name := "heapDrops", fn := fun _ => fun
  | [d1, d2, d3] => { results := [.lit (.bool false)], args := [d1, d2, d3] }
  | _ => none }
def HeapDropsWrongFalsely : Prop := heapDropsRow.holds Try.pinned (OpenSpec.ofChange heapDropsWrong)

/- THE SECOND FORM. 'bulk': how many values and letters a reading holds, each counted each time it is reached (what is shared counts as often as it is met; a slice's spare places count too). A statement '..UptoSaid' is the law's where the arguments, and the package variables that the reading takes, are together of bulk at most 1048576: NARROWER than '..Said'. Prove '..Said' where nothing that the law and all that it calls make is longer than what came in: it says more and counts as full. Else prove '..UptoSaid'. A law counts once. -/
mutual
def uptoBulk {H : Type} : DataW H → Nat
  | .lit (.string bytes) => bytes.length + 1
  | .lit _ => 1
  | .nil => 1
  | .ptr d => uptoBulk d + 1
  | .slice elems spare => uptoBulkAll elems + uptoBulkAll spare + 1
  | .agg parts => uptoBulkAll parts + 1
  | .iface _ d => uptoBulk d + 1
  | .map entries => uptoBulkEntries entries + 1
  | .held _ => 1
def uptoBulkAll {H : Type} : List (DataW H) → Nat
  | [] => 0
  | d :: r => uptoBulk d + uptoBulkAll r
def uptoBulkEntries {H : Type} : List (Lit × DataW H) → Nat
  | [] => 0
  | x :: r => uptoBulkEntry x + uptoBulkEntries r
def uptoBulkEntry {H : Type} : Lit × DataW H → Nat
  | (.string bytes, d) => bytes.length + uptoBulk d + 1
  | (_, d) => uptoBulk d + 1
 end
def uptoSmall : (H : Type) → List (DataW H) → Bool := fun _ ds => decide (uptoBulkAll ds ≤ 1048576)
def OpenSpec.upto (s : _root_.Go.ChangeSpec) : _root_.Go.OpenSpec := { _root_.Go.OpenSpec.ofChange s with cond := some uptoSmall }

/-- 'leaseholdlaw18.HeapAllocates', WHERE WHAT IT READS IS OF BULK AT MOST 1048576: true; the input reads as it did. -/
def heapAllocatesUptoRow : OpenClaim := { program := "ytdgmjbgjahmoaaa", sum := "be3ec9875dd3187ab6b99dfca0a87dc8b39e43ecc574c03bdce5e260f8133f46", func := "leasehold/leaseholdlaw18.HeapAllocates", spec := "heapAllocates", unfollowed := true, recurses := true, loops := true, apart := false, narrowed := true }
def HeapAllocatesUptoSaid : Prop := heapAllocatesUptoRow.holds Try.pinned (OpenSpec.upto heapAllocatesSpec)

/-- 'leaseholdlaw18.HeapPanics', WHERE WHAT IT READS IS OF BULK AT MOST 1048576: true; the input reads as it did. -/
def heapPanicsUptoRow : OpenClaim := { program := "ytdgmjbgjahmoaaa", sum := "be3ec9875dd3187ab6b99dfca0a87dc8b39e43ecc574c03bdce5e260f8133f46", func := "leasehold/leaseholdlaw18.HeapPanics", spec := "heapPanics", unfollowed := true, recurses := true, loops := true, apart := false, narrowed := true }
def HeapPanicsUptoSaid : Prop := heapPanicsUptoRow.holds Try.pinned (OpenSpec.upto heapPanicsSpec)

/-- 'leaseholdlaw18.HeapOrder', WHERE WHAT IT READS IS OF BULK AT MOST 1048576: true; the input reads as it did. -/
def heapOrderUptoRow : OpenClaim := { program := "ytdgmjbgjahmoaaa", sum := "be3ec9875dd3187ab6b99dfca0a87dc8b39e43ecc574c03bdce5e260f8133f46", func := "leasehold/leaseholdlaw18.HeapOrder", spec := "heapOrder", unfollowed := true, recurses := true, loops := true, apart := false, narrowed := true }
def HeapOrderUptoSaid : Prop := heapOrderUptoRow.holds Try.pinned (OpenSpec.upto heapOrderSpec)

/-- 'leaseholdlaw18.HeapIndependent', WHERE WHAT IT READS IS OF BULK AT MOST 1048576: true; the input reads as it did. -/
def heapIndependentUptoRow : OpenClaim := { program := "ytdgmjbgjahmoaaa", sum := "be3ec9875dd3187ab6b99dfca0a87dc8b39e43ecc574c03bdce5e260f8133f46", func := "leasehold/leaseholdlaw18.HeapIndependent", spec := "heapIndependent", unfollowed := true, recurses := true, loops := true, apart := false, narrowed := true }
def HeapIndependentUptoSaid : Prop := heapIndependentUptoRow.holds Try.pinned (OpenSpec.upto heapIndependentSpec)

/-- 'leaseholdlaw18.HeapMatchesReference', WHERE WHAT IT READS IS OF BULK AT MOST 1048576: true; the input reads as it did. -/
def heapMatchesReferenceUptoRow : OpenClaim := { program := "ytdgmjbgjahmoaaa", sum := "be3ec9875dd3187ab6b99dfca0a87dc8b39e43ecc574c03bdce5e260f8133f46", func := "leasehold/leaseholdlaw18.HeapMatchesReference", spec := "heapMatchesReference", unfollowed := true, recurses := true, loops := true, apart := false, narrowed := true }
def HeapMatchesReferenceUptoSaid : Prop := heapMatchesReferenceUptoRow.holds Try.pinned (OpenSpec.upto heapMatchesReferenceSpec)

/-- 'leaseholdlaw18.HeapDrops', WHERE WHAT IT READS IS OF BULK AT MOST 1048576: true; the input reads as it did. -/
def heapDropsUptoRow : OpenClaim := { program := "ytdgmjbgjahmoaaa", sum := "be3ec9875dd3187ab6b99dfca0a87dc8b39e43ecc574c03bdce5e260f8133f46", func := "leasehold/leaseholdlaw18.HeapDrops", spec := "heapDrops", unfollowed := true, recurses := true, loops := true, apart := false, narrowed := true }
def HeapDropsUptoSaid : Prop := heapDropsUptoRow.holds Try.pinned (OpenSpec.upto heapDropsSpec)

end Rows
end Go.Proofs.Ytdgmjbgjahmoaaa
