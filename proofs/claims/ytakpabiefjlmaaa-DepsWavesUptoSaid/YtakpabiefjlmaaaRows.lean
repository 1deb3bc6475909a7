/-
  No cell of these rows narrows 'for every input' (looked for: loops, veiled, ifaces, maps, wideKeys, modest, calm, conditions, laid).
  DERIVED. THE GIVEN ROWS OF THIS SEAT. 5 by the template 'for every input the law returns true; each argument reads behind the call as it read before'; 0 by the template 'total and deterministic' (their statements: YtakpabiefjlmaaaTotals.lean).
  GIVEN WITH THE SEED: the statements are not yours to turn. If you find one false, say at which input.
  Laid BY PROGRAM, IN A SANDBOX (cutbox-rows.mjs): the forced cells as the released guide's own fill.sh prints them over the translation fe9e7ac0bd5843e4… (all of the seat's roots in one cut). By AI agents, Wed Nov 11 2026. No macro, syntax, notation, axiom, sorry.
-/
import Derived.Test.YtakpabiefjlmaaaChecked
import GoSem.Claim
import GoSem.ClaimJoined
import GoSem.ClaimMapViews
import Derived.JoinedTies
import Derived.KernelRfl
namespace Go.Proofs.Ytakpabiefjlmaaa
/- THE CELL 'sum', in the pinned program and in every row, IS THE sha256 OF THE DUMP (.gsa) THAT YtakpabiefjlmaaaProg.lean LOADS. Nothing in Lean hashes anything: it is a label: what it is worth is what the hold of that sum in a sandbox is worth. -/
noncomputable def Try.pinned : Pinned := { name := "ytakpabiefjlmaaa", sum := "fe9e7ac0bd5843e4159eb1461f60734ec575c6879a85c609a90585f6d2017e5e", checked := Try.checked }
namespace Rows
def none {H : Type} : Left H := { results := [], args := [] }

/-- 'leaseholdlaw22.DepsOrders': WHATEVER THE INPUT: true; the input reads as it did. -/
def depsOrdersSpec : ChangeSpec := { name := "depsOrders", fn := fun _ => fun
  | [d] => { results := [.lit (.bool true)], args := [d] }
  | _ => none }
def depsOrdersRow : OpenClaim := { program := "ytakpabiefjlmaaa", sum := "fe9e7ac0bd5843e4159eb1461f60734ec575c6879a85c609a90585f6d2017e5e", func := "leasehold/leaseholdlaw22.DepsOrders", spec := "depsOrders", unfollowed := true, recurses := true, apart := false }
def DepsOrdersSaid : Prop := depsOrdersRow.holds Try.pinned (OpenSpec.ofChange depsOrdersSpec)

/-- ITS FALSE NEIGHBOUR: 'it returns false'. Refute it at one input. -/
def depsOrdersWrong : ChangeSpec := { name := "depsOrders", fn := fun _ => fun
  | [d] => { results := [.lit (.bool false)], args := [d] }
  | _ => none }
def DepsOrdersWrongFalsely : Prop := depsOrdersRow.holds Try.pinned (OpenSpec.ofChange depsOrdersWrong)

/-- 'leaseholdlaw22.DepsCycles': WHATEVER THE INPUT: true; the input reads as it did. -/
def depsCyclesSpec : ChangeSpec := { name := "depsCycles", fn := fun _ => fun
  | [d] => { results := [.lit (.bool true)], args := [d] }
  | _ => none }
def depsCyclesRow : OpenClaim := { program := "ytakpabiefjlmaaa", sum := "fe9e7ac0bd5843e4159eb1461f60734ec575c6879a85c609a90585f6d2017e5e", func := "leasehold/leaseholdlaw22.DepsCycles", spec := "depsCycles", unfollowed := true, recurses := true, apart := false }
def DepsCyclesSaid : Prop := depsCyclesRow.holds Try.pinned (OpenSpec.ofChange depsCyclesSpec)

/-- ITS FALSE NEIGHBOUR: 'it returns false'. Refute it at one input. -/
def depsCyclesWrong : ChangeSpec := { name := "depsCycles", fn := fun _ => fun
  | [d] => { results := [.lit (.bool false)], args := [d] }
  | _ => none }
def DepsCyclesWrongFalsely : Prop := depsCyclesRow.holds Try.pinned (OpenSpec.ofChange depsCyclesWrong)

/-- 'leaseholdlaw22.DepsStale': WHATEVER THE INPUT: true; the input reads as it did. -/
def depsStaleSpec : ChangeSpec := { name := "depsStale", fn := fun _ => fun
  | [d1, d2, d3] => { results := [.lit (.bool true)], args := [d1, d2, d3] }
  | _ => none }
def depsStaleRow : OpenClaim := { program := "ytakpabiefjlmaaa", sum := "fe9e7ac0bd5843e4159eb1461f60734ec575c6879a85c609a90585f6d2017e5e", func := "leasehold/leaseholdlaw22.DepsStale", spec := "depsStale", unfollowed := true, recurses := true, apart := false }
def DepsStaleSaid : Prop := depsStaleRow.holds Try.pinned (OpenSpec.ofChange depsStaleSpec)

/-- ITS FALSE NEIGHBOUR: 'it returns false'. Refute it at one input. -/
def depsStaleWrong : ChangeSpec := { name := "depsStale", fn := fun _ => fun
  | [d1, d2, d3] => { results := [.lit (.bool false)], args := [d1, d2, d3] }
  | _ => none }
def DepsStaleWrongFalsely : Prop := depsStaleRow.holds Try.pinned (OpenSpec.ofChange depsStaleWrong)

/-- 'leaseholdlaw22.DepsMonotone': WHATEVER THE INPUT: true; the input reads as it did. -/
def depsMonotoneSpec : ChangeSpec := { name := "depsMonotone", fn := fun _ => fun
  | [d1, d2, d3, d4] => { results := [.lit (.bool true)], args := [d1, d2, d3, d4] }
  | _ => none }
def depsMonotoneRow : OpenClaim := { program := "ytakpabiefjlmaaa", sum := "fe9e7ac0bd5843e4159eb1461f60734ec575c6879a85c609a90585f6d2017e5e", func := "leasehold/leaseholdlaw22.DepsMonotone", spec := "depsMonotone", unfollowed := true, recurses := true, apart := false }
def DepsMonotoneSaid : Prop := depsMonotoneRow.holds Try.pinned (OpenSpec.ofChange depsMonotoneSpec)

/-- ITS FALSE NEIGHBOUR: 'it returns false'. Refute it at one input. -/
def depsMonotoneWrong : ChangeSpec := { name := "depsMonotone", fn := fun _ => fun
  | [d1, d2, d3, d4] => { results := [.lit (.bool false)], args := [d1, d2, d3, d4] }
  | _ => none }
def DepsMonotoneWrongFalsely : Prop := depsMonotoneRow.holds Try.pinned (OpenSpec.ofChange depsMonotoneWrong)

/-- 'leaseholdlaw22.DepsWaves': WHATEVER THE INPUT: true; the input reads as it did. -/
def depsWavesSpec : ChangeSpec := { name := "depsWaves", fn := fun _ => fun
  | [d] => { results := [.lit (.bool true)], args := [d] }
  | _ => none }
def depsWavesRow : OpenClaim := { program := "ytakpabiefjlmaaa", sum := "fe9e7ac0bd5843e4159eb1461f60734ec575c6879a85c609a90585f6d2017e5e", func := "leasehold/leaseholdlaw22.DepsWaves", spec := "depsWaves", unfollowed := true, recurses := true, apart := false }
def DepsWavesSaid : Prop := depsWavesRow.holds Try.pinned (OpenSpec.ofChange depsWavesSpec)

/-- ITS FALSE NEIGHBOUR: 'it returns false'. Refute it at one input. -/
def depsWavesWrong : ChangeSpec := { name := "depsWaves", fn := fun _ => fun
  | [d] => { results := [.lit (.bool false)], args := [d] }
  | _ => none }
def DepsWavesWrongFalsely : Prop := depsWavesRow.holds Try.pinned (OpenSpec.ofChange depsWavesWrong)

/- THE SECOND FORM. 'bulk': how many values and letters a reading holds, each counted each time it is reached (what is shared counts as often as it is met; a slice's spare places count too). A statement '..UptoSaid' is the law's where the arguments, and the package variables that the reading takes, are together of bulk at most 1048576: NARROWER than '..Said'. Prove '..Said' where nothing that the law and all that it calls make is longer than what came in: it says more and counts as full. Else prove '..UptoSaid'. A law counts once. -/
mutual
def uptoBulk {H : Type} : DataW H → Nat
  | .lit (.string bytes) => bytes.length + 1
  | .lit _ => 1
  | .nil => 1
  | .ptr d => uptoBulk d + 1
  | .slice elems spare => uptoBulkAll elems + uptoBulkAll spare + 1
  | .agg parts => uptoBulkAll parts + 1
  | .iface _ d => uptoBulk d + 1
  | .map entries => uptoBulkEntries entries + 1
  | .held _ => 1
def uptoBulkAll {H : Type} : List (DataW H) → Nat
  | [] => 0
  | d :: r => uptoBulk d + uptoBulkAll r
def uptoBulkEntries {H : Type} : List (Lit × DataW H) → Nat
  | [] => 0
  | x :: r => uptoBulkEntry x + uptoBulkEntries r
def uptoBulkEntry {H : Type} : Lit × DataW H → Nat
  | (.string bytes, d) => bytes.length + uptoBulk d + 1
  | (_, d) => uptoBulk d + 1
 end
def uptoSmall : (H : Type) → List (DataW H) → Bool := fun _ ds => decide (uptoBulkAll ds ≤ 1048576)
def OpenSpec.upto (s : _root_.Go.ChangeSpec) : _root_.Go.OpenSpec := { _root_.Go.OpenSpec.ofChange s with cond := some uptoSmall }

/-- 'leaseholdlaw22.DepsOrders', WHERE WHAT IT READS IS OF BULK AT MOST 1048576: true; the input reads as it did. -/
def depsOrdersUptoRow : OpenClaim := { program := "ytakpabiefjlmaaa", sum := "fe9e7ac0bd5843e4159eb1461f60734ec575c6879a85c609a90585f6d2017e5e", func := "leasehold/leaseholdlaw22.DepsOrders", spec := "depsOrders", unfollowed := true, recurses := true, apart := false, narrowed := true }
def DepsOrdersUptoSaid : Prop := depsOrdersUptoRow.holds Try.pinned (OpenSpec.upto depsOrdersSpec)

/-- 'leaseholdlaw22.DepsCycles', WHERE WHAT IT READS IS OF BULK AT MOST 1048576: true; the input reads as it did. -/
def depsCyclesUptoRow : OpenClaim := { program := "ytakpabiefjlmaaa", sum := "fe9e7ac0bd5843e4159eb1461f60734ec575c6879a85c609a90585f6d2017e5e", func := "leasehold/leaseholdlaw22.DepsCycles", spec := "depsCycles", unfollowed := true, recurses := true, apart := false, narrowed := true }
def DepsCyclesUptoSaid : Prop := depsCyclesUptoRow.holds Try.pinned (OpenSpec.upto depsCyclesSpec)

/-- 'leaseholdlaw22.DepsStale', WHERE WHAT IT READS IS OF BULK AT MOST 1048576: true; the input reads as it did. -/
def depsStaleUptoRow : OpenClaim := { program := "ytakpabiefjlmaaa", sum := "fe9e7ac0bd5843e4159eb1461f60734ec575c6879a85c609a90585f6d2017e5e", func := "leasehold/leaseholdlaw22.DepsStale", spec := "depsStale", unfollowed := true, recurses := true, apart := false, narrowed := true }
def DepsStaleUptoSaid : Prop := depsStaleUptoRow.holds Try.pinned (OpenSpec.upto depsStaleSpec)

/-- 'leaseholdlaw22.DepsMonotone', WHERE WHAT IT READS IS OF BULK AT MOST 1048576: true; the input reads as it did. -/
def depsMonotoneUptoRow : OpenClaim := { program := "ytakpabiefjlmaaa", sum := "fe9e7ac0bd5843e4159eb1461f60734ec575c6879a85c609a90585f6d2017e5e", func := "leasehold/leaseholdlaw22.DepsMonotone", spec := "depsMonotone", unfollowed := true, recurses := true, apart := false, narrowed := true }
def DepsMonotoneUptoSaid : Prop := depsMonotoneUptoRow.holds Try.pinned (OpenSpec.upto depsMonotoneSpec)

/-- 'leaseholdlaw22.DepsWaves', WHERE WHAT IT READS IS OF BULK AT MOST 1048576: true; the input reads as it did. -/
def depsWavesUptoRow : OpenClaim := { program := "ytakpabiefjlmaaa", sum := "fe9e7ac0bd5843e4159eb1461f60734ec575c6879a85c609a90585f6d2017e5e", func := "leasehold/leaseholdlaw22.DepsWaves", spec := "depsWaves", unfollowed := true, recurses := true, apart := false, narrowed := true }
def DepsWavesUptoSaid : Prop := depsWavesUptoRow.holds Try.pinned (OpenSpec.upto depsWavesSpec)

end Rows
end Go.Proofs.Ytakpabiefjlmaaa
