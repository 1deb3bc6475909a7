/-
  NARROWER THAN 'FOR EVERY INPUT', by the rows' own cells (each row's printed sentence says how): LowerMatchesReference: loops · LowerExecutes: loops · LowerShape: loops · LowerOnce: loops · LowerEnds: loops · LowerMissingReturn: loops.
  DERIVED. THE GIVEN ROWS OF THIS SEAT. 6 by the template 'for every input the law returns true; each argument reads behind the call as it read before'; 0 by the template 'total and deterministic' (their statements: YtdheeecpkkjfiaaTotals.lean).
  GIVEN WITH THE SEED: the statements are not yours to turn. If you find one false, say at which input.
  Laid BY PROGRAM, IN A SANDBOX (cutbox-rows.mjs): the forced cells as the released guide's own fill.sh prints them over the translation 19200f345206b65e… (all of the seat's roots in one cut). By AI agents, Wed Nov 11 2026. No macro, syntax, notation, axiom, sorry.
-/
import Derived.Test.YtdheeecpkkjfiaaChecked
import GoSem.Claim
import GoSem.ClaimJoined
import GoSem.ClaimMapViews
import Derived.JoinedTies
import Derived.KernelRfl
namespace Go.Proofs.Ytdheeecpkkjfiaa
/- THE CELL 'sum', in the pinned program and in every row, IS THE sha256 OF THE DUMP (.gsa) THAT YtdheeecpkkjfiaaProg.lean LOADS. Nothing in Lean hashes anything: it is a label: what it is worth is what the hold of that sum in a sandbox is worth. -/
noncomputable def Try.pinned : Pinned := { name := "ytdheeecpkkjfiaa", sum := "19200f345206b65e51833aa517c2bc02da3762508e5b33d401790775b9741209", checked := Try.checked }
namespace Rows
def none {H : Type} : Left H := { results := [], args := [] }

/-- 'leaseholdlaw10.LowerMatchesReference': WHATEVER THE INPUT: true; the input reads as it did. -/
def lowerMatchesReferenceSpec : ChangeSpec := { name := "lowerMatchesReference", fn := fun _ => fun
  | [d] => { results := [.lit (.bool true)], args := [d] }
  | _ => none }
def lowerMatchesReferenceRow : OpenClaim := { program := "ytdheeecpkkjfiaa", sum := "19200f345206b65e51833aa517c2bc02da3762508e5b33d401790775b9741209", func := "leasehold/leaseholdlaw10.LowerMatchesReference", spec := "lowerMatchesReference", unfollowed := true, recurses := true, loops := true, apart := false }
def LowerMatchesReferenceSaid : Prop := lowerMatchesReferenceRow.holds Try.pinned (OpenSpec.ofChange lowerMatchesReferenceSpec)

/-- ITS FALSE NEIGHBOUR: 'it returns false'. Refute it at one input. -/
def lowerMatchesReferenceWrong : ChangeSpec := { name := "lowerMatchesReference", fn := fun _ => fun
  | [d] => { results := [.lit (.bool false)], args := [d] }
  | _ => none }
def LowerMatchesReferenceWrongFalsely : Prop := lowerMatchesReferenceRow.holds Try.pinned (OpenSpec.ofChange lowerMatchesReferenceWrong)

/-- 'leaseholdlaw10.LowerExecutes': WHATEVER THE INPUT: true; the input reads as it did. -/
def lowerExecutesSpec : ChangeSpec := { name := "lowerExecutes", fn := fun _ => fun
  | [d1, d2] => { results := [.lit (.bool true)], args := [d1, d2] }
  | _ => none }
def lowerExecutesRow : OpenClaim := { program := "ytdheeecpkkjfiaa", sum := "19200f345206b65e51833aa517c2bc02da3762508e5b33d401790775b9741209", func := "leasehold/leaseholdlaw10.LowerExecutes", spec := "lowerExecutes", unfollowed := true, recurses := true, loops := true, apart := false }
def LowerExecutesSaid : Prop := lowerExecutesRow.holds Try.pinned (OpenSpec.ofChange lowerExecutesSpec)

/-- ITS FALSE NEIGHBOUR: 'it returns false'. Refute it at one input. -/
def lowerExecutesWrong : ChangeSpec := { name := "lowerExecutes", fn := fun _ => fun
  | [d1, d2] => { results := [.lit (.bool false)], args := [d1, d2] }
  | _ => none }
def LowerExecutesWrongFalsely : Prop := lowerExecutesRow.holds Try.pinned (OpenSpec.ofChange lowerExecutesWrong)

/-- 'leaseholdlaw10.LowerShape': WHATEVER THE INPUT: true; the input reads as it did. -/
def lowerShapeSpec : ChangeSpec := { name := "lowerShape", fn := fun _ => fun
  | [d] => { results := [.lit (.bool true)], args := [d] }
  | _ => none }
def lowerShapeRow : OpenClaim := { program := "ytdheeecpkkjfiaa", sum := "19200f345206b65e51833aa517c2bc02da3762508e5b33d401790775b9741209", func := "leasehold/leaseholdlaw10.LowerShape", spec := "lowerShape", unfollowed := true, recurses := true, loops := true, apart := false }
def LowerShapeSaid : Prop := lowerShapeRow.holds Try.pinned (OpenSpec.ofChange lowerShapeSpec)

/-- ITS FALSE NEIGHBOUR: 'it returns false'. Refute it at one input. -/
def lowerShapeWrong : ChangeSpec := { name := "lowerShape", fn := fun _ => fun
  | [d] => { results := [.lit (.bool false)], args := [d] }
  | _ => none }
def LowerShapeWrongFalsely : Prop := lowerShapeRow.holds Try.pinned (OpenSpec.ofChange lowerShapeWrong)

/-- 'leaseholdlaw10.LowerOnce': WHATEVER THE INPUT: true; the input reads as it did. -/
def lowerOnceSpec : ChangeSpec := { name := "lowerOnce", fn := fun _ => fun
  | [d] => { results := [.lit (.bool true)], args := [d] }
  | _ => none }
def lowerOnceRow : OpenClaim := { program := "ytdheeecpkkjfiaa", sum := "19200f345206b65e51833aa517c2bc02da3762508e5b33d401790775b9741209", func := "leasehold/leaseholdlaw10.LowerOnce", spec := "lowerOnce", unfollowed := true, recurses := true, loops := true, apart := false }
def LowerOnceSaid : Prop := lowerOnceRow.holds Try.pinned (OpenSpec.ofChange lowerOnceSpec)

/-- ITS FALSE NEIGHBOUR: 'it returns false'. Refute it at one input. -/
def lowerOnceWrong : ChangeSpec := { name := "lowerOnce", fn := fun _ => fun
  | [d] => { results := [.lit (.bool false)], args := [d] }
  | _ => none }
def LowerOnceWrongFalsely : Prop := lowerOnceRow.holds Try.pinned (OpenSpec.ofChange lowerOnceWrong)

/-- 'leaseholdlaw10.LowerEnds': WHATEVER THE INPUT: true; the input reads as it did. -/
def lowerEndsSpec : ChangeSpec := { name := "lowerEnds", fn := fun _ => fun
  | [d] => { results := [.lit (.bool true)], args := [d] }
  | _ => none }
def lowerEndsRow : OpenClaim := { program := "ytdheeecpkkjfiaa", sum := "19200f345206b65e51833aa517c2bc02da3762508e5b33d401790775b9741209", func := "leasehold/leaseholdlaw10.LowerEnds", spec := "lowerEnds", unfollowed := true, recurses := true, loops := true, apart := false }
def LowerEndsSaid : Prop := lowerEndsRow.holds Try.pinned (OpenSpec.ofChange lowerEndsSpec)

/-- ITS FALSE NEIGHBOUR: 'it returns false'. Refute it at one input. -/
def lowerEndsWrong : ChangeSpec := { name := "lowerEnds", fn := fun _ => fun
  | [d] => { results := [.lit (.bool false)], args := [d] }
  | _ => none }
def LowerEndsWrongFalsely : Prop := lowerEndsRow.holds Try.pinned (OpenSpec.ofChange lowerEndsWrong)

/-- 'leaseholdlaw10.LowerMissingReturn': WHATEVER THE INPUT: true; the input reads as it did. -/
def lowerMissingReturnSpec : ChangeSpec := { name := "lowerMissingReturn", fn := fun _ => fun
  | [d] => { results := [.lit (.bool true)], args := [d] }
  | _ => none }
def lowerMissingReturnRow : OpenClaim := { program := "ytdheeecpkkjfiaa", sum := "19200f345206b65e51833aa517c2bc02da3762508e5b33d401790775b9741209", func := "leasehold/leaseholdlaw10.LowerMissingReturn", spec := "lowerMissingReturn", unfollowed := true, recurses := true, loops := true, apart := false }
def LowerMissingReturnSaid : Prop := lowerMissingReturnRow.holds Try.pinned (OpenSpec.ofChange lowerMissingReturnSpec)

/-- ITS FALSE NEIGHBOUR: 'it returns false'. Refute it at one input. -/
def lowerMissingReturnWrong : ChangeSpec := { name := "lowerMissingReturn", fn := fun _ => fun
  | [d] => { results := [.lit (.bool false)], args := [d] }
  | _ => none }
def LowerMissingReturnWrongFalsely : Prop := lowerMissingReturnRow.holds Try.pinned (OpenSpec.ofChange lowerMissingReturnWrong)

/- THE SECOND FORM. 'bulk': how many values and letters a reading holds, each counted each time it is reached (what is shared counts as often as it is met; a slice's spare places count too). A statement '..UptoSaid' is the law's where the arguments, and the package variables that the reading takes, are together of bulk at most 1048576: NARROWER than '..Said'. Prove '..Said' where nothing that the law and all that it calls make is longer than what came in: it says more and counts as full. Else prove '..UptoSaid'. A law counts once. -/
mutual
def uptoBulk {H : Type} : DataW H → Nat
  | .lit (.string bytes) => bytes.length + 1
  | .lit _ => 1
  | .nil => 1
  | .ptr d => uptoBulk d + 1
  | .slice elems spare => uptoBulkAll elems + uptoBulkAll spare + 1
  | .agg parts => uptoBulkAll parts + 1
  | .iface _ d => uptoBulk d + 1
  | .map entries => uptoBulkEntries entries + 1
  | .held _ => 1
def uptoBulkAll {H : Type} : List (DataW H) → Nat
  | [] => 0
  | d :: r => uptoBulk d + uptoBulkAll r
def uptoBulkEntries {H : Type} : List (Lit × DataW H) → Nat
  | [] => 0
  | x :: r => uptoBulkEntry x + uptoBulkEntries r
def uptoBulkEntry {H : Type} : Lit × DataW H → Nat
  | (.string bytes, d) => bytes.length + uptoBulk d + 1
  | (_, d) => uptoBulk d + 1
 end
def uptoSmall : (H : Type) → List (DataW H) → Bool := fun _ ds => decide (uptoBulkAll ds ≤ 1048576)
def OpenSpec.upto (s : _root_.Go.ChangeSpec) : _root_.Go.OpenSpec := { _root_.Go.OpenSpec.ofChange s with cond := some uptoSmall }

/-- 'leaseholdlaw10.LowerMatchesReference', WHERE WHAT IT READS IS OF BULK AT MOST 1048576: true; the input reads as it did. -/
def lowerMatchesReferenceUptoRow : OpenClaim := { program := "ytdheeecpkkjfiaa", sum := "19200f345206b65e51833aa517c2bc02da3762508e5b33d401790775b9741209", func := "leasehold/leaseholdlaw10.LowerMatchesReference", spec := "lowerMatchesReference", unfollowed := true, recurses := true, loops := true, apart := false, narrowed := true }
def LowerMatchesReferenceUptoSaid : Prop := lowerMatchesReferenceUptoRow.holds Try.pinned (OpenSpec.upto lowerMatchesReferenceSpec)

/-- 'leaseholdlaw10.LowerExecutes', WHERE WHAT IT READS IS OF BULK AT MOST 1048576: true; the input reads as it did. -/
def lowerExecutesUptoRow : OpenClaim := { program := "ytdheeecpkkjfiaa", sum := "19200f345206b65e51833aa517c2bc02da3762508e5b33d401790775b9741209", func := "leasehold/leaseholdlaw10.LowerExecutes", spec := "lowerExecutes", unfollowed := true, recurses := true, loops := true, apart := false, narrowed := true }
def LowerExecutesUptoSaid : Prop := lowerExecutesUptoRow.holds Try.pinned (OpenSpec.upto lowerExecutesSpec)

/-- 'leaseholdlaw10.LowerShape', WHERE WHAT IT READS IS OF BULK AT MOST 1048576: true; the input reads as it did. -/
def lowerShapeUptoRow : OpenClaim := { program := "ytdheeecpkkjfiaa", sum := "19200f345206b65e51833aa517c2bc02da3762508e5b33d401790775b9741209", func := "leasehold/leaseholdlaw10.LowerShape", spec := "lowerShape", unfollowed := true, recurses := true, loops := true, apart := false, narrowed := true }
def LowerShapeUptoSaid : Prop := lowerShapeUptoRow.holds Try.pinned (OpenSpec.upto lowerShapeSpec)

/-- 'leaseholdlaw10.LowerOnce', WHERE WHAT IT READS IS OF BULK AT MOST 1048576: true; the input reads as it did. -/
def lowerOnceUptoRow : OpenClaim := { program := "ytdheeecpkkjfiaa", sum := "19200f345206b65e51833aa517c2bc02da3762508e5b33d401790775b9741209", func := "leasehold/leaseholdlaw10.LowerOnce", spec := "lowerOnce", unfollowed := true, recurses := true, loops := true, apart := false, narrowed := true }
def LowerOnceUptoSaid : Prop := lowerOnceUptoRow.holds Try.pinned (OpenSpec.upto lowerOnceSpec)

/-- 'leaseholdlaw10.LowerEnds', WHERE WHAT IT READS IS OF BULK AT MOST 1048576: true; the input reads as it did. -/
def lowerEndsUptoRow : OpenClaim := { program := "ytdheeecpkkjfiaa", sum := "19200f345206b65e51833aa517c2bc02da3762508e5b33d401790775b9741209", func := "leasehold/leaseholdlaw10.LowerEnds", spec := "lowerEnds", unfollowed := true, recurses := true, loops := true, apart := false, narrowed := true }
def LowerEndsUptoSaid : Prop := lowerEndsUptoRow.holds Try.pinned (OpenSpec.upto lowerEndsSpec)

/-- 'leaseholdlaw10.LowerMissingReturn', WHERE WHAT IT READS IS OF BULK AT MOST 1048576: true; the input reads as it did. -/
def lowerMissingReturnUptoRow : OpenClaim := { program := "ytdheeecpkkjfiaa", sum := "19200f345206b65e51833aa517c2bc02da3762508e5b33d401790775b9741209", func := "leasehold/leaseholdlaw10.LowerMissingReturn", spec := "lowerMissingReturn", unfollowed := true, recurses := true, loops := true, apart := false, narrowed := true }
def LowerMissingReturnUptoSaid : Prop := lowerMissingReturnUptoRow.holds Try.pinned (OpenSpec.upto lowerMissingReturnSpec)

end Rows
end Go.Proofs.Ytdheeecpkkjfiaa
