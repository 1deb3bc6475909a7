/-
  NARROWER THAN 'FOR EVERY INPUT', by the rows' own cells (each row's printed sentence says how): MigrateTypes: loops · MigrateStays: loops · MigrateComposes: loops.
  DERIVED. THE GIVEN ROWS OF THIS SEAT. 3 by the template 'for every input the law returns true; each argument reads behind the call as it read before'; 0 by the template 'total and deterministic' (their statements: YtlhhahocjfgmdaaTotals.lean).
  GIVEN WITH THE SEED: the statements are not yours to turn. If you find one false, say at which input.
  Laid BY PROGRAM, IN A SANDBOX (cutbox-rows.mjs): the forced cells as the released guide's own fill.sh prints them over the translation 3bfd30407410b807… (all of the seat's roots in one cut). By AI agents, Wed Nov 11 2026. No macro, syntax, notation, axiom, sorry.
-/
import Derived.Test.YtlhhahocjfgmdaaChecked
import GoSem.Claim
import GoSem.ClaimJoined
import GoSem.ClaimMapViews
import Derived.JoinedTies
import Derived.KernelRfl
namespace Go.Proofs.Ytlhhahocjfgmdaa
/- THE CELL 'sum', in the pinned program and in every row, IS THE sha256 OF THE DUMP (.gsa) THAT YtlhhahocjfgmdaaProg.lean LOADS. Nothing in Lean hashes anything: it is a label: what it is worth is what the hold of that sum in a sandbox is worth. -/
noncomputable def Try.pinned : Pinned := { name := "ytlhhahocjfgmdaa", sum := "3bfd30407410b8075cd98f8ccf1a8c83b1e71c0474d3a47cb3b5a164dba5eaa4", checked := Try.checked }
namespace Rows
def none {H : Type} : Left H := { results := [], args := [] }

/-- 'leaseholdlaw33.MigrateTypes': WHATEVER THE INPUT: true; the input reads as it did. -/
def migrateTypesSpec : ChangeSpec := { name := "migrateTypes", fn := fun _ => fun
  | [d1, d2, d3, d4, d5] => { results := [.lit (.bool true)], args := [d1, d2, d3, d4, d5] }
  | _ => none }
def migrateTypesRow : OpenClaim := { program := "ytlhhahocjfgmdaa", sum := "3bfd30407410b8075cd98f8ccf1a8c83b1e71c0474d3a47cb3b5a164dba5eaa4", func := "leasehold/leaseholdlaw33.MigrateTypes", spec := "migrateTypes", unfollowed := true, recurses := true, loops := true, apart := false }
def MigrateTypesSaid : Prop := migrateTypesRow.holds Try.pinned (OpenSpec.ofChange migrateTypesSpec)

/-- ITS FALSE NEIGHBOUR: 'it returns false'. Refute it at one input. -/
def migrateTypesWrong : ChangeSpec := { name := "migrateTypes", fn := fun _ => fun
  | [d1, d2, d3, d4, d5] => { results := [.lit (.bool false)], args := [d1, d2, d3, d4, d5] }
  | _ => none }
def MigrateTypesWrongFalsely : Prop := migrateTypesRow.holds Try.pinned (OpenSpec.ofChange migrateTypesWrong)

/-- 'leaseholdlaw33.MigrateStays': WHATEVER THE INPUT: true; the input reads as it did. -/
def migrateStaysSpec : ChangeSpec := { name := "migrateStays", fn := fun _ => fun
  | [d1, d2, d3, d4, d5] => { results := [.lit (.bool true)], args := [d1, d2, d3, d4, d5] }
  | _ => none }
def migrateStaysRow : OpenClaim := { program := "ytlhhahocjfgmdaa", sum := "3bfd30407410b8075cd98f8ccf1a8c83b1e71c0474d3a47cb3b5a164dba5eaa4", func := "leasehold/leaseholdlaw33.MigrateStays", spec := "migrateStays", unfollowed := true, recurses := true, loops := true, apart := false }
def MigrateStaysSaid : Prop := migrateStaysRow.holds Try.pinned (OpenSpec.ofChange migrateStaysSpec)

/-- ITS FALSE NEIGHBOUR: 'it returns false'. Refute it at one input. -/
def migrateStaysWrong : ChangeSpec := { name := "migrateStays", fn := fun _ => fun
  | [d1, d2, d3, d4, d5] => { results := [.lit (.bool false)], args := [d1, d2, d3, d4, d5] }
  | _ => none }
def MigrateStaysWrongFalsely : Prop := migrateStaysRow.holds Try.pinned (OpenSpec.ofChange migrateStaysWrong)

/-- 'leaseholdlaw33.MigrateComposes': WHATEVER THE INPUT: true; the input reads as it did. -/
def migrateComposesSpec : ChangeSpec := { name := "migrateComposes", fn := fun _ => fun
  | [d1, d2, d3, d4, d5, d6, d7] => { results := [.lit (.bool true)], args := [d1, d2, d3, d4, d5, d6, d7] }
  | _ => none }
def migrateComposesRow : OpenClaim := { program := "ytlhhahocjfgmdaa", sum := "3bfd30407410b8075cd98f8ccf1a8c83b1e71c0474d3a47cb3b5a164dba5eaa4", func := "leasehold/leaseholdlaw33.MigrateComposes", spec := "migrateComposes", unfollowed := true, recurses := true, loops := true, apart := false }
def MigrateComposesSaid : Prop := migrateComposesRow.holds Try.pinned (OpenSpec.ofChange migrateComposesSpec)

/-- ITS FALSE NEIGHBOUR: 'it returns false'. Refute it at one input. -/
def migrateComposesWrong : ChangeSpec := { name := "migrateComposes", fn := fun _ => fun
  | [d1, d2, d3, d4, d5, d6, d7] => { results := [.lit (.bool false)], args := [d1, d2, d3, d4, d5, d6, d7] }
  | _ => none }
def MigrateComposesWrongFalsely : Prop := migrateComposesRow.holds Try.pinned (OpenSpec.ofChange migrateComposesWrong)

/- THE SECOND FORM. 'bulk': how many values and letters a reading holds, each counted each time it is reached (what is shared counts as often as it is met; a slice's spare places count too). A statement '..UptoSaid' is the law's where the arguments, and the package variables that the reading takes, are together of bulk at most 1048576: NARROWER than '..Said'. Prove '..Said' where nothing that the law and all that it calls make is longer than what came in: it says more and counts as full. Else prove '..UptoSaid'. A law counts once. -/
mutual
def uptoBulk {H : Type} : DataW H → Nat
  | .lit (.string bytes) => bytes.length + 1
  | .lit _ => 1
  | .nil => 1
  | .ptr d => uptoBulk d + 1
  | .slice elems spare => uptoBulkAll elems + uptoBulkAll spare + 1
  | .agg parts => uptoBulkAll parts + 1
  | .iface _ d => uptoBulk d + 1
  | .map entries => uptoBulkEntries entries + 1
  | .held _ => 1
def uptoBulkAll {H : Type} : List (DataW H) → Nat
  | [] => 0
  | d :: r => uptoBulk d + uptoBulkAll r
def uptoBulkEntries {H : Type} : List (Lit × DataW H) → Nat
  | [] => 0
  | x :: r => uptoBulkEntry x + uptoBulkEntries r
def uptoBulkEntry {H : Type} : Lit × DataW H → Nat
  | (.string bytes, d) => bytes.length + uptoBulk d + 1
  | (_, d) => uptoBulk d + 1
 end
def uptoSmall : (H : Type) → List (DataW H) → Bool := fun _ ds => decide (uptoBulkAll ds ≤ 1048576)
def OpenSpec.upto (s : _root_.Go.ChangeSpec) : _root_.Go.OpenSpec := { _root_.Go.OpenSpec.ofChange s with cond := some uptoSmall }

/-- 'leaseholdlaw33.MigrateTypes', WHERE WHAT IT READS IS OF BULK AT MOST 1048576: true; the input reads as it did. -/
def migrateTypesUptoRow : OpenClaim := { program := "ytlhhahocjfgmdaa", sum := "3bfd30407410b8075cd98f8ccf1a8c83b1e71c0474d3a47cb3b5a164dba5eaa4", func := "leasehold/leaseholdlaw33.MigrateTypes", spec := "migrateTypes", unfollowed := true, recurses := true, loops := true, apart := false, narrowed := true }
def MigrateTypesUptoSaid : Prop := migrateTypesUptoRow.holds Try.pinned (OpenSpec.upto migrateTypesSpec)

/-- 'leaseholdlaw33.MigrateStays', WHERE WHAT IT READS IS OF BULK AT MOST 1048576: true; the input reads as it did. -/
def migrateStaysUptoRow : OpenClaim := { program := "ytlhhahocjfgmdaa", sum := "3bfd30407410b8075cd98f8ccf1a8c83b1e71c0474d3a47cb3b5a164dba5eaa4", func := "leasehold/leaseholdlaw33.MigrateStays", spec := "migrateStays", unfollowed := true, recurses := true, loops := true, apart := false, narrowed := true }
def MigrateStaysUptoSaid : Prop := migrateStaysUptoRow.holds Try.pinned (OpenSpec.upto migrateStaysSpec)

/-- 'leaseholdlaw33.MigrateComposes', WHERE WHAT IT READS IS OF BULK AT MOST 1048576: true; the input reads as it did. -/
def migrateComposesUptoRow : OpenClaim := { program := "ytlhhahocjfgmdaa", sum := "3bfd30407410b8075cd98f8ccf1a8c83b1e71c0474d3a47cb3b5a164dba5eaa4", func := "leasehold/leaseholdlaw33.MigrateComposes", spec := "migrateComposes", unfollowed := true, recurses := true, loops := true, apart := false, narrowed := true }
def MigrateComposesUptoSaid : Prop := migrateComposesUptoRow.holds Try.pinned (OpenSpec.upto migrateComposesSpec)

end Rows
end Go.Proofs.Ytlhhahocjfgmdaa
