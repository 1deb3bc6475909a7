/- A part of the proof: an abstract machine for the walks, and what the walked functions compute. -/
import Derived.Test.YtfgjjnfdcgkpoaaHw
set_option linter.unusedVariables false
set_option linter.unusedSimpArgs false
namespace Go.Hv
open Go Go.Am
structure Rw where
 mc:List Bool
 ma:List Bool
 cnt:Nat
 ids:Int
 right:Bool
def marks (n:Nat) (l:List Nat):List Bool:=(List.range n).map fun i=>decide (i∈l)
def mxS (a id:Int):Int:=if 0≤id∧id<1099511627776 then max a (id+1) else 2199023255552
def mxI (l:List Int):Int:=l.foldl mxS 0
def rs (h:Hp) (o:Ow):Rw:=⟨marks h.cells.length o.cs,marks h.arenas.length o.ags,o.ids.length,mxI o.ids,true⟩
def ROk (h:Hp) (r:Option Ow) (w:Rw):Prop:=match r with|some o=>w=rs h o|none=>w.right=false
end Go.Hv
namespace Go.Hv
open Go Go.Am
end Go.Hv
