/- A part of the proof: an abstract machine for the walks, and what the walked functions compute. -/
import Derived.Test.YtfpcjabbcpgbjaaDoorHw
set_option linter.unusedVariables false
set_option linter.unusedSimpArgs false
namespace Go.Hv
open Go Go.Am
structure Rw where
 mc:List Bool
 ma:List Bool
 cnt:Nat
 ids:Int
 right:Bool
def marks (n:Nat) (l:List Nat):List Bool:=(List.range n).map fun i=>decide (i∈l)
@[go_sem] theorem YV (n:Nat) (l:List Nat):(marks n l).length=n:=by simp[marks]
theorem YU {n i:Nat} {l:List Nat} (h:i<n):(marks n l)[i]? =some (decide (i∈l)):=by simp[marks,h]
theorem OI {n i:Nat} {l:List Nat} (h:i<n):(marks n l).set i true=marks n (l++[i]):=by
 apply List.ext_getElem?
 intro j
 rw[List.getElem?_set]
 by_cases hj:j<n
 ·rw[YU hj,YU hj,YV]
  by_cases e:i=j
  ·subst e;simp[h]
  ·have:¬ j=i:=fun x=>e x.symm
   simp[e,this]
 ·rw[List.getElem?_eq_none (by rw[YV];omega),List.getElem?_eq_none (by rw[YV];omega),YV]
  split
  ·rename_i e;subst e;exact absurd h hj
  ·rfl
theorem OH (n:Nat):List.replicate n false=marks n []:=by
 apply List.ext_getElem?
 intro j
 by_cases hj:j<n
 ·rw[YU hj,List.getElem?_replicate,if_pos hj];simp
 ·rw[List.getElem?_eq_none (by rw[List.length_replicate];omega),List.getElem?_eq_none (by rw[YV];omega)]
def mxS (a id:Int):Int:=if 0<=id/\id<1099511627776 then max a (id+1) else 2199023255552
def mxI (l:List Int):Int:=l.foldl mxS 0
theorem jfg (l:List Int) (x:Int):mxI (l++[x])=mxS (mxI l) x:=by simp[mxI]
def rs (h:Hp) (o:Ow):Rw:=⟨marks h.cells.length o.cs,marks h.arenas.length o.ags,o.ids.length,mxI o.ids,true⟩
def ROk (h:Hp) (r:Option Ow) (w:Rw):Prop:=match r with|some o=>w=rs h o|none=>w.right=false
end Go.Hv
namespace Go.Hv
open Go Go.Am
end Go.Hv
