/- A part of the proof: an abstract machine for the walks, and what the walked functions compute. -/
import Derived.Test.YtfgjjnfdcgkpoaaHw
set_option linter.unusedVariables false
set_option linter.unusedSimpArgs false
namespace Go.Hv
open Go Go.Am
structure Rw where
 mc:List Bool
 ma:List Bool
 cnt:Nat
 ids:Int
 right:Bool
def marks (n:Nat) (l:List Nat):List Bool:=(List.range n).map fun i=>decide (i∈l)
@[go_sem] theorem marks_len (n:Nat) (l:List Nat):(marks n l).length=n:=by simp[marks]
theorem marks_get {n i:Nat} {l:List Nat} (h:i<n):(marks n l)[i]? =some (decide (i∈l)):=by simp[marks,h]
theorem marks_set {n i:Nat} {l:List Nat} (h:i<n):(marks n l).set i true=marks n (l++[i]):=by
 apply List.ext_getElem?
 intro j
 rw[List.getElem?_set]
 by_cases hj:j<n
 ·rw[marks_get hj,marks_get hj,marks_len]
  by_cases e:i=j
  ·subst e;simp[h]
  ·have:¬ j=i:=fun x=>e x.symm
   simp[e,this]
 ·rw[List.getElem?_eq_none (by rw[marks_len];omega),List.getElem?_eq_none (by rw[marks_len];omega),marks_len]
  split
  ·rename_i e;subst e;exact absurd h hj
  ·rfl
theorem marks_nil (n:Nat):List.replicate n false=marks n []:=by
 apply List.ext_getElem?
 intro j
 by_cases hj:j<n
 ·rw[marks_get hj,List.getElem?_replicate,if_pos hj];simp
 ·rw[List.getElem?_eq_none (by rw[List.length_replicate];omega),List.getElem?_eq_none (by rw[marks_len];omega)]
def mxS (a id:Int):Int:=if 0≤id∧id<1099511627776 then max a (id+1) else 2199023255552
def mxI (l:List Int):Int:=l.foldl mxS 0
theorem mxI_app (l:List Int) (x:Int):mxI (l++[x])=mxS (mxI l) x:=by simp[mxI]
theorem mxI_lt {n:Int} (h0:0≤n) (hn:n≤1099511627776):∀ l:List Int,n<mxI l↔∃ x,x∈l∧(x<0∨n≤x):=by
 have:∀ (l:List Int) (a:Int),n<l.foldl mxS a↔n<a∨∃ x,x∈l∧(x<0∨n≤x):=by
  intro l
  induction l with
  |nil=>intro a;simp
  |cons x l ih=>
   intro a
   rw[List.foldl_cons,ih]
   have e:n<mxS a x↔n<a∨(x<0∨n≤x):=by unfold mxS;split<;>omega
   rw[e]
   constructor
   ·rintro((h|h)|⟨y,hy,h⟩)
    ·exact .inl h
    ·exact .inr ⟨x,by simp,h⟩
    ·exact .inr ⟨y,by simp[hy],h⟩
   ·rintro(h|⟨y,hy,h⟩)
    ·exact .inl (.inl h)
    ·rcases List.mem_cons.1 hy with rfl|hy
     ·exact .inl (.inr h)
     ·exact .inr ⟨y,hy,h⟩
 intro l
 rw[mxI,this]
 constructor
 ·rintro(h|h)
  ·omega
  ·exact h
 ·exact .inr
def rs (h:Hp) (o:Ow):Rw:=⟨marks h.cells.length o.cs,marks h.arenas.length o.ags,o.ids.length,mxI o.ids,true⟩
def ROk (h:Hp) (r:Option Ow) (w:Rw):Prop:=match r with|some o=>w=rs h o|none=>w.right=false
end Go.Hv
namespace Go.Hv
open Go Go.Am
end Go.Hv
