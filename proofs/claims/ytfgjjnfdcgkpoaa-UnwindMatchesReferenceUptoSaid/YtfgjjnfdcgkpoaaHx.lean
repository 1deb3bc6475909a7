/- A part of the proof: an abstract machine for the walks, and what the walked functions compute. -/
import Derived.Test.YtfgjjnfdcgkpoaaHw
set_option linter.unusedVariables false
set_option linter.unusedSimpArgs false
namespace Go.Hv
open Go Go.Am
structure Rw where
 mc:List Bool
 ma:List Bool
 cnt:Nat
 ids:Int
 right:Bool
def marks (n:Nat) (l:List Nat):List Bool:=(List.range n).map fun i=>decide (i∈l)
@[go_sem] theorem marks_len (n:Nat) (l:List Nat):(marks n l).length=n:=by simp[marks]
theorem marks_get {n i:Nat} {l:List Nat} (h:i<n):(marks n l)[i]? =some (decide (i∈l)):=by simp[marks,h]
theorem marks_set {n i:Nat} {l:List Nat} (h:i<n):(marks n l).set i true=marks n (l++[i]):=by
 apply List.ext_getElem?
 intro j
 rw[List.getElem?_set]
 by_cases hj:j<n
 ·rw[marks_get hj,marks_get hj,marks_len]
  by_cases e:i=j
  ·subst e;simp[h]
  ·have:¬ j=i:=fun x=>e x.symm
   simp[e,this]
 ·rw[List.getElem?_eq_none (by rw[marks_len];omega),List.getElem?_eq_none (by rw[marks_len];omega),marks_len]
  split
  ·rename_i e;subst e;exact absurd h hj
  ·rfl
theorem marks_nil (n:Nat):List.replicate n false=marks n []:=by
 apply List.ext_getElem?
 intro j
 by_cases hj:j<n
 ·rw[marks_get hj,List.getElem?_replicate,if_pos hj];simp
 ·rw[List.getElem?_eq_none (by rw[List.length_replicate];omega),List.getElem?_eq_none (by rw[marks_len];omega)]
def mxS (a id:Int):Int:=if 0≤id∧id<1099511627776 then max a (id+1) else 2199023255552
def mxI (l:List Int):Int:=l.foldl mxS 0
theorem mxI_app (l:List Int) (x:Int):mxI (l++[x])=mxS (mxI l) x:=by simp[mxI]
theorem mxI_lt {n:Int} (h0:0≤n) (hn:n≤1099511627776):∀ l:List Int,n<mxI l↔∃ x,x∈l∧(x<0∨n≤x):=by
 have:∀ (l:List Int) (a:Int),n<l.foldl mxS a↔n<a∨∃ x,x∈l∧(x<0∨n≤x):=by
  intro l
  induction l with
  |nil=>intro a;simp
  |cons x l ih=>
   intro a
   rw[List.foldl_cons,ih]
   have e:n<mxS a x↔n<a∨(x<0∨n≤x):=by unfold mxS;split<;>omega
   rw[e]
   constructor
   ·rintro((h|h)|⟨y,hy,h⟩)
    ·exact .inl h
    ·exact .inr ⟨x,by simp,h⟩
    ·exact .inr ⟨y,by simp[hy],h⟩
   ·rintro(h|⟨y,hy,h⟩)
    ·exact .inl (.inl h)
    ·rcases List.mem_cons.1 hy with rfl|hy
     ·exact .inl (.inr h)
     ·exact .inr ⟨y,hy,h⟩
 intro l
 rw[mxI,this]
 constructor
 ·rintro(h|h)
  ·omega
  ·exact h
 ·exact .inr
def rs (h:Hp) (o:Ow):Rw:=⟨marks h.cells.length o.cs,marks h.arenas.length o.ags,o.ids.length,mxI o.ids,true⟩
def ROk (h:Hp) (r:Option Ow) (w:Rw):Prop:=match r with|some o=>w=rs h o|none=>w.right=false
end Go.Hv
namespace Go.Hv
open Go Go.Am
def clrTo (cs:List Nat) (i:Nat) (l:List Cl):List Cl:=l.mapIdx fun j c=>if j<i∧j∈cs then Cl.zero else c
def clrToA (ags:List Nat) (i:Nat) (l:List Bool):List Bool:=l.mapIdx fun j c=>if j<i∧j∈ags then false else c
@[go_sem] theorem clrTo_len (cs:List Nat) (i:Nat) (l:List Cl):(clrTo cs i l).length=l.length:=List.length_mapIdx
@[go_sem] theorem clrToA_len (cs:List Nat) (i:Nat) (l:List Bool):(clrToA cs i l).length=l.length:=List.length_mapIdx
theorem clrTo_zero (cs:List Nat) (l:List Cl):clrTo cs 0 l=l:=by
 apply List.ext_getElem?;intro j;simp[clrTo]
theorem clrToA_zero (cs:List Nat) (l:List Bool):clrToA cs 0 l=l:=by
 apply List.ext_getElem?;intro j;simp[clrToA]
theorem clrTo_all (cs:List Nat) (l:List Cl):clrTo cs l.length l=clrC l cs:=by
 apply List.ext_getElem?;intro j
 rw[clrC_get,clrTo,List.getElem?_mapIdx]
 by_cases hj:j<l.length
 ·rw[List.getElem?_eq_getElem hj]
  by_cases h:j∈cs<;>simp[h,hj]
 ·rw[List.getElem?_eq_none (by omega)];simp[hj]
theorem clrToA_all (cs:List Nat) (l:List Bool):clrToA cs l.length l=clrA l cs:=by
 apply List.ext_getElem?;intro j
 rw[clrA_get,clrToA,List.getElem?_mapIdx]
 by_cases hj:j<l.length
 ·rw[List.getElem?_eq_getElem hj]
  by_cases h:j∈cs<;>simp[h,hj]
 ·rw[List.getElem?_eq_none (by omega)];simp[hj]
theorem clrTo_in {cs:List Nat} {i:Nat} {l:List Cl} (h:i∈cs) (hi:i<l.length):(clrTo cs i l).set i Cl.zero=clrTo cs (i+1) l:=by
 apply List.ext_getElem?;intro j
 rw[List.getElem?_set,clrTo_len,clrTo,clrTo,List.getElem?_mapIdx,List.getElem?_mapIdx]
 by_cases e:i=j
 ·subst e;rw[if_pos rfl,if_pos hi,List.getElem?_eq_getElem hi];simp[h]
 ·rw[if_neg e]
  cases hj:l[j]? with
  |none=>rfl
  |some c=>
   simp only[Option.map_some]
   have:(j<i∧j∈cs)↔(j<i+1∧j∈cs):=⟨fun⟨a,b⟩=>⟨by omega,b⟩,fun⟨a,b⟩=>⟨by omega,b⟩⟩
   simp only[this]
theorem clrTo_out {cs:List Nat} {i:Nat} {l:List Cl} (h:i∉cs):clrTo cs (i+1) l=clrTo cs i l:=by
 apply List.ext_getElem?;intro j
 rw[clrTo,clrTo,List.getElem?_mapIdx,List.getElem?_mapIdx]
 have:(j<i+1∧j∈cs)↔(j<i∧j∈cs):=⟨fun⟨a,b⟩=>⟨by
  have:j≠i:=fun e=>h (e▸b)
  omega,b⟩,fun⟨a,b⟩=>⟨by omega,b⟩⟩
 simp only[this]
theorem clrToA_get {cs:List Nat} {i:Nat} {l:List Bool} {b:Bool} (hb:l[i]? =some b):(clrToA cs i l)[i]? =some b:=by
 rw[clrToA,List.getElem?_mapIdx,hb];simp
theorem clrTo_get {cs:List Nat} {i:Nat} {l:List Cl} {b:Cl} (hb:l[i]? =some b):(clrTo cs i l)[i]? =some b:=by
 rw[clrTo,List.getElem?_mapIdx,hb];simp
theorem clrToA_step {cs:List Nat} {i:Nat} {l:List Bool} {b:Bool} (hb:l[i]? =some b):(clrToA cs i l).set i (b&&!decide (i∈cs))=clrToA cs (i+1) l:=by
 have hi:=(List.getElem?_eq_some_iff.1 hb).1
 apply List.ext_getElem?;intro j
 rw[List.getElem?_set,clrToA_len,clrToA,clrToA,List.getElem?_mapIdx,List.getElem?_mapIdx]
 by_cases e:i=j
 ·subst e;rw[if_pos rfl,if_pos hi,hb]
  by_cases h:i∈cs<;>simp[h]
 ·rw[if_neg e]
  cases hj:l[j]? with
  |none=>rfl
  |some c=>
   simp only[Option.map_some]
   have:(j<i∧j∈cs)↔(j<i+1∧j∈cs):=⟨fun⟨a,b⟩=>⟨by omega,b⟩,fun⟨a,b⟩=>⟨by omega,b⟩⟩
   simp only[this]
theorem clrC_app:∀ (a b:List Nat) (l:List Cl),clrC (clrC l a) b=clrC l (a++b)
 | [],b,l=>rfl
 |n::a,b,l=>by rw[clrC,clrC_app a b];rfl
theorem clrA_app:∀ (a b:List Nat) (l:List Bool),clrA (clrA l a) b=clrA l (a++b)
 | [],b,l=>rfl
 |n::a,b,l=>by rw[clrA,clrA_app a b];rfl
end Go.Hv
