/- A part of the proof: an abstract machine for the walks, and what the walked functions compute. -/
import Derived.Test.YtfpcjabbcpgbjaaDoorMk
set_option linter.unusedVariables false
set_option linter.unusedSimpArgs false
namespace Go.Hv
open Go Go.Am
inductive Vl where
 |mk (kind id var n:Int) (fs:List Vl) (excl:Bool) (path loans:List Int)
 deriving Inhabited
namespace Vl
def kind:Vl->Int| .mk k _ _ _ _ _ _ _=>k
def id:Vl->Int| .mk _ i _ _ _ _ _ _=>i
def var:Vl->Int| .mk _ _ v _ _ _ _ _=>v
def n:Vl->Int| .mk _ _ _ n _ _ _ _=>n
def fs:Vl->List Vl| .mk _ _ _ _ f _ _ _=>f
def excl:Vl->Bool| .mk _ _ _ _ _ e _ _=>e
def path:Vl->List Int| .mk _ _ _ _ _ _ p _=>p
def loans:Vl->List Int| .mk _ _ _ _ _ _ _ l=>l
mutual
def av:Vl->AV
 | .mk k i v n f e p l=> .agg [.i k,.i i,.i v,.i n,.sl (avL f),.bool e,.sl (il p),.sl (il l)]
def avL:List Vl->List AV
 | []=>[]
 |x::l=>x.av::avL l
end
def cs (x:Vl):List AV:=[.i x.kind,.i x.id,.i x.var,.i x.n,.sl (avL x.fs),.bool x.excl,.sl (il x.path),.sl (il x.loans)]
theorem av_cs (x:Vl):x.av= .agg x.cs:=by cases x;rw[av];rfl
theorem av_eq (x:Vl):x.av= .agg [.i x.kind,.i x.id,.i x.var,.i x.n,.sl (avL x.fs),.bool x.excl,.sl (il x.path),.sl (il x.loans)]:=av_cs x
theorem avL_eq:∀ l:List Vl,avL l=l.map av
 | []=>by rw[avL];rfl
 |x::l=>by rw[avL,avL_eq l];rfl
theorem av_clo (x:Vl):x.av.clo=true:=by rw[av_cs];rfl
theorem cs_clo (x:Vl):AV.cloL x.cs=true:=rfl
theorem avL_clo (l:List Vl):AV.cloL (avL l)=true:=gC _ fun x hx=>by rw[avL_eq] at hx;obtain⟨p,_,rfl⟩:=List.mem_map.1 hx;exact av_clo p
theorem ext {a b:Vl} (h1:a.kind=b.kind) (h2:a.id=b.id) (h3:a.var=b.var) (h4:a.n=b.n) (h5:a.fs=b.fs) (h6:a.excl=b.excl) (h7:a.path=b.path) (h8:a.loans=b.loans):a=b:=by
 cases a;cases b;simp_all[kind,id,var,n,fs,excl,path,loans]
mutual
def sz:Vl->Nat
 | .mk _ _ _ _ f _ p l=>1+p.length+l.length+szL f
def szL:List Vl->Nat
 | []=>0
 |x::l=>x.sz+szL l
end
theorem sz_eq (x:Vl):x.sz=1+x.path.length+x.loans.length+szL x.fs:=by cases x;rw[sz];rfl
theorem szL_eq:∀ l:List Vl,szL l=(l.map sz).sum
 | []=>by rw[szL];rfl
 |t::l=>by rw[szL,szL_eq l];rfl
theorem sz_mem {t:Vl} :∀ {l:List Vl},t∈l->t.sz<=szL l
 |x::l,h=>by
  rw[szL]
  rcases List.mem_cons.1 h with e|e
  ·subst e;omega
  ·have:=sz_mem e;omega
theorem len_le:∀ l:List Vl,l.length<=szL l
 | []=>Nat.zero_le _
 |t::l=>by rw[szL,sz_eq];have:=len_le l;simp only[List.length_cons];omega
@[go_sem] theorem avL_len (l:List Vl):(avL l).length=l.length:=by rw[avL_eq,List.length_map]
@[go_sem] theorem avL_get (l:List Vl) (i:Nat):(avL l)[i]? =l[i]?.map av:=by rw[avL_eq,List.getElem?_map]
@[go_sem] theorem avL_ren (m:Nat->Nat) (l:List Vl):AV.renL m (avL l)=avL l:=js (avL_clo l)
@[go_sem] theorem avL_ids (p:Nat->Prop) (l:List Vl):AV.idsL p (avL l)=True:=eq_true (jt (avL_clo l))
@[go_sem] theorem cs_ren (m:Nat->Nat) (x:Vl):AV.renL m x.cs=x.cs:=js x.cs_clo
@[go_sem] theorem cs_ids (p:Nat->Prop) (x:Vl):AV.idsL p x.cs=True:=eq_true (jt x.cs_clo)
@[go_sem] theorem cs_len (x:Vl):x.cs.length=8:=rfl
theorem clo_avL (l:List Vl):j8 (avL l):=by
 intro x hx c hc
 rw[avL_eq] at hx
 obtain⟨p,_,rfl⟩:=List.mem_map.1 hx
 rw[av_cs] at hc
 simp only[AV.cells,cs,List.mem_cons,List.not_mem_nil,or_false] at hc
 rcases hc with rfl|rfl|rfl|rfl|rfl|rfl|rfl|rfl<;>rfl
@[go_sem] theorem clo_avLT (l:List Vl):j8 (avL l)=True:=eq_true (clo_avL l)
theorem szok_avL (l:List Vl):SzOk (avL l) 8:=by
 intro x hx
 rw[avL_eq] at hx
 obtain⟨p,_,rfl⟩:=List.mem_map.1 hx
 rw[av_cs]
 rfl
end Vl
structure Cl where
 live:Bool
 arena:Int
 v:Vl
namespace Cl
def cs (c:Cl):List AV:= .bool c.live:: .i c.arena::c.v.cs
def av (c:Cl):AV:= .agg c.cs
theorem cs_eq (c:Cl):c.cs=[.bool c.live,.i c.arena,.i c.v.kind,.i c.v.id,.i c.v.var,.i c.v.n,.sl (Vl.avL c.v.fs),.bool c.v.excl,.sl (il c.v.path),.sl (il c.v.loans)]:=rfl
theorem cs_clo (c:Cl):AV.cloL c.cs=true:=rfl
theorem av_clo (c:Cl):c.av.clo=true:=rfl
@[go_sem] theorem cs_len (c:Cl):c.cs.length=10:=rfl
@[go_sem] theorem cs_ren (m:Nat->Nat) (c:Cl):AV.renL m c.cs=c.cs:=js c.cs_clo
@[go_sem] theorem cs_ids (p:Nat->Prop) (c:Cl):AV.idsL p c.cs=True:=eq_true (jt c.cs_clo)
@[go_sem] theorem av_ren (m:Nat->Nat) (c:Cl):c.av.ren m=c.av:=Jz c.av_clo
@[go_sem] theorem av_ids (p:Nat->Prop) (c:Cl):c.av.ids p=True:=eq_true (j5 c.av_clo)
def zero:Cl:=⟨false,0,.mk 0 0 0 0 [] false [] []⟩
end Cl
def cl (l:List Cl):List AV:=l.map Cl.av
@[go_sem] theorem jbS (l:List Cl):(cl l).length=l.length:=List.length_map ..
@[go_sem] theorem jnx (l:List Cl) (i:Nat):(cl l)[i]? =(l[i]?).map Cl.av:=List.getElem?_map ..
@[go_sem] theorem jbT (l:List Cl) (i:Nat) (c:Cl):(cl l).set i c.av=cl (l.set i c):=(List.map_set ..).symm
@[go_sem] theorem ub:cl []=[]:=rfl
theorem QP (l:List Cl):AV.cloL (cl l)=true:=gC _ fun x hx=>by obtain⟨p,_,rfl⟩:=List.mem_map.1 hx;rfl
@[go_sem] theorem jnz (m:Nat->Nat) (l:List Cl):AV.renL m (cl l)=cl l:=js (QP l)
@[go_sem] theorem jny (p:Nat->Prop) (l:List Cl):AV.idsL p (cl l)=True:=eq_true (jt (QP l))
theorem jbV (l:List Cl):j8 (cl l):=by
 intro x hx c hc
 obtain⟨p,_,rfl⟩:=List.mem_map.1 hx
 simp only[AV.cells,Cl.av,Cl.cs_eq,List.mem_cons,List.not_mem_nil,or_false] at hc
 rcases hc with rfl|rfl|rfl|rfl|rfl|rfl|rfl|rfl|rfl|rfl<;>rfl
@[go_sem] theorem jmo (l:List Cl):j8 (cl l)=True:=eq_true (jbV l)
theorem jap (l:List Cl):SzOk (cl l) 10:=by
 intro x hx
 obtain⟨p,_,rfl⟩:=List.mem_map.1 hx
 rfl
structure Hp where
 cells:List Cl
 arenas:List Bool
namespace Hp
def cs (h:Hp):List AV:=[.sl (cl h.cells),.sl (bl h.arenas)]
def av (h:Hp):AV:= .agg h.cs
theorem av_eq (h:Hp):h.av= .agg [.sl (cl h.cells),.sl (bl h.arenas)]:=rfl
theorem cs_clo (h:Hp):AV.cloL h.cs=true:=rfl
@[go_sem] theorem cs_ren (m:Nat->Nat) (h:Hp):AV.renL m h.cs=h.cs:=js h.cs_clo
@[go_sem] theorem cs_ids (p:Nat->Prop) (h:Hp):AV.idsL p h.cs=True:=eq_true (jt h.cs_clo)
def sz (h:Hp):Nat:=(h.cells.map fun c=>1+c.v.sz).sum+h.arenas.length
end Hp
end Go.Hv
attribute [go_sem] Int.reduceToNat reduceCtorEq Nat.reduceAdd Nat.reduceMul Nat.reduceEqDiff Nat.reduceLT Nat.reduceLeDiff Nat.reduceSub Nat.reduceDiv Nat.reduceBEq Int.reduceBEq Int.reduceBNe Int.reduceLT Int.reduceLE Int.reduceEq
attribute [go_sem ↓] reduceIte
