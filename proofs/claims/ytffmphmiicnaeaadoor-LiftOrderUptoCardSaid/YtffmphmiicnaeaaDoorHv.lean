/- A part of the proof: an abstract machine for the walks, and what the walked functions compute. -/
import Derived.Test.YtffmphmiicnaeaaDoorMk
set_option linter.unusedVariables false
set_option linter.unusedSimpArgs false
namespace Go.Hv
open Go Go.Am
inductive Vl where
 |mk (kind id var n:Int) (fs:List Vl) (excl:Bool) (path loans:List Int)
 deriving Inhabited
namespace Vl
def kind:Vl→Int| .mk k _ _ _ _ _ _ _=>k
def id:Vl→Int| .mk _ i _ _ _ _ _ _=>i
def var:Vl→Int| .mk _ _ v _ _ _ _ _=>v
def n:Vl→Int| .mk _ _ _ n _ _ _ _=>n
def fs:Vl→List Vl| .mk _ _ _ _ f _ _ _=>f
def excl:Vl→Bool| .mk _ _ _ _ _ e _ _=>e
def path:Vl→List Int| .mk _ _ _ _ _ _ p _=>p
def loans:Vl→List Int| .mk _ _ _ _ _ _ _ l=>l
mutual
def av:Vl→AV
 | .mk k i v n f e p l=> .agg [.i k,.i i,.i v,.i n,.sl (avL f),.bool e,.sl (il p),.sl (il l)]
def avL:List Vl→List AV
 | []=>[]
 |x::l=>x.av::avL l
end
def cs (x:Vl):List AV:=[.i x.kind,.i x.id,.i x.var,.i x.n,.sl (avL x.fs),.bool x.excl,.sl (il x.path),.sl (il x.loans)]
theorem av_cs (x:Vl):x.av= .agg x.cs:=by cases x;rw[av];rfl
theorem av_eq (x:Vl):x.av= .agg [.i x.kind,.i x.id,.i x.var,.i x.n,.sl (avL x.fs),.bool x.excl,.sl (il x.path),.sl (il x.loans)]:=av_cs x
theorem avL_eq:∀ l:List Vl,avL l=l.map av
 | []=>by rw[avL];rfl
 |x::l=>by rw[avL,avL_eq l];rfl
theorem av_clo (x:Vl):x.av.clo=true:=by rw[av_cs];rfl
theorem avL_clo (l:List Vl):AV.cloL (avL l)=true:=cloLeq _ fun x hx=>by rw[avL_eq] at hx;obtain⟨p,_,rfl⟩:=List.mem_map.1 hx;exact av_clo p
theorem ext {a b:Vl} (h1:a.kind=b.kind) (h2:a.id=b.id) (h3:a.var=b.var) (h4:a.n=b.n) (h5:a.fs=b.fs) (h6:a.excl=b.excl) (h7:a.path=b.path) (h8:a.loans=b.loans):a=b:=by
 cases a;cases b;simp_all[kind,id,var,n,fs,excl,path,loans]
mutual
def sz:Vl→Nat
 | .mk _ _ _ _ f _ p l=>1+p.length+l.length+szL f
def szL:List Vl→Nat
 | []=>0
 |x::l=>x.sz+szL l
end
theorem sz_eq (x:Vl):x.sz=1+x.path.length+x.loans.length+szL x.fs:=by cases x;rw[sz];rfl
theorem szL_eq:∀ l:List Vl,szL l=(l.map sz).sum
 | []=>by rw[szL];rfl
 |t::l=>by rw[szL,szL_eq l];rfl
theorem len_le:∀ l:List Vl,l.length≤szL l
 | []=>Nat.zero_le _
 |t::l=>by rw[szL,sz_eq];have:=len_le l;simp only[List.length_cons];omega
@[go_sem] theorem cs_len (x:Vl):x.cs.length=8:=rfl
end Vl
structure Cl where
 live:Bool
 arena:Int
 v:Vl
namespace Cl
def cs (c:Cl):List AV:= .bool c.live:: .i c.arena::c.v.cs
def av (c:Cl):AV:= .agg c.cs
theorem av_clo (c:Cl):c.av.clo=true:=rfl
@[go_sem] theorem cs_len (c:Cl):c.cs.length=10:=rfl
def zero:Cl:=⟨false,0,.mk 0 0 0 0 [] false [] []⟩
theorem ext' {a b:Cl} (h1:a.live=b.live) (h2:a.arena=b.arena) (h3:a.v=b.v):a=b:=by cases a;cases b;simp_all
end Cl
def cl (l:List Cl):List AV:=l.map Cl.av
@[go_sem] theorem cl_nil:cl []=[]:=rfl
structure Hp where
 cells:List Cl
 arenas:List Bool
namespace Hp
def cs (h:Hp):List AV:=[.sl (cl h.cells),.sl (bl h.arenas)]
def av (h:Hp):AV:= .agg h.cs
theorem av_eq (h:Hp):h.av= .agg [.sl (cl h.cells),.sl (bl h.arenas)]:=rfl
def sz (h:Hp):Nat:=(h.cells.map fun c=>1+c.v.sz).sum+h.arenas.length
end Hp
end Go.Hv
attribute [go_sem] Int.reduceToNat reduceCtorEq Nat.reduceAdd Nat.reduceMul Nat.reduceEqDiff Nat.reduceLT Nat.reduceLeDiff Nat.reduceSub Nat.reduceDiv Nat.reduceBEq Int.reduceBEq Int.reduceBNe Int.reduceLT Int.reduceLE Int.reduceEq
attribute [go_sem ↓] reduceIte
