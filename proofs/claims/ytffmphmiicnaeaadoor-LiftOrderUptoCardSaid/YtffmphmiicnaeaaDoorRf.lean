/- A part of the proof: an abstract machine for the walks, and what the walked functions compute. -/
import Derived.Test.YtffmphmiicnaeaaDoorRe
import Derived.Test.YtffmphmiicnaeaaDoorRd
import Derived.Test.YtffmphmiicnaeaaDoorRc
set_option linter.unusedVariables false
set_option linter.unusedSimpArgs false
set_option maxHeartbeats 4000000
set_option maxRecDepth 100000
namespace Go.Proofs.YtffmphmiicnaeaaDoor
open Go.Am Go.Proofs Go.Lf
open Classical
attribute [local irreducible] AW CallP CallB
variable {nm:Nm} {ps:List Nm} {bs:List Bd} {E:En} {Q:AEx→Am.St→Prop}
end Go.Proofs.YtffmphmiicnaeaaDoor

set_option maxHeartbeats 4000000
set_option maxRecDepth 100000
namespace Go.Lf
structure OkR (x:Ls) (n:Nat):Prop where
 c:x.cnt+n≤2 ^ 20
 o:x.out.length+n≤2 ^ 20
end Go.Lf
namespace Go.Proofs.YtffmphmiicnaeaaDoor
open Go.Am Go.Proofs Go.Lf
open Classical
attribute [local irreducible] AW CallP CallB
end Go.Proofs.YtffmphmiicnaeaaDoor

set_option maxHeartbeats 4000000
set_option maxRecDepth 100000
namespace Go.Proofs.YtffmphmiicnaeaaDoor
open Go.Am Go.Proofs Go.Lf
open Classical
attribute [local irreducible] AW CallP CallB
variable {nm:Nm} {ps:List Nm} {bs:List Bd} {E:En} {Q:AEx→Am.St→Prop}
end Go.Proofs.YtffmphmiicnaeaaDoor

set_option maxHeartbeats 4000000
set_option maxRecDepth 100000
namespace Go.Proofs.YtffmphmiicnaeaaDoor
open Go.Am Go.Proofs Go.Lf
open Classical
attribute [local irreducible] AW CallP CallB
variable {nm:Nm} {ps:List Nm} {bs:List Bd} {o1:AObj} {l:List Lf.St} {i:Nat} {now:List Vs} {S:List Lf.St} {y:Ls} {E:En} {Q:AEx→Am.St→Prop} {J:Am.St→Prop} {fs:List Fm}
end Go.Proofs.YtffmphmiicnaeaaDoor

set_option maxHeartbeats 4000000
set_option maxRecDepth 100000
namespace Go.Proofs.YtffmphmiicnaeaaDoor
open Go.Am Go.Proofs Go.Lf
open Classical
attribute [local irreducible] AW CallP CallB
variable {nm:Nm} {ps:List Nm} {bs:List Bd} {o1:AObj} {l:List Lf.St} {i:Nat} {now:List Vs} {S:List Lf.St} {y:Ls} {E:En} {Q:AEx→Am.St→Prop} {J:Am.St→Prop} {fs:List Fm}
end Go.Proofs.YtffmphmiicnaeaaDoor

set_option maxHeartbeats 4000000
set_option maxRecDepth 100000
namespace Go.Proofs.YtffmphmiicnaeaaDoor
open Go.Am Go.Proofs Go.Lf
open Classical
attribute [local irreducible] AW CallP CallB
variable {nm:Nm} {ps:List Nm} {bs:List Bd} {o1:AObj} {l:List Lf.St} {i:Nat} {now:List Vs} {S:List Lf.St} {y:Ls} {E:En} {Q:AEx→Am.St→Prop} {J:Am.St→Prop} {fs:List Fm}
end Go.Proofs.YtffmphmiicnaeaaDoor

set_option maxHeartbeats 4000000
set_option maxRecDepth 100000
namespace Go.Proofs.YtffmphmiicnaeaaDoor
open Go.Am Go.Proofs Go.Lf
open Classical
attribute [local irreducible] AW CallP CallB
variable {nm:Nm} {ps:List Nm} {bs:List Bd} {o1:AObj} {l:List Lf.St} {i:Nat} {now:List Vs} {S:List Lf.St} {y:Ls} {E:En} {Q:AEx→Am.St→Prop} {J:Am.St→Prop} {fs:List Fm}
end Go.Proofs.YtffmphmiicnaeaaDoor

set_option maxHeartbeats 4000000
set_option maxRecDepth 100000
namespace Go.Proofs.YtffmphmiicnaeaaDoor
open Go.Am Go.Proofs Go.Lf
open Classical
attribute [local irreducible] AW CallP CallB
variable {nm:Nm} {ps:List Nm} {bs:List Bd} {o1:AObj} {l:List Lf.St} {i:Nat} {now:List Vs} {S:List Lf.St} {y:Ls} {E:En} {Q:AEx→Am.St→Prop} {J:Am.St→Prop} {fs:List Fm}
end Go.Proofs.YtffmphmiicnaeaaDoor

set_option maxHeartbeats 4000000
set_option maxRecDepth 100000
namespace Go.Proofs.YtffmphmiicnaeaaDoor
open Go.Am Go.Proofs Go.Lf
open Classical
attribute [local irreducible] AW CallP CallB
def hpV (l:List Vs):Nat→Option AObj:=mkHp [(0,.row 3 (vsl l))]

variable {nm:Nm} {ps:List Nm} {bs:List Bd} {o1:AObj} {l:List Lf.St} {i:Nat} {now:List Vs} {S:List Lf.St} {y:Ls} {E:En} {Q:AEx→Am.St→Prop} {J:Am.St→Prop} {fs:List Fm}
end Go.Proofs.YtffmphmiicnaeaaDoor

set_option maxHeartbeats 4000000
set_option maxRecDepth 100000
namespace Go.Proofs.YtffmphmiicnaeaaDoor
open Go.Am Go.Proofs Go.Lf
open Classical
attribute [local irreducible] AW CallP CallB
variable {nm:Nm} {ps:List Nm} {bs:List Bd} {o1:AObj} {l:List Lf.St} {i:Nat} {now:List Vs} {S:List Lf.St} {y:Ls} {E:En} {Q:AEx→Am.St→Prop} {J:Am.St→Prop} {fs:List Fm}
end Go.Proofs.YtffmphmiicnaeaaDoor

set_option maxHeartbeats 4000000
set_option maxRecDepth 100000
namespace Go.Proofs.YtffmphmiicnaeaaDoor
open Nat (reduceAdd reduceMul reduceEqDiff reduceLT reduceLeDiff reduceSub reduceDiv)
open Int (reduceBNe reduceLE reduceEq)
open Go.Am Go.Proofs Go.Lf
open Classical
attribute [local irreducible] AW CallP CallB
end Go.Proofs.YtffmphmiicnaeaaDoor

set_option maxHeartbeats 4000000
set_option maxRecDepth 100000
namespace Go.Proofs.YtffmphmiicnaeaaDoor
open Go.Am Go.Proofs Go.Lf
open Classical
attribute [local irreducible] AW CallP CallB
variable {nm:Nm} {ps:List Nm} {bs:List Bd} {o1:AObj} {l:List Lf.St} {i:Nat} {now:List Vs} {S:List Lf.St} {y:Ls} {E:En} {Q:AEx→Am.St→Prop} {J:Am.St→Prop} {fs:List Fm}
end Go.Proofs.YtffmphmiicnaeaaDoor

set_option maxHeartbeats 4000000
set_option maxRecDepth 100000
namespace Go.Proofs.YtffmphmiicnaeaaDoor
open Go.Am Go.Proofs Go.Lf
open Classical
attribute [local irreducible] AW CallP CallB
variable {nm:Nm} {ps:List Nm} {bs:List Bd} {o1:AObj} {l:List Lf.St} {i:Nat} {now:List Vs} {S:List Lf.St} {y:Ls} {E:En} {Q:AEx→Am.St→Prop} {J:Am.St→Prop} {fs:List Fm}
end Go.Proofs.YtffmphmiicnaeaaDoor

set_option maxHeartbeats 4000000
set_option maxRecDepth 100000
namespace Go.Lf
open Go Go.Am
variable {dec:Nat→Nm}
theorem OkR.mono {x:Ls} {n m:Nat} (h:OkR x n) (hm:m≤n):OkR x m:=⟨by have:=h.c;omega,by have:=h.o;omega⟩
theorem OkR.grow {x y:Ls} {n m:Nat} (h:OkR x n) (g:Grow y x m) (hm:m≤n):OkR y (n - m):=⟨by have:=h.c;have:=g.1;omega,by have:=h.o;have:=g.2;omega⟩
theorem OkR.fail {x:Ls} {n:Nat} (h:OkR x n) (e p:Int):OkR (x.fail e p) n:=by
 unfold Ls.fail
 split
 ·exact⟨h.c,h.o⟩
 ·exact h
end Go.Lf
namespace Go.Proofs.YtffmphmiicnaeaaDoor
open Go.Am Go.Proofs Go.Lf
open Classical
attribute [local irreducible] AW CallP CallB
variable {nm:Nm} {ps:List Nm} {bs:List Bd} {o1:AObj} {l:List Lf.St} {i:Nat} {S:List Lf.St} {y:Ls} {E:En} {Q:AEx→Am.St→Prop} {J:Am.St→Prop} {fs:List Fm}
structure RR (nm:Nm) (ps:List Nm) (bs:List Bd) (l:List Lf.St) (now0:List Vs) (x:Ls) (i:Nat) (now:List Vs) (S:List Lf.St) (y:Ls):Prop where
 il:i≤l.length
 eq:blk dec nm ps bs now0 l x=(S++(blk dec nm ps bs now (l.drop i) y).1,(blk dec nm ps bs now (l.drop i) y).2)
 nv:NV now
 nl:now.length+stSz (l.drop i)≤2 ^ 20
 ok:OkR y (stSz (l.drop i))
 sl:S.length≤i*1025
end Go.Proofs.YtffmphmiicnaeaaDoor

set_option maxHeartbeats 4000000
set_option maxRecDepth 100000
namespace Go.Proofs.YtffmphmiicnaeaaDoor
open Go.Am Go.Proofs Go.Lf
open Classical
attribute [local irreducible] AW CallP CallB

end Go.Proofs.YtffmphmiicnaeaaDoor

set_option maxRecDepth 100000
namespace Go.Lf
open Go Go.Am Go.Proofs.YtffmphmiicnaeaaDoor
def cInt:Tx:= .mk ⟨#[73,110,116]⟩ [] 0
def cD:Tx:= .mk ⟨#[68]⟩ [] 0
def nmf:Nm:=⟨#[102]⟩
def nmg:Nm:=⟨#[103]⟩
def nmr:Nm:=⟨#[114]⟩
def nmx:Nm:=⟨#[120]⟩
def nmy:Nm:=⟨#[121]⟩
def nmz:Nm:=⟨#[122]⟩
def nm0:Nm:=⟨#[]⟩
def exN:Ex:=⟨0,nm0,nm0,nm0,[],0,[],0⟩
def stK (k:Int) (n:Nm):Lf.St:= .mk k n [] [] exN [] [] [] [] 0
def exG (a:Nm) (o:Int):Lf.Fd:= .mk nmg [] [] [⟨nmy,cInt,0,0⟩,⟨nmz,cD,1,0⟩] [⟨a,cInt,0,o⟩] cInt [stK 7 nmx] 0
def exB (a:Nm) (o:Int):List Lf.St:=[.mk 13 nm0 [] [] exN [] [] [] [exG a o] 0,.mk 1 nmr [] [] ⟨15,nm0,nmg,nm0,[nmy],0,[],0⟩ [] [] [] [] 0,stK 7 nmr]
def exF (a:Nm) (o:Int) (c:List Ad) (p:Int):Lf.Fd:= .mk nmf [] [] c [⟨nmy,cInt,0,0⟩] cInt (exB a o) p
def exM (a:Nm) (o:Int) (c:List Ad) (p:Int):Md:=⟨⟨#[77]⟩,[],[],[],[],[exF a o c p]⟩
def nmgz:Nm:=⟨#[103,46,122]⟩
def nmf0g:Nm:=⟨#[102,46,48,46,103]⟩
def exL1:Lf.Fd:= .mk nmf [] [] [] [⟨nmy,cInt,0,0⟩] cInt [.mk 1 nmgz [] [] ⟨7,nm0,nm0,nm0,[nmz],0,[],0⟩ [] [] [] [] 0,.mk 1 nmr [] [] ⟨15,nm0,nmf0g,nm0,[nmy,nmgz,nmy],0,[],0⟩ [] [] [] [] 0,stK 7 nmr] 0
def exL2:Lf.Fd:= .mk nmf0g [] [] [] [⟨nmy,cInt,0,0⟩,⟨nmz,.mk ⟨#[38]⟩ [cD] 0,0,0⟩,⟨nmx,cInt,0,0⟩] cInt [stK 7 nmx] 0
def exL:Md:=⟨⟨#[77]⟩,[],[],[],[],[exL1,exL2]⟩
theorem dec0:dec 0=⟨#[48]⟩:=dec_small (by decide)
theorem ex_chk (o:Int):chk [⟨nmy,cInt,0,0⟩,⟨nmz,cD,1,0⟩,⟨nmx,cInt,0,o⟩] 0=none:=by
 simp[chk,twice,inN,nmx,nmy,nmz]
theorem ex_chk2:chk [⟨nmy,cInt,0,0⟩,⟨nmz,cD,1,0⟩,⟨nmz,cInt,0,17⟩] 0=some (7,17):=by
 simp[chk,twice,inN,nmx,nmy,nmz]
theorem ex_li:nmf++dot++(⟨#[48]⟩:Nm)++dot++nmg=nmf0g:=by decide
theorem ex_gz:nmg++dot++nmz=nmgz:=by decide
theorem ex_lift:liftL dec (exM nmx 0 [] 0).fs= .ok ([exL1],[exL2]):=by
 simp[exM,exF,liftL_mk,liftL,exB,exG,stK,blk,stm,locs,loc,dec0,ex_li,ex_chk,Ls.failO,call,exL1,exL2,find,lendS,lendN,ex_gz,arms,argOf,exN]
 exact⟨rfl,rfl⟩
theorem ex_lift2:liftL dec (exM nmz 17 [] 0).fs= .error (7,17):=by
 simp[exM,exF,liftL_mk,liftL,exB,exG,stK,blk,stm,locs,loc,dec0,ex_li,ex_chk2,Ls.failO,Ls.fail,call,exL1,exL2,find,lendS,lendN,ex_gz,arms,argOf,exN]
theorem ex_lift3 (c:List Ad) (hc:0<c.length):liftL dec (exM nmx 0 c 5).fs= .error (1,5):=by
 simp[exM,exF,liftL_mk,hc]
end Go.Lf
