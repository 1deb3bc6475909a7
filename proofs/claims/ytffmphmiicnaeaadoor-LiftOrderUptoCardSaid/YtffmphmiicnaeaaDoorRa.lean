/- A part of the proof: an abstract machine for the walks, and what the walked functions compute. -/
import Derived.Test.YtffmphmiicnaeaaDoorProg
import Derived.KernelRfl
import Derived.Shelf.Strconv.Itoa3
import Derived.Shelf.LaysM
import Derived.Lib.AppendIntMem
import Derived.Shelf.SlMaps.Clone
import Derived.Test.YtffmphmiicnaeaaDoorMr
import Derived.Test.YtffmphmiicnaeaaDoorMt
import Derived.Test.YtffmphmiicnaeaaDoorMq
import Derived.Test.YtffmphmiicnaeaaDoorMj
import Derived.Test.YtffmphmiicnaeaaDoorMe
import Derived.Test.YtffmphmiicnaeaaDoorHv
set_option linter.unusedVariables false
set_option linter.unusedSimpArgs false
namespace Go.Am
def MapS (es:List (AV×AV)) (F:ByteArray→Option AV):Prop:=∀ n,findS n es=some (F n)
theorem MapS.nil:MapS [] fun _=>none:=fun n=>by rw[findS]
theorem findS_app {n m:ByteArray} {x:AV} :∀ {es:List (AV×AV)},findS n es=some none→findS m (es++[(.str n,x)])=if m=n then some (some x) else findS m es
 | [],_=>by
  rw[List.nil_append,findS,findS]
  by_cases hm:m=n
  ·rw[if_pos hm,if_pos hm]
  ·rw[if_neg hm,if_neg hm,findS]
 |(y,z)::es,h=>by
  cases y<;>simp only[findS] at h<;>try(cases h;done)
  rename_i n'
  simp only[List.cons_append,findS]
  split at h
  ·cases h
  ·rename_i hn
   rw[findS_app h]
   by_cases hm:m=n'
   ·rw[if_pos hm,if_pos hm,if_neg (fun e=>hn (e.symm.trans hm))]
   ·rw[if_neg hm,if_neg hm]
theorem findS_upd {n m:ByteArray} {x:AV} :∀ {es:List (AV×AV)} {y:AV},findS n es=some (some y)→findS m (updS n x es)=if m=n then some (some x) else findS m es
 | [],_,h=>by cases h
 |(z,v)::es,y,h=>by
  cases z<;>simp only[findS] at h<;>try(cases h;done)
  rename_i n'
  simp only[updS]
  split at h
  ·rename_i hn
   subst hn
   rw[if_pos rfl]
   simp only[findS]
   by_cases hm:m=n<;>simp[hm]
  ·rename_i hn
   rw[if_neg hn]
   simp only[findS]
   rw[findS_upd h]
   by_cases hm:m=n'
   ·rw[if_pos hm,if_pos hm,if_neg (fun e=>hn (e.symm.trans hm))]
   ·rw[if_neg hm,if_neg hm]
theorem MapS.put {es:List (AV×AV)} {F:ByteArray→Option AV} (h:MapS es F) (n:ByteArray) (x:AV):MapS (putT n x es (F n)) fun m=>if m=n then some x else F m:=by
 intro m
 have hn:=h n
 cases hF:F n with
 |none=>
  rw[hF] at hn
  rw[putT,findS_app hn,h m]
  by_cases hm:m=n<;>simp[hm]
 |some y=>
  rw[hF] at hn
  rw[putT,findS_upd hn,h m]
  by_cases hm:m=n<;>simp[hm]
theorem EsClo.putT {es:List (AV×AV)} (h:EsClo es) (n:ByteArray) {x:AV} (hx:x.clo=true) (r:Option AV):EsClo (putT n x es r):=by
 cases r with
 |none=>
  intro p hp
  rcases List.mem_append.1 hp with hp|hp
  ·exact h p hp
  ·rw[List.mem_singleton.1 hp];exact⟨rfl,hx⟩
 |some y=>
  show EsClo (updS n x es)
  clear y
  induction es with
  |nil=>exact h
  |cons q es ih=>
   have h1:=h q (by simp)
   have h2:=ih fun p hp=>h p (List.mem_cons_of_mem _ hp)
   obtain⟨z,v⟩:=q
   intro p hp
   unfold updS at hp
   split at hp
   ·cases hp
   ·rename_i heq
    cases heq
    split at hp
    ·rcases List.mem_cons.1 hp with rfl|hp
     ·exact⟨rfl,hx⟩
     ·exact h p (List.mem_cons_of_mem _ hp)
    ·rcases List.mem_cons.1 hp with rfl|hp
     ·exact h1
     ·exact h2 p hp
   ·rename_i heq
    cases heq
    rcases List.mem_cons.1 hp with rfl|hp
    ·exact h1
    ·exact h2 p hp
def EsZ (es:List (AV×AV)):Prop:=∀ p,p∈es→p.1.zf=true∧p.2.zf=true
theorem EsZ.nil:EsZ []:=fun _ h=>(by cases h)
theorem EsZ.putT {es:List (AV×AV)} (h:EsZ es) (n:ByteArray) {x:AV} (hx:x.zf=true) (r:Option AV):EsZ (putT n x es r):=by
 cases r with
 |none=>
  intro p hp
  rcases List.mem_append.1 hp with hp|hp
  ·exact h p hp
  ·rw[List.mem_singleton.1 hp];exact⟨rfl,hx⟩
 |some y=>
  show EsZ (updS n x es)
  clear y
  induction es with
  |nil=>exact h
  |cons q es ih=>
   have h1:=h q (by simp)
   have h2:=ih fun p hp=>h p (List.mem_cons_of_mem _ hp)
   obtain⟨z,v⟩:=q
   intro p hp
   unfold updS at hp
   split at hp
   ·cases hp
   ·rename_i heq
    cases heq
    split at hp
    ·rcases List.mem_cons.1 hp with rfl|hp
     ·exact⟨rfl,hx⟩
     ·exact h p (List.mem_cons_of_mem _ hp)
    ·rcases List.mem_cons.1 hp with rfl|hp
     ·exact h1
     ·exact h2 p hp
   ·rename_i heq
    cases heq
    rcases List.mem_cons.1 hp with rfl|hp
    ·exact h1
    ·exact h2 p hp
theorem EsClo.ids {es:List (AV×AV)} (h:EsClo es) (p:Nat→Prop):∀ q,q∈es→q.1.ids p∧q.2.ids p:=fun q hq=>⟨clo_ids (h q hq).1,clo_ids (h q hq).2⟩
theorem EsClo.ids2 {es:List (AV×AV)} (h:EsClo es) (p:Nat→Prop):∀ a b,(a,b)∈es→a.ids p∧b.ids p:=fun a b hq=>h.ids p (a,b) hq
end Go.Am
namespace Go.Am
open Go
variable {P:Program}
def MCallR {X:Type} (P:Program) (f:FuncId) (vs:List AV) (ob:X→Nat→Option AObj) (n np:Nat) (x:X) (r:AV) (G:X→Prop):Prop:=
 r.clo=true∧ACall P f vs (ob x) n np (fun r' hp'=>r'=r∧∃ x',hp'=ob x'∧G x') (fun _ _=>False)
theorem MCallR.useG {X : Type} {ob : X → Nat → Option AObj} {n np : Nat} (F : Fam ob n) (hnp : np ≤ n) (hn : n ≤ np + 1048576) {f : FuncId} {vs : List AV} {x : X} {r : AV} {G : X → Prop} (hA : MCallR P f vs ob n np x r G)
    {fr:Nat→Option AV} {hp0:Nat→Option AObj} {n0 k:Nat} {d:Option Nat} {K:St→Prop} {Kp:AV→St→Prop} (hvs:AV.idsL (· <n) vs) (hob:∀ id o,ob x id=some o→hp0 id=some o)
    (hK:∀ x' hpn,G x'→(∀ j o,ob x' j=some o→hpn (backM (fun i=>i) np (n0+1048576*k) j)=some (o.ren (backM (fun i=>i) np (n0+1048576*k))))→(∀ id o,n≤id→hp0 id=some o→hpn id=some o)→K ⟨putf fr d r,hpn,n0⟩):
    CallB P f vs ⟨fr,hp0,n0⟩ k d K Kp:=by
  obtain⟨hrc,hA⟩:=hA
  refine CallB.use hA (fun i=>i) (by rw[renL_id]) hvs (fun id o ho=>⟨by rw[oren_id];exact hob id o ho,F.lt x id o ho⟩) (fun _ _ _ _ _ _ e=>e) (fun id hid=>⟨by omega,F.all x id (by omega)⟩) ?_ (fun _ _ h=>h.elim) ?_ (fun _ _ _ h=>h.elim)
  · rintro r' hp' ⟨rfl,x',rfl,_⟩
    exact⟨clo_ids hrc,fun id o ho=>⟨by have:=(F.lt x' id o ho).1;omega,objids_mono _ (fun j hj=>by omega) (F.lt x' id o ho).2⟩⟩
  · rintro r' hp' fr' hpn ⟨rfl,x',rfl,hG⟩ hfr hobj hold
    rw[clo_ren hrc] at hfr
    have e:fr'=putf fr d r':=by subst hfr;cases d<;>rfl
    subst e
    refine hK x' hpn hG hobj (fun id o hid ho=>hold id o ho fun j hj e=>?_)
    obtain⟨o',ho'⟩:=Option.ne_none_iff_exists'.1 hj
    have:=(F.lt x j o' ho').1
    omega
theorem MCallR.intro {X : Type} {ob : X → Nat → Option AObj} {n np : Nat} {f : FuncId} {fn : Func} {c : Code} {vs : List AV} {x : X} {r : AV} {G : X → Prop} (hrc : r.clo = true) (hf : P.funcs[f]? = some fn) (hfn : isFn P f = true) (hb : fn.body = some c) (hn : vs.length ≤ fn.ntmps)
    (h:∀ (E:En) (Q:AEx→St→Prop),E.nt=fn.ntmps→E.np=np→(E.rd=none∧E.mks=true∧E.ex=true)→(∀ σ,resA P fn.results.toList σ=some r→(∃ m nc x',Ent np m σ ⟨fun _=>none,ob x',nc⟩∧G x')→Q .ret σ∧Q .norm σ)→AW P E c Q ⟨mkPar 0 vs,ob x,n⟩):MCallR P f vs ob n np x r G:=
  ⟨hrc,ACall.of_bodyRM hf hfn hb hn fun E Q hE hN hM hQ hQp=>h E Q hE hN hM fun σ h1 ⟨m,nc,x',h2,h3⟩=>hQ σ ⟨r,m,_,nc,by rw[clo_ren hrc];exact h1,clo_ids hrc,h2,rfl,x',rfl,h3⟩⟩
end Go.Am

namespace Go.Lf
open Go Go.Am
abbrev Nm:=ByteArray
def dot:Nm:=⟨#[46]⟩
inductive Tx where
 |mk (n:Nm) (a:List Tx) (o:Int)
def inN (n:Nm) (l:List Nm):Bool:=l.any fun m=>decide (m=n)
namespace Tx
def n:Tx→Nm| .mk n _ _=>n
def a:Tx→List Tx| .mk _ a _=>a
def o:Tx→Int| .mk _ _ o=>o
mutual
def sz:Tx→Nat
 | .mk _ a _=>1+szL a
def szL:List Tx→Nat
 | []=>0
 |t::l=>t.sz+szL l
end
mutual
def av:Tx→AV
 | .mk n a o=> .agg [.str n,.sl (avL a),.i o]
def avL:List Tx→List AV
 | []=>[]
 |t::l=>t.av::avL l
end
def cs (x:Tx):List AV:=[.str x.n,.sl (avL x.a),.i x.o]
mutual
def nms:Tx→List Nm
 | .mk n a _=>n::nmsL a
def nmsL:List Tx→List Nm
 | []=>[]
 |t::l=>t.nms++nmsL l
end
end Tx
structure Ad where
 nm:Nm
 ty:Tx
 cp:Int
 off:Int
structure Bd where
 p:Nm
 t:Nm
 off:Int
structure Ex where
 k:Int
 op:Nm
 nm:Nm
 vr:Nm
 ns:List Nm
 num:Int
 ty:List Tx
 off:Int
mutual
inductive St where
 |mk (k:Int) (nm:Nm) (ns:List Nm) (ty:List Tx) (ex:Ex) (th el:List St) (ar:List Ar) (fn:List Fd) (off:Int)
inductive Ar where
 |mk (v:Nm) (ns:List Nm) (b:List St) (off:Int)
inductive Fd where
 |mk (nm:Nm) (ps:List Nm) (bs:List Bd) (cs ag:List Ad) (res:Tx) (b:List St) (off:Int)
end
def nml (l:List Nm):List AV:=l.map .str
def Ad.av (x:Ad):AV:= .agg [.str x.nm,.str x.ty.n,.sl (Tx.avL x.ty.a),.i x.ty.o,.i x.cp,.i x.off]
def adl (l:List Ad):List AV:=l.map Ad.av
def Bd.av (x:Bd):AV:= .agg [.str x.p,.str x.t,.i x.off]
def bdl (l:List Bd):List AV:=l.map Bd.av
def Ex.cs (x:Ex):List AV:=[.i x.k,.str x.op,.str x.nm,.str x.vr,.sl (nml x.ns),.i x.num,.sl (Tx.avL x.ty),.i x.off]
def Ex.av (x:Ex):AV:= .agg x.cs
mutual
def St.av:St→AV
 | .mk k nm ns ty ex th el ar fn off=> .agg [.i k,.str nm,.sl (nml ns),.sl (Tx.avL ty),.i ex.k,.str ex.op,.str ex.nm,.str ex.vr,.sl (nml ex.ns),.i ex.num,.sl (Tx.avL ex.ty),.i ex.off,.sl (stl th),.sl (stl el),.sl (arl ar),.sl (fdl fn),.i off]
def stl:List St→List AV
 | []=>[]
 |s::l=>s.av::stl l
def Ar.av:Ar→AV
 | .mk v ns b off=> .agg [.str v,.sl (nml ns),.sl (stl b),.i off]
def arl:List Ar→List AV
 | []=>[]
 |s::l=>s.av::arl l
def Fd.av:Fd→AV
 | .mk nm ps bs cs ag res b off=> .agg [.str nm,.sl (nml ps),.sl (bdl bs),.sl (adl cs),.sl (adl ag),.str res.n,.sl (Tx.avL res.a),.i res.o,.sl (stl b),.i off]
def fdl:List Fd→List AV
 | []=>[]
 |s::l=>s.av::fdl l
end
def adSz (l:List Ad):Nat:=(l.map fun a=>a.ty.sz).sum
def Ex.sz (x:Ex):Nat:=x.ns.length+Tx.szL x.ty
mutual
def St.sz:St→Nat
 | .mk k nm ns ty ex th el ar fn off=>1+ns.length+Tx.szL ty+ex.sz+stSz th+stSz el+arSz ar+fdSz fn
def stSz:List St→Nat
 | []=>0
 |s::l=>s.sz+stSz l
def Ar.sz:Ar→Nat
 | .mk v ns b off=>1+ns.length+stSz b
def arSz:List Ar→Nat
 | []=>0
 |s::l=>s.sz+arSz l
def Fd.sz:Fd→Nat
 | .mk nm ps bs cs ag res b off=>1+ps.length+bs.length+adSz cs+adSz ag+res.sz+stSz b
def fdSz:List Fd→Nat
 | []=>0
 |s::l=>s.sz+fdSz l
end
mutual
def St.nms:St→List Nm
 | .mk k nm ns ty ex th el ar fn off=>Tx.nmsL ty++(Tx.nmsL ex.ty++(stN th++(stN el++(arN ar++fdN fn))))
def stN:List St→List Nm
 | []=>[]
 |s::l=>s.nms++stN l
def Ar.nms:Ar→List Nm
 | .mk v ns b off=>stN b
def arN:List Ar→List Nm
 | []=>[]
 |s::l=>s.nms++arN l
def Fd.nms:Fd→List Nm
 | .mk nm ps bs cs ag res b off=>(cs.flatMap fun a=>a.ty.nms)++((ag.flatMap fun a=>a.ty.nms)++(res.nms++stN b))
def fdN:List Fd→List Nm
 | []=>[]
 |s::l=>s.nms++fdN l
end
structure Vs where
 nm:Nm
 li:Nm
 cs:List Ad
structure Ls where
 cnt:Nat
 out:List Fd
 err:Int
 pos:Int
def Ls.fail (x:Ls) (e p:Int):Ls:=if x.err=0 then⟨x.cnt,x.out,e,p⟩ else x
def twice:List Nm→List Ad→Option Int
 |_,[]=>none
 |seen,a::l=>if inN a.nm seen=true then some a.off else twice (a.nm::seen) l
def chk (l:List Ad) (off:Int):Option (Int×Int):=
 match twice [] l with
 |some p=>some (7,p)
 |none=>if 8<l.length then some (2,off) else none
def Ls.failO (x:Ls):Option (Int×Int)→Ls
 |some e=>x.fail e.1 e.2
 |none=>x
def argOf (a:Ad):Ad:=
 if a.cp=1 then⟨a.nm,.mk ⟨#[38]⟩ [a.ty] a.ty.o,0,a.off⟩ else if a.cp=2 then⟨a.nm,.mk ⟨#[38,33]⟩ [a.ty] a.ty.o,0,a.off⟩ else⟨a.nm,a.ty,0,a.off⟩
def find (l:List Vs) (n:Nm):Option Vs:=l.reverse.find? fun v=>decide (v.nm=n)
def lendS (v:Vs) (off:Int) (c:Ad):List St:=
 if c.cp=1∨c.cp=2 then [.mk 1 (v.nm++dot++c.nm) [] [] ⟨if c.cp=2 then 8 else 7,⟨#[]⟩,⟨#[]⟩,⟨#[]⟩,[c.nm],0,[],off⟩ [] [] [] [] off] else []
def lendN (v:Vs) (c:Ad):Nm:=if c.cp=1∨c.cp=2 then v.nm++dot++c.nm else c.nm
def call (now:List Vs) (k:Int) (nm:Nm) (ns:List Nm) (ty:List Tx) (ex:Ex) (th el:List St) (ar:List Ar) (fn:List Fd) (off:Int):List St:=
 if k=12 then
  match find now nm with
  |some v=>v.cs.flatMap (lendS v off)++[.mk k v.li (v.cs.map (lendN v)++ns) ty ex th el ar fn off]
  |none=>[.mk k nm ns ty ex th el ar fn off]
 else if(k=1∨k=2)∧ex.k=15 then
  match find now ex.nm with
  |some v=>v.cs.flatMap (lendS v off)++[.mk k nm ns ty ⟨ex.k,ex.op,v.li,ex.vr,v.cs.map (lendN v)++ex.ns,ex.num,ex.ty,ex.off⟩ th el ar fn off]
  |none=>[.mk k nm ns ty ex th el ar fn off]
 else [.mk k nm ns ty ex th el ar fn off]
variable (dec:Nat→Nm)
mutual
def blk (nm:Nm) (ps:List Nm) (bs:List Bd) (now:List Vs):List St→Ls→List St×Ls
 | [],x=>([],x)
 |s::l,x=>
  let r:=stm nm ps bs now s x
  let q:=blk nm ps bs (now++r.1) l r.2.2
  (r.2.1++q.1,q.2)
def stm (nm:Nm) (ps:List Nm) (bs:List Bd) (now:List Vs):St→Ls→List Vs×List St×Ls
 | .mk k n ns ty ex th el ar fn off,x=>
  if k=13 then
   if fn.length=1∧th.length+el.length+ar.length=0 then
    let r:=locs nm ps bs fn x
    (r.1,[],r.2)
   else([],[],x.fail 1 off)
  else if fn.length=0 then
   let a:=blk nm ps bs now th x
   let b:=blk nm ps bs now el a.2
   let c:=arms nm ps bs now ar b.2
   ([],call now k n ns ty ex a.1 b.1 c.1 fn off,c.2)
  else([],[],x.fail 1 off)
def arms (nm:Nm) (ps:List Nm) (bs:List Bd) (now:List Vs):List Ar→Ls→List Ar×Ls
 | [],x=>([],x)
 |s::l,x=>
  let r:=arm nm ps bs now s x
  let q:=arms nm ps bs now l r.2
  (r.1::q.1,q.2)
def arm (nm:Nm) (ps:List Nm) (bs:List Bd) (now:List Vs):Ar→Ls→Ar×Ls
 | .mk v ns b off,x=>
  let r:=blk nm ps bs now b x
  (.mk v ns r.1 off,r.2)
def locs (nm:Nm) (ps:List Nm) (bs:List Bd):List Fd→Ls→List Vs×Ls
 | [],x=>([],x)
 |f::_,x=>
  let r:=loc nm ps bs f x
  ([r.1],r.2)
def loc (nm:Nm) (ps:List Nm) (bs:List Bd):Fd→Ls→Vs×Ls
 | .mk n ps0 bs0 cs ag res b off,x=>
  let li:=nm++dot++dec x.cnt++dot++n
  let ps':=ps.filter fun p=>inN p (Fd.nms (.mk n ps0 bs0 cs ag res b off))
  let bs':=bs.filter fun b=>inN b.p ps'
  let y:=x.failO (chk (cs++ag) off)
  let r:=blk li ps' bs' [] b ⟨0,[],y.err,y.pos⟩
  (⟨n,li,cs⟩,⟨x.cnt+1,x.out++(.mk li ps' bs' [] (cs.map argOf++ag) res r.1 off::r.2.out),r.2.err,r.2.pos⟩)
end
end Go.Lf

namespace Go.Lf
open Go Go.Am
variable {dec:Nat→Nm}
theorem Tx.avL_eq:∀ l:List Tx,Tx.avL l=l.map Tx.av
 | []=>rfl
 |t::l=>by rw[Tx.avL,Tx.avL_eq l];rfl
theorem stl_eq:∀ l:List St,stl l=l.map St.av
 | []=>rfl
 |t::l=>by rw[stl,stl_eq l];rfl
theorem arl_eq:∀ l:List Ar,arl l=l.map Ar.av
 | []=>rfl
 |t::l=>by rw[arl,arl_eq l];rfl
theorem fdl_eq:∀ l:List Fd,fdl l=l.map Fd.av
 | []=>rfl
 |t::l=>by rw[fdl,fdl_eq l];rfl
theorem Tx.szL_eq:∀ l:List Tx,Tx.szL l=(l.map Tx.sz).sum
 | []=>rfl
 |t::l=>by rw[Tx.szL,Tx.szL_eq l];rfl
theorem stSz_eq:∀ l:List St,stSz l=(l.map St.sz).sum
 | []=>rfl
 |t::l=>by rw[stSz,stSz_eq l];rfl
theorem arSz_eq:∀ l:List Ar,arSz l=(l.map Ar.sz).sum
 | []=>rfl
 |t::l=>by rw[arSz,arSz_eq l];rfl
theorem fdSz_eq:∀ l:List Fd,fdSz l=(l.map Fd.sz).sum
 | []=>rfl
 |t::l=>by rw[fdSz,fdSz_eq l];rfl
theorem stl_app (l m:List St):stl (l++m)=stl l++stl m:=by simp[stl_eq]
theorem fdl_app (l m:List Fd):fdl (l++m)=fdl l++fdl m:=by simp[fdl_eq]
theorem nml_app (l m:List Nm):nml (l++m)=nml l++nml m:=by simp[nml]
theorem adl_app (l m:List Ad):adl (l++m)=adl l++adl m:=by simp[adl]
theorem Tx.sz_pos:∀ t:Tx,1≤t.sz
 | .mk _ _ _=>by rw[Tx.sz];omega
theorem St.sz_pos:∀ t:St,1≤t.sz
 | .mk .. =>by rw[St.sz];omega
theorem Ar.sz_pos:∀ t:Ar,1≤t.sz
 | .mk .. =>by rw[Ar.sz];omega
theorem Fd.sz_pos:∀ t:Fd,1≤t.sz
 | .mk .. =>by rw[Fd.sz];omega
theorem sum_ge {α:Type} (f:α→Nat) (h:∀ a,1≤f a):∀ l:List α,l.length≤(l.map f).sum
 | []=>Nat.le_refl _
 |a::l=>by have:=sum_ge f h l;have:=h a;simp only[List.length_cons,List.map_cons,List.sum_cons];omega
theorem sum_mem {α:Type} {f:α→Nat} {a:α} :∀ {l:List α},a∈l→f a≤(l.map f).sum
 |b::l,h=>by
  rw[List.map_cons,List.sum_cons]
  rcases List.mem_cons.1 h with rfl|h
  ·omega
  ·have:=sum_mem (f:=f) h;omega
theorem Tx.len_le (l:List Tx):l.length≤Tx.szL l:=by rw[Tx.szL_eq];exact sum_ge _ Tx.sz_pos l
theorem st_len_le (l:List St):l.length≤stSz l:=by rw[stSz_eq];exact sum_ge _ St.sz_pos l
theorem ar_len_le (l:List Ar):l.length≤arSz l:=by rw[arSz_eq];exact sum_ge _ Ar.sz_pos l
theorem fd_len_le (l:List Fd):l.length≤fdSz l:=by rw[fdSz_eq];exact sum_ge _ Fd.sz_pos l
theorem ad_len_le (l:List Ad):l.length≤adSz l:=sum_ge _ (fun a=>a.ty.sz_pos) l
theorem Tx.mem_le {t:Tx} {l:List Tx} (h:t∈l):t.sz≤Tx.szL l:=by rw[Tx.szL_eq];exact sum_mem h
theorem st_mem_le {t:St} {l:List St} (h:t∈l):t.sz≤stSz l:=by rw[stSz_eq];exact sum_mem h
theorem ar_mem_le {t:Ar} {l:List Ar} (h:t∈l):t.sz≤arSz l:=by rw[arSz_eq];exact sum_mem h
theorem fd_mem_le {t:Fd} {l:List Fd} (h:t∈l):t.sz≤fdSz l:=by rw[fdSz_eq];exact sum_mem h
def Same (y x:Ls):Prop:=y.err=x.err∧y.pos=x.pos
theorem Same.trans {x y z:Ls} (h:Same z y) (g:Same y x):Same z x:=⟨h.1.trans g.1,h.2.trans g.2⟩
theorem Same.refl (x:Ls):Same x x:=⟨rfl,rfl⟩
theorem fail_err {x:Ls} (h:x.err≠0) (e p:Int):x.fail e p=x:=if_neg h
theorem failO_err {x:Ls} (h:x.err≠0) (e:Option (Int×Int)):x.failO e=x:=by cases e<;>simp[Ls.failO,fail_err h]
mutual
theorem blk_keep (nm:Nm) (ps:List Nm) (bs:List Bd):∀ (l:List St) (now:List Vs) (x:Ls),x.err≠0→Same (blk dec nm ps bs now l x).2 x
 | [],now,x,h=>by rw[blk];exact Same.refl x
 |s::l,now,x,h=>by
  have h1:=stm_keep nm ps bs s now x h
  rw[blk]
  exact(blk_keep nm ps bs l _ _ (by rw[h1.1];exact h)).trans h1
theorem stm_keep (nm:Nm) (ps:List Nm) (bs:List Bd):∀ (s:St) (now:List Vs) (x:Ls),x.err≠0→Same (stm dec nm ps bs now s x).2.2 x
 | .mk k n ns ty ex th el ar fn off,now,x,h=>by
  rw[stm]
  split
  ·split
   ·exact locs_keep nm ps bs fn x h
   ·rw[fail_err h];exact Same.refl x
  ·split
   ·have h1:=blk_keep nm ps bs th now x h
    have h2:=blk_keep nm ps bs el now _ (by rw[h1.1];exact h)
    exact(arms_keep nm ps bs ar now _ (by rw[h2.1,h1.1];exact h)).trans (h2.trans h1)
   ·rw[fail_err h];exact Same.refl x
theorem arms_keep (nm:Nm) (ps:List Nm) (bs:List Bd):∀ (l:List Ar) (now:List Vs) (x:Ls),x.err≠0→Same (arms dec nm ps bs now l x).2 x
 | [],now,x,h=>by rw[arms];exact Same.refl x
 |s::l,now,x,h=>by
  have h1:=arm_keep nm ps bs s now x h
  rw[arms]
  exact(arms_keep nm ps bs l now _ (by rw[h1.1];exact h)).trans h1
theorem arm_keep (nm:Nm) (ps:List Nm) (bs:List Bd):∀ (s:Ar) (now:List Vs) (x:Ls),x.err≠0→Same (arm dec nm ps bs now s x).2 x
 | .mk v ns b off,now,x,h=>by
  rw[arm]
  exact blk_keep nm ps bs b now x h
theorem locs_keep (nm:Nm) (ps:List Nm) (bs:List Bd):∀ (l:List Fd) (x:Ls),x.err≠0→Same (locs dec nm ps bs l x).2 x
 | [],x,h=>by rw[locs];exact Same.refl x
 |f::l,x,h=>by
  rw[locs]
  exact loc_keep nm ps bs f x h
theorem loc_keep (nm:Nm) (ps:List Nm) (bs:List Bd):∀ (f:Fd) (x:Ls),x.err≠0→Same (loc dec nm ps bs f x).2 x
 | .mk n ps0 bs0 cs ag res b off,x,h=>by
  rw[loc]
  dsimp only
  rw[failO_err h]
  exact blk_keep _ _ _ b [] ⟨0,[],x.err,x.pos⟩ h
end
theorem fail_cnt (x:Ls) (e p:Int):(x.fail e p).cnt=x.cnt∧(x.fail e p).out=x.out:=by unfold Ls.fail;split<;>exact⟨rfl,rfl⟩
def Grow (y x:Ls) (n:Nat):Prop:=y.cnt≤x.cnt+n∧y.out.length≤x.out.length+n
theorem Grow.refl (x:Ls) (n:Nat):Grow x x n:=⟨by omega,by omega⟩
theorem Grow.mono {x y:Ls} {a b:Nat} (h:Grow y x a) (hab:a≤b):Grow y x b:=⟨by have:=h.1;omega,by have:=h.2;omega⟩
theorem Grow.trans {x y z:Ls} {a b:Nat} (h:Grow z y b) (g:Grow y x a):Grow z x (a+b):=⟨by have:=h.1;have:=g.1;omega,by have:=h.2;have:=g.2;omega⟩
theorem Grow.fail (x:Ls) (e p:Int) (n:Nat):Grow (x.fail e p) x n:=by
 obtain⟨h1,h2⟩:=fail_cnt x e p
 exact⟨by omega,by rw[h2];omega⟩
mutual
theorem blk_grow (nm:Nm) (ps:List Nm) (bs:List Bd):∀ (l:List St) (now:List Vs) (x:Ls),Grow (blk dec nm ps bs now l x).2 x (stSz l)
 | [],now,x=>by rw[blk];exact Grow.refl x _
 |s::l,now,x=>by
  rw[blk,stSz]
  exact(blk_grow nm ps bs l _ _).trans (stm_grow nm ps bs s now x)
theorem stm_grow (nm:Nm) (ps:List Nm) (bs:List Bd):∀ (s:St) (now:List Vs) (x:Ls),Grow (stm dec nm ps bs now s x).2.2 x s.sz
 | .mk k n ns ty ex th el ar fn off,now,x=>by
  rw[stm,St.sz]
  split
  ·split
   ·exact(locs_grow nm ps bs fn x).mono (by omega)
   ·exact Grow.fail x _ _ _
  ·split
   ·exact((arms_grow nm ps bs ar now _).trans ((blk_grow nm ps bs el now _).trans (blk_grow nm ps bs th now x))).mono (by omega)
   ·exact Grow.fail x _ _ _
theorem arms_grow (nm:Nm) (ps:List Nm) (bs:List Bd):∀ (l:List Ar) (now:List Vs) (x:Ls),Grow (arms dec nm ps bs now l x).2 x (arSz l)
 | [],now,x=>by rw[arms];exact Grow.refl x _
 |s::l,now,x=>by
  rw[arms,arSz]
  exact(arms_grow nm ps bs l now _).trans (arm_grow nm ps bs s now x)
theorem arm_grow (nm:Nm) (ps:List Nm) (bs:List Bd):∀ (s:Ar) (now:List Vs) (x:Ls),Grow (arm dec nm ps bs now s x).2 x s.sz
 | .mk v ns b off,now,x=>by
  rw[arm,Ar.sz]
  exact(blk_grow nm ps bs b now x).mono (by omega)
theorem locs_grow (nm:Nm) (ps:List Nm) (bs:List Bd):∀ (l:List Fd) (x:Ls),Grow (locs dec nm ps bs l x).2 x (fdSz l)
 | [],x=>by rw[locs];exact Grow.refl x _
 |f::l,x=>by
  rw[locs,fdSz]
  exact(loc_grow nm ps bs f x).mono (by omega)
theorem loc_grow (nm:Nm) (ps:List Nm) (bs:List Bd):∀ (f:Fd) (x:Ls),Grow (loc dec nm ps bs f x).2 x f.sz
 | .mk n ps0 bs0 cs ag res b off,x=>by
  rw[loc,Fd.sz]
  dsimp only
  have h:=blk_grow (nm++dot++dec x.cnt++dot++n) (ps.filter fun p=>inN p (Fd.nms (.mk n ps0 bs0 cs ag res b off))) (bs.filter fun b_1=>inN b_1.p (ps.filter fun p=>inN p (Fd.nms (.mk n ps0 bs0 cs ag res b off)))) b [] ⟨0,[],(x.failO (chk (cs++ag) off)).err,(x.failO (chk (cs++ag) off)).pos⟩
  have h2:=h.2
  refine⟨by simp only;omega,?_⟩
  simp only[List.length_append,List.length_cons,List.length_nil] at h2 ⊢
  omega
end
def VB (B:Nat) (now:List Vs):Prop:=∀ v,v∈now→v.cs.length≤B
theorem VB.app {B:Nat} {l m:List Vs} (h:VB B l) (g:VB B m):VB B (l++m):=fun v hv=>by
 rcases List.mem_append.1 hv with hv|hv
 ·exact h v hv
 ·exact g v hv
theorem find_mem {l:List Vs} {n:Nm} {v:Vs} (h:find l n=some v):v∈l∧v.nm=n:=by
 have h1:=List.mem_of_find?_eq_some h
 have h2:=List.find?_some h
 exact⟨List.mem_reverse.1 h1,by simpa using h2⟩
theorem lendS_len (v:Vs) (off:Int):∀ l:List Ad,(l.flatMap (lendS v off)).length≤l.length
 | []=>Nat.le_refl _
 |c::l=>by
  have:=lendS_len v off l
  have:(lendS v off c).length≤1:=by unfold lendS;split<;>simp
  simp only[List.flatMap_cons,List.length_append,List.length_cons];omega
theorem call_len {B:Nat} {now:List Vs} (h:VB B now) (k:Int) (nm:Nm) (ns:List Nm) (ty:List Tx) (ex:Ex) (th el:List St) (ar:List Ar) (fn:List Fd) (off:Int):(call now k nm ns ty ex th el ar fn off).length≤1+B:=by
 unfold call
 split
 ·split
  ·rename_i v hv
   have:=lendS_len v off v.cs
   have:=h v (find_mem hv).1
   simp only[List.length_append,List.length_singleton];omega
  ·simp
 ·split
  ·split
   ·rename_i v hv
    have:=lendS_len v off v.cs
    have:=h v (find_mem hv).1
    simp only[List.length_append,List.length_singleton];omega
   ·simp
  ·simp
theorem stm_vb {B:Nat} (nm:Nm) (ps:List Nm) (bs:List Bd):∀ (s:St) (now:List Vs) (x:Ls),VB B now→s.sz≤B→VB B (stm dec nm ps bs now s x).1∧(stm dec nm ps bs now s x).2.1.length≤1+B
 | .mk k n ns ty ex th el ar fn off,now,x,h,hs=>by
  rw[stm]
  rw[St.sz] at hs
  split
  ·split
   ·refine⟨?_,by simp⟩
    match fn with
    | []=>rw[locs];exact fun v hv=>by cases hv
    | .mk n ps0 bs0 cs ag res b off::l=>
     rw[locs,loc]
     intro v hv
     rw[List.mem_singleton.1 hv]
     rw[fdSz,Fd.sz] at hs
     have:=ad_len_le cs
     show cs.length≤B
     omega
   ·exact⟨fun v hv=>(by cases hv),Nat.zero_le _⟩
  ·split
   ·exact⟨fun v hv=>(by cases hv),call_len h ..⟩
   ·exact⟨fun v hv=>(by cases hv),Nat.zero_le _⟩
end Go.Lf

namespace Go.Lf
open Go Go.Am
variable {dec:Nat→Nm}
namespace Fd
def nm:Fd→Nm| .mk n _ _ _ _ _ _ _=>n
def ps:Fd→List Nm| .mk _ p _ _ _ _ _ _=>p
def bs:Fd→List Bd| .mk _ _ b _ _ _ _ _=>b
def cp:Fd→List Ad| .mk _ _ _ c _ _ _ _=>c
def ag:Fd→List Ad| .mk _ _ _ _ a _ _ _=>a
def rs:Fd→Tx| .mk _ _ _ _ _ r _ _=>r
def b:Fd→List St| .mk _ _ _ _ _ _ b _=>b
def off:Fd→Int| .mk _ _ _ _ _ _ _ o=>o
end Fd
variable (dec) in
def topF:Fd→Fd×Ls
 | .mk nm ps bs cs ag res b off=>(.mk nm ps bs cs ag res (blk dec nm ps bs [] b ⟨0,[],0,0⟩).1 off,(blk dec nm ps bs [] b ⟨0,[],0,0⟩).2)
variable (dec) in
def liftL:List Fd→Except (Int×Int) (List Fd×List Fd)
 | []=> .ok ([],[])
 |f::l=>
  if 0<f.cp.length then .error (1,f.off)
  else if(topF dec f).2.err≠0 then .error ((topF dec f).2.err,(topF dec f).2.pos)
  else match liftL l with
   | .error e=> .error e
   | .ok z=> .ok ((topF dec f).1::z.1,(topF dec f).2.out++z.2)
theorem liftL_cons {f:Fd} {l:List Fd} {z:List Fd×List Fd} (h:liftL dec (f::l)= .ok z):f.cp=[]∧(topF dec f).2.err=0∧∃ y,liftL dec l= .ok y∧z=((topF dec f).1::y.1,(topF dec f).2.out++y.2):=by
 rw[liftL] at h
 split at h
 ·cases h
 ·rename_i h1
  split at h
  ·cases h
  ·rename_i h2
   split at h
   ·cases h
   ·rename_i y hy
    cases h
    refine⟨?_,?_,y,hy,rfl⟩
    ·exact List.length_eq_zero_iff.1 (by omega)
    ·exact Classical.byContradiction fun h3=>h2 h3
theorem liftL_len:∀ {l:List Fd} {z:List Fd×List Fd},liftL dec l= .ok z→z.1.length=l.length
 | [],z,h=>by cases h;rfl
 |f::l,z,h=>by
  obtain⟨_,_,y,hy,rfl⟩:=liftL_cons h
  simp[liftL_len hy]
theorem liftL_mem:∀ {l:List Fd} {z:List Fd×List Fd},liftL dec l= .ok z→∀ f,f∈l→f.cp=[]∧(topF dec f).2.err=0
 | [],z,h,f,hf=>by cases hf
 |g::l,z,h,f,hf=>by
  obtain⟨h1,h2,y,hy,rfl⟩:=liftL_cons h
  rcases List.mem_cons.1 hf with rfl|hf
  ·exact⟨h1,h2⟩
  ·exact liftL_mem hy f hf
theorem liftL_fst:∀ {l:List Fd} {z:List Fd×List Fd},liftL dec l= .ok z→z.1=l.map fun f=>(topF dec f).1
 | [],z,h=>by cases h;rfl
 |g::l,z,h=>by
  obtain⟨h1,h2,y,hy,rfl⟩:=liftL_cons h
  simp[liftL_fst hy]
theorem liftL_snd:∀ {l:List Fd} {z:List Fd×List Fd},liftL dec l= .ok z→z.2=l.flatMap fun f=>(topF dec f).2.out
 | [],z,h=>by cases h;rfl
 |g::l,z,h=>by
  obtain⟨h1,h2,y,hy,rfl⟩:=liftL_cons h
  simp[liftL_snd hy]
def NoDot (n:Nm):Prop:=(46:UInt8)∉n.data
def dotted (n:Nm):Bool:=n.data.any fun c=>decide (c=46)
theorem dotted_iff {n:Nm} :dotted n=true↔¬ NoDot n:=by
 unfold dotted NoDot
 rw[Array.any_eq_true']
 simp
theorem dot_mid (a b:Nm):¬ NoDot (a++dot++b):=by
 unfold NoDot
 rw[ByteArray.data_append,ByteArray.data_append]
 simp[dot]
mutual
def St.pr:St→Prop
 | .mk k nm ns ty ex th el ar fn off=>NoDot nm∧NoDot ex.nm∧(fn.length=1↔k=13)∧fn.length≤1∧stP th∧stP el∧arP ar∧fdP fn
def stP:List St→Prop
 | []=>True
 |s::l=>s.pr∧stP l
def Ar.pr:Ar→Prop
 | .mk v ns b off=>stP b
def arP:List Ar→Prop
 | []=>True
 |s::l=>s.pr∧arP l
def Fd.pr:Fd→Prop
 | .mk nm ps bs cs ag res b off=>NoDot nm∧(∀ c,c∈cs→NoDot c.nm)∧stP b
def fdP:List Fd→Prop
 | []=>True
 |s::l=>s.pr∧fdP l
end
mutual
def St.kd:St→List Int
 | .mk k nm ns ty ex th el ar fn off=>if k=13∨k=1∧dotted nm=true then [] else [k,ex.k,off]++(kdL th++kdL el++arK ar)
def kdL:List St→List Int
 | []=>[-1]
 |s::l=>s.kd++kdL l
def Ar.kd:Ar→List Int
 | .mk v ns b off=>kdL b
def arK:List Ar→List Int
 | []=>[]
 |s::l=>s.kd++arK l
end
def kdI (l:List St):List Int:=l.flatMap St.kd
theorem kdL_eq:∀ l:List St,kdL l=kdI l++[-1]
 | []=>rfl
 |s::l=>by rw[kdL,kdL_eq l];simp[kdI]
theorem kdL_app (l m:List St):kdL (l++m)=kdI l++kdL m:=by simp[kdL_eq,kdI]
theorem lends_kd (v:Vs) (off:Int):∀ cs:List Ad,kdI (cs.flatMap (lendS v off))=[]
 | []=>rfl
 |c::cs=>by
  rw[List.flatMap_cons]
  show List.flatMap _ _=_
  rw[List.flatMap_append]
  have h1:(lendS v off c).flatMap St.kd=[]:=by
   unfold lendS
   split
   ·simp only[List.flatMap_cons,List.flatMap_nil,List.append_nil,St.kd]
    rw[if_pos (.inr (by rw[dotted_iff.2 (dot_mid _ _)];decide))]
   ·rfl
  rw[h1]
  exact lends_kd v off cs
theorem call_kd {now:List Vs} {k:Int} {nm:Nm} (hn:NoDot nm) (ns:List Nm) (ty:List Tx) (ex:Ex) (th el:List St) (ar:List Ar) (fn:List Fd) (off:Int):kdI (call now k nm ns ty ex th el ar fn off)=St.kd (.mk k nm ns ty ex th el ar fn off):=by
 unfold call
 split
 ·rename_i h12
  subst h12
  split
  ·rename_i v hv
   rw[kdI,List.flatMap_append]
   show kdI _++_=_
   rw[lends_kd]
   simp[St.kd]
  ·simp[kdI]
 ·split
  ·split
   ·rename_i v hv
    rw[kdI,List.flatMap_append]
    show kdI _++_=_
    rw[lends_kd]
    simp[St.kd]
   ·simp[kdI]
  ·simp[kdI]
theorem fail_ok {x:Ls} {e p:Int} (he:e≠0):(x.fail e p).err≠0:=by
 unfold Ls.fail
 split
 ·exact he
 ·assumption
theorem keep_ok {x y:Ls} (h:x.err≠0→Same y x) (hy:y.err=0):x.err=0:=
 Classical.byContradiction fun h1=>h1 (by rw[← (h h1).1];exact hy)
mutual
theorem blk_kd (nm:Nm) (ps:List Nm) (bs:List Bd):∀ (l:List St) (now:List Vs) (x:Ls),stP l→(blk dec nm ps bs now l x).2.err=0→kdL (blk dec nm ps bs now l x).1=kdL l
 | [],now,x,hp,h=>by rw[blk]
 |s::l,now,x,hp,h=>by
  rw[blk] at h ⊢
  rw[stP] at hp
  have h1:=keep_ok (fun hx=>blk_keep nm ps bs l _ _ hx) h
  rw[kdL_app,kdL,blk_kd nm ps bs l _ _ hp.2 h,stm_kd nm ps bs s now x hp.1 h1]
theorem stm_kd (nm:Nm) (ps:List Nm) (bs:List Bd):∀ (s:St) (now:List Vs) (x:Ls),s.pr→(stm dec nm ps bs now s x).2.2.err=0→kdI (stm dec nm ps bs now s x).2.1=s.kd
 | .mk k n ns ty ex th el ar fn off,now,x,hp,h=>by
  rw[St.pr] at hp
  rw[stm] at h ⊢
  split
  ·rename_i hk
   split
   ·rw[St.kd,if_pos (.inl hk)];rfl
   ·rename_i h2
    rw[if_pos hk,if_neg h2] at h
    exact absurd h (fail_ok (by decide))
  ·rename_i hk
   rw[if_neg hk] at h
   split
   ·rename_i h2
    rw[if_pos h2] at h
    have h3:=keep_ok (fun hx=>arms_keep nm ps bs ar now _ hx) h
    have h4:=keep_ok (fun hx=>blk_keep nm ps bs el now _ hx) h3
    rw[call_kd hp.1,St.kd,St.kd,blk_kd nm ps bs th now x hp.2.2.2.2.1 h4,blk_kd nm ps bs el now _ hp.2.2.2.2.2.1 h3,arms_kd nm ps bs ar now _ hp.2.2.2.2.2.2.1 h]
   ·rename_i h2
    rw[if_neg h2] at h
    exact absurd h (fail_ok (by decide))
theorem arms_kd (nm:Nm) (ps:List Nm) (bs:List Bd):∀ (l:List Ar) (now:List Vs) (x:Ls),arP l→(arms dec nm ps bs now l x).2.err=0→arK (arms dec nm ps bs now l x).1=arK l
 | [],now,x,hp,h=>by rw[arms]
 |s::l,now,x,hp,h=>by
  rw[arms] at h ⊢
  rw[arP] at hp
  have h1:=keep_ok (fun hx=>arms_keep nm ps bs l now _ hx) h
  rw[arK,arK,arms_kd nm ps bs l now _ hp.2 h,arm_kd nm ps bs s now x hp.1 h1]
theorem arm_kd (nm:Nm) (ps:List Nm) (bs:List Bd):∀ (s:Ar) (now:List Vs) (x:Ls),s.pr→(arm dec nm ps bs now s x).2.err=0→(arm dec nm ps bs now s x).1.kd=s.kd
 | .mk v ns b off,now,x,hp,h=>by
  rw[Ar.pr] at hp
  rw[arm] at h ⊢
  rw[Ar.kd,Ar.kd,blk_kd nm ps bs b now x hp h]
end
def orF:Option Fd→Option Fd→Option Fd
 |some f,_=>some f
 |none,o=>o
mutual
def fstS:St→Option Fd
 | .mk k nm ns ty ex th el ar fn off=>
  if k=13∧fn.length=1 then fn[0]?
  else orF (fstL th) (orF (fstL el) (fstA ar))
def fstL:List St→Option Fd
 | []=>none
 |s::l=>orF (fstS s) (fstL l)
def fstM:Ar→Option Fd
 | .mk v ns b off=>fstL b
def fstA:List Ar→Option Fd
 | []=>none
 |s::l=>orF (fstM s) (fstA l)
end
def fstT:List Fd→Option Fd
 | []=>none
 |f::l=>orF (fstL f.b) (fstT l)
theorem fstS_no {k:Int} {nm:Nm} {ns:List Nm} {ty:List Tx} {ex:Ex} {th el:List St} {ar:List Ar} {fn:List Fd} {off:Int} (h:k≠13):fstS (.mk k nm ns ty ex th el ar fn off)=orF (fstL th) (orF (fstL el) (fstA ar)):=by
 rw[fstS,if_neg fun h5=>h h5.1]
theorem kd_body {f:Fd} (h:f.pr) (he:(topF dec f).2.err=0):kdL (topF dec f).1.b=kdL f.b:=by
 obtain⟨nm,ps,bs,cs,ag,res,b,off⟩:=f
 rw[Fd.pr] at h
 exact blk_kd nm ps bs b [] _ h.2.2 he
def First (y x:Ls) (o:Option Fd):Prop:=
 ∃ t,y.out=x.out++t∧match o with
  |none=>t=[]
  |some f=>f.pr→∃ g t',t=g::t'∧kdL g.b=kdL f.b
theorem First.no (x y:Ls) (h:y.out=x.out):First y x none:=⟨[],by simp[h],rfl⟩
theorem First.comp {x y z:Ls} {o p:Option Fd} (h:First y x o) (g:First z y p):First z x (orF o p):=by
 obtain⟨t,h1,h2⟩:=h
 obtain⟨u,g1,g2⟩:=g
 refine⟨t++u,by rw[g1,h1,List.append_assoc],?_⟩
 cases o with
 |none=>simp only at h2 ⊢;subst h2;exact g2
 |some f=>
  simp only at h2 ⊢
  intro hf
  obtain⟨k,t',rfl,hk⟩:=h2 hf
  exact⟨k,t'++u,rfl,hk⟩
mutual
theorem blk_first (nm:Nm) (ps:List Nm) (bs:List Bd):∀ (l:List St) (now:List Vs) (x:Ls),(blk dec nm ps bs now l x).2.err=0→First (blk dec nm ps bs now l x).2 x (fstL l)
 | [],now,x,h=>by rw[blk,fstL];exact First.no _ _ rfl
 |s::l,now,x,h=>by
  rw[blk] at h ⊢
  have h1:=keep_ok (fun hx=>blk_keep nm ps bs l _ _ hx) h
  rw[fstL]
  exact(stm_first nm ps bs s now x h1).comp (blk_first nm ps bs l _ _ h)
theorem stm_first (nm:Nm) (ps:List Nm) (bs:List Bd):∀ (s:St) (now:List Vs) (x:Ls),(stm dec nm ps bs now s x).2.2.err=0→First (stm dec nm ps bs now s x).2.2 x (fstS s)
 | .mk k n ns ty ex th el ar fn off,now,x,h=>by
  rw[stm] at h ⊢
  split
  ·rename_i hk
   rw[if_pos hk] at h
   split
   ·rename_i h2
    rw[if_pos h2] at h
    rw[fstS,if_pos ⟨hk,h2.1⟩]
    match fn,h2.1,h with
    | [.mk n0 ps0 bs0 cs0 as0 res0 b0 off0],_,h=>
     rw[locs,loc] at h ⊢
     refine⟨_,rfl,?_⟩
     intro hp
     rw[Fd.pr] at hp
     exact⟨_,_,rfl,blk_kd _ _ _ b0 [] _ hp.2.2 h⟩
   ·rename_i h2
    rw[if_neg h2] at h
    exact absurd h (fail_ok (by decide))
  ·rename_i hk
   rw[if_neg hk] at h
   rw[fstS_no hk]
   split
   ·rename_i h2
    rw[if_pos h2] at h
    have h3:=keep_ok (fun hx=>arms_keep nm ps bs ar now _ hx) h
    have h4:=keep_ok (fun hx=>blk_keep nm ps bs el now _ hx) h3
    have a:=blk_first nm ps bs th now x h4
    have b:=blk_first nm ps bs el now _ h3
    have c:=arms_first nm ps bs ar now _ h
    exact a.comp (b.comp c)
   ·rename_i h2
    rw[if_neg h2] at h
    exact absurd h (fail_ok (by decide))
theorem arms_first (nm:Nm) (ps:List Nm) (bs:List Bd):∀ (l:List Ar) (now:List Vs) (x:Ls),(arms dec nm ps bs now l x).2.err=0→First (arms dec nm ps bs now l x).2 x (fstA l)
 | [],now,x,h=>by rw[arms,fstA];exact First.no _ _ rfl
 |s::l,now,x,h=>by
  rw[arms] at h ⊢
  have h1:=keep_ok (fun hx=>arms_keep nm ps bs l now _ hx) h
  rw[fstA]
  exact(arm_first nm ps bs s now x h1).comp (arms_first nm ps bs l now _ h)
theorem arm_first (nm:Nm) (ps:List Nm) (bs:List Bd):∀ (s:Ar) (now:List Vs) (x:Ls),(arm dec nm ps bs now s x).2.err=0→First (arm dec nm ps bs now s x).2 x (fstM s)
 | .mk v ns b off,now,x,h=>by
  rw[arm] at h ⊢
  rw[fstM]
  exact blk_first nm ps bs b now x h
end
theorem orF_some {a b:Option Fd} {f:Fd} (h:orF a b=some f):a=some f∨a=none∧b=some f:=by
 cases a with
 |none=>exact .inr ⟨rfl,h⟩
 |some g=>exact .inl h
mutual
theorem fstL_pr:∀ (l:List St) (f:Fd),stP l→fstL l=some f→f.pr
 | [],f,hp,h=>by rw[fstL] at h;cases h
 |s::l,f,hp,h=>by
  rw[fstL] at h
  rw[stP] at hp
  rcases orF_some h with h|⟨_,h⟩
  ·exact fstS_pr s f hp.1 h
  ·exact fstL_pr l f hp.2 h
theorem fstS_pr:∀ (s:St) (f:Fd),s.pr→fstS s=some f→f.pr
 | .mk k nm ns ty ex th el ar fn off,f,hp,h=>by
  rw[St.pr] at hp
  obtain⟨_,_,_,_,p1,p2,p3,p4⟩:=hp
  rw[fstS] at h
  split at h
  ·match fn,h,p4 with
   |g::r,h,p4=>
    cases h
    rw[fdP] at p4
    exact p4.1
  ·rcases orF_some h with h|⟨_,h⟩
   ·exact fstL_pr th f p1 h
   ·rcases orF_some h with h|⟨_,h⟩
    ·exact fstL_pr el f p2 h
    ·exact fstA_pr ar f p3 h
theorem fstM_pr:∀ (s:Ar) (f:Fd),s.pr→fstM s=some f→f.pr
 | .mk v ns b off,f,hp,h=>by
  rw[Ar.pr] at hp
  rw[fstM] at h
  exact fstL_pr b f hp h
theorem fstA_pr:∀ (l:List Ar) (f:Fd),arP l→fstA l=some f→f.pr
 | [],f,hp,h=>by rw[fstA] at h;cases h
 |s::l,f,hp,h=>by
  rw[fstA] at h
  rw[arP] at hp
  rcases orF_some h with h|⟨_,h⟩
  ·exact fstM_pr s f hp.1 h
  ·exact fstA_pr l f hp.2 h
end
theorem top_first {f:Fd} (h:(topF dec f).2.err=0):First (topF dec f).2 ⟨0,[],0,0⟩ (fstL f.b):=by
 obtain⟨nm,ps,bs,cs,ag,res,b,off⟩:=f
 exact blk_first nm ps bs b [] _ h
theorem lift_first:∀ {l:List Fd} {z:List Fd×List Fd},liftL dec l= .ok z→(∀ f,f∈l→f.pr)→∀ f,fstT l=some f→∃ g r,z.2=g::r∧kdL g.b=kdL f.b
 | [],z,h,hp,f,hf=>by cases hf
 |k::l,z,h,hp,f,hf=>by
  obtain⟨h1,h2,y,hy,rfl⟩:=liftL_cons h
  have hk:=hp k (by simp)
  obtain⟨t,ht,h3⟩:=top_first h2
  rw[List.nil_append] at ht
  rw[fstT] at hf
  rcases orF_some hf with hf|⟨hn,hf⟩
  ·rw[hf] at h3
   have hpf:f.pr:=by
    obtain⟨nm,ps,bs,cs,ag,res,b,off⟩:=k
    rw[Fd.pr] at hk
    exact fstL_pr b f hk.2.2 hf
   obtain⟨g,r,rfl,hg⟩:=h3 hpf
   exact⟨g,r++y.2,by rw[ht];rfl,hg⟩
  ·rw[hn] at h3
   simp only at h3
   subst h3
   obtain⟨g,r,hgr,hg⟩:=lift_first hy (fun g hg=>hp g (by simp[hg])) f hf
   exact⟨g,r,by rw[ht,hgr];rfl,hg⟩
theorem lift_kinds {l:List Fd} {z:List Fd×List Fd} (h:liftL dec l= .ok z) (hp:∀ f,f∈l→f.pr):z.1.map (fun f=>kdL f.b)=l.map fun f=>kdL f.b:=by
 rw[liftL_fst h,List.map_map]
 exact List.map_congr_left fun f hf=>kd_body (hp f hf) (liftL_mem h f hf).2
end Go.Lf

namespace Go.Lf
open Go Go.Am
variable {dec:Nat→Nm}
def fits:List (Nm×Nat)→Nm→Nat→Bool
 | [],_,_=>true
 |(m,k)::l,n,a=>if l.any (fun p=>decide (p.1=n)) then fits l n a else if m=n then decide (k=a) else true
mutual
def cldL:List (Nm×Nat)→List St→Bool
 |_,[]=>true
 |now,s::l=>(cldS now s).1&&cldL (now++(cldS now s).2) l
def cldS:List (Nm×Nat)→St→Bool×List (Nm×Nat)
 |now,.mk k nm ns ty ex th el ar fn off=>
  if k=13∧fn.length=1 then(cldL now th&&cldL now el&&cldA now ar&&(cldF fn).1,(cldF fn).2)
  else(cldL now th&&cldL now el&&cldA now ar&&(if(k=1∨k=2)∧ex.k=15 then fits now ex.nm ex.ns.length else true)&&(if k=12 then fits now nm ns.length else true),[])
def cldF:List Fd→Bool×List (Nm×Nat)
 | []=>(true,[])
 | .mk nm ps bs cs ag res b off::_=>(cldL [] b,[(nm,ag.length)])
def cldA:List (Nm×Nat)→List Ar→Bool
 |_,[]=>true
 |now,.mk v ns b off::l=>cldL now b&&cldA now l
end
inductive VR (A:List (Nm×Nat)):List Vs→List (Nm×Nat)→Prop
 |nil:VR A [] []
 |snoc (l:List Vs) (m:List (Nm×Nat)) (v:Vs) (k:Nat):VR A l m→(v.li,v.cs.length+k)∈A→VR A (l++[v]) (m++[(v.nm,k)])
theorem fits_snoc {m:List (Nm×Nat)} {n x:Nm} {k a:Nat} :fits (m++[(x,k)]) n a=if x=n then decide (k=a) else fits m n a:=by
 induction m with
 |nil=>simp[fits]
 |cons p m ih=>
  obtain⟨y,j⟩:=p
  rw[List.cons_append,fits,ih]
  by_cases hx:x=n
  ·simp[hx]
  ·simp only[hx,if_false,List.any_append,List.any_cons,List.any_nil,Bool.or_false,decide_false]
   rw[fits]
theorem VR.find {A:List (Nm×Nat)} {l:List Vs} {m:List (Nm×Nat)} (h:VR A l m) {n:Nm} {v:Vs} (hf:find l n=some v) {a:Nat} (hm:fits m n a=true):(v.li,v.cs.length+a)∈A:=by
 induction h with
 |nil=>cases hf
 |snoc l m w k _ hA ih=>
  rw[fits_snoc] at hm
  unfold Lf.find at hf
  rw[List.reverse_append,List.reverse_singleton,List.singleton_append,List.find?_cons] at hf
  by_cases hw:w.nm=n
  ·simp only[hw,decide_true] at hf
   cases hf
   rw[if_pos hw] at hm
   have:k=a:=by simpa using hm
   rw[← this];exact hA
  ·simp only[hw,decide_false] at hf
   rw[if_neg hw] at hm
   exact ih hf hm
def arO (l:List Fd):List (Nm×Nat):=l.map fun f=>(f.nm,f.ag.length)
theorem arO_app (l m:List Fd):arO (l++m)=arO l++arO m:=by simp[arO]
def Adds (y x:Ls):Prop:=∃ t,y.out=x.out++t
theorem Adds.refl (x:Ls):Adds x x:=⟨[],by simp⟩
theorem Adds.trans {x y z:Ls} (h:Adds z y) (g:Adds y x):Adds z x:=by
 obtain⟨t,h⟩:=h
 obtain⟨u,g⟩:=g
 exact⟨u++t,by rw[h,g,List.append_assoc]⟩
theorem Adds.fail (x:Ls) (e p:Int):Adds (x.fail e p) x:=⟨[],by rw[(fail_cnt x e p).2];simp⟩
def InA (A:List (Nm×Nat)) (y:Ls):Prop:=∀ p,p∈arO y.out→p∈A
theorem InA.of {A:List (Nm×Nat)} {x y:Ls} (h:InA A y) (g:Adds y x):InA A x:=by
 obtain⟨t,ht⟩:=g
 intro p hp
 exact h p (by rw[ht,arO_app];simp[hp])
def Cl (A:List (Nm×Nat)) (y x:Ls):Prop:=∀ f,f∈y.out→f∈x.out∨cldL A f.b=true
theorem Cl.trans {A:List (Nm×Nat)} {x y z:Ls} (h:Cl A z y) (g:Cl A y x):Cl A z x:=fun f hf=>by
 rcases h f hf with h|h
 ·exact g f h
 ·exact .inr h
structure DecOk (dec:Nat→Nm):Prop where
 nd:∀ n,NoDot (dec n)
 inj:∀ a b,dec a=dec b→a=b
def Und (dec:Nat→Nm) (nm:Nm) (a b:Nat) (s:Nm):Prop:=∃ c t,a≤c∧c<b∧s=nm++dot++dec c++dot++t
theorem ba_app (a b:Nm):(a++b).data.toList=a.data.toList++b.data.toList:=by rw[ByteArray.data_append,Array.toList_append]
theorem nodot_l {n:Nm} (h:NoDot n):∀ c,c∈n.data.toList→c≠46:=fun c hc e=>h (by rw[← e];exact Array.mem_toList_iff.1 hc)
theorem cut_dot {α:Type} {x:α} :∀ {a b r s:List α},(∀ c,c∈a→c≠x)→(∀ c,c∈b→c≠x)→a++x::r=b++x::s→a=b∧r=s
 | [],[],r,s,_,_,h=>by simpa using h
 | [],c::b,r,s,_,hb,h=>by
  simp only[List.nil_append,List.cons_append,List.cons.injEq] at h
  exact absurd h.1.symm (hb c (by simp))
 |c::a,[],r,s,ha,_,h=>by
  simp only[List.nil_append,List.cons_append,List.cons.injEq] at h
  exact absurd h.1 (ha c (by simp))
 |c::a,d::b,r,s,ha,hb,h=>by
  simp only[List.cons_append,List.cons.injEq] at h
  obtain⟨h1,h2⟩:=cut_dot (fun e he=>ha e (by simp[he])) (fun e he=>hb e (by simp[he])) h.2
  exact⟨by rw[h.1,h1],h2⟩
theorem ba_ext {a b:Nm} (h:a.data.toList=b.data.toList):a=b:=ByteArray.ext (Array.ext' h)
theorem und_ne {hd:DecOk dec} {nm:Nm} {a b c d:Nat} {s:Nm} (h:Und dec nm a b s) (g:Und dec nm c d s):∃ k,a≤k∧k<b∧c≤k∧k<d:=by
 obtain⟨i,t,i1,i2,rfl⟩:=h
 obtain⟨j,u,j1,j2,e⟩:=g
 have e2:(dec i).data.toList++46::t.data.toList=(dec j).data.toList++46::u.data.toList:=by
  have:=congrArg (fun x:Nm=>x.data.toList) e
  simp only[ba_app] at this
  simpa [dot] using this
 obtain⟨h1,_⟩:=cut_dot (nodot_l (hd.nd i)) (nodot_l (hd.nd j)) e2
 have:=hd.inj i j (ba_ext h1)
 subst this
 exact⟨i,i1,i2,j1,j2⟩
theorem Und.mono {nm:Nm} {a b a' b':Nat} {s:Nm} (h:Und dec nm a b s) (ha:a'≤a) (hb:b≤b'):Und dec nm a' b' s:=by
 obtain⟨i,t,i1,i2,e⟩:=h
 exact⟨i,t,by omega,by omega,e⟩
def Nms (dec:Nat→Nm) (nm:Nm) (y x:Ls):Prop:=x.cnt≤y.cnt∧∃ t,y.out=x.out++t∧(t.map Fd.nm).Nodup∧∀ f,f∈t→Und dec nm x.cnt y.cnt f.nm
theorem Nms.refl (nm:Nm) (x:Ls):Nms dec nm x x:=⟨Nat.le_refl _,[],by simp,by simp,fun f hf=>by cases hf⟩
theorem Nms.fail (nm:Nm) (x:Ls) (e p:Int):Nms dec nm (x.fail e p) x:=by
 obtain⟨h1,h2⟩:=fail_cnt x e p
 exact⟨by omega,[],by rw[h2];simp,by simp,fun f hf=>by cases hf⟩
theorem Nms.trans (hd:DecOk dec) {nm:Nm} {x y z:Ls} (h:Nms dec nm z y) (g:Nms dec nm y x):Nms dec nm z x:=by
 obtain⟨h0,t,h1,h2,h3⟩:=h
 obtain⟨g0,u,g1,g2,g3⟩:=g
 refine⟨by omega,u++t,by rw[h1,g1,List.append_assoc],?_,fun f hf=>?_⟩
 ·rw[List.map_append,List.nodup_append]
  refine⟨g2,h2,fun a ha b hb e=>?_⟩
  obtain⟨f,hf,rfl⟩:=List.mem_map.1 ha
  obtain⟨k,hk,rfl⟩:=List.mem_map.1 hb
  have a1:=g3 f hf
  rw[e] at a1
  obtain⟨j,j1,j2,j3,j4⟩:=und_ne (hd:=hd) a1 (h3 k hk)
  omega
 ·rcases List.mem_append.1 hf with hf|hf
  ·exact(g3 f hf).mono (by omega) h0
  ·exact(h3 f hf).mono g0 (by omega)
end Go.Lf

set_option maxRecDepth 100000
namespace Go.Proofs.YtffmphmiicnaeaaDoor
open Go.Am
theorem ti3:ti Tryd.prog 3=some ⟨TK.int IntKind.i64,1,8,some [AV.int IntKind.i64 (0)]⟩:=by kernel_rfl
theorem ti4:ti Tryd.prog 4=some ⟨TK.bool,1,1,some [AV.bool false]⟩:=by kernel_rfl
theorem ti9:ti Tryd.prog 9=some ⟨TK.str,1,16,some [AV.str ⟨#[]⟩]⟩:=by kernel_rfl
theorem ti20:ti Tryd.prog 20=some ⟨TK.iface,1,16,some [AV.nilif]⟩:=by kernel_rfl
theorem ti22:ti Tryd.prog 22=some ⟨TK.slice 9,1,24,some [AV.nilsl]⟩:=by kernel_rfl
theorem ti23:ti Tryd.prog 23=some ⟨TK.slice 64,1,24,some [AV.nilsl]⟩:=by kernel_rfl
theorem ti24:ti Tryd.prog 24=some ⟨TK.slice 84,1,24,some [AV.nilsl]⟩:=by kernel_rfl
theorem ti25:ti Tryd.prog 25=some ⟨TK.slice 69,1,24,some [AV.nilsl]⟩:=by kernel_rfl
theorem ti26:ti Tryd.prog 26=some ⟨TK.slice 44,1,24,some [AV.nilsl]⟩:=by kernel_rfl
theorem ti28:ti Tryd.prog 28=some ⟨TK.struct [(9,0),(22,1),(23,2),(24,3),(25,4),(26,5)],6,136,some [AV.str ⟨#[]⟩,AV.nilsl,AV.nilsl,AV.nilsl,AV.nilsl,AV.nilsl]⟩:=by kernel_rfl
theorem ti31:ti Tryd.prog 31=some ⟨TK.int IntKind.i64,1,8,some [AV.int IntKind.i64 (0)]⟩:=by kernel_rfl
theorem ti37:ti Tryd.prog 37=some ⟨TK.slice 124,1,24,some [AV.nilsl]⟩:=by kernel_rfl
theorem ti38:ti Tryd.prog 38=some ⟨TK.slice 55,1,24,some [AV.nilsl]⟩:=by kernel_rfl
theorem ti39:ti Tryd.prog 39=some ⟨TK.slice 41,1,24,some [AV.nilsl]⟩:=by kernel_rfl
theorem ti41:ti Tryd.prog 41=some ⟨TK.struct [(9,0),(39,1),(3,2)],3,48,some [AV.str ⟨#[]⟩,AV.nilsl,AV.int IntKind.i64 (0)]⟩:=by kernel_rfl
theorem ti42:ti Tryd.prog 42=some ⟨TK.slice 60,1,24,some [AV.nilsl]⟩:=by kernel_rfl
theorem ti44:ti Tryd.prog 44=some ⟨TK.struct [(9,0),(22,1),(37,2),(38,3),(38,4),(41,5),(42,8),(3,9)],10,192,some [AV.str ⟨#[]⟩,AV.nilsl,AV.nilsl,AV.nilsl,AV.nilsl,AV.str ⟨#[]⟩,AV.nilsl,AV.int IntKind.i64 (0),AV.nilsl,AV.int IntKind.i64 (0)]⟩:=by kernel_rfl
theorem ti49:ti Tryd.prog 49=some ⟨TK.slice 3,1,24,some [AV.nilsl]⟩:=by kernel_rfl
theorem ti55:ti Tryd.prog 55=some ⟨TK.struct [(9,0),(41,1),(3,4),(3,5)],6,80,some [AV.str ⟨#[]⟩,AV.str ⟨#[]⟩,AV.nilsl,AV.int IntKind.i64 (0),AV.int IntKind.i64 (0),AV.int IntKind.i64 (0)]⟩:=by kernel_rfl
theorem ti57:ti Tryd.prog 57=some ⟨TK.struct [(3,0),(9,1),(9,2),(9,3),(22,4),(3,5),(39,6),(3,7)],8,120,some [AV.int IntKind.i64 (0),AV.str ⟨#[]⟩,AV.str ⟨#[]⟩,AV.str ⟨#[]⟩,AV.nilsl,AV.int IntKind.i64 (0),AV.nilsl,AV.int IntKind.i64 (0)]⟩:=by kernel_rfl
theorem ti58:ti Tryd.prog 58=some ⟨TK.slice 97,1,24,some [AV.nilsl]⟩:=by kernel_rfl
theorem ti60:ti Tryd.prog 60=some ⟨TK.struct [(3,0),(9,1),(22,2),(39,3),(57,4),(42,12),(42,13),(58,14),(26,15),(3,16)],17,296,some [AV.int IntKind.i64 (0),AV.str ⟨#[]⟩,AV.nilsl,AV.nilsl,AV.int IntKind.i64 (0),AV.str ⟨#[]⟩,AV.str ⟨#[]⟩,AV.str ⟨#[]⟩,AV.nilsl,AV.int IntKind.i64 (0),AV.nilsl,AV.int IntKind.i64 (0),AV.nilsl,AV.nilsl,AV.nilsl,AV.nilsl,AV.int IntKind.i64 (0)]⟩:=by kernel_rfl
theorem ti62:ti Tryd.prog 62=some ⟨TK.slice 67,1,24,some [AV.nilsl]⟩:=by kernel_rfl
theorem ti64:ti Tryd.prog 64=some ⟨TK.struct [(9,0),(22,1),(62,2),(3,3),(3,4)],5,80,some [AV.str ⟨#[]⟩,AV.nilsl,AV.nilsl,AV.int IntKind.i64 (0),AV.int IntKind.i64 (0)]⟩:=by kernel_rfl
theorem ti69:ti Tryd.prog 69=some ⟨TK.struct [(9,0),(22,1),(37,2),(41,3),(9,6),(3,7)],8,136,some [AV.str ⟨#[]⟩,AV.nilsl,AV.nilsl,AV.str ⟨#[]⟩,AV.nilsl,AV.int IntKind.i64 (0),AV.str ⟨#[]⟩,AV.int IntKind.i64 (0)]⟩:=by kernel_rfl
theorem ti72:ti Tryd.prog 72=some ⟨TK.struct [(31,0),(3,1)],2,16,some [AV.int IntKind.i64 (0),AV.int IntKind.i64 (0)]⟩:=by kernel_rfl
theorem ti75:ti Tryd.prog 75=some ⟨TK.struct [(9,0),(22,1),(37,2),(3,3),(26,4)],5,96,some [AV.str ⟨#[]⟩,AV.nilsl,AV.nilsl,AV.int IntKind.i64 (0),AV.nilsl]⟩:=by kernel_rfl
theorem ti97:ti Tryd.prog 97=some ⟨TK.struct [(9,0),(22,1),(42,2),(3,3)],4,72,some [AV.str ⟨#[]⟩,AV.nilsl,AV.nilsl,AV.int IntKind.i64 (0)]⟩:=by kernel_rfl
theorem ti102:ti Tryd.prog 102=some ⟨TK.map 9 105,1,8,some [AV.nilmap]⟩:=by kernel_rfl
theorem ti105:ti Tryd.prog 105=some ⟨TK.struct [(9,0),(38,1)],2,40,some [AV.str ⟨#[]⟩,AV.nilsl]⟩:=by kernel_rfl
theorem ti108:ti Tryd.prog 108=some ⟨TK.ptr,1,8,some [AV.nilp]⟩:=by kernel_rfl
theorem ti124:ti Tryd.prog 124=some ⟨TK.struct [(9,0),(9,1),(3,2)],3,40,some [AV.str ⟨#[]⟩,AV.str ⟨#[]⟩,AV.int IntKind.i64 (0)]⟩:=by kernel_rfl
theorem ti128:ti Tryd.prog 128=some ⟨TK.slice 42,1,24,some [AV.nilsl]⟩:=by kernel_rfl
theorem ti132:ti Tryd.prog 132=some ⟨TK.map 9 4,1,8,some [AV.nilmap]⟩:=by kernel_rfl
theorem ti134:ti Tryd.prog 134=some ⟨TK.func,1,8,some [AV.nilfn]⟩:=by kernel_rfl
theorem ti137:ti Tryd.prog 137=some ⟨TK.slice 22,1,24,some [AV.nilsl]⟩:=by kernel_rfl
theorem ti144:ti Tryd.prog 144=some ⟨TK.func,1,8,some [AV.nilfn]⟩:=by kernel_rfl
theorem ti154:ti Tryd.prog 154=some ⟨TK.slice 38,1,24,some [AV.nilsl]⟩:=by kernel_rfl
theorem el22:elT Tryd.prog 22=some 1:=by kernel_rfl
theorem el23:elT Tryd.prog 23=some 5:=by kernel_rfl
theorem el24:elT Tryd.prog 24=some 2:=by kernel_rfl
theorem el25:elT Tryd.prog 25=some 8:=by kernel_rfl
theorem el26:elT Tryd.prog 26=some 10:=by kernel_rfl
theorem fl28_0:flT Tryd.prog 28 0=some 0:=by kernel_rfl
theorem fl28_1:flT Tryd.prog 28 1=some 1:=by kernel_rfl
theorem fl28_2:flT Tryd.prog 28 2=some 2:=by kernel_rfl
theorem fl28_3:flT Tryd.prog 28 3=some 3:=by kernel_rfl
theorem fl28_4:flT Tryd.prog 28 4=some 4:=by kernel_rfl
theorem fl28_5:flT Tryd.prog 28 5=some 5:=by kernel_rfl
theorem el37:elT Tryd.prog 37=some 3:=by kernel_rfl
theorem el38:elT Tryd.prog 38=some 6:=by kernel_rfl
theorem el39:elT Tryd.prog 39=some 3:=by kernel_rfl
theorem fl41_0:flT Tryd.prog 41 0=some 0:=by kernel_rfl
theorem fl41_1:flT Tryd.prog 41 1=some 1:=by kernel_rfl
theorem fl41_2:flT Tryd.prog 41 2=some 2:=by kernel_rfl
theorem el42:elT Tryd.prog 42=some 17:=by kernel_rfl
theorem fl44_0:flT Tryd.prog 44 0=some 0:=by kernel_rfl
theorem fl44_1:flT Tryd.prog 44 1=some 1:=by kernel_rfl
theorem fl44_2:flT Tryd.prog 44 2=some 2:=by kernel_rfl
theorem fl44_3:flT Tryd.prog 44 3=some 3:=by kernel_rfl
theorem fl44_4:flT Tryd.prog 44 4=some 4:=by kernel_rfl
theorem fl44_5:flT Tryd.prog 44 5=some 5:=by kernel_rfl
theorem fl44_6:flT Tryd.prog 44 6=some 8:=by kernel_rfl
theorem fl44_7:flT Tryd.prog 44 7=some 9:=by kernel_rfl
theorem el49:elT Tryd.prog 49=some 1:=by kernel_rfl
theorem fl55_0:flT Tryd.prog 55 0=some 0:=by kernel_rfl
theorem fl55_1:flT Tryd.prog 55 1=some 1:=by kernel_rfl
theorem fl55_2:flT Tryd.prog 55 2=some 4:=by kernel_rfl
theorem fl55_3:flT Tryd.prog 55 3=some 5:=by kernel_rfl
theorem fl57_0:flT Tryd.prog 57 0=some 0:=by kernel_rfl
theorem fl57_1:flT Tryd.prog 57 1=some 1:=by kernel_rfl
theorem fl57_2:flT Tryd.prog 57 2=some 2:=by kernel_rfl
theorem fl57_3:flT Tryd.prog 57 3=some 3:=by kernel_rfl
theorem fl57_4:flT Tryd.prog 57 4=some 4:=by kernel_rfl
theorem fl57_5:flT Tryd.prog 57 5=some 5:=by kernel_rfl
theorem fl57_6:flT Tryd.prog 57 6=some 6:=by kernel_rfl
theorem el58:elT Tryd.prog 58=some 4:=by kernel_rfl
theorem fl60_0:flT Tryd.prog 60 0=some 0:=by kernel_rfl
theorem fl60_1:flT Tryd.prog 60 1=some 1:=by kernel_rfl
theorem fl60_2:flT Tryd.prog 60 2=some 2:=by kernel_rfl
theorem fl60_3:flT Tryd.prog 60 3=some 3:=by kernel_rfl
theorem fl60_4:flT Tryd.prog 60 4=some 4:=by kernel_rfl
theorem fl60_5:flT Tryd.prog 60 5=some 12:=by kernel_rfl
theorem fl60_6:flT Tryd.prog 60 6=some 13:=by kernel_rfl
theorem fl60_7:flT Tryd.prog 60 7=some 14:=by kernel_rfl
theorem fl60_8:flT Tryd.prog 60 8=some 15:=by kernel_rfl
theorem fl60_9:flT Tryd.prog 60 9=some 16:=by kernel_rfl
theorem el62:elT Tryd.prog 62=some 3:=by kernel_rfl
theorem fl64_0:flT Tryd.prog 64 0=some 0:=by kernel_rfl
theorem fl64_1:flT Tryd.prog 64 1=some 1:=by kernel_rfl
theorem fl64_2:flT Tryd.prog 64 2=some 2:=by kernel_rfl
theorem fl64_3:flT Tryd.prog 64 3=some 3:=by kernel_rfl
theorem fl67_0:flT Tryd.prog 67 0=some 0:=by kernel_rfl
theorem fl67_1:flT Tryd.prog 67 1=some 1:=by kernel_rfl
theorem fl69_0:flT Tryd.prog 69 0=some 0:=by kernel_rfl
theorem fl69_1:flT Tryd.prog 69 1=some 1:=by kernel_rfl
theorem fl69_2:flT Tryd.prog 69 2=some 2:=by kernel_rfl
theorem fl69_3:flT Tryd.prog 69 3=some 3:=by kernel_rfl
theorem fl69_4:flT Tryd.prog 69 4=some 6:=by kernel_rfl
theorem fl72_0:flT Tryd.prog 72 0=some 0:=by kernel_rfl
theorem fl72_1:flT Tryd.prog 72 1=some 1:=by kernel_rfl
theorem fl75_0:flT Tryd.prog 75 0=some 0:=by kernel_rfl
theorem fl75_1:flT Tryd.prog 75 1=some 1:=by kernel_rfl
theorem fl75_2:flT Tryd.prog 75 2=some 2:=by kernel_rfl
theorem fl75_3:flT Tryd.prog 75 3=some 3:=by kernel_rfl
theorem fl75_4:flT Tryd.prog 75 4=some 4:=by kernel_rfl
theorem fl84_0:flT Tryd.prog 84 0=some 0:=by kernel_rfl
theorem fl97_0:flT Tryd.prog 97 0=some 0:=by kernel_rfl
theorem fl97_1:flT Tryd.prog 97 1=some 1:=by kernel_rfl
theorem fl97_2:flT Tryd.prog 97 2=some 2:=by kernel_rfl
theorem mp102:mpTS Tryd.prog 102=some 105:=by kernel_rfl
theorem mz102:mpZS Tryd.prog 102=some (AV.agg [AV.str ⟨#[]⟩,AV.nilsl]):=by kernel_rfl
theorem fl105_0:flT Tryd.prog 105 0=some 0:=by kernel_rfl
theorem fl105_1:flT Tryd.prog 105 1=some 1:=by kernel_rfl
theorem fl124_0:flT Tryd.prog 124 0=some 0:=by kernel_rfl
theorem fl124_1:flT Tryd.prog 124 1=some 1:=by kernel_rfl
theorem el128:elT Tryd.prog 128=some 1:=by kernel_rfl
theorem mp132:mpTS Tryd.prog 132=some 4:=by kernel_rfl
theorem mz132:mpZS Tryd.prog 132=some (AV.bool false):=by kernel_rfl
theorem el137:elT Tryd.prog 137=some 1:=by kernel_rfl
theorem mp147:mpT Tryd.prog 147=some 9:=by kernel_rfl
theorem mz147:mpZ Tryd.prog 147=some (AV.str ⟨#[]⟩):=by kernel_rfl
theorem el154:elT Tryd.prog 154=some 1:=by kernel_rfl
theorem isf6:isFn Tryd.prog 6=true:=by kernel_rfl
theorem isf7:isFn Tryd.prog 7=true:=by kernel_rfl
theorem isf8:isFn Tryd.prog 8=true:=by kernel_rfl
theorem isf9:isFn Tryd.prog 9=true:=by kernel_rfl
theorem isf11:isFn Tryd.prog 11=true:=by kernel_rfl
theorem isf13:isFn Tryd.prog 13=true:=by kernel_rfl
theorem isf16:isFn Tryd.prog 16=true:=by kernel_rfl
theorem isf17:isFn Tryd.prog 17=true:=by kernel_rfl
theorem isf18:isFn Tryd.prog 18=true:=by kernel_rfl
theorem isf19:isFn Tryd.prog 19=true:=by kernel_rfl
theorem isf20:isFn Tryd.prog 20=true:=by kernel_rfl
theorem isf21:isFn Tryd.prog 21=true:=by kernel_rfl
theorem isf22:isFn Tryd.prog 22=true:=by kernel_rfl
theorem isf23:isFn Tryd.prog 23=true:=by kernel_rfl
theorem isf24:isFn Tryd.prog 24=true:=by kernel_rfl
theorem isf25:isFn Tryd.prog 25=true:=by kernel_rfl
theorem isf27:isFn Tryd.prog 27=true:=by kernel_rfl
theorem isf28:isFn Tryd.prog 28=true:=by kernel_rfl
theorem isf29:isFn Tryd.prog 29=true:=by kernel_rfl
theorem isf30:isFn Tryd.prog 30=true:=by kernel_rfl
theorem isf31:isFn Tryd.prog 31=true:=by kernel_rfl
theorem isf33:isFn Tryd.prog 33=true:=by kernel_rfl
theorem isf34:isFn Tryd.prog 34=true:=by kernel_rfl
theorem isf35:isFn Tryd.prog 35=true:=by kernel_rfl
theorem isf36:isFn Tryd.prog 36=true:=by kernel_rfl
theorem isf37:isFn Tryd.prog 37=true:=by kernel_rfl
theorem isf38:isFn Tryd.prog 38=true:=by kernel_rfl
theorem isf39:isFn Tryd.prog 39=true:=by kernel_rfl
theorem isf41:isFn Tryd.prog 41=true:=by kernel_rfl
theorem isf42:isFn Tryd.prog 42=true:=by kernel_rfl
theorem isf43:isFn Tryd.prog 43=true:=by kernel_rfl
theorem isf44:isFn Tryd.prog 44=true:=by kernel_rfl
theorem isf45:isFn Tryd.prog 45=true:=by kernel_rfl
theorem isf46:isFn Tryd.prog 46=true:=by kernel_rfl
theorem isf47:isFn Tryd.prog 47=true:=by kernel_rfl
theorem isf48:isFn Tryd.prog 48=true:=by kernel_rfl
theorem isf49:isFn Tryd.prog 49=true:=by kernel_rfl
theorem isf54:isFn Tryd.prog 54=true:=by kernel_rfl
theorem isf55:isFn Tryd.prog 55=true:=by kernel_rfl
theorem isf56:isFn Tryd.prog 56=true:=by kernel_rfl
theorem isf57:isFn Tryd.prog 57=true:=by kernel_rfl
theorem isf58:isFn Tryd.prog 58=true:=by kernel_rfl
theorem isf59:isFn Tryd.prog 59=true:=by kernel_rfl
theorem isf61:isFn Tryd.prog 61=true:=by kernel_rfl
theorem isf62:isFn Tryd.prog 62=true:=by kernel_rfl
theorem isf63:isFn Tryd.prog 63=true:=by kernel_rfl
theorem isf64:isFn Tryd.prog 64=true:=by kernel_rfl
theorem isf65:isFn Tryd.prog 65=true:=by kernel_rfl
theorem isf66:isFn Tryd.prog 66=true:=by kernel_rfl
theorem isf67:isFn Tryd.prog 67=true:=by kernel_rfl
theorem isf72:isFn Tryd.prog 72=true:=by kernel_rfl
theorem isf73:isFn Tryd.prog 73=true:=by kernel_rfl
theorem isf74:isFn Tryd.prog 74=true:=by kernel_rfl
theorem isf76:isFn Tryd.prog 76=true:=by kernel_rfl
theorem isf77:isFn Tryd.prog 77=true:=by kernel_rfl
theorem isf78:isFn Tryd.prog 78=true:=by kernel_rfl
theorem isf82:isFn Tryd.prog 82=true:=by kernel_rfl
theorem isf83:isFn Tryd.prog 83=true:=by kernel_rfl
theorem isf84:isFn Tryd.prog 84=true:=by kernel_rfl
theorem isf85:isFn Tryd.prog 85=true:=by kernel_rfl
theorem isf87:isFn Tryd.prog 87=true:=by kernel_rfl
theorem mixed:Tryd.prog.follows .mixedOrders=true:=by kernel_rfl
attribute [go_sem] ti3 ti4 ti9 ti20 ti22 ti23 ti24 ti25 ti26 ti28 ti31 ti37 ti38 ti39 ti41 ti42 ti44 ti49 ti55 ti57 ti58 ti60 ti62 ti64 ti69 ti72 ti75 ti97 ti102 ti105 ti108 ti124 ti128 ti132 ti134 ti137 ti144 ti154 el22 el23 el24 el25 el26 fl28_0 fl28_1 fl28_2 fl28_3 fl28_4 fl28_5 el37 el38 el39 fl41_0 fl41_1 fl41_2 el42 fl44_0 fl44_1 fl44_2 fl44_3 fl44_4 fl44_5 fl44_6 fl44_7 el49 fl55_0 fl55_1 fl55_2 fl55_3 fl57_0 fl57_1 fl57_2 fl57_3 fl57_4 fl57_5 fl57_6 el58 fl60_0 fl60_1 fl60_2 fl60_3 fl60_4 fl60_5 fl60_6 fl60_7 fl60_8 fl60_9 el62 fl64_0 fl64_1 fl64_2 fl64_3 fl67_0 fl67_1 fl69_0 fl69_1 fl69_2 fl69_3 fl69_4 fl72_0 fl72_1 fl75_0 fl75_1 fl75_2 fl75_3 fl75_4 fl84_0 fl97_0 fl97_1 fl97_2 mp102 mz102 fl105_0 fl105_1 fl124_0 fl124_1 el128 mp132 mz132 el137 mp147 mz147 el154
end Go.Proofs.YtffmphmiicnaeaaDoor

set_option maxRecDepth 100000
namespace Go.Proofs.YtffmphmiicnaeaaDoor
open Go.Am Go.Proofs Go.Shelf
def itoaLay_ren:Ren:=
{
 f:=fun x=>
  match x with
  |171=>62
  |243=>75
  |246=>86
  |283=>88
  |284=>89
  |285=>90
  |286=>91
  |129=>93
  |317=>92
  |318=>94
  |319=>95
  |320=>96
  |337=>97
  |338=>98
  |n=>n,
 t:=fun x=>
  match x with
  |3=>3
  |9=>9
  |2=>2
  |4=>4
  |171=>159
  |0=>0
  |53=>160
  |37=>148
  |5=>5
  |173=>163
  |212=>167
  |51=>168
  |20=>20
  |213=>169
  |46=>171
  |232=>174
  |233=>175
  |n=>n,
 g:=fun x=>
  match x with
  |17=>0
  |18=>1
  |19=>2
  |n=>n }
theorem itoaLay:LaysM.n171 Tryd.prog itoaLay_ren where
 mixed:=by kernel_rfl
 f129:=Tryd.func93
 f171:=Tryd.func62
 f243:=Tryd.func75
 f246:=Tryd.func86
 f283:=Tryd.func88
 f284:=Tryd.func89
 f285:=Tryd.func90
 f286:=Tryd.func91
 f317:=Tryd.func92
 f318:=Tryd.func94
 f319:=Tryd.func95
 f320:=Tryd.func96
 f337:=Tryd.func97
 f338:=Tryd.func98
 t0:=Tryd.underlying0
 a0:=Tryd.isAgg0
 z0:=Tryd.sizeOf0
 v0:=Tryd.zeroValue0
 t2:=Tryd.underlying2
 a2:=Tryd.isAgg2
 z2:=Tryd.sizeOf2
 v2:=Tryd.zeroValue2
 t3:=Tryd.underlying3
 a3:=Tryd.isAgg3
 z3:=Tryd.sizeOf3
 v3:=Tryd.zeroValue3
 t4:=Tryd.underlying4
 a4:=Tryd.isAgg4
 z4:=Tryd.sizeOf4
 v4:=Tryd.zeroValue4
 t5:=Tryd.underlying5
 a5:=Tryd.isAgg5
 z5:=Tryd.sizeOf5
 v5:=Tryd.zeroValue5
 t9:=Tryd.underlying9
 a9:=Tryd.isAgg9
 z9:=Tryd.sizeOf9
 v9:=Tryd.zeroValue9
 t20:=Tryd.underlying20
 a20:=Tryd.isAgg20
 z20:=Tryd.sizeOf20
 v20:=Tryd.zeroValue20
 t37:=Tryd.underlying148
 a37:=Tryd.isAgg148
 z37:=Tryd.sizeOf148
 v37:=Tryd.zeroValue148
 t46:=Tryd.underlying171
 a46:=Tryd.isAgg171
 z46:=Tryd.sizeOf171
 v46:=Tryd.zeroValue171
 t51:=Tryd.underlying168
 a51:=Tryd.isAgg168
 z51:=Tryd.sizeOf168
 v51:=Tryd.zeroValue168
 t53:=Tryd.underlying160
 a53:=Tryd.isAgg160
 z53:=Tryd.sizeOf160
 v53:=Tryd.zeroValue160
 t171:=Tryd.underlying159
 a171:=Tryd.isAgg159
 z171:=Tryd.sizeOf159
 v171:=Tryd.zeroValue159
 t173:=Tryd.underlying163
 a173:=Tryd.isAgg163
 z173:=Tryd.sizeOf163
 v173:=Tryd.zeroValue163
 t212:=Tryd.underlying167
 a212:=Tryd.isAgg167
 z212:=Tryd.sizeOf167
 v212:=Tryd.zeroValue167
 t213:=Tryd.underlying169
 a213:=Tryd.isAgg169
 z213:=Tryd.sizeOf169
 t232:=Tryd.underlying174
 a232:=Tryd.isAgg174
 z232:=Tryd.sizeOf174
 v232:=Tryd.zeroValue174
 t233:=Tryd.underlying175
 a233:=Tryd.isAgg175
 z233:=Tryd.sizeOf175
 v233:=Tryd.zeroValue175
 g17:=by kernel_rfl
 g18:=by kernel_rfl
 g19:=by kernel_rfl
 i0:=by kernel_rfl
 i2:=by kernel_rfl
 i3:=by kernel_rfl
 i4:=by kernel_rfl
 i5:=by kernel_rfl
 i9:=by kernel_rfl
 i20:=by kernel_rfl
 i37:=by kernel_rfl
 i46:=by kernel_rfl
 i51:=by kernel_rfl
 i53:=by kernel_rfl
 i171:=by kernel_rfl
 i173:=by kernel_rfl
 i212:=by kernel_rfl
 i232:=by kernel_rfl
 i233:=by kernel_rfl
 m17:=by kernel_rfl
 m18:=by kernel_rfl
 m19:=by kernel_rfl
theorem itoa_call (n:Int) (h0: -9223372036854775808≤n) (h1:n≤9223372036854775807):PCall Tryd.prog 62 [.i n] (.str ⟨(Lib.itoa n).toArray⟩):=by
 refine⟨isf62,fun ρ V Z w args hZ hgl hsz hrel=>?_⟩
 have e1:args= #[.int .i64 n]:=by
  have h2:=hrel 0 (by simp)
  have h3:args.size=1:=by simpa using hsz
  have h4:=Rel.int_inv' h2
  apply Array.ext
  ·simpa using h3
  ·intro i g1 g2
   obtain rfl:i=0:=by omega
   simpa [Array.getD,h3] using h4
 have htab:Lib.TabIs Tryd.prog w "internal/strconv.uint64pow10" .u64 Lib.pow10Tab:=by
  obtain⟨⟨cs,ty,fz,g1,g2⟩,g3⟩:=hgl (0,Lib.pow10Tab.map fun z=>Value.int .u64 z) (by simp[tabs])
  unfold Lib.TabIs World.var?
  have hg:Tryd.prog.globalNamed "internal/strconv.uint64pow10" =some 0:=by kernel_rfl
  rw[hg]
  simp only[Option.bind_some,g1]
  have g4:cs.toList=Lib.pow10Tab.map fun z=>Value.int .u64 z:=g2
  rw[← g4]
 subst e1
 refine(Any.strconv_Itoa itoaLay n h0 h1 w htab).mono ?_
 rintro e w' ⟨rfl,k,os,rfl⟩
 refine⟨_,Z,rfl,.str _,⟨fun b hb _=>?_,?_,rfl,rfl,trivial⟩,fun _ _ h=>h,fun _ _ h=> .inl h⟩
 ·exact Lib.heap_grow_old w k os b hb
 ·exact Lib.size_grow w k os
def cloneLay_ren:Ren:=
{
 f:=fun x=>
  match x with
  |5=>45
  |7=>60
  |n=>n,
 t:=fun x=>
  match x with
  |23=>102
  |25=>9
  |3=>105
  |4=>4
  |20=>20
  |n=>n,
 g:=fun n=>n }
theorem cloneLay:SlLaysW.n5 Tryd.prog cloneLay_ren where
 mixed:=by kernel_rfl
 f5:=⟨"maps.Clone[map[string]leasehold/lift.visible,string,leasehold/lift.visible]",of_decide_eq_true (id (Eq.refl true)),Tryd.func45⟩
 f7:=Tryd.func60
 t4:=Tryd.underlying4
 a4:=Tryd.isAgg4
 z4:=Tryd.sizeOf4
 v4:=Tryd.zeroValue4
 t20:=Tryd.underlying20
 a20:=Tryd.isAgg20
 z20:=Tryd.sizeOf20
 v20:=Tryd.zeroValue20
 t23:=Tryd.underlying102
 a23:=Tryd.isAgg102
 z23:=Tryd.sizeOf102
 v23:=Tryd.zeroValue102
theorem clone_c (es:List (AV×AV)):ACall Tryd.prog 45 [.mp 0] (mkHp [(0,.map es)]) 1 1 (fun r hp'=>r= .mp 1∧hp'=mkHp [(0,.map es),(1,.map es)]) (fun _ _=>False):=by
 refine⟨isf45,fun ρ V Z w args hs hnp hlt hsz hrel=>?_⟩
 obtain⟨hV0,hn0,ents,clock,hb,hst,hent⟩:=hs.obj 0 (.map es) rfl
 have e1:args= #[.map (some (ρ 0).blk)]:=by
  have h2:=hrel 0 (by simp)
  have h3:args.size=1:=by simpa using hsz
  have h4:args.getD 0 undef= .map (some (ρ 0).blk):=by
   generalize args.getD 0 undef=v at h2
   simp only[List.getD_cons_zero] at h2
   cases h2
   rfl
  apply Array.ext
  ·simpa using h3
  ·intro i g1 g2
   obtain rfl:i=0:=by omega
   simpa [Array.getD,h3] using h4
 subst e1
 refine(AnyW.maps_Clone cloneLay _ ents clock w hb).mono ?_
 rintro e w' ⟨rfl,rfl⟩
 have hV1:¬ V 1:=fun h=>absurd (hlt 1 h) (by decide)
 have hat0:(ρ 0).at (ρ 0).blk:=⟨hn0,rfl⟩
 have hb0:(ρ 0).blk<w.heap.size:=(hs.obj 0 (.map es) rfl).2.lt _ hat0
 have hcell:∀ b o,Z b o→(w.alloc (.map ents clock)).cell? ⟨b,o,none⟩=w.cell? ⟨b,o,none⟩:=fun b o hz=>cell?_of_heap (by
  show(w.heap.push _)[b]? =_
  rw[Array.getElem?_push,if_neg (by have:=hs.lt b o hz;omega)])
 let r1:Ref:=⟨w.heap.size,0,0,false,0⟩
 have hρ:∀ id,V id→(fun i=>if i=1 then r1 else ρ i) id=ρ id:=fun id hid=>if_neg fun e=>hV1 (by rw[← e];exact hid)
 have hold:∀ b,b<w.heap.size→(w.alloc (.map ents clock)).heap[b]? =w.heap[b]? :=fun b hb=>by
  show(w.heap.push _)[b]? =_
  rw[Array.getElem?_push,if_neg (by omega)]
 have hent':∀ i,i<es.length→Rel (fun i=>if i=1 then r1 else ρ i) (fun i=>V i∨i=1) Z (w.alloc (.map ents clock)) ((ents.map (·.key)).getD i undef) (es.getD i default).1∧Rel (fun i=>if i=1 then r1 else ρ i) (fun i=>V i∨i=1) Z (w.alloc (.map ents clock)) ((ents.map (·.val)).getD i undef) (es.getD i default).2:=fun i hi=>
  ⟨(hent i hi).1.mono hρ (fun _ h=> .inl h) (fun _ _ h=>h) hcell,(hent i hi).2.mono hρ (fun _ h=> .inl h) (fun _ _ h=>h) hcell⟩
 have two:∀ id o,mkHp [(0,AObj.map es),(1,.map es)] id=some o→(id=0∨id=1)∧o= .map es:=by
  intro id o h
  simp only[mkHp,updo] at h
  split at h
  ·rename_i e;cases h;exact⟨.inl e,rfl⟩
  ·split at h
   ·rename_i e;cases h;exact⟨.inr e,rfl⟩
   ·cases h
 refine⟨fun i=>if i=1 then r1 else ρ i,fun i=>V i∨i=1,Z,mkHp [(0,.map es),(1,.map es)],⟨?_,?_,?_,?_,?_⟩,⟨?_,?_,rfl,rfl,trivial⟩,?_,fun _ _ h=>h,fun _ _ h=> .inl h,?_,.inl ⟨_,.mp 1,rfl,?_,rfl,rfl⟩⟩
 ·intro id o ho
  obtain⟨rfl|rfl,rfl⟩:=two id o ho
  ·exact⟨.inl hV0,hn0,ents,clock,(hold _ hb0).trans hb,hst,hent'⟩
  ·refine⟨.inr rfl,rfl,ents,clock,?_,hst,hent'⟩
   show(w.heap.push _)[w.heap.size]? =_
   simp
 ·intro id id' o o' b ho ho' hb1 hb2
  obtain⟨h1,_⟩:=two id o ho
  obtain⟨h2,_⟩:=two id' o' ho'
  rcases h1 with rfl|rfl<;>rcases h2 with rfl|rfl
  ·rfl
  ·have a1:(ρ 0).blk=b:=hb1.2
   have a2:w.heap.size=b:=hb2.2
   omega
  ·have a1:(ρ 0).blk=b:=hb2.2
   have a2:w.heap.size=b:=hb1.2
   omega
  ·rfl
 ·intro id o b ho hb1 off hz
  obtain⟨rfl|rfl,rfl⟩:=two id o ho
  ·exact hs.sep 0 _ b rfl hb1 off hz
  ·have a2:w.heap.size=b:=hb1.2
   have:=hs.lt b off hz
   omega
 ·intro b off hz
  have:=hs.lt b off hz
  show b<(w.heap.push _).size
  simp
  omega
 ·exact hs.gl.mono (fun b ⟨o,hz⟩ _=>hold b (hs.lt b o hz)) fun _ _ h=>h
 ·intro b hb _
  exact hold b hb
 ·show w.heap.size≤(w.heap.push _).size
  simp
 ·intro id hid
  obtain rfl:id=0:=by omega
  exact⟨.inl hV0,rfl⟩
 ·intro id o b ho hb1 hlt1
  obtain⟨rfl|rfl,rfl⟩:=two id o ho
  ·exact⟨0,_,rfl,hb1⟩
  ·have a2:w.heap.size=b:=hb1.2
   omega
 ·exact Rel.mp (ρ:=fun i=>if i=1 then r1 else ρ i) 1 (.inr rfl)
theorem clone_nil:PCall Tryd.prog 45 [.nilmap] .nilmap:=by
 refine⟨isf45,fun ρ V Z w args hZ hgl hsz hrel=>?_⟩
 have e1:args= #[.map none]:=by
  have h2:=hrel 0 (by simp)
  have h3:args.size=1:=by simpa using hsz
  have h4:args.getD 0 undef= .map none:=by
   generalize args.getD 0 undef=v at h2
   simp only[List.getD_cons_zero] at h2
   cases h2
   rfl
  apply Array.ext
  ·simpa using h3
  ·intro i g1 g2
   obtain rfl:i=0:=by omega
   simpa [Array.getD,h3] using h4
 subst e1
 refine(AnyW.maps_Clone_nil cloneLay w).mono ?_
 rintro e w' ⟨rfl,rfl⟩
 exact⟨_,Z,rfl,.nilmap,⟨fun b hb _=>rfl,Nat.le_refl _,rfl,rfl,trivial⟩,fun _ _ h=>h,fun _ _ h=> .inl h⟩
end Go.Proofs.YtffmphmiicnaeaaDoor

set_option maxHeartbeats 4000000
set_option maxRecDepth 100000
namespace Go.Lf
open Go Go.Am
theorem Tx.av_clo:∀ t:Tx,t.av.clo=true
 | .mk _ _ _=>rfl
theorem Tx.avL_clo (l:List Tx):AV.cloL (Tx.avL l)=true:=cloLeq _ fun x hx=>by rw[Tx.avL_eq] at hx;obtain⟨p,_,rfl⟩:=List.mem_map.1 hx;exact p.av_clo
theorem nml_clo (l:List Nm):AV.cloL (nml l)=true:=cloLeq _ fun x hx=>by obtain⟨p,_,rfl⟩:=List.mem_map.1 hx;rfl
theorem Ad.av_clo (x:Ad):x.av.clo=true:=rfl
theorem Bd.av_clo (x:Bd):x.av.clo=true:=rfl
theorem adl_clo (l:List Ad):AV.cloL (adl l)=true:=cloLeq _ fun x hx=>by obtain⟨p,_,rfl⟩:=List.mem_map.1 hx;rfl
theorem bdl_clo (l:List Bd):AV.cloL (bdl l)=true:=cloLeq _ fun x hx=>by obtain⟨p,_,rfl⟩:=List.mem_map.1 hx;rfl
theorem St.av_clo:∀ t:St,t.av.clo=true
 | .mk _ _ _ _ _ _ _ _ _ _=>by rw[St.av];rfl
theorem Ar.av_clo:∀ t:Ar,t.av.clo=true
 | .mk _ _ _ _=>by rw[Ar.av];rfl
theorem Fd.av_clo:∀ t:Fd,t.av.clo=true
 | .mk _ _ _ _ _ _ _ _=>by rw[Fd.av];rfl
theorem stl_clo (l:List St):AV.cloL (stl l)=true:=cloLeq _ fun x hx=>by rw[stl_eq] at hx;obtain⟨p,_,rfl⟩:=List.mem_map.1 hx;exact p.av_clo
theorem arl_clo (l:List Ar):AV.cloL (arl l)=true:=cloLeq _ fun x hx=>by rw[arl_eq] at hx;obtain⟨p,_,rfl⟩:=List.mem_map.1 hx;exact p.av_clo
theorem fdl_clo (l:List Fd):AV.cloL (fdl l)=true:=cloLeq _ fun x hx=>by rw[fdl_eq] at hx;obtain⟨p,_,rfl⟩:=List.mem_map.1 hx;exact p.av_clo
@[go_sem] theorem txl_ln (l:List Tx):(Tx.avL l).length=l.length:=by rw[Tx.avL_eq,List.length_map]
@[go_sem] theorem txl_gt (l:List Tx) (i:Nat):(Tx.avL l)[i]? =l[i]?.map Tx.av:=by rw[Tx.avL_eq,List.getElem?_map]
@[go_sem] theorem stl_ln (l:List St):(stl l).length=l.length:=by rw[stl_eq,List.length_map]
@[go_sem] theorem stl_gt (l:List St) (i:Nat):(stl l)[i]? =l[i]?.map St.av:=by rw[stl_eq,List.getElem?_map]
@[go_sem] theorem arl_ln (l:List Ar):(arl l).length=l.length:=by rw[arl_eq,List.length_map]
@[go_sem] theorem arl_gt (l:List Ar) (i:Nat):(arl l)[i]? =l[i]?.map Ar.av:=by rw[arl_eq,List.getElem?_map]
@[go_sem] theorem fdl_ln (l:List Fd):(fdl l).length=l.length:=by rw[fdl_eq,List.length_map]
@[go_sem] theorem fdl_gt (l:List Fd) (i:Nat):(fdl l)[i]? =l[i]?.map Fd.av:=by rw[fdl_eq,List.getElem?_map]
@[go_sem] theorem adl_ln (l:List Ad):(adl l).length=l.length:=List.length_map ..
@[go_sem] theorem adl_gt (l:List Ad) (i:Nat):(adl l)[i]? =l[i]?.map Ad.av:=List.getElem?_map ..
@[go_sem] theorem bdl_ln (l:List Bd):(bdl l).length=l.length:=List.length_map ..
@[go_sem] theorem bdl_gt (l:List Bd) (i:Nat):(bdl l)[i]? =l[i]?.map Bd.av:=List.getElem?_map ..
@[go_sem] theorem nml_ln (l:List Nm):(nml l).length=l.length:=List.length_map ..
@[go_sem] theorem nml_gt (l:List Nm) (i:Nat):(nml l)[i]? =l[i]?.map AV.str:=List.getElem?_map ..
@[go_sem] theorem stl_ren (m:Nat→Nat) (l:List St):AV.renL m (stl l)=stl l:=cloL_renL (stl_clo l)
@[go_sem] theorem stl_ids (p:Nat→Prop) (l:List St):AV.idsL p (stl l)=True:=eq_true (cloL_idsL (stl_clo l))
@[go_sem] theorem arl_ren (m:Nat→Nat) (l:List Ar):AV.renL m (arl l)=arl l:=cloL_renL (arl_clo l)
@[go_sem] theorem arl_ids (p:Nat→Prop) (l:List Ar):AV.idsL p (arl l)=True:=eq_true (cloL_idsL (arl_clo l))
@[go_sem] theorem fdl_ren (m:Nat→Nat) (l:List Fd):AV.renL m (fdl l)=fdl l:=cloL_renL (fdl_clo l)
@[go_sem] theorem fdl_ids (p:Nat→Prop) (l:List Fd):AV.idsL p (fdl l)=True:=eq_true (cloL_idsL (fdl_clo l))
@[go_sem] theorem adl_ren (m:Nat→Nat) (l:List Ad):AV.renL m (adl l)=adl l:=cloL_renL (adl_clo l)
@[go_sem] theorem adl_ids (p:Nat→Prop) (l:List Ad):AV.idsL p (adl l)=True:=eq_true (cloL_idsL (adl_clo l))
@[go_sem] theorem bdl_ren (m:Nat→Nat) (l:List Bd):AV.renL m (bdl l)=bdl l:=cloL_renL (bdl_clo l)
@[go_sem] theorem bdl_ids (p:Nat→Prop) (l:List Bd):AV.idsL p (bdl l)=True:=eq_true (cloL_idsL (bdl_clo l))
@[go_sem] theorem nml_ren (m:Nat→Nat) (l:List Nm):AV.renL m (nml l)=nml l:=cloL_renL (nml_clo l)
@[go_sem] theorem nml_ids (p:Nat→Prop) (l:List Nm):AV.idsL p (nml l)=True:=eq_true (cloL_idsL (nml_clo l))
@[go_sem] theorem Ar_av_ren (m:Nat→Nat) (x:Ar):x.av.ren m=x.av:=clo_ren x.av_clo
@[go_sem] theorem Ar_av_ids (p:Nat→Prop) (x:Ar):x.av.ids p=True:=eq_true (clo_ids x.av_clo)
theorem Tx.av_eq (x:Tx):x.av= .agg [.str x.n,.sl (Tx.avL x.a),.i x.o]:=by cases x;rw[Tx.av];rfl
mutual
def szT:Tx→Int→Int
 | .mk _ a _,m=>szB a m 0
def szB:List Tx→Int→Int→Int
 | [],_,n=>n
 |t::l,m,n=>if n≤m then szB l m (n+1+szT t (m - n)) else n
end
theorem szT_eq (t:Tx) (m:Int):szT t m=szB t.a m 0:=by cases t;rw[szT];rfl
mutual
theorem szT_sp:∀ (t:Tx) (m:Int),0≤szT t m∧szT t m≤(Tx.szL t.a:Int)∧(szT t m≤m→szT t m=(Tx.szL t.a:Int))
 | .mk n a o,m=>by
  have h:=szB_sp a m 0
  rw[szT]
  refine⟨h.1,by have:=h.2.1;simp only[Tx.a];omega,fun q=>?_⟩
  have:=h.2.2 q
  simp only[Tx.a];omega
theorem szB_sp:∀ (l:List Tx) (m n:Int),n≤szB l m n∧szB l m n≤n+(Tx.szL l:Int)∧(szB l m n≤m→szB l m n=n+(Tx.szL l:Int))
 | [],m,n=>by rw[szB,Tx.szL];omega
 | .mk k a o::l,m,n=>by
  have h1:=szT_sp (.mk k a o) (m - n)
  rw[szB,Tx.szL,Tx.sz]
  simp only[Tx.a] at h1
  split
  ·have h2:=szB_sp l m (n+1+szT (.mk k a o) (m - n))
   refine⟨by omega,by omega,fun q=>?_⟩
   have h3:=h2.2.2 q
   have h4:=h1.2.2 (by omega)
   omega
  ·exact⟨by omega,by omega,fun q=>by omega⟩
end
def adB:List Ad→Int→Int→Int
 | [],_,n=>n
 |a::l,m,n=>if n≤m then adB l m (n+1+szT a.ty (m - n)) else n
theorem Tx.sz_a (t:Tx):t.sz=1+Tx.szL t.a:=by cases t;rw[Tx.sz];rfl
theorem adB_sp:∀ (l:List Ad) (m n:Int),n≤adB l m n∧adB l m n≤n+(adSz l:Int)∧(adB l m n≤m→adB l m n=n+(adSz l:Int))
 | [],m,n=>by rw[adB,show adSz []=0 from rfl];omega
 |a::l,m,n=>by
  have h1:=szT_sp a.ty (m - n)
  have h0:adSz (a::l)=a.ty.sz+adSz l:=by simp[adSz]
  rw[adB,h0,Tx.sz_a]
  split
  ·have h2:=adB_sp l m (n+1+szT a.ty (m - n))
   refine⟨by omega,by omega,fun q=>?_⟩
   have h3:=h2.2.2 q
   have h4:=h1.2.2 (by omega)
   omega
  ·exact⟨by omega,by omega,fun q=>by omega⟩
mutual
def bsS:St→Int→Int→Int
 | .mk k nm ns ty ex th el ar fn off,m,n=>bsF fn m (bsA ar m (n+1+ns.length+ex.ns.length+szB ty (m - n) 0+szB ex.ty (m - n) 0+bsL th (m - n) 0+bsL el (m - n) 0))
def bsL:List St→Int→Int→Int
 | [],_,n=>n
 |s::l,m,n=>if n≤m then bsL l m (bsS s m n) else n
def bsM:Ar→Int→Int→Int
 | .mk v ns b off,m,n=>n+1+ns.length+bsL b (m - n) 0
def bsA:List Ar→Int→Int→Int
 | [],_,n=>n
 |s::l,m,n=>if n≤m then bsA l m (bsM s m n) else n
def fsF:Fd→Int→Int
 | .mk nm ps bs cs ag res b off,m=>adB cs m (adB ag m (2+ps.length+bs.length+bsL b m 0+szB res.a m 0))
def bsF:List Fd→Int→Int→Int
 | [],_,n=>n
 |f::l,m,n=>if n≤m then bsF l m (n+fsF f (m - n)) else n
end
mutual
theorem bsS_sp:∀ (s:St) (m n:Int),n≤bsS s m n∧bsS s m n≤n+(s.sz:Int)∧(bsS s m n≤m→bsS s m n=n+(s.sz:Int))
 | .mk k nm ns ty ex th el ar fn off,m,n=>by
  have h1:=szB_sp ty (m - n) 0
  have h2:=szB_sp ex.ty (m - n) 0
  have h3:=bsL_sp th (m - n) 0
  have h4:=bsL_sp el (m - n) 0
  have h5:=bsA_sp ar m (n+1+ns.length+ex.ns.length+szB ty (m - n) 0+szB ex.ty (m - n) 0+bsL th (m - n) 0+bsL el (m - n) 0)
  have h6:=bsF_sp fn m (bsA ar m (n+1+ns.length+ex.ns.length+szB ty (m - n) 0+szB ex.ty (m - n) 0+bsL th (m - n) 0+bsL el (m - n) 0))
  rw[bsS,St.sz,Ex.sz]
  refine⟨by omega,by omega,fun q=>?_⟩
  have g6:=h6.2.2 q
  have g5:=h5.2.2 (by omega)
  have g4:=h4.2.2 (by omega)
  have g3:=h3.2.2 (by omega)
  have g2:=h2.2.2 (by omega)
  have g1:=h1.2.2 (by omega)
  omega
theorem bsL_sp:∀ (l:List St) (m n:Int),n≤bsL l m n∧bsL l m n≤n+(stSz l:Int)∧(bsL l m n≤m→bsL l m n=n+(stSz l:Int))
 | [],m,n=>by rw[bsL,stSz];omega
 |s::l,m,n=>by
  rw[bsL,stSz]
  split
  ·have h1:=bsS_sp s m n
   have h2:=bsL_sp l m (bsS s m n)
   refine⟨by omega,by omega,fun q=>?_⟩
   have h3:=h2.2.2 q
   have h4:=h1.2.2 (by omega)
   omega
  ·exact⟨by omega,by omega,fun q=>by omega⟩
theorem bsM_sp:∀ (s:Ar) (m n:Int),n≤bsM s m n∧bsM s m n≤n+(s.sz:Int)∧(bsM s m n≤m→bsM s m n=n+(s.sz:Int))
 | .mk v ns b off,m,n=>by
  have h1:=bsL_sp b (m - n) 0
  rw[bsM,Ar.sz]
  refine⟨by omega,by omega,fun q=>?_⟩
  have h2:=h1.2.2 (by omega)
  omega
theorem bsA_sp:∀ (l:List Ar) (m n:Int),n≤bsA l m n∧bsA l m n≤n+(arSz l:Int)∧(bsA l m n≤m→bsA l m n=n+(arSz l:Int))
 | [],m,n=>by rw[bsA,arSz];omega
 |s::l,m,n=>by
  rw[bsA,arSz]
  split
  ·have h1:=bsM_sp s m n
   have h2:=bsA_sp l m (bsM s m n)
   refine⟨by omega,by omega,fun q=>?_⟩
   have h3:=h2.2.2 q
   have h4:=h1.2.2 (by omega)
   omega
  ·exact⟨by omega,by omega,fun q=>by omega⟩
theorem fsF_sp:∀ (f:Fd) (m:Int),2≤fsF f m∧fsF f m≤(f.sz:Int)∧(fsF f m≤m→fsF f m=(f.sz:Int))
 | .mk nm ps bs cs ag res b off,m=>by
  have h1:=bsL_sp b m 0
  have h2:=szB_sp res.a m 0
  have h3:=adB_sp ag m (2+ps.length+bs.length+bsL b m 0+szB res.a m 0)
  have h4:=adB_sp cs m (adB ag m (2+ps.length+bs.length+bsL b m 0+szB res.a m 0))
  rw[fsF,Fd.sz,Tx.sz_a]
  refine⟨by omega,by omega,fun q=>?_⟩
  have g4:=h4.2.2 q
  have g3:=h3.2.2 (by omega)
  have g2:=h2.2.2 (by omega)
  have g1:=h1.2.2 (by omega)
  omega
theorem bsF_sp:∀ (l:List Fd) (m n:Int),n≤bsF l m n∧bsF l m n≤n+(fdSz l:Int)∧(bsF l m n≤m→bsF l m n=n+(fdSz l:Int))
 | [],m,n=>by rw[bsF,fdSz];omega
 |f::l,m,n=>by
  rw[bsF,fdSz]
  split
  ·have h1:=fsF_sp f (m - n)
   have h2:=bsF_sp l m (n+fsF f (m - n))
   refine⟨by omega,by omega,fun q=>?_⟩
   have h3:=h2.2.2 q
   have h4:=h1.2.2 (by omega)
   omega
  ·exact⟨by omega,by omega,fun q=>by omega⟩
end
end Go.Lf
