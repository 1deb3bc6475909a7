/- A part of the proof: an abstract machine for the walks, and what the walked functions compute. -/
import Derived.Test.YtffmphmiicnaeaaDoorRf
import Derived.Test.YtffmphmiicnaeaaDoorRb
import Derived.Test.YtffmphmiicnaeaaDoorRa
set_option linter.unusedVariables false
set_option linter.unusedSimpArgs false
set_option maxHeartbeats 4000000
set_option maxRecDepth 100000
namespace Go.Lf
mutual
def locS:Lf.St→Nat
 | .mk k nm ns ty ex th el ar fn off=>locL th+locL el+locA ar+if k=13 then locF fn else 0
def locL:List Lf.St→Nat
 | []=>0
 |s::l=>locS s+locL l
def locM:Ar→Nat
 | .mk v ns b off=>locL b
def locA:List Ar→Nat
 | []=>0
 |s::l=>locM s+locA l
def locD:Lf.Fd→Nat
 | .mk n ps bs cs ag res b off=>1+locL b
def locF:List Lf.Fd→Nat
 | []=>0
 |s::l=>locD s+locF l
end
mutual
theorem locS_le:∀ s:Lf.St,locS s≤s.sz
 | .mk k nm ns ty ex th el ar fn off=>by
  have:=locL_le th;have:=locL_le el;have:=locA_le ar;have:=locF_le fn
  rw[locS,St.sz];split<;>omega
theorem locL_le:∀ l:List Lf.St,locL l≤stSz l
 | []=>Nat.zero_le _
 |s::l=>by have:=locS_le s;have:=locL_le l;rw[locL,stSz];omega
theorem locM_le:∀ s:Ar,locM s≤s.sz
 | .mk v ns b off=>by have:=locL_le b;rw[locM,Ar.sz];omega
theorem locA_le:∀ l:List Ar,locA l≤arSz l
 | []=>Nat.zero_le _
 |s::l=>by have:=locM_le s;have:=locA_le l;rw[locA,arSz];omega
theorem locD_le:∀ s:Lf.Fd,locD s≤s.sz
 | .mk n ps bs cs ag res b off=>by have:=locL_le b;rw[locD,Fd.sz];omega
theorem locF_le:∀ l:List Lf.Fd,locF l≤fdSz l
 | []=>Nat.zero_le _
 |s::l=>by have:=locD_le s;have:=locF_le l;rw[locF,fdSz];omega
end
end Go.Lf
namespace Go.Proofs.YtffmphmiicnaeaaDoor
open Go.Am Go.Proofs Go.Lf
open Classical
attribute [local irreducible] AW CallP CallB
theorem locals_c:∀ (N:Nat),N≤1001→∀ l:List Lf.St,stSz l<N→PCall Tryd.prog 43 [.sl (stl l)] (.i (locL l:Nat)):=by
 intro N
 induction N with
 |zero=>intro _ l h;omega
 |succ N IH=>
 intro hN1 l hl
 have hln:=st_len_le l
 refine PCall.intro Tryd.func43 rfl isf43 (by simp[Tryd.f43]) (by simp[AV.cloL,AV.clo]) fun E Q hE hN hQ=>K_start ?_
 repeat'(first|apply nx|refine zx ?_|rw[zw]|((first|refine hK _ ?_|refine hKp _ _ ?_);clear hK hKp K Kp;try clear hanc anc)|((with_reducible refine And.intro ?_ ?_);exact zb)|((first|refine zr hE fun K Kp hK hKp=>?_|refine zd true mixed hE fun K Kp hK hKp anc hanc=>?_|refine zd false mixed hE fun K Kp hK hKp anc hanc=>?_);simp only[go_sem])|(refine zg (fun hg=>?_) (fun hg=>?_)<;>simp only[go_sem,hg])|(refine zc (fun hc=>?_) (fun hc=>?_)<;>try exact zh hc))
 refine K_loop (X:=Nat×Nat) (fun z=>z.1≤l.length∧locL l=z.2+locL (l.drop z.1)∧z.2+stSz (l.drop z.1)≤1000) (fun z=>mkSt [(0,.sl (stl l)),(3,.i (z.2:Nat)),(4,.i (z.1:Nat))] [] 1) (fun z=>l.length - z.1) (0,0) ⟨Nat.zero_le _,by simp,by simp;omega⟩ (fun i=>i) (by refine ent_mk (by simp[go_sem]) (by simp[go_sem]) (by simp) (by simp[hN])) ?_
 rintro⟨i,c⟩ ⟨hi,hc1,hc2⟩
 simp only at hi hc1 hc2
 by_cases hlt:i<l.length
 case neg=>
  obtain rfl:i=l.length:=by omega
  rw[List.drop_length,locL,Nat.add_zero] at hc1
  rw[hc1] at hQ
  repeat'(first|apply nx|refine zx ?_|rw[zw]|((first|refine hK _ ?_|refine hKp _ _ ?_);clear hK hKp K Kp;try clear hanc anc)|((with_reducible refine And.intro ?_ ?_);exact zb)|((first|refine zr hE fun K Kp hK hKp=>?_|refine zd false mixed hE fun K Kp hK hKp anc hanc=>?_);simp only[go_sem,ge_dec])|(refine zg (fun hg=>?_) (fun hg=>?_)<;>simp only[go_sem,ge_dec,hg])|(refine zc (fun hc=>?_) (fun hc=>?_)<;>try exact zh hc)|(refine K_ret ?_;refine zt hQ ?_))
  rfl
 obtain⟨⟨k,n,ns,ty,ex,th,el,ar,fn,off⟩,hx⟩:=get?_of hlt
 have hm:=st_mem_le (List.mem_of_getElem? hx)
 rw[St.sz] at hm
 rw[drop_of hx,locL,locS] at hc1
 rw[drop_of hx,stSz,St.sz] at hc2
 have a1:=locL_le th
 have a2:=locL_le el
 have a3:=locA_le ar
 have a4:=locF_le fn
 have h1:=IH (by omega) th (by omega)
 have h2:=IH (by omega) el (by omega)
 have u0:=inc_u hlt (by omega)
 have w1:IntKind.i64.wrap ((c:Int)+(locL th:Nat))=((c+locL th:Nat):Int):=by rw[wrap64 (by omega) (by omega)];omega
 have w2:IntKind.i64.wrap (((c+locL th:Nat):Int)+(locL el:Nat))=((c+locL th+locL el:Nat):Int):=by rw[wrap64 (by omega) (by omega)];omega
 repeat'(first|apply nx|refine zx ?_|rw[zw]|((first|refine hK _ ?_|refine hKp _ _ ?_);clear hK hKp K Kp;try clear hanc anc)|((with_reducible refine And.intro ?_ ?_);exact zb)|((first|refine zr hE fun K Kp hK hKp=>?_|refine zd true mixed hE fun K Kp hK hKp anc hanc=>?_|refine zd false mixed hE fun K Kp hK hKp anc hanc=>?_|(apply zm;exact zu;(first|exact h1|exact h2);exact zs;exact zl));simp only[go_sem,lt_dec hlt,hx,St.av,w1,w2])|(refine zg (fun hg=>?_) (fun hg=>?_)<;>simp only[go_sem,lt_dec hlt,hx,St.av,w1,w2,hg])|(refine zc (fun hc=>?_) (fun hc=>?_)<;>try exact zh hc))
 have har:=ar_len_le ar
 have hfl:=fd_len_le fn
 refine K_loop (X:=Nat×Nat) (fun z=>z.1≤ar.length∧c+locL th+locL el+locA ar=z.2+locA (ar.drop z.1)) (fun z=>mkSt [(0,.sl (stl l)),(3,.i (z.2:Nat)),(4,.i (i:Nat)),(5,.i (z.1:Nat))] [] 1) (fun z=>ar.length - z.1) (0,c+locL th+locL el) ⟨Nat.zero_le _,by simp⟩ (fun i=>i) (by refine ent_mk (by simp[go_sem]) (by simp[go_sem]) (by simp) (by simp[hN])) ?_
 rintro⟨j,c2⟩ ⟨hj,hd1⟩
 simp only at hj hd1
 by_cases hlj:j<ar.length
 ·obtain⟨⟨v,ns1,bb,of1⟩,ha⟩:=get?_of hlj
  have h3:=ar_mem_le (List.mem_of_getElem? ha)
  rw[Ar.sz] at h3
  rw[drop_of ha,locA,locM] at hd1
  have v1:=inc_u hlj (by omega)
  have h4:=IH (by omega) bb (by omega)
  have w3:IntKind.i64.wrap ((c2:Int)+(locL bb:Nat))=((c2+locL bb:Nat):Int):=by rw[wrap64 (by omega) (by omega)];omega
  repeat'(first|apply nx|refine zx ?_|rw[zw]|((first|refine hK _ ?_|refine hKp _ _ ?_);clear hK hKp K Kp;try clear hanc anc)|((with_reducible refine And.intro ?_ ?_);exact zb)|((first|refine zr hE fun K Kp hK hKp=>?_|refine zd true mixed hE fun K Kp hK hKp anc hanc=>?_|refine zd false mixed hE fun K Kp hK hKp anc hanc=>?_|(apply zm;exact zu;exact h4;exact zs;exact zl));simp only[go_sem,lt_dec hlj,hx,St.av,ha,Ar.av,w3,v1])|(refine zg (fun hg=>?_) (fun hg=>?_)<;>simp only[go_sem,lt_dec hlj,hx,St.av,ha,Ar.av,w3,v1,hg])|(refine zc (fun hc=>?_) (fun hc=>?_)<;>try exact zh hc))
  refine⟨(j+1,c2+locL bb),⟨by simp only;omega,by simp only;omega⟩,by simp only;omega,fun i=>i,by refine ent_mk (by simp[go_sem]) (by simp[go_sem]) (by simp) (by simp[hN])⟩
 obtain rfl:j=ar.length:=by omega
 rw[List.drop_length,locA,Nat.add_zero] at hd1
 by_cases hk:k=13
 case neg=>
  rw[if_neg hk] at hc1
  have q:(k==13)=false:=by simp[hk]
  repeat'(first|apply nx|refine zx ?_|rw[zw]|((first|refine hK _ ?_|refine hKp _ _ ?_);clear hK hKp K Kp;try clear hanc anc)|((with_reducible refine And.intro ?_ ?_);exact zb)|((first|refine zr hE fun K Kp hK hKp=>?_|refine zd true mixed hE fun K Kp hK hKp anc hanc=>?_|refine zd false mixed hE fun K Kp hK hKp anc hanc=>?_);simp only[go_sem,ge_dec,hx,St.av,q,u0])|(refine zg (fun hg=>?_) (fun hg=>?_)<;>simp only[go_sem,ge_dec,hx,St.av,q,u0,hg])|(refine zc (fun hc=>?_) (fun hc=>?_)<;>try exact zh hc))
  refine⟨(i+1,c2),⟨by simp only;omega,by simp only;omega,by simp only;omega⟩,by simp only;omega,fun i=>i,by refine ent_mk (by simp[go_sem]) (by simp[go_sem]) (by simp) (by simp[hN])⟩
 rw[if_pos hk] at hc1
 subst hk
 repeat'(first|apply nx|refine zx ?_|rw[zw]|((first|refine hK _ ?_|refine hKp _ _ ?_);clear hK hKp K Kp;try clear hanc anc)|((with_reducible refine And.intro ?_ ?_);exact zb)|((first|refine zr hE fun K Kp hK hKp=>?_|refine zd true mixed hE fun K Kp hK hKp anc hanc=>?_|refine zd false mixed hE fun K Kp hK hKp anc hanc=>?_);simp only[go_sem,ge_dec,hx,St.av])|(refine zg (fun hg=>?_) (fun hg=>?_)<;>simp only[go_sem,ge_dec,hx,St.av,hg])|(refine zc (fun hc=>?_) (fun hc=>?_)<;>try exact zh hc))
 refine K_loop (X:=Nat×Nat) (fun z=>z.1≤fn.length∧c2+locF fn=z.2+locF (fn.drop z.1)) (fun z=>mkSt [(0,.sl (stl l)),(3,.i (z.2:Nat)),(4,.i (i:Nat)),(6,.i (z.1:Nat))] [] 1) (fun z=>fn.length - z.1) (0,c2) ⟨Nat.zero_le _,by simp⟩ (fun i=>i) (by refine ent_mk (by simp[go_sem]) (by simp[go_sem]) (by simp) (by simp[hN])) ?_
 rintro⟨g,c3⟩ ⟨hg,he1⟩
 simp only at hg he1
 by_cases hlg:g<fn.length
 ·obtain⟨⟨fm,p0,b0,cp0,a0,r0,bd,of0⟩,hf⟩:=get?_of hlg
  have h3:=fd_mem_le (List.mem_of_getElem? hf)
  rw[Fd.sz] at h3
  rw[drop_of hf,locF,locD] at he1
  have v1:=inc_u hlg (by omega)
  have h4:=IH (by omega) bd (by omega)
  have w3:IntKind.i64.wrap ((c3:Int)+1)=((c3+1:Nat):Int):=by rw[wrap64 (by omega) (by omega)];omega
  have w4:IntKind.i64.wrap (((c3+1:Nat):Int)+(locL bd:Nat))=((c3+1+locL bd:Nat):Int):=by rw[wrap64 (by omega) (by omega)];omega
  repeat'(first|apply nx|refine zx ?_|rw[zw]|((first|refine hK _ ?_|refine hKp _ _ ?_);clear hK hKp K Kp;try clear hanc anc)|((with_reducible refine And.intro ?_ ?_);exact zb)|((first|refine zr hE fun K Kp hK hKp=>?_|refine zd true mixed hE fun K Kp hK hKp anc hanc=>?_|refine zd false mixed hE fun K Kp hK hKp anc hanc=>?_|(apply zm;exact zu;exact h4;exact zs;exact zl));simp only[go_sem,lt_dec hlg,hx,St.av,hf,Fd.av,w3,w4,v1])|(refine zg (fun hg=>?_) (fun hg=>?_)<;>simp only[go_sem,lt_dec hlg,hx,St.av,hf,Fd.av,w3,w4,v1,hg])|(refine zc (fun hc=>?_) (fun hc=>?_)<;>try exact zh hc))
  refine⟨(g+1,c3+1+locL bd),⟨by simp only;omega,by simp only;omega⟩,by simp only;omega,fun i=>i,by refine ent_mk (by simp[go_sem]) (by simp[go_sem]) (by simp) (by simp[hN])⟩
 obtain rfl:g=fn.length:=by omega
 rw[List.drop_length,locF,Nat.add_zero] at he1
 repeat'(first|apply nx|refine zx ?_|rw[zw]|((first|refine hK _ ?_|refine hKp _ _ ?_);clear hK hKp K Kp;try clear hanc anc)|((with_reducible refine And.intro ?_ ?_);exact zb)|((first|refine zr hE fun K Kp hK hKp=>?_|refine zd true mixed hE fun K Kp hK hKp anc hanc=>?_|refine zd false mixed hE fun K Kp hK hKp anc hanc=>?_);simp only[go_sem,ge_dec,hx,St.av,u0])|(refine zg (fun hg=>?_) (fun hg=>?_)<;>simp only[go_sem,ge_dec,hx,St.av,u0,hg])|(refine zc (fun hc=>?_) (fun hc=>?_)<;>try exact zh hc))
 refine⟨(i+1,c3),⟨by simp only;omega,by simp only;omega,by simp only;omega⟩,by simp only;omega,fun i=>i,by refine ent_mk (by simp[go_sem]) (by simp[go_sem]) (by simp) (by simp[hN])⟩
theorem fdb_le:∀ f:Lf.Fd,locL f.b≤f.sz
 | .mk _ _ _ _ _ _ b _=>by have:=locL_le b;rw[Fd.b,Fd.sz];omega
theorem all_c (x:Md) (hz:fdSz x.fs≤1000):PCall Tryd.prog 21 [x.av] (.i ((x.fs.map fun f=>locL f.b).sum:Nat)):=by
 obtain⟨mn,us,ds,ts,ms,fs⟩:=x
 simp only at hz ⊢
 have hln:=fd_len_le fs
 unfold Md.av Md.cs
 simp only
 have hle:∀ l:List Lf.Fd,(l.map fun f=>locL f.b).sum≤fdSz l:=fun l=>by
  induction l with
  |nil=>exact Nat.zero_le _
  |cons f l ih=>have:=fdb_le f;simp only[List.map_cons,List.sum_cons,fdSz];omega
 refine PCall.intro Tryd.func21 rfl isf21 (by simp[Tryd.f21]) (by simp[AV.cloL,AV.clo]) fun E Q hE hN hQ=>K_start ?_
 repeat'(first|apply nx|refine zx ?_|rw[zw]|((first|refine hK _ ?_|refine hKp _ _ ?_);clear hK hKp K Kp;try clear hanc anc)|((with_reducible refine And.intro ?_ ?_);exact zb)|((first|refine zr hE fun K Kp hK hKp=>?_|refine zd true mixed hE fun K Kp hK hKp anc hanc=>?_|refine zd false mixed hE fun K Kp hK hKp anc hanc=>?_);simp only[go_sem])|(refine zg (fun hg=>?_) (fun hg=>?_)<;>simp only[go_sem,hg])|(refine zc (fun hc=>?_) (fun hc=>?_)<;>try exact zh hc))
 refine K_loop (X:=Nat×Nat) (fun z=>z.1≤fs.length∧(fs.map fun f=>locL f.b).sum=z.2+((fs.drop z.1).map fun f=>locL f.b).sum) (fun z=>mkSt [(1,.ptr 0 0),(3,.i (z.2:Nat)),(4,.i (z.1:Nat))] [(0,.cells [.str mn,.sl (nml us),.sl (dtl ds),.sl (trl ts),.sl (iml ms),.sl (fdl fs)])] 1) (fun z=>fs.length - z.1) (0,0) ⟨Nat.zero_le _,by simp⟩ (fun i=>i) (by refine ent_mk (by simp[go_sem]) (by simp[go_sem]) (by simp) (by simp[hN])) ?_
 rintro⟨i,c⟩ ⟨hi,hc1⟩
 simp only at hi hc1
 by_cases hlt:i<fs.length
 ·obtain⟨⟨fm,p0,b0,cp0,a0,r0,bd,of0⟩,hf⟩:=get?_of hlt
  have h3:=fd_mem_le (List.mem_of_getElem? hf)
  rw[Fd.sz] at h3
  have hs:=hle fs
  rw[drop_of hf,List.map_cons,List.sum_cons,Fd.b] at hc1
  have v1:=inc_u hlt (by omega)
  have h4:=locals_c 1001 (Nat.le_refl _) bd (by omega)
  have w3:IntKind.i64.wrap ((c:Int)+(locL bd:Nat))=((c+locL bd:Nat):Int):=by rw[wrap64 (by omega) (by omega)];omega
  repeat'(first|apply nx|refine zx ?_|rw[zw]|((first|refine hK _ ?_|refine hKp _ _ ?_);clear hK hKp K Kp;try clear hanc anc)|((with_reducible refine And.intro ?_ ?_);exact zb)|((first|refine zr hE fun K Kp hK hKp=>?_|refine zd true mixed hE fun K Kp hK hKp anc hanc=>?_|refine zd false mixed hE fun K Kp hK hKp anc hanc=>?_|(apply zm;exact zu;exact h4;exact zs;exact zl));simp only[go_sem,lt_dec hlt,hf,Fd.av,w3,v1])|(refine zg (fun hg=>?_) (fun hg=>?_)<;>simp only[go_sem,lt_dec hlt,hf,Fd.av,w3,v1,hg])|(refine zc (fun hc=>?_) (fun hc=>?_)<;>try exact zh hc))
  refine⟨(i+1,c+locL bd),⟨by simp only;omega,by simp only;omega⟩,by simp only;omega,fun i=>i,by refine ent_mk (by simp[go_sem]) (by simp[go_sem]) (by simp) (by simp[hN])⟩
 ·obtain rfl:i=fs.length:=by omega
  rw[List.drop_length] at hc1
  simp only[List.map_nil,List.sum_nil,Nat.add_zero] at hc1
  rw[hc1] at hQ
  repeat'(first|apply nx|refine zx ?_|rw[zw]|((first|refine hK _ ?_|refine hKp _ _ ?_);clear hK hKp K Kp;try clear hanc anc)|((with_reducible refine And.intro ?_ ?_);exact zb)|((first|refine zr hE fun K Kp hK hKp=>?_|refine zd false mixed hE fun K Kp hK hKp anc hanc=>?_);simp only[go_sem,ge_dec])|(refine zg (fun hg=>?_) (fun hg=>?_)<;>simp only[go_sem,ge_dec,hg])|(refine zc (fun hc=>?_) (fun hc=>?_)<;>try exact zh hc)|(refine K_ret ?_;refine zt hQ ?_))
  rfl
end Go.Proofs.YtffmphmiicnaeaaDoor

set_option maxHeartbeats 4000000
set_option maxRecDepth 100000
namespace Go.Am
open Go
variable {P:Program}
theorem PCall.of_Ad {f:FuncId} {vs:List AV} {r0 r:AV} {L:List (Nat×AObj)} (n:Nat) (hclo:AV.cloL vs=true) (hA:ACall P f vs (fun _=>none) 0 0 (fun r' hp'=>r'=r0∧hp'=mkHp L) (fun _ _=>False)) (h2:r0.dsnOk (mkHp L) n) (h3:r0.dsn (mkHp L) n=r) (h4:r.clo=true):PCall P f vs r:=by
 refine⟨hA.1,fun ρ V Z w args hZ hgl hsz hrel=>?_⟩
 have hno:∀ b,OwnB ρ (fun _=>none) b→False:=fun b ⟨id,o,h,_⟩=>by cases h
 refine(hA.2 ρ (fun _=>False) Z w args ⟨fun id o ho=>(by cases ho),fun id id' o o' b ho=>(by cases ho),fun id o b ho=>(by cases ho),hZ,hgl⟩ (fun id hid=>absurd hid (Nat.not_lt_zero _)) (fun id h=>h.elim) hsz (fun i hi=>clo_rel (hrel i hi) (cloL_getD hclo i hi) ρ _)).mono ?_
 rintro e w' ⟨ρ',V',Z',hp',k1,k2,k3,k4,k5,k6,⟨v,r',rfl,h1,rfl,rfl⟩|⟨_,_,_,_,h⟩⟩
 ·have hv3:=dsn_rel k1 n h1 h2
  rw[h3] at hv3
  have hv4:=clo_rel hv3 h4 ρ V
  refine⟨v,_,rfl,hv4,?_,fun b o hz=> .inl (k4 b o hz),?_⟩
  ·exact⟨fun b hb hn=>k2.old b hb (fun h=>hno b h),k2.le,k2.os,k2.out,trivial⟩
  ·rintro b o (hz|⟨id,sz,l,g1,g2⟩)
   ·rcases k5 b o hz with g|g|g
    ·exact .inl g
    ·exact .inr ⟨g,k1.lt b o hz⟩
    ·exact(hno b g).elim
   ·have g3:=(k1.obj id _ g1).2.lt b g2
    refine .inr ⟨?_,g3⟩
    rcases Nat.lt_or_ge b w.heap.size with g4|g4
    ·exact(hno b (k6 id _ b g1 g2 g4)).elim
    ·exact g4
 ·exact h.elim
end Go.Am
namespace Go.Proofs.YtffmphmiicnaeaaDoor
open Go.Am Go.Proofs Go.Lf
open Classical
attribute [local irreducible] AW CallP CallB
def stV (k:Int) (n:Nm) (xk:Int) (xn:Nm) (xs fn:AV):AV:= .agg [.i k,.str n,.nilsl,.nilsl,.i xk,.str nm0,.str xn,.str nm0,xs,.i 0,.nilsl,.i 0,.nilsl,.nilsl,.nilsl,fn,.i 0]
def adV (n t:Nm) (c o:Int):AV:= .agg [.str n,.str t,.nilsl,.i 0,.i c,.i o]
def fdV (n:Nm) (c a b:AV) (o:Int):AV:= .agg [.str n,.nilsl,.nilsl,c,a,.str cInt.n,.nilsl,.i 0,b,.i o]
def exHp:List (Nat×AObj):=[(0,.row 10 [fdV nmf .nilsl (.rw 7) (.rw 1) 0]),(1,.row 17 [stV 13 nm0 0 nm0 .nilsl (.rw 2),stV 1 nmr 15 nmg (.rw 6) .nilsl,stV 7 nmr 0 nm0 .nilsl .nilsl]),(2,.row 10 [fdV nmg (.rw 3) (.rw 4) (.rw 5) 0]),(3,.row 6 [adV nmy cInt.n 0 0,adV nmz cD.n 1 0]),(4,.row 6 [adV nmx cInt.n 0 0]),(5,.row 17 [stV 7 nmx 0 nm0 .nilsl .nilsl]),(6,.row 1 [.str nmy]),(7,.row 6 [adV nmy cInt.n 0 0])]
theorem f19_c:ACall Tryd.prog 19 [] (fun _=>none) 0 0 (fun r hp'=>r= .agg [.str ⟨#[77]⟩,.nilsl,.nilsl,.nilsl,.nilsl,.rw 0]∧hp'=mkHp exHp) (fun _ _=>False):=by
 refine ACall.of_bodyR Tryd.func19 isf19 rfl (by simp[Tryd.f19]) fun E Q hE hN hQ hQp=>K_start ?_
 repeat'(first|apply nx|refine zx ?_|rw[zw]|((first|refine hK _ ?_|refine hKp _ _ ?_);clear hK hKp K Kp;try clear hanc anc)|((with_reducible refine And.intro ?_ ?_);exact zb)|((first|refine zr hE fun K Kp hK hKp=>?_|refine zd true mixed hE fun K Kp hK hKp anc hanc=>?_|refine zd false mixed hE fun K Kp hK hKp anc hanc=>?_);simp only[go_sem])|(refine zg (fun hg=>?_) (fun hg=>?_)<;>simp only[go_sem,hg])|(refine zc (fun hc=>?_) (fun hc=>?_)<;>try exact zh hc))
 refine K_ret (hQ _ ⟨.agg [.str ⟨#[77]⟩,.nilsl,.nilsl,.nilsl,.nilsl,.rw 0],fun i=>if i=0 then 44040192 else if i=1 then 41943040 else if i=2 then 37748736 else if i=3 then 18874368 else if i=4 then 20971520 else if i=5 then 24117248 else if i=6 then 28311552 else 34603008,_,8,?_,?_,?_,rfl,rfl⟩).1
 ·simp[resA,rvA,Tryd.f19,go_sem];rfl
 ·simp[AV.ids,AV.idsL]
 ·show Ent _ _ _ (mkSt [] exHp 8)
  unfold exHp stV adV fdV
  refine ent_mk (by simp) ?_ (by simp) (by simp[hN])
  simp[go_sem,AV.renL,AV.idsL,nmf,nmg,nmr,nmx,nmy,nmz,nm0,cInt,cD,Tx.n]
theorem f19_p:PCall Tryd.prog 19 [] (exM nmx 0 [] 0).av:=by
 refine PCall.of_Ad 16 rfl f19_c ?_ ?_ rfl
 ·simp[go_sem,exHp,stV,adV,fdV]
 ·simp[go_sem,exHp,stV,adV,fdV,exM,Md.av,Md.cs,nml,dtl,trl,iml,fdl,exF,exB,exG,Fd.av,stl,St.av,stK,exN,adl,Ad.av,bdl,arl,Tx.avL,Tx.av,cInt,cD,Tx.n,Tx.a,Tx.o]
def exHp2:List (Nat×AObj):=[(0,.row 10 [fdV nmf .nilsl (.rw 2) (.rw 1) 0,fdV nmf0g .nilsl (.rw 5) (.rw 7) 0]),(1,.row 17 [stV 1 nmgz 7 nm0 (.rw 3) .nilsl,stV 1 nmr 15 nmf0g (.rw 4) .nilsl,stV 7 nmr 0 nm0 .nilsl .nilsl]),(2,.row 6 [adV nmy cInt.n 0 0]),(3,.row 1 [.str nmz]),(4,.row 1 [.str nmy,.str nmgz,.str nmy]),(5,.row 6 [adV nmy cInt.n 0 0,.agg [.str nmz,.str ⟨#[38]⟩,.rw 6,.i 0,.i 0,.i 0],adV nmx cInt.n 0 0]),(6,.row 3 [.agg [.str cD.n,.nilsl,.i 0]]),(7,.row 17 [stV 7 nmx 0 nm0 .nilsl .nilsl])]
theorem f20_c:ACall Tryd.prog 20 [] (fun _=>none) 0 0 (fun r hp'=>r= .agg [.str ⟨#[77]⟩,.nilsl,.nilsl,.nilsl,.nilsl,.rw 0]∧hp'=mkHp exHp2) (fun _ _=>False):=by
 refine ACall.of_bodyR Tryd.func20 isf20 rfl (by simp[Tryd.f20]) fun E Q hE hN hQ hQp=>K_start ?_
 repeat'(first|apply nx|refine zx ?_|rw[zw]|((first|refine hK _ ?_|refine hKp _ _ ?_);clear hK hKp K Kp;try clear hanc anc)|((with_reducible refine And.intro ?_ ?_);exact zb)|((first|refine zr hE fun K Kp hK hKp=>?_|refine zd true mixed hE fun K Kp hK hKp anc hanc=>?_|refine zd false mixed hE fun K Kp hK hKp anc hanc=>?_);simp only[go_sem])|(refine zg (fun hg=>?_) (fun hg=>?_)<;>simp only[go_sem,hg])|(refine zc (fun hc=>?_) (fun hc=>?_)<;>try exact zh hc))
 refine K_ret (hQ _ ⟨.agg [.str ⟨#[77]⟩,.nilsl,.nilsl,.nilsl,.nilsl,.rw 0],fun i=>if i=0 then 49283072 else if i=1 then 35651584 else if i=2 then 30408704 else if i=3 then 18874368 else if i=4 then 24117248 else if i=5 then 44040192 else if i=6 then 9437184 else 47185920,_,8,?_,?_,?_,rfl,rfl⟩).1
 ·simp[resA,rvA,Tryd.f20,go_sem];rfl
 ·simp[AV.ids,AV.idsL]
 ·show Ent _ _ _ (mkSt [] exHp2 8)
  unfold exHp2 stV adV fdV
  refine ent_mk (by simp) ?_ (by simp) (by simp[hN])
  simp[go_sem,AV.renL,AV.idsL,nmf,nmg,nmr,nmx,nmy,nmz,nm0,cInt,cD,Tx.n,nmgz,nmf0g]
theorem f20_p:PCall Tryd.prog 20 [] exL.av:=by
 refine PCall.of_Ad 16 rfl f20_c ?_ ?_ rfl
 ·simp[go_sem,exHp2,stV,adV,fdV]
 ·simp[go_sem,exHp2,stV,adV,fdV,exL,exL1,exL2,Md.av,Md.cs,nml,dtl,trl,iml,fdl,Fd.av,stl,St.av,stK,exN,adl,Ad.av,bdl,arl,Tx.avL,Tx.av,cInt,cD,Tx.n,Tx.a,Tx.o]
end Go.Proofs.YtffmphmiicnaeaaDoor

set_option maxHeartbeats 4000000
set_option maxRecDepth 100000
namespace Go.Proofs.YtffmphmiicnaeaaDoor
open Go.Am Go.Proofs Go.Lf
open Classical
attribute [local irreducible] AW CallP CallB
theorem ex_sz (a:Nm) (o:Int) (c:List Ad) (p:Int) (hc:c=[]∨c=[⟨nmy,cInt,0,0⟩]):fdSz (exM a o c p).fs≤1000∧∀ f,f∈(exM a o c p).fs→f.wt≤2 ^ 40:=by
 constructor
 ·rcases hc with rfl|rfl<;>simp[exM,exF,exB,exG,stK,fdSz,Fd.sz,stSz,St.sz,exN,Ex.sz,arSz,adSz,cInt,cD,Tx.sz,Tx.szL]
 ·intro f hf
  simp only[exM,List.mem_singleton] at hf
  subst hf
  rcases hc with rfl|rfl<;>simp[exF,exB,exG,stK,wtF,Fd.wt,wtL,St.wt,exN,wtA]<;>decide
theorem ex_lsz:exL.sz<2 ^ 40:=by
 simp[exL,Md.sz,exL1,exL2,fdSz,Fd.sz,stSz,St.sz,exN,Ex.sz,arSz,adSz,cInt,cD,Tx.sz,Tx.szL,stK,dtSz,imSz]
theorem head_c:PCall Tryd.prog 7 [] (.bool true):=by
 have c19:PCall Tryd.prog 19 [] (.agg [.str ⟨#[77]⟩,.sl [],.sl [],.sl [],.sl [],.sl (fdl (exM nmx 0 [] 0).fs)]):=f19_p
 have c20:PCall Tryd.prog 20 [] (.agg [.str ⟨#[77]⟩,.sl [],.sl [],.sl [],.sl [],.sl (fdl [exL1,exL2])]):=f20_p
 have c11:PCall Tryd.prog 11 [.agg [.str ⟨#[77]⟩,.sl [],.sl [],.sl [],.sl [],.sl (fdl [exL1,exL2])],.agg [.str ⟨#[77]⟩,.sl [],.sl [],.sl [],.sl [],.sl (fdl [exL1,exL2])]] (.bool true):=module_same exL ex_lsz
 have z1:=ex_sz nmx 0 [] 0 (.inl rfl)
 have z2:=ex_sz nmz 17 [] 0 (.inl rfl)
 have z3:=ex_sz nmx 0 [⟨nmy,cInt,0,0⟩] 5 (.inr rfl)
 have l1:PCall Tryd.prog 9 [.agg [.str ⟨#[77]⟩,.sl [],.sl [],.sl [],.sl [],.sl (fdl (exM nmx 0 [] 0).fs)]] (.tup [.agg [.str ⟨#[77]⟩,.sl [],.sl [],.sl [],.sl [],.sl (fdl [exL1,exL2])],.i 0,.i 0]):=by
  have h:=lift_call (exM nmx 0 [] 0) z1.1 z1.2
  unfold liftAV at h
  rw[ex_lift] at h
  exact h
 have l2:PCall Tryd.prog 9 [.agg [.str ⟨#[77]⟩,.sl [],.sl [],.sl [],.sl [],.sl (fdl (exM nmz 17 [] 0).fs)]] (.tup [.agg [.str ⟨#[]⟩,.sl [],.sl [],.sl [],.sl [],.sl []],.i 7,.i 17]):=by
  have h:=lift_call (exM nmz 17 [] 0) z2.1 z2.2
  unfold liftAV at h
  rw[ex_lift2] at h
  exact h
 have l3:PCall Tryd.prog 9 [.agg [.str ⟨#[77]⟩,.sl [],.sl [],.sl [],.sl [],.sl (fdl (exM nmx 0 [⟨nmy,cInt,0,0⟩] 5).fs)]] (.tup [.agg [.str ⟨#[]⟩,.sl [],.sl [],.sl [],.sl [],.sl []],.i 1,.i 5]):=by
  have h:=lift_call (exM nmx 0 [⟨nmy,cInt,0,0⟩] 5) z3.1 z3.2
  unfold liftAV at h
  rw[ex_lift3 _ (by decide)] at h
  exact h
 have c21:PCall Tryd.prog 21 [.agg [.str ⟨#[77]⟩,.sl [],.sl [],.sl [],.sl [],.sl (fdl (exM nmx 0 [] 0).fs)]] (.i 1):=by
  have h:=all_c (exM nmx 0 [] 0) z1.1
  have e:((exM nmx 0 [] 0).fs.map fun f=>locL f.b).sum=1:=by simp[exM,exF,exB,exG,stK,Fd.b,locL,locS,locA,locF,locD]
  rw[e] at h
  exact h
 clear z1 z2 z3
 refine PCall.intro Tryd.func7 rfl isf7 (by simp[Tryd.f7]) (by simp[AV.cloL,AV.clo]) fun E Q hE hN hQ=>K_start ?_
 repeat'(first|apply nx|refine zx ?_|rw[zw]|((first|refine hK _ ?_|refine hKp _ _ ?_);clear hK hKp K Kp;try clear hanc anc)|((with_reducible refine And.intro ?_ ?_);exact zb)|((fail_if_success refine K_stop 2 ?_);(first|refine zr hE fun K Kp hK hKp=>?_|refine zd true mixed hE fun K Kp hK hKp anc hanc=>?_|refine zd false mixed hE fun K Kp hK hKp anc hanc=>?_|(apply zm;exact zu;(first|exact c19|exact l1);exact zs;exact zl));simp only[go_sem])|(refine zg (fun hg=>?_) (fun hg=>?_)<;>simp only[go_sem,hg])|(refine zc (fun hc=>?_) (fun hc=>?_)<;>try exact zh hc))
 refine AW.ent (σ':=mkSt [(1,.ptr 0 0),(2,.i 0),(3,.i 0)] [(0,.cells [.str ⟨#[77]⟩,.sl [],.sl [],.sl [],.sl [],.sl (fdl [exL1,exL2])])] 2) (fun i=>if i=0 then 7340032 else i) ?_ ?_
 ·refine ent_mk (by simp[go_sem]) (by simp[go_sem]) (by simp) (by simp[hN])
 repeat'(first|apply nx|refine zx ?_|rw[zw]|((first|refine hK _ ?_|refine hKp _ _ ?_);clear hK hKp K Kp;try clear hanc anc)|((with_reducible refine And.intro ?_ ?_);exact zb)|((first|refine zr hE fun K Kp hK hKp=>?_|refine zd true mixed hE fun K Kp hK hKp anc hanc=>?_|refine zd false mixed hE fun K Kp hK hKp anc hanc=>?_);simp only[go_sem])|(refine zg (fun hg=>?_) (fun hg=>?_)<;>simp only[go_sem,hg])|(refine zc (fun hc=>?_) (fun hc=>?_)<;>try exact zh hc))
 refine Hold.mk (CallB.newP f19_c (by rfl) (by simp[AV.ids,AV.idsL]) (by simp[exHp,stV,adV,fdV,AObj.ids,AV.ids,AV.idsL]) ?_)
 simp only[exHp,stV,adV,fdV,putL,AObj.ren,AV.ren,AV.renL]
 simp only[go_sem]
 repeat'(first|apply nx|refine zx ?_|rw[zw]|((first|refine hK _ ?_|refine hKp _ _ ?_);clear hK hKp K Kp;try clear hanc anc)|((with_reducible refine And.intro ?_ ?_);exact zb)|((fail_if_success refine K_stop 5 ?_);(first|refine zr hE fun K Kp hK hKp=>?_|refine zd true mixed hE fun K Kp hK hKp anc hanc=>?_|refine zd false mixed hE fun K Kp hK hKp anc hanc=>?_);simp only[go_sem])|(refine zg (fun hg=>?_) (fun hg=>?_)<;>simp only[go_sem,hg])|(refine zc (fun hc=>?_) (fun hc=>?_)<;>try exact zh hc))
 repeat'(first|apply nx|refine zx ?_|rw[zw]|((first|refine hK _ ?_|refine hKp _ _ ?_);clear hK hKp K Kp;try clear hanc anc)|((with_reducible refine And.intro ?_ ?_);exact zb)|((first|refine zr hE fun K Kp hK hKp=>?_|refine zd true mixed hE fun K Kp hK hKp anc hanc=>?_|refine zd false mixed hE fun K Kp hK hKp anc hanc=>?_);simp only[go_sem])|(refine zg (fun hg=>?_) (fun hg=>?_)<;>simp only[go_sem,hg])|(refine zc (fun hc=>?_) (fun hc=>?_)<;>try exact zh hc))
 refine Hold.mk (CallB.dpure [2,3,4,5,6,7,8,9] 16 l2 ?_ ?_ (fun _=>rfl) (fun _=>by simp[AV.snapOkL,AV.snapOk]) rfl ?_)
 ·simp[go_sem,List.mem_cons,List.not_mem_nil,or_false,exM,nml,dtl,trl,iml,fdl,exF,exB,exG,Fd.av,stl,Lf.St.av,stK,exN,adl,Ad.av,bdl,arl,Tx.avL,cInt,cD,Tx.n,Tx.a,Tx.o,nmz,nmx,nmy,nmg,nmr,nmf,nm0]
 ·simp[go_sem]
 simp only[go_sem]
 repeat'(first|apply nx|refine zx ?_|rw[zw]|((first|refine hK _ ?_|refine hKp _ _ ?_);clear hK hKp K Kp;try clear hanc anc)|((with_reducible refine And.intro ?_ ?_);exact zb)|((fail_if_success refine K_stop 6 ?_);(first|refine zr hE fun K Kp hK hKp=>?_|refine zd true mixed hE fun K Kp hK hKp anc hanc=>?_|refine zd false mixed hE fun K Kp hK hKp anc hanc=>?_);simp only[go_sem])|(refine zg (fun hg=>?_) (fun hg=>?_)<;>simp only[go_sem,hg])|(refine zc (fun hc=>?_) (fun hc=>?_)<;>try exact zh hc))
 refine AW.ent (σ':=mkSt [(1,.ptr 0 0),(2,.i 0),(3,.i 0),(6,.i 7),(7,.i 17)] [(0,.cells [.str ⟨#[77]⟩,.sl [],.sl [],.sl [],.sl [],.sl (fdl [exL1,exL2])])] 2) (fun i=>i) ?_ ?_
 ·refine ent_mk (by simp[go_sem]) (by simp[go_sem]) (by simp) (by simp[hN])
 repeat'(first|apply nx|refine zx ?_|rw[zw]|((first|refine hK _ ?_|refine hKp _ _ ?_);clear hK hKp K Kp;try clear hanc anc)|((with_reducible refine And.intro ?_ ?_);exact zb)|((first|refine zr hE fun K Kp hK hKp=>?_|refine zd true mixed hE fun K Kp hK hKp anc hanc=>?_|refine zd false mixed hE fun K Kp hK hKp anc hanc=>?_);simp only[go_sem])|(refine zg (fun hg=>?_) (fun hg=>?_)<;>simp only[go_sem,hg])|(refine zc (fun hc=>?_) (fun hc=>?_)<;>try exact zh hc))
 refine Hold.mk (CallB.newP f19_c (by rfl) (by simp[AV.ids,AV.idsL]) (by simp[exHp,stV,adV,fdV,AObj.ids,AV.ids,AV.idsL]) ?_)
 simp only[exHp,stV,adV,fdV,putL,AObj.ren,AV.ren,AV.renL]
 simp only[go_sem]
 repeat'(first|apply nx|refine zx ?_|rw[zw]|((first|refine hK _ ?_|refine hKp _ _ ?_);clear hK hKp K Kp;try clear hanc anc)|((with_reducible refine And.intro ?_ ?_);exact zb)|((first|refine zr hE fun K Kp hK hKp=>?_|refine zd true mixed hE fun K Kp hK hKp anc hanc=>?_|refine zd false mixed hE fun K Kp hK hKp anc hanc=>?_);simp only[go_sem])|(refine zg (fun hg=>?_) (fun hg=>?_)<;>simp only[go_sem,hg])|(refine zc (fun hc=>?_) (fun hc=>?_)<;>try exact zh hc))
 refine Hold.mk (CallB.dpure [2,3,4,5,6,7,8,9] 16 l3 ?_ ?_ (fun _=>rfl) (fun _=>by simp[AV.snapOkL,AV.snapOk]) rfl ?_)
 ·simp[go_sem,List.mem_cons,List.not_mem_nil,or_false,exM,nml,dtl,trl,iml,fdl,exF,exB,exG,Fd.av,stl,Lf.St.av,stK,exN,adl,Ad.av,bdl,arl,Tx.avL,cInt,cD,Tx.n,Tx.a,Tx.o,nmz,nmx,nmy,nmg,nmr,nmf,nm0]
 ·simp[go_sem]
 simp only[go_sem]
 repeat'(first|apply nx|refine zx ?_|rw[zw]|((first|refine hK _ ?_|refine hKp _ _ ?_);clear hK hKp K Kp;try clear hanc anc)|((with_reducible refine And.intro ?_ ?_);exact zb)|((fail_if_success refine K_stop 10 ?_);(first|refine zr hE fun K Kp hK hKp=>?_|refine zd true mixed hE fun K Kp hK hKp anc hanc=>?_|refine zd false mixed hE fun K Kp hK hKp anc hanc=>?_);simp only[go_sem])|(refine zg (fun hg=>?_) (fun hg=>?_)<;>simp only[go_sem,hg])|(refine zc (fun hc=>?_) (fun hc=>?_)<;>try exact zh hc))
 refine AW.ent (σ':=mkSt [(1,.ptr 0 0),(2,.i 0),(3,.i 0),(6,.i 7),(7,.i 17),(10,.i 1),(11,.i 5)] [(0,.cells [.str ⟨#[77]⟩,.sl [],.sl [],.sl [],.sl [],.sl (fdl [exL1,exL2])])] 2) (fun i=>i) ?_ ?_
 ·refine ent_mk (by simp[go_sem]) (by simp[go_sem]) (by simp) (by simp[hN])
 repeat'(first|apply nx|refine zx ?_|rw[zw]|((first|refine hK _ ?_|refine hKp _ _ ?_);clear hK hKp K Kp;try clear hanc anc)|((with_reducible refine And.intro ?_ ?_);exact zb)|((first|refine zr hE fun K Kp hK hKp=>?_|refine zd false mixed hE fun K Kp hK hKp anc hanc=>?_|(apply zm;exact zu;(first|exact c19|exact c20|exact c11|exact c21);exact zs;exact zl));simp only[go_sem])|(refine zg (fun hg=>?_) (fun hg=>?_)<;>simp only[go_sem,hg])|(refine zc (fun hc=>?_) (fun hc=>?_)<;>try exact zh hc)|(refine K_ret ?_;refine zt hQ ?_))
 rfl
end Go.Proofs.YtffmphmiicnaeaaDoor

namespace Go.Lf
open Go Go.Am
variable {dec:Nat→Nm}
theorem stSz_app (l m:List St):stSz (l++m)=stSz l+stSz m:=by simp[stSz_eq]
theorem fdSz_app (l m:List Fd):fdSz (l++m)=fdSz l+fdSz m:=by simp[fdSz_eq]
theorem lends_sz (v:Vs) (off:Int):∀ cs:List Ad,stSz (cs.flatMap (lendS v off))≤2*cs.length
 | []=>by simp[stSz]
 |c::cs=>by
  have:=lends_sz v off cs
  rw[List.flatMap_cons,stSz_app,List.length_cons]
  have h:stSz (lendS v off c)≤2:=by
   unfold lendS
   split
   ·simp[stSz,St.sz,Ex.sz,Tx.szL,arSz,fdSz]
   ·simp[stSz]
  omega
theorem call_sz {now:List Vs} (h:VB 1024 now) (k:Int) (nm:Nm) (ns:List Nm) (ty:List Tx) (ex:Ex) (th el:List St) (ar:List Ar) (off:Int):stSz (call now k nm ns ty ex th el ar [] off)≤1+ns.length+Tx.szL ty+ex.sz+stSz th+stSz el+arSz ar+3072:=by
 have hl:∀ n v,find now n=some v→v.cs.length≤1024:=fun n v hv=>h v (find_mem hv).1
 unfold call
 split
 ·split
  ·rename_i v hv
   have:=hl _ _ hv
   have:=lends_sz v off v.cs
   simp only[stSz_app,stSz,St.sz,fdSz,List.length_append,List.length_map]
   omega
  ·simp only[stSz,St.sz,fdSz];omega
 ·split
  ·split
   ·rename_i v hv
    have:=hl _ _ hv
    have:=lends_sz v off v.cs
    simp only[stSz_app,stSz,St.sz,fdSz,Ex.sz,List.length_append,List.length_map]
    omega
   ·simp only[stSz,St.sz,fdSz];omega
  ·simp only[stSz,St.sz,fdSz];omega
theorem adSz_app (l m:List Ad):adSz (l++m)=adSz l+adSz m:=by simp[adSz]
theorem arg_sz:∀ l:List Ad,adSz (l.map argOf)≤2*adSz l
 | []=>by simp[adSz]
 |a::l=>by
  have:=arg_sz l
  have h:(argOf a).ty.sz≤1+a.ty.sz:=by
   unfold argOf
   split
   ·simp[Tx.sz,Tx.szL]
   ·split
    ·simp[Tx.sz,Tx.szL]
    ·simp
  have:=a.ty.sz_pos
  simp only[adSz,List.map_cons,List.sum_cons] at*
  omega
mutual
theorem blk_sz (nm:Nm) (ps:List Nm) (bs:List Bd) (hp:ps.length≤1000) (hb:bs.length≤1000):∀ (l:List St) (now:List Vs) (x:Ls),VB 1024 now→stSz l≤1024→stSz (blk dec nm ps bs now l x).1+fdSz (blk dec nm ps bs now l x).2.out≤fdSz x.out+6000*stSz l
 | [],now,x,hv,hl=>by rw[blk];simp[stSz]
 |s::l,now,x,hv,hl=>by
  rw[stSz] at hl
  have h1:=stm_sz nm ps bs hp hb s now x hv (by omega)
  have h3:=(stm_vb (dec:=dec) nm ps bs s now x hv (by omega)).1
  have h2:=blk_sz nm ps bs hp hb l (now++(stm dec nm ps bs now s x).1) (stm dec nm ps bs now s x).2.2 (hv.app h3) (by omega)
  rw[blk,stSz]
  simp only[stSz_app]
  omega
theorem stm_sz (nm:Nm) (ps:List Nm) (bs:List Bd) (hp:ps.length≤1000) (hb:bs.length≤1000):∀ (s:St) (now:List Vs) (x:Ls),VB 1024 now→s.sz≤1024→stSz (stm dec nm ps bs now s x).2.1+fdSz (stm dec nm ps bs now s x).2.2.out≤fdSz x.out+6000*s.sz
 | .mk k n ns ty ex th el ar fn off,now,x,hv,hl=>by
  rw[St.sz] at hl
  rw[stm,St.sz]
  split
  ·split
   ·have:=locs_sz nm ps bs hp hb fn x (by omega)
    simp only[stSz]
    omega
   ·simp only[stSz,(fail_cnt x _ _).2];omega
  ·split
   ·rename_i hf
    obtain rfl:fn=[]:=List.length_eq_zero_iff.1 hf
    rw[fdSz] at hl ⊢
    have h1:=blk_sz nm ps bs hp hb th now x hv (by omega)
    have h2:=blk_sz nm ps bs hp hb el now (blk dec nm ps bs now th x).2 hv (by omega)
    have h3:=arms_sz nm ps bs hp hb ar now (blk dec nm ps bs now el (blk dec nm ps bs now th x).2).2 hv (by omega)
    have h4:=call_sz hv k n ns ty ex (blk dec nm ps bs now th x).1 (blk dec nm ps bs now el (blk dec nm ps bs now th x).2).1 (arms dec nm ps bs now ar (blk dec nm ps bs now el (blk dec nm ps bs now th x).2).2).1 off
    simp only
    omega
   ·simp only[stSz,(fail_cnt x _ _).2];omega
theorem arms_sz (nm:Nm) (ps:List Nm) (bs:List Bd) (hp:ps.length≤1000) (hb:bs.length≤1000):∀ (l:List Ar) (now:List Vs) (x:Ls),VB 1024 now→arSz l≤1024→arSz (arms dec nm ps bs now l x).1+fdSz (arms dec nm ps bs now l x).2.out≤fdSz x.out+6000*arSz l
 | [],now,x,hv,hl=>by rw[arms];simp[arSz]
 |s::l,now,x,hv,hl=>by
  rw[arSz] at hl
  have h1:=arm_sz nm ps bs hp hb s now x hv (by omega)
  have h2:=arms_sz nm ps bs hp hb l now (arm dec nm ps bs now s x).2 hv (by omega)
  rw[arms,arSz]
  simp only[arSz]
  omega
theorem arm_sz (nm:Nm) (ps:List Nm) (bs:List Bd) (hp:ps.length≤1000) (hb:bs.length≤1000):∀ (s:Ar) (now:List Vs) (x:Ls),VB 1024 now→s.sz≤1024→(arm dec nm ps bs now s x).1.sz+fdSz (arm dec nm ps bs now s x).2.out≤fdSz x.out+6000*s.sz
 | .mk v ns b off,now,x,hv,hl=>by
  rw[Ar.sz] at hl
  have h1:=blk_sz nm ps bs hp hb b now x hv (by omega)
  rw[arm,Ar.sz]
  simp only[Ar.sz]
  omega
theorem locs_sz (nm:Nm) (ps:List Nm) (bs:List Bd) (hp:ps.length≤1000) (hb:bs.length≤1000):∀ (l:List Fd) (x:Ls),fdSz l≤1024→fdSz (locs dec nm ps bs l x).2.out≤fdSz x.out+6000*fdSz l
 | [],x,hl=>by rw[locs];simp[fdSz]
 |f::l,x,hl=>by
  rw[fdSz] at hl
  have h1:=loc_sz nm ps bs hp hb f x (by omega)
  rw[locs,fdSz]
  simp only
  omega
theorem loc_sz (nm:Nm) (ps:List Nm) (bs:List Bd) (hp:ps.length≤1000) (hb:bs.length≤1000):∀ (f:Fd) (x:Ls),f.sz≤1024→fdSz (loc dec nm ps bs f x).2.out≤fdSz x.out+6000*f.sz
 | .mk n ps0 bs0 cs ag res b off,x,hl=>by
  rw[Fd.sz] at hl
  rw[loc,Fd.sz]
  simp only[fdSz_app,fdSz,Fd.sz,adSz_app]
  have e0:adSz []=0:=rfl
  have h0:=arg_sz cs
  have hP:(ps.filter fun p=>inN p (Fd.nms (.mk n ps0 bs0 cs ag res b off))).length≤1000:=Nat.le_trans (List.length_filter_le _ _) hp
  have hB:(bs.filter fun b'=>inN b'.p (ps.filter fun p=>inN p (Fd.nms (.mk n ps0 bs0 cs ag res b off)))).length≤1000:=Nat.le_trans (List.length_filter_le _ _) hb
  have h1:=blk_sz (nm++dot++dec x.cnt++dot++n) _ _ hP hB b [] ⟨0,[],(x.failO (chk (cs++ag) off)).err,(x.failO (chk (cs++ag) off)).pos⟩ (fun v hv=>by cases hv) (by omega)
  simp only[fdSz] at h1
  omega
end
theorem top_sz (f:Fd) (h:f.sz≤1000):(topF dec f).1.sz+fdSz (topF dec f).2.out≤7000*f.sz:=by
 obtain⟨nm,ps,bs,cs,ag,res,b,off⟩:=f
 rw[Fd.sz] at h
 have h1:=blk_sz (dec:=dec) nm ps bs (by omega) (by omega) b [] ⟨0,[],0,0⟩ (fun v hv=>by cases hv) (by omega)
 simp only[fdSz] at h1
 simp only[topF,Fd.sz]
 omega
theorem lift_sz:∀ {l:List Fd} {z:List Fd×List Fd},liftL dec l= .ok z→fdSz l≤1000→fdSz z.1+fdSz z.2≤7000*fdSz l
 | [],z,h,hl=>by cases h;simp[fdSz]
 |f::l,z,h,hl=>by
  obtain⟨h1,h2,y,hy,rfl⟩:=liftL_cons h
  rw[fdSz] at hl
  have:=lift_sz hy (by omega)
  have:=top_sz (dec:=dec) f (by omega)
  simp only[fdSz,fdSz_app]
  omega
end Go.Lf

set_option maxHeartbeats 4000000
set_option maxRecDepth 100000
namespace Go.Proofs.YtffmphmiicnaeaaDoor
open Go.Am Go.Proofs Go.Lf
open Classical
attribute [local irreducible] AW CallP CallB
structure LV where
 m:Md
 e:Int
 p:Int
def LV.av (v:LV):AV:= .tup [.agg [.str v.m.nm,.sl (nml v.m.us),.sl (dtl v.m.ds),.sl (trl v.m.ts),.sl (iml v.m.ms),.sl (fdl v.m.fs)],.i v.e,.i v.p]
def liftV (x:Md):LV:=
 match liftL dec x.fs with
 | .ok z=>⟨⟨x.nm,x.us,x.ds,x.ts,x.ms,z.1++z.2⟩,0,0⟩
 | .error e=>⟨zM,e.1,e.2⟩
theorem liftAV_eq (x:Md):liftAV x=(liftV x).av:=by
 unfold liftAV liftV
 cases liftL dec x.fs<;>rfl
theorem liftV_sz {x:Md} (h:x.sz≤400):(liftV x).m.sz<2 ^ 30:=by
 unfold Md.sz at h
 unfold liftV
 cases hl:liftL dec x.fs with
 |ok z=>
  have:=lift_sz hl (by omega)
  simp only[Md.sz,fdSz_app]
  omega
 |error e=>simp only[zM,Md.sz,dtSz,imSz,fdSz,List.length_nil];decide
theorem match_c (hh:PCall Tryd.prog 7 [] (.bool true)) (x:Md) (hx:x.sz<2 ^ 40) (hw:∀ f,f∈x.fs→f.wt≤2 ^ 40):PCall Tryd.prog 3 [x.av] (.bool true):=by
 have c8:=few_c x hx
 have e9:=fun h=>lift_call x h hw
 have e10:=fun h=>rlift_call x h hw
 obtain⟨mn,us,ds,ts,ms,fs⟩:=x
 unfold Md.av Md.cs at*
 simp only at*
 by_cases hf:fewN ⟨mn,us,ds,ts,ms,fs⟩≤400
 case neg=>
  rw[decide_eq_false hf] at c8
  clear e9 e10
  refine PCall.intro Tryd.func3 rfl isf3 (by simp[Tryd.f3]) (by simp[AV.cloL,AV.clo]) fun E Q hE hN hQ=>K_start ?_
  repeat'(first|apply nx|refine zx ?_|rw[zw]|((first|refine hK _ ?_|refine hKp _ _ ?_);clear hK hKp K Kp;try clear hanc anc)|((with_reducible refine And.intro ?_ ?_);exact zb)|((first|refine zr hE fun K Kp hK hKp=>?_|refine zd false mixed hE fun K Kp hK hKp anc hanc=>?_|(apply zm;exact zu;(first|exact hh|exact c8);exact zs;exact zl));simp only[go_sem])|(refine zg (fun hg=>?_) (fun hg=>?_)<;>simp only[go_sem,hg])|(refine zc (fun hc=>?_) (fun hc=>?_)<;>try exact zh hc)|(refine K_ret ?_;refine zt hQ ?_))
  rfl
 rw[decide_eq_true hf] at c8
 have hs:=few_sz hf
 have hs':(⟨mn,us,ds,ts,ms,fs⟩:Md).sz≤400:=by omega
 have hfs:fdSz fs≤1000:=by unfold Md.sz at hs';simp only at hs';omega
 have c9:=e9 hfs
 have c10:=e10 hfs
 clear e9 e10
 rw[liftAV_eq] at c9 c10
 have hm:=liftV_sz hs'
 generalize liftV ⟨mn,us,ds,ts,ms,fs⟩=v at*
 obtain⟨⟨n2,us2,ds2,ts2,ms2,fs2⟩,e,p⟩:=v
 simp only at hm
 unfold LV.av at c9 c10
 simp only at c9 c10
 have c11:=module_same _ (Nat.lt_trans hm (by decide))
 have c12:=offsets_same _ (Nat.lt_trans hm (by decide))
 unfold Md.av Md.cs at c11 c12
 simp only at c11 c12
 have qe:(e==e)=true:=by simp
 have qp:(p==p)=true:=by simp
 refine PCall.intro Tryd.func3 rfl isf3 (by simp[Tryd.f3]) (by simp[AV.cloL,AV.clo]) fun E Q hE hN hQ=>K_start ?_
 repeat'(first|apply nx|refine zx ?_|rw[zw]|((first|refine hK _ ?_|refine hKp _ _ ?_);clear hK hKp K Kp;try clear hanc anc)|((with_reducible refine And.intro ?_ ?_);exact zb)|((first|refine zr hE fun K Kp hK hKp=>?_|refine zd false mixed hE fun K Kp hK hKp anc hanc=>?_|(apply zm;exact zu;(first|exact hh|exact c8|exact c9|exact c10|exact c11|exact c12);exact zs;exact zl));simp only[go_sem,qe,qp])|(refine zg (fun hg=>?_) (fun hg=>?_)<;>simp only[go_sem,qe,qp,hg])|(refine zc (fun hc=>?_) (fun hc=>?_)<;>try exact zh hc)|(refine K_ret ?_;refine zt hQ ?_))
 rfl

theorem lift_tup {x:Md} {z:List Lf.Fd×List Lf.Fd} (h:liftL dec x.fs= .ok z):liftAV x= .tup [.agg [.str x.nm,.sl (nml x.us),.sl (dtl x.ds),.sl (trl x.ts),.sl (iml x.ms),.sl (fdl z.1++fdl z.2)],.i 0,.i 0]:=by
 unfold liftAV
 rw[h, ← fdl_app]
 rfl
theorem lift_err:∀ {l:List Lf.Fd} {e:Int×Int},liftL dec l= .error e→e.1≠0
 | [],e,h=>by cases h
 |f::l,e,h=>by
  rw[liftL] at h
  split at h
  ·cases h;show(1:Int)≠0;decide
  ·split at h
   ·rename_i h1
    cases h
    exact h1
   ·split at h
    ·rename_i e' he
     cases h
     exact lift_err he
    ·cases h
theorem fdSz_take (l:List Lf.Fd) (k:Nat):fdSz (l.take k)≤fdSz l:=by
 have h:=fdSz_app (l.take k) (l.drop k)
 rw[List.take_append_drop] at h
 omega
theorem fdSz_drop (l:List Lf.Fd) (k:Nat):fdSz (l.drop k)≤fdSz l:=by
 have h:=fdSz_app (l.take k) (l.drop k)
 rw[List.take_append_drop] at h
 omega
theorem fdl_take (l:List Lf.Fd) (k:Nat):(fdl l).take k=fdl (l.take k):=by simp[fdl_eq]
theorem fdl_drop (l:List Lf.Fd) (k:Nat):(fdl l).drop k=fdl (l.drop k):=by simp[fdl_eq]
def IPa (M0:List AV) (L0:List AV) (A1 A2 B1 B2:List Lf.Fd) (F:List Lf.Fd) (R:List AV) (D:Nat→Bool) (σ:Go.Am.St):Prop:=
 σ.nx=4∧σ.fr 1=some (.ptr 0 0)∧σ.fr 3=some (.bool true)∧σ.fr 4=some (.ptr 1 0)∧σ.fr 7=some (.i (A1.length:Nat))∧σ.fr 10=some (.ptr 2 0)∧σ.fr 13=some (.ptr 3 0)∧σ.hp 0=some (.cells (M0++[.sl (fdl F)]))∧σ.hp 1=some (.cells (M0++[.sl L0]))∧σ.hp 2=some (.cells (M0++[.sl (fdl A1++fdl A2)]))∧σ.hp 3=some (.cells (M0++[.sl (fdl B1++fdl B2)]))∧(D 0=true→σ.fr 90=some (.rw 4))∧(D 1=true→σ.fr 91=some (.ptr 2 5))∧(D 2=true→σ.fr 92=some (.sl (fdl A1++fdl A2)))∧(D 3=true→σ.fr 93=some (.i (A1.length:Nat)))∧(D 4=true→σ.fr 94=some (.sl (fdl A1)))∧(D 5=true→σ.fr 95=some (.rw 5242884))∧(D 6=true→σ.fr 96=some (.ptr 3 5))∧(D 7=true→σ.fr 97=some (.sl (fdl B1++fdl B2)))∧(D 8=true→σ.fr 98=some (.ptr 0 5))∧(D 9=true→σ.fr 99=some (.sl (fdl F)))∧(D 10=true→σ.fr 100=some (.i F.length))∧(D 11=true→σ.fr 101=some (.i (A1.length:Nat)))∧(D 12=true→σ.fr 102=some (.i (B1.length:Nat)))∧(D 13=true→σ.fr 103=some (.sl (fdl B1)))∧(D 14=true→σ.fr 104=some (.rw 14680068))∧(D 15=true→σ.fr 16=some (.rw 14680068))∧(D 0=true→D 5=false→σ.hp 4=some (.row 10 []))∧(D 5=true→D 14=false→σ.hp 5242884=some (.row 10 (fdl A1)))∧(D 14=true→σ.hp 14680068=some (.row 10 (fdl A1++fdl B1)))
def IPb (M0:List AV) (L0:List AV) (A1 A2 B1 B2:List Lf.Fd) (F:List Lf.Fd) (D:Nat→Bool) (σ:Go.Am.St):Prop:=
 σ.nx=5∧σ.fr 1=some (.ptr 0 0)∧σ.fr 3=some (.bool true)∧σ.fr 4=some (.ptr 1 0)∧σ.fr 7=some (.i (A1.length:Nat))∧σ.fr 10=some (.ptr 2 0)∧σ.fr 13=some (.ptr 3 0)∧(D 15=false→σ.fr 16=some (.rw 4))∧σ.hp 0=some (.cells (M0++[.sl (fdl F)]))∧σ.hp 1=some (.cells (M0++[.sl L0]))∧σ.hp 2=some (.cells (M0++[.sl (fdl A1++fdl A2)]))∧σ.hp 3=some (.cells (M0++[.sl (fdl B1++fdl B2)]))∧(D 5=false→σ.hp 4=some (.row 10 (fdl (A1++B1))))∧(D 0=true→σ.fr 105=some (.rw 4))∧(D 1=true→σ.fr 106=some (.ptr 2 5))∧(D 2=true→σ.fr 107=some (.sl (fdl A1++fdl A2)))∧(D 3=true→σ.fr 108=some (.i (A1.length:Nat)))∧(D 4=true→σ.fr 109=some (.sl (fdl A2)))∧(D 5=true→σ.fr 110=some (.rw 5242885))∧(D 6=true→σ.fr 111=some (.ptr 3 5))∧(D 7=true→σ.fr 112=some (.sl (fdl B1++fdl B2)))∧(D 8=true→σ.fr 113=some (.ptr 0 5))∧(D 9=true→σ.fr 114=some (.sl (fdl F)))∧(D 10=true→σ.fr 115=some (.i F.length))∧(D 11=true→σ.fr 116=some (.i (A1.length:Nat)))∧(D 12=true→σ.fr 117=some (.i (B1.length:Nat)))∧(D 13=true→σ.fr 118=some (.sl (fdl B2)))∧(D 14=true→σ.fr 119=some (.rw 14680069))∧(D 15=true→σ.fr 16=some (.rw 14680069))∧(D 5=true→D 14=false→σ.hp 5242885=some (.row 10 (fdl (A1++B1)++fdl A2)))∧(D 14=true→σ.hp 14680069=some (.row 10 (fdl (A1++B1)++fdl A2++fdl B2)))∧(D 15=true→D 0=true)
theorem parts_c (hh:PCall Tryd.prog 7 [] (.bool true)) (x:Md) (hx:x.sz<2 ^ 40) (hw:∀ f,f∈x.fs→f.wt≤2 ^ 40):PCall Tryd.prog 5 [x.av] (.bool true):=by
 have c8:=few_c x hx
 have e9:=fun h=>lift_call x h hw
 obtain⟨mn,us,ds,ts,ms,fs⟩:=x
 have e91:=fun h=>lift_call ⟨mn,us,ds,ts,ms,fs.take (fs.length / 2)⟩ h (fun f hf=>hw f (List.mem_of_mem_take hf))
 have e92:=fun h=>lift_call ⟨mn,us,ds,ts,ms,fs.drop (fs.length / 2)⟩ h (fun f hf=>hw f (List.mem_of_mem_drop hf))
 unfold Md.av Md.cs at*
 simp only at*
 by_cases hf:fewN ⟨mn,us,ds,ts,ms,fs⟩≤400
 case neg=>
  rw[decide_eq_false hf] at c8
  clear e9 e91 e92
  refine PCall.intro Tryd.func5 rfl isf5 (by simp[Tryd.f5]) (by simp[AV.cloL,AV.clo]) fun E Q hE hN hQ=>K_start ?_
  repeat'(first|apply nx|refine zx ?_|rw[zw]|((first|refine hK _ ?_|refine hKp _ _ ?_);clear hK hKp K Kp;try clear hanc anc)|((with_reducible refine And.intro ?_ ?_);exact zb)|((first|refine zr hE fun K Kp hK hKp=>?_|refine zd false mixed hE fun K Kp hK hKp anc hanc=>?_|(apply zm;exact zu;(first|exact hh|exact c8);exact zs;exact zl));simp only[go_sem])|(refine zg (fun hg=>?_) (fun hg=>?_)<;>simp only[go_sem,hg])|(refine zc (fun hc=>?_) (fun hc=>?_)<;>try exact zh hc)|(refine K_ret ?_;refine zt hQ ?_))
  rfl
 rw[decide_eq_true hf] at c8
 have hs:=few_sz hf
 have hs':(⟨mn,us,ds,ts,ms,fs⟩:Md).sz≤400:=by omega
 have hfs:fdSz fs≤400:=by unfold Md.sz at hs';simp only at hs';omega
 have c9:=e9 (by omega)
 have c91:=e91 (by have:=fdSz_take fs (fs.length / 2);omega)
 have c92:=e92 (by have:=fdSz_drop fs (fs.length / 2);omega)
 clear e9 e91 e92
 have hln:=fd_len_le fs
 have ee:=fun e=>lift_err (l:=fs) (e:=e)
 by_cases h2:fs.length<2
 ·have q:decide ((fs.length:Int)<2)=true:=decide_eq_true (by omega)
  refine PCall.intro Tryd.func5 rfl isf5 (by simp[Tryd.f5]) (by simp[AV.cloL,AV.clo]) fun E Q hE hN hQ=>K_start ?_
  repeat'(first|apply nx|refine zx ?_|rw[zw]|((first|refine hK _ ?_|refine hKp _ _ ?_);clear hK hKp K Kp;try clear hanc anc)|((with_reducible refine And.intro ?_ ?_);exact zb)|((first|refine zr hE fun K Kp hK hKp=>?_|refine zd false mixed hE fun K Kp hK hKp anc hanc=>?_|(apply zm;exact zu;(first|exact hh|exact c8);exact zs;exact zl));simp only[go_sem,q])|(refine zg (fun hg=>?_) (fun hg=>?_)<;>simp only[go_sem,q,hg])|(refine zc (fun hc=>?_) (fun hc=>?_)<;>try exact zh hc)|(refine K_ret ?_;refine zt hQ ?_))
  rfl
 have q2:decide ((fs.length:Int)<2)=false:=decide_eq_false (by omega)
 cases hl:liftL dec fs with
 |error e=>
  have h:=ee e hl
  unfold liftAV at c9
  rw[hl] at c9
  unfold Md.av Md.cs at c9
  simp only at c9
  have q:(e.1 !=0)=true:=bne_iff_ne.2 h
  refine PCall.intro Tryd.func5 rfl isf5 (by simp[Tryd.f5]) (by simp[AV.cloL,AV.clo]) fun E Q hE hN hQ=>K_start ?_
  repeat'(first|apply nx|refine zx ?_|rw[zw]|((first|refine hK _ ?_|refine hKp _ _ ?_);clear hK hKp K Kp;try clear hanc anc)|((with_reducible refine And.intro ?_ ?_);exact zb)|((first|refine zr hE fun K Kp hK hKp=>?_|refine zd false mixed hE fun K Kp hK hKp anc hanc=>?_|(apply zm;exact zu;(first|exact hh|exact c8|exact c9);exact zs;exact zl));simp only[go_sem,q2,q])|(refine zg (fun hg=>?_) (fun hg=>?_)<;>simp only[go_sem,q2,q,hg])|(refine zc (fun hc=>?_) (fun hc=>?_)<;>try exact zh hc)|(refine K_ret ?_;refine zt hQ ?_))
  rfl
 |ok z=>
  have hl':=hl
  rw[← List.take_append_drop (fs.length / 2) fs] at hl'
  obtain⟨a,b,ha,hb,rfl⟩:=liftL_app hl'
  have la:=liftL_len ha
  have lb:=liftL_len hb
  rw[List.length_take] at la
  rw[List.length_drop] at lb
  rw[lift_tup hl] at c9
  rw[lift_tup ha] at c91
  rw[lift_tup hb] at c92
  simp only at c9 c91 c92
  have d1:IntKind.i64.wrap ((fs.length:Int).tdiv 2)=((fs.length / 2:Nat):Int):=by
   rw[show(fs.length:Int).tdiv 2=((fs.length / 2:Nat):Int) from rfl,wrap64 (by omega) (by omega)]
  have hkl:fs.length / 2≤fs.length:=Nat.div_le_self _ _
  have t1:=fdl_take fs (fs.length / 2)
  have t2:=fdl_drop fs (fs.length / 2)
  generalize fs.length / 2=k at*
  obtain⟨a1,a2⟩:=a
  obtain⟨b1,b2⟩:=b
  simp only at la lb c9 c91 c92
  refine PCall.intro Tryd.func5 rfl isf5 (by simp[Tryd.f5]) (by simp[AV.cloL,AV.clo]) fun E Q hE hN hQ=>K_start ?_
  repeat'(first|apply nx|refine zx ?_|rw[zw]|((first|refine hK _ ?_|refine hKp _ _ ?_);clear hK hKp K Kp;try clear hanc anc)|((with_reducible refine And.intro ?_ ?_);exact zb)|((first|refine zr hE fun K Kp hK hKp=>?_|refine zd true mixed hE fun K Kp hK hKp anc hanc=>?_|refine zd false mixed hE fun K Kp hK hKp anc hanc=>?_|(apply zm;exact zu;(first|exact hh|exact c8|exact c9);exact zs;exact zl));simp only[go_sem,q2,d1])|(refine zg (fun hg=>?_) (fun hg=>?_)<;>simp only[go_sem,q2,d1,hg])|(refine zc (fun hc=>?_) (fun hc=>?_)<;>try exact zh hc))
  refine⟨⟨⟨by omega,by omega⟩,fdl_szok _⟩,hK _ ?_⟩
  clear hK hKp
  simp only[Int.toNat_natCast,t1]
  repeat'(first|apply nx|refine zx ?_|rw[zw]|((first|refine hK _ ?_|refine hKp _ _ ?_);clear hK hKp K Kp;try clear hanc anc)|((with_reducible refine And.intro ?_ ?_);exact zb)|((first|refine zr hE fun K Kp hK hKp=>?_|refine zd true mixed hE fun K Kp hK hKp anc hanc=>?_|refine zd false mixed hE fun K Kp hK hKp anc hanc=>?_);simp only[go_sem,d1])|(refine zg (fun hg=>?_) (fun hg=>?_)<;>simp only[go_sem,d1,hg])|(refine zc (fun hc=>?_) (fun hc=>?_)<;>try exact zh hc))
  refine⟨⟨⟨by omega,by omega⟩,fdl_szok _⟩,hK _ ?_⟩
  clear hK hKp
  simp only[Int.toNat_natCast,t2]
  obtain rfl:k=a1.length:=by omega
  have hfl:fs.length=a1.length+b1.length:=by omega
  have q3:decide (((a1.length+a2.length:Nat):Int)<(a1.length:Nat))=false:=decide_eq_false (by omega)
  have q4:decide (((b1.length+b2.length:Nat):Int)<(fs.length:Int) - (a1.length:Nat))=false:=decide_eq_false (by omega)
  repeat'(first|apply nx|refine zx ?_|rw[zw]|((first|refine hK _ ?_|refine hKp _ _ ?_);clear hK hKp K Kp;try clear hanc anc)|((with_reducible refine And.intro ?_ ?_);exact zb)|((first|refine zr hE fun K Kp hK hKp=>?_|refine zd true mixed hE fun K Kp hK hKp anc hanc=>?_|refine zd false mixed hE fun K Kp hK hKp anc hanc=>?_|(apply zm;exact zu;(first|exact c91|exact c92);exact zs;exact zl));simp only[go_sem,d1,q3,q4])|(refine zg (fun hg=>?_) (fun hg=>?_)<;>simp only[go_sem,d1,q3,q4,hg])|(refine zc (fun hc=>?_) (fun hc=>?_)<;>try exact zh hc))
  ·exact absurd (hc.symm.trans q4) (by decide)
  have zz:=lift_sz hl (by omega)
  have zl1:=fd_len_le (a1++b1)
  have zl2:=fd_len_le (a2++b2)
  simp only[List.length_append] at zl1 zl2
  refine AW.ent (σ':=mkSt [(1,.ptr 0 0),(3,.bool true),(4,.ptr 1 0),(7,.i (a1.length:Nat)),(10,.ptr 2 0),(13,.ptr 3 0)] [(0,.cells [.str mn,.sl (nml us),.sl (dtl ds),.sl (trl ts),.sl (iml ms),.sl (fdl fs)]),(1,.cells [.str mn,.sl (nml us),.sl (dtl ds),.sl (trl ts),.sl (iml ms),.sl (fdl (a1++b1)++fdl (a2++b2))]),(2,.cells [.str mn,.sl (nml us),.sl (dtl ds),.sl (trl ts),.sl (iml ms),.sl (fdl a1++fdl a2)]),(3,.cells [.str mn,.sl (nml us),.sl (dtl ds),.sl (trl ts),.sl (iml ms),.sl (fdl b1++fdl b2)])] 4) (fun i=>if i=0 then 0 else if i=1 then 19922944 else if i=2 then 56623104 else 67108864) ?_ ?_
  ·refine ent_mk (by simp[go_sem]) ?_ (by simp) (by simp[hN])
   simp[go_sem]
  have n1:IntKind.i64.wrap ((fs.length:Int) - (a1.length:Nat))=((b1.length:Nat):Int):=by rw[wrap64 (by omega) (by omega)];omega
  have tA:=List.take_left' (l₁:=fdl a1) (l₂:=fdl a2) (i:=a1.length) (by simp)
  have tB:=List.take_left' (l₁:=fdl b1) (l₂:=fdl b2) (i:=b1.length) (by simp)
  have dA:=List.drop_left' (l₁:=fdl a1) (l₂:=fdl a2) (i:=a1.length) (by simp)
  have dB:=List.drop_left' (l₁:=fdl b1) (l₂:=fdl b2) (i:=b1.length) (by simp)
  have sA:SzOk (fdl a1++fdl a2) 10:=by rw[← fdl_app];exact fdl_szok _
  have sB:SzOk (fdl b1++fdl b2) 10:=by rw[← fdl_app];exact fdl_szok _
  have c11:PCall Tryd.prog 11 [.agg [.str mn,.sl (nml us),.sl (dtl ds),.sl (trl ts),.sl (iml ms),.sl (fdl (a1++b1)++fdl (a2++b2))],.agg [.str mn,.sl (nml us),.sl (dtl ds),.sl (trl ts),.sl (iml ms),.sl (fdl (a1++b1)++fdl (a2++b2))]] (.bool true):=by
   have h:=module_same ⟨mn,us,ds,ts,ms,(a1++b1)++(a2++b2)⟩ (by
    have h:=liftV_sz hs'
    unfold liftV at h
    simp only[hl] at h
    exact Nat.lt_trans h (by decide))
   unfold Md.av Md.cs at h
   rw[fdl_app] at h
   exact h
  simp only at zz
  simp only[fdSz_app] at zz zl1 zl2
  clear la lb ha hb hl' t1 t2 hkl d1 c9 c91 c92 q2 q3 q4 c8 hl ee
  have hbl:a1.length+b1.length+a2.length+b2.length≤2 ^ 30:=by omega
  clear zl1 zl2 zz
  repeat(first|apply w1|apply w2)
  refine K_inv (n:=16) (IPa [.str mn,.sl (nml us),.sl (dtl ds),.sl (trl ts),.sl (iml ms)] (fdl (a1++b1)++fdl (a2++b2)) a1 a2 b1 b2 fs []) mixed hE ?_ ?_ (fun Kp hKp=>?_) ?_ rfl
  ·intro D D' σ h
   have:=fun j=>(h j).symm
   unfold IPa
   simp only[this]
   exact fun h=>h
  ·simp[IPa,go_sem]
  ·refine⟨?_,?_,?_,?_,?_,?_,?_,?_,?_,?_,?_,?_,?_,?_,?_,?_,trivial⟩
   all_goals rintro D' ⟨fr,hp,nx⟩ hD' hr ⟨hn,f1,f3,f4,f7,f10,f13,h0,h1,h2,h3,d0,d1,d2,d3,d4,d5,d6,d7,d8,d9,d10,d11,d12,d13,d14,d15,e0,e5,e14⟩
   all_goals simp[Region.binds] at hn f1 f3 f4 f7 f10 f13 h0 h1 h2 h3 d0 d1 d2 d3 d4 d5 d6 d7 d8 d9 d10 d11 d12 d13 d14 d15 e0 e5 e14 hD' hr
   all_goals subst hn
   all_goals try clear hQ
   ·skip
    simp only[go_sem]
    (simp only[IPa,upd,updo];simp[f1,f3,f4,f7,f10,f13,h0,h1,h2,h3];simp_all)
   ·skip
    simp only[go_sem,f10]
    (simp only[IPa,upd,updo];simp[f1,f3,f4,f7,f10,f13,h0,h1,h2,h3];simp_all)
   ·skip
    have zd1:=d1 (by simp[hr,hD'])
    simp only[go_sem,zd1,h2]
    (simp only[IPa,upd,updo];simp[f1,f3,f4,f7,f10,f13,h0,h1,h2,h3];simp_all)
   ·skip
    simp only[go_sem,f7]
    (simp only[IPa,upd,updo];simp[f1,f3,f4,f7,f10,f13,h0,h1,h2,h3];simp_all)
   ·skip
    have zd2:=d2 (by simp[hr,hD'])
    have zd3:=d3 (by simp[hr,hD'])
    simp only[go_sem,zd2,zd3]
    refine⟨⟨⟨by omega,by omega⟩,sA⟩,?_⟩
    rw[tA]
    (simp only[IPa,upd,updo];simp[f1,f3,f4,f7,f10,f13,h0,h1,h2,h3];simp_all)
   ·skip
    have zd0:=d0 (by simp[hr,hD'])
    have zd4:=d4 (by simp[hr,hD'])
    have ze0:=e0 (by simp[hr,hD']) (by simp[hr,hD'])
    simp only[go_sem,zd0,zd4,ze0]
    refine⟨⟨fdl_szok _,by simp only[Fits];omega⟩,?_⟩
    (simp only[IPa,upd,updo];simp[f1,f3,f4,f7,f10,f13,h0,h1,h2,h3];simp_all)
   ·skip
    simp only[go_sem,f13]
    (simp only[IPa,upd,updo];simp[f1,f3,f4,f7,f10,f13,h0,h1,h2,h3];simp_all)
   ·skip
    have zd6:=d6 (by simp[hr,hD'])
    simp only[go_sem,zd6,h3]
    (simp only[IPa,upd,updo];simp[f1,f3,f4,f7,f10,f13,h0,h1,h2,h3];simp_all)
   ·skip
    simp only[go_sem,f1]
    (simp only[IPa,upd,updo];simp[f1,f3,f4,f7,f10,f13,h0,h1,h2,h3];simp_all)
   ·skip
    have zd8:=d8 (by simp[hr,hD'])
    simp only[go_sem,zd8,h0]
    (simp only[IPa,upd,updo];simp[f1,f3,f4,f7,f10,f13,h0,h1,h2,h3];simp_all)
   ·skip
    have zd9:=d9 (by simp[hr,hD'])
    simp only[go_sem,zd9]
    (simp only[IPa,upd,updo];simp[f1,f3,f4,f7,f10,f13,h0,h1,h2,h3];simp_all)
   ·skip
    simp only[go_sem,f7]
    (simp only[IPa,upd,updo];simp[f1,f3,f4,f7,f10,f13,h0,h1,h2,h3];simp_all)
   ·skip
    have zd10:=d10 (by simp[hr,hD'])
    have zd11:=d11 (by simp[hr,hD'])
    simp only[go_sem,zd10,zd11]
    rw[n1]
    (simp only[IPa,upd,updo];simp[f1,f3,f4,f7,f10,f13,h0,h1,h2,h3];simp_all)
   ·skip
    have zd7:=d7 (by simp[hr,hD'])
    have zd12:=d12 (by simp[hr,hD'])
    simp only[go_sem,zd7,zd12]
    refine⟨⟨⟨by omega,by omega⟩,sB⟩,?_⟩
    rw[tB]
    (simp only[IPa,upd,updo];simp[f1,f3,f4,f7,f10,f13,h0,h1,h2,h3];simp_all)
   ·skip
    have zd5:=d5 (by simp[hr,hD'])
    have zd13:=d13 (by simp[hr,hD'])
    have ze5:=e5 (by simp[hr,hD']) (by simp[hr,hD'])
    simp only[go_sem,zd5,zd13,ze5]
    refine⟨⟨fdl_szok _,by simp only[Fits];omega⟩,?_⟩
    (simp only[IPa,upd,updo];simp[f1,f3,f4,f7,f10,f13,h0,h1,h2,h3];simp_all)
   ·skip
    have zd14:=d14 (by simp[hr,hD'])
    simp only[go_sem,zd14]
    (simp only[IPa,upd,updo];simp[f1,f3,f4,f7,f10,f13,h0,h1,h2,h3];simp_all)
  rintro⟨fr,hp,nx⟩ D' hD' ⟨hn,f1,f3,f4,f7,f10,f13,h0,h1,h2,h3,d0,d1,d2,d3,d4,d5,d6,d7,d8,d9,d10,d11,d12,d13,d14,d15,e0,e5,e14⟩
  simp only at hn f1 f3 f4 f7 f10 f13 h0 h1 h2 h3 d0 d1 d2 d3 d4 d5 d6 d7 d8 d9 d10 d11 d12 d13 d14 d15 e0 e5 e14
  have zd0:=d0 (hD' 0)
  have zd1:=d1 (hD' 1)
  have zd2:=d2 (hD' 2)
  have zd3:=d3 (hD' 3)
  have zd4:=d4 (hD' 4)
  have zd5:=d5 (hD' 5)
  have zd6:=d6 (hD' 6)
  have zd7:=d7 (hD' 7)
  have zd8:=d8 (hD' 8)
  have zd9:=d9 (hD' 9)
  have zd10:=d10 (hD' 10)
  have zd11:=d11 (hD' 11)
  have zd12:=d12 (hD' 12)
  have zd13:=d13 (hD' 13)
  have zd14:=d14 (hD' 14)
  have zd15:=d15 (hD' 15)
  have ze14:=e14 (hD' 14)
  repeat(first|refine Kq_norm_code ?_|refine Kq_norm_blk ?_)
  refine AW.ent (σ':=mkSt [(1,.ptr 0 0),(3,.bool true),(4,.ptr 1 0),(7,.i (a1.length:Nat)),(10,.ptr 2 0),(13,.ptr 3 0),(16,.rw 4)] [(0,.cells [.str mn,.sl (nml us),.sl (dtl ds),.sl (trl ts),.sl (iml ms),.sl (fdl fs)]),(1,.cells [.str mn,.sl (nml us),.sl (dtl ds),.sl (trl ts),.sl (iml ms),.sl (fdl (a1++b1)++fdl (a2++b2))]),(2,.cells [.str mn,.sl (nml us),.sl (dtl ds),.sl (trl ts),.sl (iml ms),.sl (fdl a1++fdl a2)]),(3,.cells [.str mn,.sl (nml us),.sl (dtl ds),.sl (trl ts),.sl (iml ms),.sl (fdl b1++fdl b2)]),(4,.row 10 (fdl (a1++b1)))] 5) (fun i=>if i=4 then 14680068 else i) ?_ ?_
  ·refine ent_mk (by simp[go_sem,f1,f3,f4,f7,f10,f13,zd15]) ?_ (by simp) (by simp[hN])
   simp[go_sem,h0,h1,h2,h3,ze14, ← fdl_app]
  clear zd0 zd1 zd2 zd3 zd4 zd5 zd6 zd7 zd8 zd9 zd10 zd11 zd12 zd13 zd14 zd15 ze14 f1 f3 f4 f7 f10 f13 h0 h1 h2 h3 d0 d1 d2 d3 d4 d5 d6 d7 d8 d9 d10 d11 d12 d13 d14 d15 e0 e5 e14 hD' hn
  clear fr hp nx D'
  repeat(first|apply w1|apply w2)
  refine K_inv (n:=16) (IPb [.str mn,.sl (nml us),.sl (dtl ds),.sl (trl ts),.sl (iml ms)] (fdl (a1++b1)++fdl (a2++b2)) a1 a2 b1 b2 fs) mixed hE ?_ ?_ (fun Kp hKp=>?_) ?_ rfl
  ·intro D D' σ h
   have:=fun j=>(h j).symm
   unfold IPb
   simp only[this]
   exact fun h=>h
  ·simp[IPb,go_sem]
  ·refine⟨?_,?_,?_,?_,?_,?_,?_,?_,?_,?_,?_,?_,?_,?_,?_,?_,trivial⟩
   all_goals rintro D' ⟨fr,hp,nx⟩ hD' hr ⟨hn,f1,f3,f4,f7,f10,f13,f16,h0,h1,h2,h3,h4,d0,d1,d2,d3,d4,d5,d6,d7,d8,d9,d10,d11,d12,d13,d14,d15,e5,e14,o15_0⟩
   all_goals simp[Region.binds] at hn f1 f3 f4 f7 f10 f13 f16 h0 h1 h2 h3 h4 d0 d1 d2 d3 d4 d5 d6 d7 d8 d9 d10 d11 d12 d13 d14 d15 e5 e14 o15_0 hD' hr
   all_goals subst hn
   all_goals try clear hQ
   ·skip
    have zf16:=f16 (by first|(simp[hr,hD'];done)|(cases hq:D' 15<;>simp_all))
    simp only[go_sem,zf16]
    (simp only[IPb,upd,updo];simp[f1,f3,f4,f7,f10,f13,h0,h1,h2,h3];simp_all)
   ·skip
    simp only[go_sem,f10]
    (simp only[IPb,upd,updo];simp[f1,f3,f4,f7,f10,f13,h0,h1,h2,h3];simp_all)
   ·skip
    have zd1:=d1 (by first|(simp[hr,hD'];done)|(cases hq:D' 1<;>simp_all))
    simp only[go_sem,zd1,h2]
    (simp only[IPb,upd,updo];simp[f1,f3,f4,f7,f10,f13,h0,h1,h2,h3];simp_all)
   ·skip
    simp only[go_sem,f7]
    (simp only[IPb,upd,updo];simp[f1,f3,f4,f7,f10,f13,h0,h1,h2,h3];simp_all)
   ·skip
    have zd2:=d2 (by first|(simp[hr,hD'];done)|(cases hq:D' 2<;>simp_all))
    have zd3:=d3 (by first|(simp[hr,hD'];done)|(cases hq:D' 3<;>simp_all))
    simp only[go_sem,zd2,zd3]
    refine⟨⟨⟨by omega,by omega⟩,sA⟩,?_⟩
    rw[dA]
    (simp only[IPb,upd,updo];simp[f1,f3,f4,f7,f10,f13,h0,h1,h2,h3];simp_all)
   ·skip
    have zd0:=d0 (by first|(simp[hr,hD'];done)|(cases hq:D' 0<;>simp_all))
    have zd4:=d4 (by first|(simp[hr,hD'];done)|(cases hq:D' 4<;>simp_all))
    have zh4:=h4 (by first|(simp[hr,hD'];done)|(cases hq:D' 5<;>simp_all))
    simp only[go_sem,zd0,zd4,zh4]
    refine⟨⟨fdl_szok _,by simp only[Fits,List.length_append,fdl_ln];omega⟩,?_⟩
    (simp only[IPb,upd,updo];simp[f1,f3,f4,f7,f10,f13,h0,h1,h2,h3];simp_all)
   ·skip
    simp only[go_sem,f13]
    (simp only[IPb,upd,updo];simp[f1,f3,f4,f7,f10,f13,h0,h1,h2,h3];simp_all)
   ·skip
    have zd6:=d6 (by first|(simp[hr,hD'];done)|(cases hq:D' 6<;>simp_all))
    simp only[go_sem,zd6,h3]
    (simp only[IPb,upd,updo];simp[f1,f3,f4,f7,f10,f13,h0,h1,h2,h3];simp_all)
   ·skip
    simp only[go_sem,f1]
    (simp only[IPb,upd,updo];simp[f1,f3,f4,f7,f10,f13,h0,h1,h2,h3];simp_all)
   ·skip
    have zd8:=d8 (by first|(simp[hr,hD'];done)|(cases hq:D' 8<;>simp_all))
    simp only[go_sem,zd8,h0]
    (simp only[IPb,upd,updo];simp[f1,f3,f4,f7,f10,f13,h0,h1,h2,h3];simp_all)
   ·skip
    have zd9:=d9 (by first|(simp[hr,hD'];done)|(cases hq:D' 9<;>simp_all))
    simp only[go_sem,zd9]
    (simp only[IPb,upd,updo];simp[f1,f3,f4,f7,f10,f13,h0,h1,h2,h3];simp_all)
   ·skip
    simp only[go_sem,f7]
    (simp only[IPb,upd,updo];simp[f1,f3,f4,f7,f10,f13,h0,h1,h2,h3];simp_all)
   ·skip
    have zd10:=d10 (by first|(simp[hr,hD'];done)|(cases hq:D' 10<;>simp_all))
    have zd11:=d11 (by first|(simp[hr,hD'];done)|(cases hq:D' 11<;>simp_all))
    simp only[go_sem,zd10,zd11]
    rw[n1]
    (simp only[IPb,upd,updo];simp[f1,f3,f4,f7,f10,f13,h0,h1,h2,h3];simp_all)
   ·skip
    have zd7:=d7 (by first|(simp[hr,hD'];done)|(cases hq:D' 7<;>simp_all))
    have zd12:=d12 (by first|(simp[hr,hD'];done)|(cases hq:D' 12<;>simp_all))
    simp only[go_sem,zd7,zd12]
    refine⟨⟨⟨by omega,by omega⟩,sB⟩,?_⟩
    rw[dB]
    (simp only[IPb,upd,updo];simp[f1,f3,f4,f7,f10,f13,h0,h1,h2,h3];simp_all)
   ·skip
    have zd5:=d5 (by first|(simp[hr,hD'];done)|(cases hq:D' 5<;>simp_all))
    have zd13:=d13 (by first|(simp[hr,hD'];done)|(cases hq:D' 13<;>simp_all))
    have ze5:=e5 (by first|(simp[hr,hD'];done)|(cases hq:D' 5<;>simp_all)) (by first|(simp[hr,hD'];done)|(cases hq:D' 14<;>simp_all))
    simp only[go_sem,zd5,zd13,ze5]
    refine⟨⟨fdl_szok _,by simp only[Fits,List.length_append,fdl_ln];omega⟩,?_⟩
    (simp only[IPb,upd,updo];simp[f1,f3,f4,f7,f10,f13,h0,h1,h2,h3];simp_all)
   ·skip
    have zd14:=d14 (by first|(simp[hr,hD'];done)|(cases hq:D' 14<;>simp_all))
    simp only[go_sem,zd14]
    (simp only[IPb,upd,updo];simp[f1,f3,f4,f7,f10,f13,h0,h1,h2,h3];simp_all)
  rintro⟨fr,hp,nx⟩ D' hD' ⟨hn,f1,f3,f4,f7,f10,f13,f16,h0,h1,h2,h3,h4,d0,d1,d2,d3,d4,d5,d6,d7,d8,d9,d10,d11,d12,d13,d14,d15,e5,e14,o15_0⟩
  simp only at hn f1 f3 f4 f7 f10 f13 f16 h0 h1 h2 h3 h4 d0 d1 d2 d3 d4 d5 d6 d7 d8 d9 d10 d11 d12 d13 d14 d15 e5 e14 o15_0
  have zd0:=d0 (hD' 0)
  have zd1:=d1 (hD' 1)
  have zd2:=d2 (hD' 2)
  have zd3:=d3 (hD' 3)
  have zd4:=d4 (hD' 4)
  have zd5:=d5 (hD' 5)
  have zd6:=d6 (hD' 6)
  have zd7:=d7 (hD' 7)
  have zd8:=d8 (hD' 8)
  have zd9:=d9 (hD' 9)
  have zd10:=d10 (hD' 10)
  have zd11:=d11 (hD' 11)
  have zd12:=d12 (hD' 12)
  have zd13:=d13 (hD' 13)
  have zd14:=d14 (hD' 14)
  have zd15:=d15 (hD' 15)
  have ze14:=e14 (hD' 14)
  repeat(first|refine Kq_norm_code ?_|refine Kq_norm_blk ?_)
  refine AW.ent (σ':=mkSt [(1,.ptr 0 0),(3,.bool true),(4,.ptr 1 0),(16,.rw 2)] [(0,.cells [.str mn,.sl (nml us),.sl (dtl ds),.sl (trl ts),.sl (iml ms),.sl (fdl fs)]),(1,.cells [.str mn,.sl (nml us),.sl (dtl ds),.sl (trl ts),.sl (iml ms),.sl (fdl (a1++b1)++fdl (a2++b2))]),(2,.row 10 (fdl (a1++b1)++fdl (a2++b2)))] 3) (fun i=>if i=2 then 14680069 else i) ?_ ?_
  ·refine ent_mk (by simp[go_sem,f1,f3,f4,zd15]) ?_ (by simp) (by simp[hN])
   simp[go_sem,h0,h1,ze14, ← fdl_app]
  clear zd0 zd1 zd2 zd3 zd4 zd5 zd6 zd7 zd8 zd9 zd10 zd11 zd12 zd13 zd14 zd15 ze14 f1 f3 f4 f7 f10 f13 f16 h0 h1 h2 h3 h4 d0 d1 d2 d3 d4 d5 d6 d7 d8 d9 d10 d11 d12 d13 d14 d15 e5 e14 hD' hn
  clear o15_0
  clear fr hp nx D'
  refine AW_frz1 16 2 (sz:=10) (xs:=fdl (a1++b1)++fdl (a2++b2)) (by simp only[go_sem]) (by simp only[go_sem]) (by rw[← fdl_app];exact fdl_clor _) ?_
  repeat'(first|apply nx|refine zx ?_|rw[zw]|((first|refine hK _ ?_|refine hKp _ _ ?_);clear hK hKp K Kp;try clear hanc anc)|((with_reducible refine And.intro ?_ ?_);exact zb)|((first|refine zr hE fun K Kp hK hKp=>?_|refine zd false mixed hE fun K Kp hK hKp anc hanc=>?_|(apply zm;exact zu;exact c11;exact zs;exact zl));simp only[go_sem])|(refine zg (fun hg=>?_) (fun hg=>?_)<;>simp only[go_sem,hg])|(refine zc (fun hc=>?_) (fun hc=>?_)<;>try exact zh hc)|(refine K_ret ?_;refine zt hQ ?_))
  rfl
end Go.Proofs.YtffmphmiicnaeaaDoor
