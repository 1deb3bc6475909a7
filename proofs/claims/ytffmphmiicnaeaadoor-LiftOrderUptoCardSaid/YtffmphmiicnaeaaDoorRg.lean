/- A part of the proof: an abstract machine for the walks, and what the walked functions compute. -/
import Derived.Test.YtffmphmiicnaeaaDoorRf
import Derived.Test.YtffmphmiicnaeaaDoorRb
import Derived.Test.YtffmphmiicnaeaaDoorRa
import Derived.Test.YtffmphmiicnaeaaDoorRc
set_option linter.unusedVariables false
set_option linter.unusedSimpArgs false
set_option maxHeartbeats 4000000
set_option maxRecDepth 100000
namespace Go.Lf
mutual
def locS:Lf.St→Nat
 | .mk k nm ns ty ex th el ar fn off=>locL th+locL el+locA ar+if k=13 then locF fn else 0
def locL:List Lf.St→Nat
 | []=>0
 |s::l=>locS s+locL l
def locM:Ar→Nat
 | .mk v ns b off=>locL b
def locA:List Ar→Nat
 | []=>0
 |s::l=>locM s+locA l
def locD:Lf.Fd→Nat
 | .mk n ps bs cs ag res b off=>1+locL b
def locF:List Lf.Fd→Nat
 | []=>0
 |s::l=>locD s+locF l
end
mutual
theorem locS_le:∀ s:Lf.St,locS s≤s.sz
 | .mk k nm ns ty ex th el ar fn off=>by
  have:=locL_le th;have:=locL_le el;have:=locA_le ar;have:=locF_le fn
  rw[locS,St.sz];split<;>omega
theorem locL_le:∀ l:List Lf.St,locL l≤stSz l
 | []=>Nat.zero_le _
 |s::l=>by have:=locS_le s;have:=locL_le l;rw[locL,stSz];omega
theorem locM_le:∀ s:Ar,locM s≤s.sz
 | .mk v ns b off=>by have:=locL_le b;rw[locM,Ar.sz];omega
theorem locA_le:∀ l:List Ar,locA l≤arSz l
 | []=>Nat.zero_le _
 |s::l=>by have:=locM_le s;have:=locA_le l;rw[locA,arSz];omega
theorem locD_le:∀ s:Lf.Fd,locD s≤s.sz
 | .mk n ps bs cs ag res b off=>by have:=locL_le b;rw[locD,Fd.sz];omega
theorem locF_le:∀ l:List Lf.Fd,locF l≤fdSz l
 | []=>Nat.zero_le _
 |s::l=>by have:=locD_le s;have:=locF_le l;rw[locF,fdSz];omega
end
end Go.Lf
namespace Go.Proofs.YtffmphmiicnaeaaDoor
open Go.Am Go.Proofs Go.Lf
open Classical
attribute [local irreducible] AW CallP CallB
theorem locals_c:∀ (N:Nat),N≤1001→∀ l:List Lf.St,stSz l<N→PCall Tryd.prog 43 [.sl (stl l)] (.i (locL l:Nat)):=by
 intro N
 induction N with
 |zero=>intro _ l h;omega
 |succ N IH=>
 intro hN1 l hl
 have hln:=st_len_le l
 refine PCall.intro Tryd.func43 rfl isf43 (by simp[Tryd.f43]) (by simp[AV.cloL,AV.clo]) fun E Q hE hN hQ=>K_start ?_
 repeat'(first|apply nx|refine zx ?_|rw[zw]|((first|refine hK _ ?_|refine hKp _ _ ?_);clear hK hKp K Kp;try clear hanc anc)|((with_reducible refine And.intro ?_ ?_);exact zb)|((first|refine zr hE fun K Kp hK hKp=>?_|refine zd true mixed hE fun K Kp hK hKp anc hanc=>?_|refine zd false mixed hE fun K Kp hK hKp anc hanc=>?_);simp only[go_sem])|(refine zg (fun hg=>?_) (fun hg=>?_)<;>simp only[go_sem,hg])|(refine zc (fun hc=>?_) (fun hc=>?_)<;>try exact zh hc))
 refine K_loop (X:=Nat×Nat) (fun z=>z.1≤l.length∧locL l=z.2+locL (l.drop z.1)∧z.2+stSz (l.drop z.1)≤1000) (fun z=>mkSt [(0,.sl (stl l)),(3,.i (z.2:Nat)),(4,.i (z.1:Nat))] [] 1) (fun z=>l.length - z.1) (0,0) ⟨Nat.zero_le _,by simp,by simp;omega⟩ (fun i=>i) (by refine ent_mk (by simp[go_sem]) (by simp[go_sem]) (by simp) (by simp[hN])) ?_
 rintro⟨i,c⟩ ⟨hi,hc1,hc2⟩
 simp only at hi hc1 hc2
 by_cases hlt:i<l.length
 case neg=>
  obtain rfl:i=l.length:=by omega
  rw[List.drop_length,locL,Nat.add_zero] at hc1
  rw[hc1] at hQ
  repeat'(first|apply nx|refine zx ?_|rw[zw]|((first|refine hK _ ?_|refine hKp _ _ ?_);clear hK hKp K Kp;try clear hanc anc)|((with_reducible refine And.intro ?_ ?_);exact zb)|((first|refine zr hE fun K Kp hK hKp=>?_|refine zd false mixed hE fun K Kp hK hKp anc hanc=>?_);simp only[go_sem,ge_dec])|(refine zg (fun hg=>?_) (fun hg=>?_)<;>simp only[go_sem,ge_dec,hg])|(refine zc (fun hc=>?_) (fun hc=>?_)<;>try exact zh hc)|(refine K_ret ?_;refine zt hQ ?_))
  rfl
 obtain⟨⟨k,n,ns,ty,ex,th,el,ar,fn,off⟩,hx⟩:=get?_of hlt
 have hm:=st_mem_le (List.mem_of_getElem? hx)
 rw[St.sz] at hm
 rw[drop_of hx,locL,locS] at hc1
 rw[drop_of hx,stSz,St.sz] at hc2
 have a1:=locL_le th
 have a2:=locL_le el
 have a3:=locA_le ar
 have a4:=locF_le fn
 have h1:=IH (by omega) th (by omega)
 have h2:=IH (by omega) el (by omega)
 have u0:=inc_u hlt (by omega)
 have w1:IntKind.i64.wrap ((c:Int)+(locL th:Nat))=((c+locL th:Nat):Int):=by rw[wrap64 (by omega) (by omega)];omega
 have w2:IntKind.i64.wrap (((c+locL th:Nat):Int)+(locL el:Nat))=((c+locL th+locL el:Nat):Int):=by rw[wrap64 (by omega) (by omega)];omega
 repeat'(first|apply nx|refine zx ?_|rw[zw]|((first|refine hK _ ?_|refine hKp _ _ ?_);clear hK hKp K Kp;try clear hanc anc)|((with_reducible refine And.intro ?_ ?_);exact zb)|((first|refine zr hE fun K Kp hK hKp=>?_|refine zd true mixed hE fun K Kp hK hKp anc hanc=>?_|refine zd false mixed hE fun K Kp hK hKp anc hanc=>?_|(apply zm;exact zu;(first|exact h1|exact h2);exact zs;exact zl));simp only[go_sem,lt_dec hlt,hx,St.av,w1,w2])|(refine zg (fun hg=>?_) (fun hg=>?_)<;>simp only[go_sem,lt_dec hlt,hx,St.av,w1,w2,hg])|(refine zc (fun hc=>?_) (fun hc=>?_)<;>try exact zh hc))
 have har:=ar_len_le ar
 have hfl:=fd_len_le fn
 refine K_loop (X:=Nat×Nat) (fun z=>z.1≤ar.length∧c+locL th+locL el+locA ar=z.2+locA (ar.drop z.1)) (fun z=>mkSt [(0,.sl (stl l)),(3,.i (z.2:Nat)),(4,.i (i:Nat)),(5,.i (z.1:Nat))] [] 1) (fun z=>ar.length - z.1) (0,c+locL th+locL el) ⟨Nat.zero_le _,by simp⟩ (fun i=>i) (by refine ent_mk (by simp[go_sem]) (by simp[go_sem]) (by simp) (by simp[hN])) ?_
 rintro⟨j,c2⟩ ⟨hj,hd1⟩
 simp only at hj hd1
 by_cases hlj:j<ar.length
 ·obtain⟨⟨v,ns1,bb,of1⟩,ha⟩:=get?_of hlj
  have h3:=ar_mem_le (List.mem_of_getElem? ha)
  rw[Ar.sz] at h3
  rw[drop_of ha,locA,locM] at hd1
  have v1:=inc_u hlj (by omega)
  have h4:=IH (by omega) bb (by omega)
  have w3:IntKind.i64.wrap ((c2:Int)+(locL bb:Nat))=((c2+locL bb:Nat):Int):=by rw[wrap64 (by omega) (by omega)];omega
  repeat'(first|apply nx|refine zx ?_|rw[zw]|((first|refine hK _ ?_|refine hKp _ _ ?_);clear hK hKp K Kp;try clear hanc anc)|((with_reducible refine And.intro ?_ ?_);exact zb)|((first|refine zr hE fun K Kp hK hKp=>?_|refine zd true mixed hE fun K Kp hK hKp anc hanc=>?_|refine zd false mixed hE fun K Kp hK hKp anc hanc=>?_|(apply zm;exact zu;exact h4;exact zs;exact zl));simp only[go_sem,lt_dec hlj,hx,St.av,ha,Ar.av,w3,v1])|(refine zg (fun hg=>?_) (fun hg=>?_)<;>simp only[go_sem,lt_dec hlj,hx,St.av,ha,Ar.av,w3,v1,hg])|(refine zc (fun hc=>?_) (fun hc=>?_)<;>try exact zh hc))
  refine⟨(j+1,c2+locL bb),⟨by simp only;omega,by simp only;omega⟩,by simp only;omega,fun i=>i,by refine ent_mk (by simp[go_sem]) (by simp[go_sem]) (by simp) (by simp[hN])⟩
 obtain rfl:j=ar.length:=by omega
 rw[List.drop_length,locA,Nat.add_zero] at hd1
 by_cases hk:k=13
 case neg=>
  rw[if_neg hk] at hc1
  have q:(k==13)=false:=by simp[hk]
  repeat'(first|apply nx|refine zx ?_|rw[zw]|((first|refine hK _ ?_|refine hKp _ _ ?_);clear hK hKp K Kp;try clear hanc anc)|((with_reducible refine And.intro ?_ ?_);exact zb)|((first|refine zr hE fun K Kp hK hKp=>?_|refine zd true mixed hE fun K Kp hK hKp anc hanc=>?_|refine zd false mixed hE fun K Kp hK hKp anc hanc=>?_);simp only[go_sem,ge_dec,hx,St.av,q,u0])|(refine zg (fun hg=>?_) (fun hg=>?_)<;>simp only[go_sem,ge_dec,hx,St.av,q,u0,hg])|(refine zc (fun hc=>?_) (fun hc=>?_)<;>try exact zh hc))
  refine⟨(i+1,c2),⟨by simp only;omega,by simp only;omega,by simp only;omega⟩,by simp only;omega,fun i=>i,by refine ent_mk (by simp[go_sem]) (by simp[go_sem]) (by simp) (by simp[hN])⟩
 rw[if_pos hk] at hc1
 subst hk
 repeat'(first|apply nx|refine zx ?_|rw[zw]|((first|refine hK _ ?_|refine hKp _ _ ?_);clear hK hKp K Kp;try clear hanc anc)|((with_reducible refine And.intro ?_ ?_);exact zb)|((first|refine zr hE fun K Kp hK hKp=>?_|refine zd true mixed hE fun K Kp hK hKp anc hanc=>?_|refine zd false mixed hE fun K Kp hK hKp anc hanc=>?_);simp only[go_sem,ge_dec,hx,St.av])|(refine zg (fun hg=>?_) (fun hg=>?_)<;>simp only[go_sem,ge_dec,hx,St.av,hg])|(refine zc (fun hc=>?_) (fun hc=>?_)<;>try exact zh hc))
 refine K_loop (X:=Nat×Nat) (fun z=>z.1≤fn.length∧c2+locF fn=z.2+locF (fn.drop z.1)) (fun z=>mkSt [(0,.sl (stl l)),(3,.i (z.2:Nat)),(4,.i (i:Nat)),(6,.i (z.1:Nat))] [] 1) (fun z=>fn.length - z.1) (0,c2) ⟨Nat.zero_le _,by simp⟩ (fun i=>i) (by refine ent_mk (by simp[go_sem]) (by simp[go_sem]) (by simp) (by simp[hN])) ?_
 rintro⟨g,c3⟩ ⟨hg,he1⟩
 simp only at hg he1
 by_cases hlg:g<fn.length
 ·obtain⟨⟨fm,p0,b0,cp0,a0,r0,bd,of0⟩,hf⟩:=get?_of hlg
  have h3:=fd_mem_le (List.mem_of_getElem? hf)
  rw[Fd.sz] at h3
  rw[drop_of hf,locF,locD] at he1
  have v1:=inc_u hlg (by omega)
  have h4:=IH (by omega) bd (by omega)
  have w3:IntKind.i64.wrap ((c3:Int)+1)=((c3+1:Nat):Int):=by rw[wrap64 (by omega) (by omega)];omega
  have w4:IntKind.i64.wrap (((c3+1:Nat):Int)+(locL bd:Nat))=((c3+1+locL bd:Nat):Int):=by rw[wrap64 (by omega) (by omega)];omega
  repeat'(first|apply nx|refine zx ?_|rw[zw]|((first|refine hK _ ?_|refine hKp _ _ ?_);clear hK hKp K Kp;try clear hanc anc)|((with_reducible refine And.intro ?_ ?_);exact zb)|((first|refine zr hE fun K Kp hK hKp=>?_|refine zd true mixed hE fun K Kp hK hKp anc hanc=>?_|refine zd false mixed hE fun K Kp hK hKp anc hanc=>?_|(apply zm;exact zu;exact h4;exact zs;exact zl));simp only[go_sem,lt_dec hlg,hx,St.av,hf,Fd.av,w3,w4,v1])|(refine zg (fun hg=>?_) (fun hg=>?_)<;>simp only[go_sem,lt_dec hlg,hx,St.av,hf,Fd.av,w3,w4,v1,hg])|(refine zc (fun hc=>?_) (fun hc=>?_)<;>try exact zh hc))
  refine⟨(g+1,c3+1+locL bd),⟨by simp only;omega,by simp only;omega⟩,by simp only;omega,fun i=>i,by refine ent_mk (by simp[go_sem]) (by simp[go_sem]) (by simp) (by simp[hN])⟩
 obtain rfl:g=fn.length:=by omega
 rw[List.drop_length,locF,Nat.add_zero] at he1
 repeat'(first|apply nx|refine zx ?_|rw[zw]|((first|refine hK _ ?_|refine hKp _ _ ?_);clear hK hKp K Kp;try clear hanc anc)|((with_reducible refine And.intro ?_ ?_);exact zb)|((first|refine zr hE fun K Kp hK hKp=>?_|refine zd true mixed hE fun K Kp hK hKp anc hanc=>?_|refine zd false mixed hE fun K Kp hK hKp anc hanc=>?_);simp only[go_sem,ge_dec,hx,St.av,u0])|(refine zg (fun hg=>?_) (fun hg=>?_)<;>simp only[go_sem,ge_dec,hx,St.av,u0,hg])|(refine zc (fun hc=>?_) (fun hc=>?_)<;>try exact zh hc))
 refine⟨(i+1,c3),⟨by simp only;omega,by simp only;omega,by simp only;omega⟩,by simp only;omega,fun i=>i,by refine ent_mk (by simp[go_sem]) (by simp[go_sem]) (by simp) (by simp[hN])⟩
theorem fdb_le:∀ f:Lf.Fd,locL f.b≤f.sz
 | .mk _ _ _ _ _ _ b _=>by have:=locL_le b;rw[Fd.b,Fd.sz];omega
theorem all_c (x:Md) (hz:fdSz x.fs≤1000):PCall Tryd.prog 21 [x.av] (.i ((x.fs.map fun f=>locL f.b).sum:Nat)):=by
 obtain⟨mn,us,ds,ts,ms,fs⟩:=x
 simp only at hz ⊢
 have hln:=fd_len_le fs
 unfold Md.av Md.cs
 simp only
 have hle:∀ l:List Lf.Fd,(l.map fun f=>locL f.b).sum≤fdSz l:=fun l=>by
  induction l with
  |nil=>exact Nat.zero_le _
  |cons f l ih=>have:=fdb_le f;simp only[List.map_cons,List.sum_cons,fdSz];omega
 refine PCall.intro Tryd.func21 rfl isf21 (by simp[Tryd.f21]) (by simp[AV.cloL,AV.clo]) fun E Q hE hN hQ=>K_start ?_
 repeat'(first|apply nx|refine zx ?_|rw[zw]|((first|refine hK _ ?_|refine hKp _ _ ?_);clear hK hKp K Kp;try clear hanc anc)|((with_reducible refine And.intro ?_ ?_);exact zb)|((first|refine zr hE fun K Kp hK hKp=>?_|refine zd true mixed hE fun K Kp hK hKp anc hanc=>?_|refine zd false mixed hE fun K Kp hK hKp anc hanc=>?_);simp only[go_sem])|(refine zg (fun hg=>?_) (fun hg=>?_)<;>simp only[go_sem,hg])|(refine zc (fun hc=>?_) (fun hc=>?_)<;>try exact zh hc))
 refine K_loop (X:=Nat×Nat) (fun z=>z.1≤fs.length∧(fs.map fun f=>locL f.b).sum=z.2+((fs.drop z.1).map fun f=>locL f.b).sum) (fun z=>mkSt [(1,.ptr 0 0),(3,.i (z.2:Nat)),(4,.i (z.1:Nat))] [(0,.cells [.str mn,.sl (nml us),.sl (dtl ds),.sl (trl ts),.sl (iml ms),.sl (fdl fs)])] 1) (fun z=>fs.length - z.1) (0,0) ⟨Nat.zero_le _,by simp⟩ (fun i=>i) (by refine ent_mk (by simp[go_sem]) (by simp[go_sem]) (by simp) (by simp[hN])) ?_
 rintro⟨i,c⟩ ⟨hi,hc1⟩
 simp only at hi hc1
 by_cases hlt:i<fs.length
 ·obtain⟨⟨fm,p0,b0,cp0,a0,r0,bd,of0⟩,hf⟩:=get?_of hlt
  have h3:=fd_mem_le (List.mem_of_getElem? hf)
  rw[Fd.sz] at h3
  have hs:=hle fs
  rw[drop_of hf,List.map_cons,List.sum_cons,Fd.b] at hc1
  have v1:=inc_u hlt (by omega)
  have h4:=locals_c 1001 (Nat.le_refl _) bd (by omega)
  have w3:IntKind.i64.wrap ((c:Int)+(locL bd:Nat))=((c+locL bd:Nat):Int):=by rw[wrap64 (by omega) (by omega)];omega
  repeat'(first|apply nx|refine zx ?_|rw[zw]|((first|refine hK _ ?_|refine hKp _ _ ?_);clear hK hKp K Kp;try clear hanc anc)|((with_reducible refine And.intro ?_ ?_);exact zb)|((first|refine zr hE fun K Kp hK hKp=>?_|refine zd true mixed hE fun K Kp hK hKp anc hanc=>?_|refine zd false mixed hE fun K Kp hK hKp anc hanc=>?_|(apply zm;exact zu;exact h4;exact zs;exact zl));simp only[go_sem,lt_dec hlt,hf,Fd.av,w3,v1])|(refine zg (fun hg=>?_) (fun hg=>?_)<;>simp only[go_sem,lt_dec hlt,hf,Fd.av,w3,v1,hg])|(refine zc (fun hc=>?_) (fun hc=>?_)<;>try exact zh hc))
  refine⟨(i+1,c+locL bd),⟨by simp only;omega,by simp only;omega⟩,by simp only;omega,fun i=>i,by refine ent_mk (by simp[go_sem]) (by simp[go_sem]) (by simp) (by simp[hN])⟩
 ·obtain rfl:i=fs.length:=by omega
  rw[List.drop_length] at hc1
  simp only[List.map_nil,List.sum_nil,Nat.add_zero] at hc1
  rw[hc1] at hQ
  repeat'(first|apply nx|refine zx ?_|rw[zw]|((first|refine hK _ ?_|refine hKp _ _ ?_);clear hK hKp K Kp;try clear hanc anc)|((with_reducible refine And.intro ?_ ?_);exact zb)|((first|refine zr hE fun K Kp hK hKp=>?_|refine zd false mixed hE fun K Kp hK hKp anc hanc=>?_);simp only[go_sem,ge_dec])|(refine zg (fun hg=>?_) (fun hg=>?_)<;>simp only[go_sem,ge_dec,hg])|(refine zc (fun hc=>?_) (fun hc=>?_)<;>try exact zh hc)|(refine K_ret ?_;refine zt hQ ?_))
  rfl
end Go.Proofs.YtffmphmiicnaeaaDoor

set_option maxHeartbeats 4000000
set_option maxRecDepth 100000
namespace Go.Am
open Go
variable {P:Program}
theorem PCall.of_Ad {f:FuncId} {vs:List AV} {r0 r:AV} {L:List (Nat×AObj)} (n:Nat) (hclo:AV.cloL vs=true) (hA:ACall P f vs (fun _=>none) 0 0 (fun r' hp'=>r'=r0∧hp'=mkHp L) (fun _ _=>False)) (h2:r0.dsnOk (mkHp L) n) (h3:r0.dsn (mkHp L) n=r) (h4:r.clo=true):PCall P f vs r:=by
 refine⟨hA.1,fun ρ V Z w args hZ hgl hsz hrel=>?_⟩
 have hno:∀ b,OwnB ρ (fun _=>none) b→False:=fun b ⟨id,o,h,_⟩=>by cases h
 refine(hA.2 ρ (fun _=>False) Z w args ⟨fun id o ho=>(by cases ho),fun id id' o o' b ho=>(by cases ho),fun id o b ho=>(by cases ho),hZ,hgl⟩ (fun id hid=>absurd hid (Nat.not_lt_zero _)) (fun id h=>h.elim) hsz (fun i hi=>clo_rel (hrel i hi) (cloL_getD hclo i hi) ρ _)).mono ?_
 rintro e w' ⟨ρ',V',Z',hp',k1,k2,k3,k4,k5,k6,⟨v,r',rfl,h1,rfl,rfl⟩|⟨_,_,_,_,h⟩⟩
 ·have hv3:=dsn_rel k1 n h1 h2
  rw[h3] at hv3
  have hv4:=clo_rel hv3 h4 ρ V
  refine⟨v,_,rfl,hv4,?_,fun b o hz=> .inl (k4 b o hz),?_⟩
  ·exact⟨fun b hb hn=>k2.old b hb (fun h=>hno b h),k2.le,k2.os,k2.out,trivial⟩
  ·rintro b o (hz|⟨id,sz,l,g1,g2⟩)
   ·rcases k5 b o hz with g|g|g
    ·exact .inl g
    ·exact .inr ⟨g,k1.lt b o hz⟩
    ·exact(hno b g).elim
   ·have g3:=(k1.obj id _ g1).2.lt b g2
    refine .inr ⟨?_,g3⟩
    rcases Nat.lt_or_ge b w.heap.size with g4|g4
    ·exact(hno b (k6 id _ b g1 g2 g4)).elim
    ·exact g4
 ·exact h.elim
end Go.Am
namespace Go.Proofs.YtffmphmiicnaeaaDoor
open Go.Am Go.Proofs Go.Lf
open Classical
attribute [local irreducible] AW CallP CallB
def stV (k:Int) (n:Nm) (xk:Int) (xn:Nm) (xs fn:AV):AV:= .agg [.i k,.str n,.nilsl,.nilsl,.i xk,.str nm0,.str xn,.str nm0,xs,.i 0,.nilsl,.i 0,.nilsl,.nilsl,.nilsl,fn,.i 0]
def adV (n t:Nm) (c o:Int):AV:= .agg [.str n,.str t,.nilsl,.i 0,.i c,.i o]
def fdV (n:Nm) (c a b:AV) (o:Int):AV:= .agg [.str n,.nilsl,.nilsl,c,a,.str cInt.n,.nilsl,.i 0,b,.i o]
def exHp:List (Nat×AObj):=[(0,.row 10 [fdV nmf .nilsl (.rw 7) (.rw 1) 0]),(1,.row 17 [stV 13 nm0 0 nm0 .nilsl (.rw 2),stV 1 nmr 15 nmg (.rw 6) .nilsl,stV 7 nmr 0 nm0 .nilsl .nilsl]),(2,.row 10 [fdV nmg (.rw 3) (.rw 4) (.rw 5) 0]),(3,.row 6 [adV nmy cInt.n 0 0,adV nmz cD.n 1 0]),(4,.row 6 [adV nmx cInt.n 0 0]),(5,.row 17 [stV 7 nmx 0 nm0 .nilsl .nilsl]),(6,.row 1 [.str nmy]),(7,.row 6 [adV nmy cInt.n 0 0])]
theorem f19_c:ACall Tryd.prog 19 [] (fun _=>none) 0 0 (fun r hp'=>r= .agg [.str ⟨#[77]⟩,.nilsl,.nilsl,.nilsl,.nilsl,.rw 0]∧hp'=mkHp exHp) (fun _ _=>False):=by
 refine ACall.of_bodyR Tryd.func19 isf19 rfl (by simp[Tryd.f19]) fun E Q hE hN hQ hQp=>K_start ?_
 repeat'(first|apply nx|refine zx ?_|rw[zw]|((first|refine hK _ ?_|refine hKp _ _ ?_);clear hK hKp K Kp;try clear hanc anc)|((with_reducible refine And.intro ?_ ?_);exact zb)|((first|refine zr hE fun K Kp hK hKp=>?_|refine zd true mixed hE fun K Kp hK hKp anc hanc=>?_|refine zd false mixed hE fun K Kp hK hKp anc hanc=>?_);simp only[go_sem])|(refine zg (fun hg=>?_) (fun hg=>?_)<;>simp only[go_sem,hg])|(refine zc (fun hc=>?_) (fun hc=>?_)<;>try exact zh hc))
 refine K_ret (hQ _ ⟨.agg [.str ⟨#[77]⟩,.nilsl,.nilsl,.nilsl,.nilsl,.rw 0],fun i=>if i=0 then 44040192 else if i=1 then 41943040 else if i=2 then 37748736 else if i=3 then 18874368 else if i=4 then 20971520 else if i=5 then 24117248 else if i=6 then 28311552 else 34603008,_,8,?_,?_,?_,rfl,rfl⟩).1
 ·simp[resA,rvA,Tryd.f19,go_sem];rfl
 ·simp[AV.ids,AV.idsL]
 ·show Ent _ _ _ (mkSt [] exHp 8)
  unfold exHp stV adV fdV
  refine ent_mk (by simp) ?_ (by simp) (by simp[hN])
  simp[go_sem,AV.renL,AV.idsL,nmf,nmg,nmr,nmx,nmy,nmz,nm0,cInt,cD,Tx.n]
theorem f19_p:PCall Tryd.prog 19 [] (exM nmx 0 [] 0).av:=by
 refine PCall.of_Ad 16 rfl f19_c ?_ ?_ rfl
 ·simp[go_sem,exHp,stV,adV,fdV]
 ·simp[go_sem,exHp,stV,adV,fdV,exM,Md.av,Md.cs,nml,dtl,trl,iml,fdl,exF,exB,exG,Fd.av,stl,St.av,stK,exN,adl,Ad.av,bdl,arl,Tx.avL,Tx.av,cInt,cD,Tx.n,Tx.a,Tx.o]
def exHp2:List (Nat×AObj):=[(0,.row 10 [fdV nmf .nilsl (.rw 2) (.rw 1) 0,fdV nmf0g .nilsl (.rw 5) (.rw 7) 0]),(1,.row 17 [stV 1 nmgz 7 nm0 (.rw 3) .nilsl,stV 1 nmr 15 nmf0g (.rw 4) .nilsl,stV 7 nmr 0 nm0 .nilsl .nilsl]),(2,.row 6 [adV nmy cInt.n 0 0]),(3,.row 1 [.str nmz]),(4,.row 1 [.str nmy,.str nmgz,.str nmy]),(5,.row 6 [adV nmy cInt.n 0 0,.agg [.str nmz,.str ⟨#[38]⟩,.rw 6,.i 0,.i 0,.i 0],adV nmx cInt.n 0 0]),(6,.row 3 [.agg [.str cD.n,.nilsl,.i 0]]),(7,.row 17 [stV 7 nmx 0 nm0 .nilsl .nilsl])]
theorem f20_c:ACall Tryd.prog 20 [] (fun _=>none) 0 0 (fun r hp'=>r= .agg [.str ⟨#[77]⟩,.nilsl,.nilsl,.nilsl,.nilsl,.rw 0]∧hp'=mkHp exHp2) (fun _ _=>False):=by
 refine ACall.of_bodyR Tryd.func20 isf20 rfl (by simp[Tryd.f20]) fun E Q hE hN hQ hQp=>K_start ?_
 repeat'(first|apply nx|refine zx ?_|rw[zw]|((first|refine hK _ ?_|refine hKp _ _ ?_);clear hK hKp K Kp;try clear hanc anc)|((with_reducible refine And.intro ?_ ?_);exact zb)|((first|refine zr hE fun K Kp hK hKp=>?_|refine zd true mixed hE fun K Kp hK hKp anc hanc=>?_|refine zd false mixed hE fun K Kp hK hKp anc hanc=>?_);simp only[go_sem])|(refine zg (fun hg=>?_) (fun hg=>?_)<;>simp only[go_sem,hg])|(refine zc (fun hc=>?_) (fun hc=>?_)<;>try exact zh hc))
 refine K_ret (hQ _ ⟨.agg [.str ⟨#[77]⟩,.nilsl,.nilsl,.nilsl,.nilsl,.rw 0],fun i=>if i=0 then 49283072 else if i=1 then 35651584 else if i=2 then 30408704 else if i=3 then 18874368 else if i=4 then 24117248 else if i=5 then 44040192 else if i=6 then 9437184 else 47185920,_,8,?_,?_,?_,rfl,rfl⟩).1
 ·simp[resA,rvA,Tryd.f20,go_sem];rfl
 ·simp[AV.ids,AV.idsL]
 ·show Ent _ _ _ (mkSt [] exHp2 8)
  unfold exHp2 stV adV fdV
  refine ent_mk (by simp) ?_ (by simp) (by simp[hN])
  simp[go_sem,AV.renL,AV.idsL,nmf,nmg,nmr,nmx,nmy,nmz,nm0,cInt,cD,Tx.n,nmgz,nmf0g]
theorem f20_p:PCall Tryd.prog 20 [] exL.av:=by
 refine PCall.of_Ad 16 rfl f20_c ?_ ?_ rfl
 ·simp[go_sem,exHp2,stV,adV,fdV]
 ·simp[go_sem,exHp2,stV,adV,fdV,exL,exL1,exL2,Md.av,Md.cs,nml,dtl,trl,iml,fdl,Fd.av,stl,St.av,stK,exN,adl,Ad.av,bdl,arl,Tx.avL,Tx.av,cInt,cD,Tx.n,Tx.a,Tx.o]
end Go.Proofs.YtffmphmiicnaeaaDoor

set_option maxHeartbeats 4000000
set_option maxRecDepth 100000
namespace Go.Proofs.YtffmphmiicnaeaaDoor
open Go.Am Go.Proofs Go.Lf
open Classical
attribute [local irreducible] AW CallP CallB
theorem ex_sz (a:Nm) (o:Int) (c:List Ad) (p:Int) (hc:c=[]∨c=[⟨nmy,cInt,0,0⟩]):fdSz (exM a o c p).fs≤1000∧∀ f,f∈(exM a o c p).fs→f.wt≤2 ^ 40:=by
 constructor
 ·rcases hc with rfl|rfl<;>simp[exM,exF,exB,exG,stK,fdSz,Fd.sz,stSz,St.sz,exN,Ex.sz,arSz,adSz,cInt,cD,Tx.sz,Tx.szL]
 ·intro f hf
  simp only[exM,List.mem_singleton] at hf
  subst hf
  rcases hc with rfl|rfl<;>simp[exF,exB,exG,stK,wtF,Fd.wt,wtL,St.wt,exN,wtA]<;>decide
theorem ex_lsz:exL.sz<2 ^ 40:=by
 simp[exL,Md.sz,exL1,exL2,fdSz,Fd.sz,stSz,St.sz,exN,Ex.sz,arSz,adSz,cInt,cD,Tx.sz,Tx.szL,stK,dtSz,imSz]
theorem head_c:PCall Tryd.prog 7 [] (.bool true):=by
 have c19:PCall Tryd.prog 19 [] (.agg [.str ⟨#[77]⟩,.sl [],.sl [],.sl [],.sl [],.sl (fdl (exM nmx 0 [] 0).fs)]):=f19_p
 have c20:PCall Tryd.prog 20 [] (.agg [.str ⟨#[77]⟩,.sl [],.sl [],.sl [],.sl [],.sl (fdl [exL1,exL2])]):=f20_p
 have c11:PCall Tryd.prog 11 [.agg [.str ⟨#[77]⟩,.sl [],.sl [],.sl [],.sl [],.sl (fdl [exL1,exL2])],.agg [.str ⟨#[77]⟩,.sl [],.sl [],.sl [],.sl [],.sl (fdl [exL1,exL2])]] (.bool true):=module_same exL ex_lsz
 have z1:=ex_sz nmx 0 [] 0 (.inl rfl)
 have z2:=ex_sz nmz 17 [] 0 (.inl rfl)
 have z3:=ex_sz nmx 0 [⟨nmy,cInt,0,0⟩] 5 (.inr rfl)
 have l1:PCall Tryd.prog 9 [.agg [.str ⟨#[77]⟩,.sl [],.sl [],.sl [],.sl [],.sl (fdl (exM nmx 0 [] 0).fs)]] (.tup [.agg [.str ⟨#[77]⟩,.sl [],.sl [],.sl [],.sl [],.sl (fdl [exL1,exL2])],.i 0,.i 0]):=by
  have h:=lift_call (exM nmx 0 [] 0) z1.1 z1.2
  unfold liftAV at h
  rw[ex_lift] at h
  exact h
 have l2:PCall Tryd.prog 9 [.agg [.str ⟨#[77]⟩,.sl [],.sl [],.sl [],.sl [],.sl (fdl (exM nmz 17 [] 0).fs)]] (.tup [.agg [.str ⟨#[]⟩,.sl [],.sl [],.sl [],.sl [],.sl []],.i 7,.i 17]):=by
  have h:=lift_call (exM nmz 17 [] 0) z2.1 z2.2
  unfold liftAV at h
  rw[ex_lift2] at h
  exact h
 have l3:PCall Tryd.prog 9 [.agg [.str ⟨#[77]⟩,.sl [],.sl [],.sl [],.sl [],.sl (fdl (exM nmx 0 [⟨nmy,cInt,0,0⟩] 5).fs)]] (.tup [.agg [.str ⟨#[]⟩,.sl [],.sl [],.sl [],.sl [],.sl []],.i 1,.i 5]):=by
  have h:=lift_call (exM nmx 0 [⟨nmy,cInt,0,0⟩] 5) z3.1 z3.2
  unfold liftAV at h
  rw[ex_lift3 _ (by decide)] at h
  exact h
 have c21:PCall Tryd.prog 21 [.agg [.str ⟨#[77]⟩,.sl [],.sl [],.sl [],.sl [],.sl (fdl (exM nmx 0 [] 0).fs)]] (.i 1):=by
  have h:=all_c (exM nmx 0 [] 0) z1.1
  have e:((exM nmx 0 [] 0).fs.map fun f=>locL f.b).sum=1:=by simp[exM,exF,exB,exG,stK,Fd.b,locL,locS,locA,locF,locD]
  rw[e] at h
  exact h
 clear z1 z2 z3
 refine PCall.intro Tryd.func7 rfl isf7 (by simp[Tryd.f7]) (by simp[AV.cloL,AV.clo]) fun E Q hE hN hQ=>K_start ?_
 repeat'(first|apply nx|refine zx ?_|rw[zw]|((first|refine hK _ ?_|refine hKp _ _ ?_);clear hK hKp K Kp;try clear hanc anc)|((with_reducible refine And.intro ?_ ?_);exact zb)|((fail_if_success refine K_stop 2 ?_);(first|refine zr hE fun K Kp hK hKp=>?_|refine zd true mixed hE fun K Kp hK hKp anc hanc=>?_|refine zd false mixed hE fun K Kp hK hKp anc hanc=>?_|(apply zm;exact zu;(first|exact c19|exact l1);exact zs;exact zl));simp only[go_sem])|(refine zg (fun hg=>?_) (fun hg=>?_)<;>simp only[go_sem,hg])|(refine zc (fun hc=>?_) (fun hc=>?_)<;>try exact zh hc))
 refine AW.ent (σ':=mkSt [(1,.ptr 0 0),(2,.i 0),(3,.i 0)] [(0,.cells [.str ⟨#[77]⟩,.sl [],.sl [],.sl [],.sl [],.sl (fdl [exL1,exL2])])] 2) (fun i=>if i=0 then 7340032 else i) ?_ ?_
 ·refine ent_mk (by simp[go_sem]) (by simp[go_sem]) (by simp) (by simp[hN])
 repeat'(first|apply nx|refine zx ?_|rw[zw]|((first|refine hK _ ?_|refine hKp _ _ ?_);clear hK hKp K Kp;try clear hanc anc)|((with_reducible refine And.intro ?_ ?_);exact zb)|((first|refine zr hE fun K Kp hK hKp=>?_|refine zd true mixed hE fun K Kp hK hKp anc hanc=>?_|refine zd false mixed hE fun K Kp hK hKp anc hanc=>?_);simp only[go_sem])|(refine zg (fun hg=>?_) (fun hg=>?_)<;>simp only[go_sem,hg])|(refine zc (fun hc=>?_) (fun hc=>?_)<;>try exact zh hc))
 refine Hold.mk (CallB.newP f19_c (by rfl) (by simp[AV.ids,AV.idsL]) (by simp[exHp,stV,adV,fdV,AObj.ids,AV.ids,AV.idsL]) ?_)
 simp only[exHp,stV,adV,fdV,putL,AObj.ren,AV.ren,AV.renL]
 simp only[go_sem]
 repeat'(first|apply nx|refine zx ?_|rw[zw]|((first|refine hK _ ?_|refine hKp _ _ ?_);clear hK hKp K Kp;try clear hanc anc)|((with_reducible refine And.intro ?_ ?_);exact zb)|((fail_if_success refine K_stop 5 ?_);(first|refine zr hE fun K Kp hK hKp=>?_|refine zd true mixed hE fun K Kp hK hKp anc hanc=>?_|refine zd false mixed hE fun K Kp hK hKp anc hanc=>?_);simp only[go_sem])|(refine zg (fun hg=>?_) (fun hg=>?_)<;>simp only[go_sem,hg])|(refine zc (fun hc=>?_) (fun hc=>?_)<;>try exact zh hc))
 repeat'(first|apply nx|refine zx ?_|rw[zw]|((first|refine hK _ ?_|refine hKp _ _ ?_);clear hK hKp K Kp;try clear hanc anc)|((with_reducible refine And.intro ?_ ?_);exact zb)|((first|refine zr hE fun K Kp hK hKp=>?_|refine zd true mixed hE fun K Kp hK hKp anc hanc=>?_|refine zd false mixed hE fun K Kp hK hKp anc hanc=>?_);simp only[go_sem])|(refine zg (fun hg=>?_) (fun hg=>?_)<;>simp only[go_sem,hg])|(refine zc (fun hc=>?_) (fun hc=>?_)<;>try exact zh hc))
 refine Hold.mk (CallB.dpure [2,3,4,5,6,7,8,9] 16 l2 ?_ ?_ (fun _=>rfl) (fun _=>by simp[AV.snapOkL,AV.snapOk]) rfl ?_)
 ·simp[go_sem,List.mem_cons,List.not_mem_nil,or_false,exM,nml,dtl,trl,iml,fdl,exF,exB,exG,Fd.av,stl,Lf.St.av,stK,exN,adl,Ad.av,bdl,arl,Tx.avL,cInt,cD,Tx.n,Tx.a,Tx.o,nmz,nmx,nmy,nmg,nmr,nmf,nm0]
 ·simp[go_sem]
 simp only[go_sem]
 repeat'(first|apply nx|refine zx ?_|rw[zw]|((first|refine hK _ ?_|refine hKp _ _ ?_);clear hK hKp K Kp;try clear hanc anc)|((with_reducible refine And.intro ?_ ?_);exact zb)|((fail_if_success refine K_stop 6 ?_);(first|refine zr hE fun K Kp hK hKp=>?_|refine zd true mixed hE fun K Kp hK hKp anc hanc=>?_|refine zd false mixed hE fun K Kp hK hKp anc hanc=>?_);simp only[go_sem])|(refine zg (fun hg=>?_) (fun hg=>?_)<;>simp only[go_sem,hg])|(refine zc (fun hc=>?_) (fun hc=>?_)<;>try exact zh hc))
 refine AW.ent (σ':=mkSt [(1,.ptr 0 0),(2,.i 0),(3,.i 0),(6,.i 7),(7,.i 17)] [(0,.cells [.str ⟨#[77]⟩,.sl [],.sl [],.sl [],.sl [],.sl (fdl [exL1,exL2])])] 2) (fun i=>i) ?_ ?_
 ·refine ent_mk (by simp[go_sem]) (by simp[go_sem]) (by simp) (by simp[hN])
 repeat'(first|apply nx|refine zx ?_|rw[zw]|((first|refine hK _ ?_|refine hKp _ _ ?_);clear hK hKp K Kp;try clear hanc anc)|((with_reducible refine And.intro ?_ ?_);exact zb)|((first|refine zr hE fun K Kp hK hKp=>?_|refine zd true mixed hE fun K Kp hK hKp anc hanc=>?_|refine zd false mixed hE fun K Kp hK hKp anc hanc=>?_);simp only[go_sem])|(refine zg (fun hg=>?_) (fun hg=>?_)<;>simp only[go_sem,hg])|(refine zc (fun hc=>?_) (fun hc=>?_)<;>try exact zh hc))
 refine Hold.mk (CallB.newP f19_c (by rfl) (by simp[AV.ids,AV.idsL]) (by simp[exHp,stV,adV,fdV,AObj.ids,AV.ids,AV.idsL]) ?_)
 simp only[exHp,stV,adV,fdV,putL,AObj.ren,AV.ren,AV.renL]
 simp only[go_sem]
 repeat'(first|apply nx|refine zx ?_|rw[zw]|((first|refine hK _ ?_|refine hKp _ _ ?_);clear hK hKp K Kp;try clear hanc anc)|((with_reducible refine And.intro ?_ ?_);exact zb)|((first|refine zr hE fun K Kp hK hKp=>?_|refine zd true mixed hE fun K Kp hK hKp anc hanc=>?_|refine zd false mixed hE fun K Kp hK hKp anc hanc=>?_);simp only[go_sem])|(refine zg (fun hg=>?_) (fun hg=>?_)<;>simp only[go_sem,hg])|(refine zc (fun hc=>?_) (fun hc=>?_)<;>try exact zh hc))
 refine Hold.mk (CallB.dpure [2,3,4,5,6,7,8,9] 16 l3 ?_ ?_ (fun _=>rfl) (fun _=>by simp[AV.snapOkL,AV.snapOk]) rfl ?_)
 ·simp[go_sem,List.mem_cons,List.not_mem_nil,or_false,exM,nml,dtl,trl,iml,fdl,exF,exB,exG,Fd.av,stl,Lf.St.av,stK,exN,adl,Ad.av,bdl,arl,Tx.avL,cInt,cD,Tx.n,Tx.a,Tx.o,nmz,nmx,nmy,nmg,nmr,nmf,nm0]
 ·simp[go_sem]
 simp only[go_sem]
 repeat'(first|apply nx|refine zx ?_|rw[zw]|((first|refine hK _ ?_|refine hKp _ _ ?_);clear hK hKp K Kp;try clear hanc anc)|((with_reducible refine And.intro ?_ ?_);exact zb)|((fail_if_success refine K_stop 10 ?_);(first|refine zr hE fun K Kp hK hKp=>?_|refine zd true mixed hE fun K Kp hK hKp anc hanc=>?_|refine zd false mixed hE fun K Kp hK hKp anc hanc=>?_);simp only[go_sem])|(refine zg (fun hg=>?_) (fun hg=>?_)<;>simp only[go_sem,hg])|(refine zc (fun hc=>?_) (fun hc=>?_)<;>try exact zh hc))
 refine AW.ent (σ':=mkSt [(1,.ptr 0 0),(2,.i 0),(3,.i 0),(6,.i 7),(7,.i 17),(10,.i 1),(11,.i 5)] [(0,.cells [.str ⟨#[77]⟩,.sl [],.sl [],.sl [],.sl [],.sl (fdl [exL1,exL2])])] 2) (fun i=>i) ?_ ?_
 ·refine ent_mk (by simp[go_sem]) (by simp[go_sem]) (by simp) (by simp[hN])
 repeat'(first|apply nx|refine zx ?_|rw[zw]|((first|refine hK _ ?_|refine hKp _ _ ?_);clear hK hKp K Kp;try clear hanc anc)|((with_reducible refine And.intro ?_ ?_);exact zb)|((first|refine zr hE fun K Kp hK hKp=>?_|refine zd false mixed hE fun K Kp hK hKp anc hanc=>?_|(apply zm;exact zu;(first|exact c19|exact c20|exact c11|exact c21);exact zs;exact zl));simp only[go_sem])|(refine zg (fun hg=>?_) (fun hg=>?_)<;>simp only[go_sem,hg])|(refine zc (fun hc=>?_) (fun hc=>?_)<;>try exact zh hc)|(refine K_ret ?_;refine zt hQ ?_))
 rfl
end Go.Proofs.YtffmphmiicnaeaaDoor

namespace Go.Lf
open Go Go.Am
variable {dec:Nat→Nm}
theorem stSz_app (l m:List St):stSz (l++m)=stSz l+stSz m:=by simp[stSz_eq]
theorem fdSz_app (l m:List Fd):fdSz (l++m)=fdSz l+fdSz m:=by simp[fdSz_eq]
theorem lends_sz (v:Vs) (off:Int):∀ cs:List Ad,stSz (cs.flatMap (lendS v off))≤2*cs.length
 | []=>by simp[stSz]
 |c::cs=>by
  have:=lends_sz v off cs
  rw[List.flatMap_cons,stSz_app,List.length_cons]
  have h:stSz (lendS v off c)≤2:=by
   unfold lendS
   split
   ·simp[stSz,St.sz,Ex.sz,Tx.szL,arSz,fdSz]
   ·simp[stSz]
  omega
theorem call_sz {now:List Vs} (h:VB 1024 now) (k:Int) (nm:Nm) (ns:List Nm) (ty:List Tx) (ex:Ex) (th el:List St) (ar:List Ar) (off:Int):stSz (call now k nm ns ty ex th el ar [] off)≤1+ns.length+Tx.szL ty+ex.sz+stSz th+stSz el+arSz ar+3072:=by
 have hl:∀ n v,find now n=some v→v.cs.length≤1024:=fun n v hv=>h v (find_mem hv).1
 unfold call
 split
 ·split
  ·rename_i v hv
   have:=hl _ _ hv
   have:=lends_sz v off v.cs
   simp only[stSz_app,stSz,St.sz,fdSz,List.length_append,List.length_map]
   omega
  ·simp only[stSz,St.sz,fdSz];omega
 ·split
  ·split
   ·rename_i v hv
    have:=hl _ _ hv
    have:=lends_sz v off v.cs
    simp only[stSz_app,stSz,St.sz,fdSz,Ex.sz,List.length_append,List.length_map]
    omega
   ·simp only[stSz,St.sz,fdSz];omega
  ·simp only[stSz,St.sz,fdSz];omega
theorem adSz_app (l m:List Ad):adSz (l++m)=adSz l+adSz m:=by simp[adSz]
theorem arg_sz:∀ l:List Ad,adSz (l.map argOf)≤2*adSz l
 | []=>by simp[adSz]
 |a::l=>by
  have:=arg_sz l
  have h:(argOf a).ty.sz≤1+a.ty.sz:=by
   unfold argOf
   split
   ·simp[Tx.sz,Tx.szL]
   ·split
    ·simp[Tx.sz,Tx.szL]
    ·simp
  have:=a.ty.sz_pos
  simp only[adSz,List.map_cons,List.sum_cons] at*
  omega
mutual
theorem blk_sz (nm:Nm) (ps:List Nm) (bs:List Bd) (hp:ps.length≤1000) (hb:bs.length≤1000):∀ (l:List St) (now:List Vs) (x:Ls),VB 1024 now→stSz l≤1024→stSz (blk dec nm ps bs now l x).1+fdSz (blk dec nm ps bs now l x).2.out≤fdSz x.out+6000*stSz l
 | [],now,x,hv,hl=>by rw[blk];simp[stSz]
 |s::l,now,x,hv,hl=>by
  rw[stSz] at hl
  have h1:=stm_sz nm ps bs hp hb s now x hv (by omega)
  have h3:=(stm_vb (dec:=dec) nm ps bs s now x hv (by omega)).1
  have h2:=blk_sz nm ps bs hp hb l (now++(stm dec nm ps bs now s x).1) (stm dec nm ps bs now s x).2.2 (hv.app h3) (by omega)
  rw[blk,stSz]
  simp only[stSz_app]
  omega
theorem stm_sz (nm:Nm) (ps:List Nm) (bs:List Bd) (hp:ps.length≤1000) (hb:bs.length≤1000):∀ (s:St) (now:List Vs) (x:Ls),VB 1024 now→s.sz≤1024→stSz (stm dec nm ps bs now s x).2.1+fdSz (stm dec nm ps bs now s x).2.2.out≤fdSz x.out+6000*s.sz
 | .mk k n ns ty ex th el ar fn off,now,x,hv,hl=>by
  rw[St.sz] at hl
  rw[stm,St.sz]
  split
  ·split
   ·have:=locs_sz nm ps bs hp hb fn x (by omega)
    simp only[stSz]
    omega
   ·simp only[stSz,(fail_cnt x _ _).2];omega
  ·split
   ·rename_i hf
    obtain rfl:fn=[]:=List.length_eq_zero_iff.1 hf
    rw[fdSz] at hl ⊢
    have h1:=blk_sz nm ps bs hp hb th now x hv (by omega)
    have h2:=blk_sz nm ps bs hp hb el now (blk dec nm ps bs now th x).2 hv (by omega)
    have h3:=arms_sz nm ps bs hp hb ar now (blk dec nm ps bs now el (blk dec nm ps bs now th x).2).2 hv (by omega)
    have h4:=call_sz hv k n ns ty ex (blk dec nm ps bs now th x).1 (blk dec nm ps bs now el (blk dec nm ps bs now th x).2).1 (arms dec nm ps bs now ar (blk dec nm ps bs now el (blk dec nm ps bs now th x).2).2).1 off
    simp only
    omega
   ·simp only[stSz,(fail_cnt x _ _).2];omega
theorem arms_sz (nm:Nm) (ps:List Nm) (bs:List Bd) (hp:ps.length≤1000) (hb:bs.length≤1000):∀ (l:List Ar) (now:List Vs) (x:Ls),VB 1024 now→arSz l≤1024→arSz (arms dec nm ps bs now l x).1+fdSz (arms dec nm ps bs now l x).2.out≤fdSz x.out+6000*arSz l
 | [],now,x,hv,hl=>by rw[arms];simp[arSz]
 |s::l,now,x,hv,hl=>by
  rw[arSz] at hl
  have h1:=arm_sz nm ps bs hp hb s now x hv (by omega)
  have h2:=arms_sz nm ps bs hp hb l now (arm dec nm ps bs now s x).2 hv (by omega)
  rw[arms,arSz]
  simp only[arSz]
  omega
theorem arm_sz (nm:Nm) (ps:List Nm) (bs:List Bd) (hp:ps.length≤1000) (hb:bs.length≤1000):∀ (s:Ar) (now:List Vs) (x:Ls),VB 1024 now→s.sz≤1024→(arm dec nm ps bs now s x).1.sz+fdSz (arm dec nm ps bs now s x).2.out≤fdSz x.out+6000*s.sz
 | .mk v ns b off,now,x,hv,hl=>by
  rw[Ar.sz] at hl
  have h1:=blk_sz nm ps bs hp hb b now x hv (by omega)
  rw[arm,Ar.sz]
  simp only[Ar.sz]
  omega
theorem locs_sz (nm:Nm) (ps:List Nm) (bs:List Bd) (hp:ps.length≤1000) (hb:bs.length≤1000):∀ (l:List Fd) (x:Ls),fdSz l≤1024→fdSz (locs dec nm ps bs l x).2.out≤fdSz x.out+6000*fdSz l
 | [],x,hl=>by rw[locs];simp[fdSz]
 |f::l,x,hl=>by
  rw[fdSz] at hl
  have h1:=loc_sz nm ps bs hp hb f x (by omega)
  rw[locs,fdSz]
  simp only
  omega
theorem loc_sz (nm:Nm) (ps:List Nm) (bs:List Bd) (hp:ps.length≤1000) (hb:bs.length≤1000):∀ (f:Fd) (x:Ls),f.sz≤1024→fdSz (loc dec nm ps bs f x).2.out≤fdSz x.out+6000*f.sz
 | .mk n ps0 bs0 cs ag res b off,x,hl=>by
  rw[Fd.sz] at hl
  rw[loc,Fd.sz]
  simp only[fdSz_app,fdSz,Fd.sz,adSz_app]
  have e0:adSz []=0:=rfl
  have h0:=arg_sz cs
  have hP:(ps.filter fun p=>inN p (Fd.nms (.mk n ps0 bs0 cs ag res b off))).length≤1000:=Nat.le_trans (List.length_filter_le _ _) hp
  have hB:(bs.filter fun b'=>inN b'.p (ps.filter fun p=>inN p (Fd.nms (.mk n ps0 bs0 cs ag res b off)))).length≤1000:=Nat.le_trans (List.length_filter_le _ _) hb
  have h1:=blk_sz (nm++dot++dec x.cnt++dot++n) _ _ hP hB b [] ⟨0,[],(x.failO (chk (cs++ag) off)).err,(x.failO (chk (cs++ag) off)).pos⟩ (fun v hv=>by cases hv) (by omega)
  simp only[fdSz] at h1
  omega
end
theorem top_sz (f:Fd) (h:f.sz≤1000):(topF dec f).1.sz+fdSz (topF dec f).2.out≤7000*f.sz:=by
 obtain⟨nm,ps,bs,cs,ag,res,b,off⟩:=f
 rw[Fd.sz] at h
 have h1:=blk_sz (dec:=dec) nm ps bs (by omega) (by omega) b [] ⟨0,[],0,0⟩ (fun v hv=>by cases hv) (by omega)
 simp only[fdSz] at h1
 simp only[topF,Fd.sz]
 omega
theorem lift_sz:∀ {l:List Fd} {z:List Fd×List Fd},liftL dec l= .ok z→fdSz l≤1000→fdSz z.1+fdSz z.2≤7000*fdSz l
 | [],z,h,hl=>by cases h;simp[fdSz]
 |f::l,z,h,hl=>by
  obtain⟨h1,h2,y,hy,rfl⟩:=liftL_cons h
  rw[fdSz] at hl
  have:=lift_sz hy (by omega)
  have:=top_sz (dec:=dec) f (by omega)
  simp only[fdSz,fdSz_app]
  omega
end Go.Lf

set_option maxHeartbeats 4000000
set_option maxRecDepth 100000
namespace Go.Proofs.YtffmphmiicnaeaaDoor
open Go.Am Go.Proofs Go.Lf
open Classical
attribute [local irreducible] AW CallP CallB
structure LV where
 m:Md
 e:Int
 p:Int
def LV.av (v:LV):AV:= .tup [.agg [.str v.m.nm,.sl (nml v.m.us),.sl (dtl v.m.ds),.sl (trl v.m.ts),.sl (iml v.m.ms),.sl (fdl v.m.fs)],.i v.e,.i v.p]

theorem lift_err:∀ {l:List Lf.Fd} {e:Int×Int},liftL dec l= .error e→e.1≠0
 | [],e,h=>by cases h
 |f::l,e,h=>by
  rw[liftL] at h
  split at h
  ·cases h;show(1:Int)≠0;decide
  ·split at h
   ·rename_i h1
    cases h
    exact h1
   ·split at h
    ·rename_i e' he
     cases h
     exact lift_err he
    ·cases h
end Go.Proofs.YtffmphmiicnaeaaDoor

set_option maxHeartbeats 4000000
set_option maxRecDepth 100000
namespace Go.Lf
open Go Go.Am
def keyL:List Nm:=[⟨#[109,111,100,117,108,101]⟩,⟨#[117,115,101]⟩,⟨#[100,97,116,97]⟩,⟨#[116,114,97,105,116]⟩,⟨#[105,109,112,108]⟩,⟨#[102,111,114]⟩,⟨#[119,104,101,114,101]⟩,⟨#[102,110]⟩,⟨#[108,101,116]⟩,⟨#[105,102]⟩,⟨#[101,108,115,101]⟩,⟨#[119,104,105,108,101]⟩,⟨#[109,97,116,99,104]⟩,⟨#[114,101,116,117,114,110]⟩,⟨#[112,97,110,105,99]⟩,⟨#[100,114,111,112]⟩,⟨#[112,114,105,110,116]⟩,⟨#[115,101,110,100]⟩,⟨#[115,112,97,119,110]⟩,⟨#[110,101,119]⟩,⟨#[98,111,120]⟩,⟨#[117,110,98,111,120]⟩,⟨#[105,110]⟩,⟨#[97,114,101,110,97]⟩,⟨#[97,108,108,111,99]⟩,⟨#[99,104,97,110]⟩,⟨#[114,101,99,118]⟩,⟨#[109,111,118,101]⟩,⟨#[73,110,116]⟩,⟨#[65,114,101,110,97]⟩,⟨#[66,111,120]⟩,⟨#[67,104,97,110]⟩]
def keyB (s:Nm):Bool:=keyL.any fun k=>decide (s=k)
end Go.Lf
namespace Go.Proofs.YtffmphmiicnaeaaDoor
open Go.Am Go.Proofs Go.Lf
open Classical
attribute [local irreducible] AW CallP CallB
theorem between_c (a b c:Int):PCall Tryd.prog 35 [.i a,.i b,.i c] (.bool (decide (a≥b)&&decide (a≤c))):=by
 refine PCall.intro Tryd.func35 rfl isf35 (by simp[Tryd.f35]) (by simp[AV.cloL,AV.clo]) fun E Q hE hN hQ=>K_start ?_
 repeat'(first|apply nx|refine zx ?_|rw[zw]|((first|refine hK _ ?_|refine hKp _ _ ?_);clear hK hKp K Kp;try clear hanc anc)|((with_reducible refine And.intro ?_ ?_);exact zb)|((first|refine zr hE fun K Kp hK hKp=>?_|refine zd false mixed hE fun K Kp hK hKp anc hanc=>?_);simp only[go_sem])|(refine zg (fun hg=>?_) (fun hg=>?_)<;>simp only[go_sem,hg])|(refine zc (fun hc=>?_) (fun hc=>?_)<;>try exact zh hc)|(refine K_ret ?_;refine zt hQ ?_))
 all_goals (clear hQ;simp only[AV.snap, *,Bool.true_and,Bool.false_and])
theorem key_c (s:Nm):PCall Tryd.prog 57 [.str s] (.bool (keyB s)):=by
 refine PCall.intro Tryd.func57 rfl isf57 (by simp[Tryd.f57]) (by simp[AV.cloL,AV.clo]) fun E Q hE hN hQ=>K_start ?_
 repeat'(first|apply nx|refine zx ?_|rw[zw]|((first|refine hK _ ?_|refine hKp _ _ ?_);clear hK hKp K Kp;try clear hanc anc)|((with_reducible refine And.intro ?_ ?_);exact zb)|((first|refine zr hE fun K Kp hK hKp=>?_|refine zd false mixed hE fun K Kp hK hKp anc hanc=>?_);simp only[go_sem])|(refine zg (fun hg=>?_) (fun hg=>?_)<;>simp only[go_sem,hg])|(refine zc (fun hc=>?_) (fun hc=>?_)<;>try exact zh hc)|(refine K_ret ?_;refine zt hQ ?_))
 all_goals (clear hQ;first|(exfalso;simp_all;done)|(simp only[AV.snap,keyB,keyL,List.any_cons,List.any_nil, *,Bool.true_or,Bool.or_true,Bool.false_or];done))
end Go.Proofs.YtffmphmiicnaeaaDoor

set_option maxHeartbeats 4000000
set_option maxRecDepth 100000
namespace Go.Lf
open Go Go.Am
def letB (c:UInt8):Bool:=(decide ((c.toNat:Int)≥97)&&decide ((c.toNat:Int)≤122))||(decide ((c.toNat:Int)≥65)&&decide ((c.toNat:Int)≤90))
def digB (c:UInt8):Bool:=(decide ((c.toNat:Int)≥48)&&decide ((c.toNat:Int)≤57))||((c.toNat:Int)==95)
def nameL:List UInt8→Nat→Bool
 | [],_=>true
 |c::l,i=>if(!letB c&&(((i:Int)==0)||!digB c))=true then false else nameL l (i+1)
def nameB (s:Nm):Bool:=if(((s.size:Int)==0)||decide ((s.size:Int)>24)||keyB s)=true then false else nameL s.data.toList 0
theorem nameL_nd:∀ {l:List UInt8} {i:Nat},nameL l i=true→(46:UInt8)∉l
 | [],i,h=>by simp
 |c::l,i,h=>by
  rw[nameL] at h
  split at h
  ·cases h
  ·rename_i hc
   intro hm
   rcases List.mem_cons.1 hm with rfl|hm
   ·apply hc
    have h1:letB 46=false:=by decide
    have h2:digB 46=false:=by decide
    simp[h1,h2]
   ·exact nameL_nd h hm
theorem nameB_nd {s:Nm} (h:nameB s=true):NoDot s:=by
 unfold nameB at h
 split at h
 ·cases h
 ·intro hm
  exact nameL_nd h (by simpa using hm)
def namesB (l:List Nm):Bool:=l.all nameB
end Go.Lf
namespace Go.Proofs.YtffmphmiicnaeaaDoor
open Go.Am Go.Proofs Go.Lf
open Classical
attribute [local irreducible] AW CallP CallB
theorem name_c (s:Nm):PCall Tryd.prog 33 [.str s] (.bool (nameB s)):=by
 have ck:=key_c s
 by_cases h0:(((s.size:Int)==0)||decide ((s.size:Int)>24)||keyB s)=true
 ·have e:nameB s=false:=by unfold nameB;rw[if_pos h0]
  rw[e]
  by_cases h1:((s.size:Int)==0)=true
  ·refine PCall.intro Tryd.func33 rfl isf33 (by simp[Tryd.f33]) (by simp[AV.cloL,AV.clo]) fun E Q hE hN hQ=>K_start ?_
   repeat'(first|apply nx|refine zx ?_|rw[zw]|((first|refine hK _ ?_|refine hKp _ _ ?_);clear hK hKp K Kp;try clear hanc anc)|((with_reducible refine And.intro ?_ ?_);exact zb)|((first|refine zr hE fun K Kp hK hKp=>?_|refine zd false mixed hE fun K Kp hK hKp anc hanc=>?_);simp only[go_sem,h1])|(refine zg (fun hg=>?_) (fun hg=>?_)<;>simp only[go_sem,h1,hg])|(refine zc (fun hc=>?_) (fun hc=>?_)<;>try exact zh hc)|(refine K_ret ?_;refine zt hQ ?_))
   rfl
  ·have h1':((s.size:Int)==0)=false:=by simpa using h1
   by_cases h2:decide ((s.size:Int)>24)=true
   ·refine PCall.intro Tryd.func33 rfl isf33 (by simp[Tryd.f33]) (by simp[AV.cloL,AV.clo]) fun E Q hE hN hQ=>K_start ?_
    repeat'(first|apply nx|refine zx ?_|rw[zw]|((first|refine hK _ ?_|refine hKp _ _ ?_);clear hK hKp K Kp;try clear hanc anc)|((with_reducible refine And.intro ?_ ?_);exact zb)|((first|refine zr hE fun K Kp hK hKp=>?_|refine zd false mixed hE fun K Kp hK hKp anc hanc=>?_);simp only[go_sem,h1',h2])|(refine zg (fun hg=>?_) (fun hg=>?_)<;>simp only[go_sem,h1',h2,hg])|(refine zc (fun hc=>?_) (fun hc=>?_)<;>try exact zh hc)|(refine K_ret ?_;refine zt hQ ?_))
    rfl
   ·have h2':decide ((s.size:Int)>24)=false:=by simpa using h2
    have h3:keyB s=true:=by simpa [h1',h2'] using h0
    rw[h3] at ck
    refine PCall.intro Tryd.func33 rfl isf33 (by simp[Tryd.f33]) (by simp[AV.cloL,AV.clo]) fun E Q hE hN hQ=>K_start ?_
    repeat'(first|apply nx|refine zx ?_|rw[zw]|((first|refine hK _ ?_|refine hKp _ _ ?_);clear hK hKp K Kp;try clear hanc anc)|((with_reducible refine And.intro ?_ ?_);exact zb)|((first|refine zr hE fun K Kp hK hKp=>?_|refine zd false mixed hE fun K Kp hK hKp anc hanc=>?_|(apply zm;exact zu;exact ck;exact zs;exact zl));simp only[go_sem,h1',h2'])|(refine zg (fun hg=>?_) (fun hg=>?_)<;>simp only[go_sem,h1',h2',hg])|(refine zc (fun hc=>?_) (fun hc=>?_)<;>try exact zh hc)|(refine K_ret ?_;refine zt hQ ?_))
    rfl
 have e:nameB s=nameL s.data.toList 0:=by unfold nameB;rw[if_neg h0]
 rw[e]
 simp only[Bool.or_eq_true,not_or,Bool.not_eq_true] at h0
 obtain⟨⟨h1,h2⟩,h3⟩:=h0
 rw[h3] at ck
 have hsz:s.size≤24:=by have:=of_decide_eq_false h2;omega
 have hsl:s.size=s.data.toList.length:=rfl
 refine PCall.intro Tryd.func33 rfl isf33 (by simp[Tryd.f33]) (by simp[AV.cloL,AV.clo]) fun E Q hE hN hQ=>K_start ?_
 repeat'(first|apply nx|refine zx ?_|rw[zw]|((first|refine hK _ ?_|refine hKp _ _ ?_);clear hK hKp K Kp;try clear hanc anc)|((with_reducible refine And.intro ?_ ?_);exact zb)|((first|refine zr hE fun K Kp hK hKp=>?_|refine zd true mixed hE fun K Kp hK hKp anc hanc=>?_|refine zd false mixed hE fun K Kp hK hKp anc hanc=>?_|(apply zm;exact zu;exact ck;exact zs;exact zl));simp only[go_sem,h1,h2])|(refine zg (fun hg=>?_) (fun hg=>?_)<;>simp only[go_sem,h1,h2,hg])|(refine zc (fun hc=>?_) (fun hc=>?_)<;>try exact zh hc))
 refine K_loop (X:=Nat) (fun i=>i≤s.data.toList.length∧nameL s.data.toList 0=nameL (s.data.toList.drop i) i) (fun i=>mkSt [(0,.str s),(3,.i (i:Nat))] [] 1) (fun i=>s.data.toList.length - i) 0 ⟨Nat.zero_le _,rfl⟩ (fun i=>i) (by refine ent_mk (by simp[go_sem]) (by simp[go_sem]) (by simp) (by simp[hN])) ?_
 rintro i ⟨hi,he⟩
 by_cases hlt:i<s.data.toList.length
 case neg=>
  obtain rfl:i=s.data.toList.length:=by omega
  rw[List.drop_length,nameL] at he
  rw[he] at hQ
  have q:decide (((s.data.toList.length:Nat):Int)<(s.size:Int))=false:=decide_eq_false (by omega)
  repeat'(first|apply nx|refine zx ?_|rw[zw]|((first|refine hK _ ?_|refine hKp _ _ ?_);clear hK hKp K Kp;try clear hanc anc)|((with_reducible refine And.intro ?_ ?_);exact zb)|((first|refine zr hE fun K Kp hK hKp=>?_|refine zd false mixed hE fun K Kp hK hKp anc hanc=>?_);simp only[go_sem,q])|(refine zg (fun hg=>?_) (fun hg=>?_)<;>simp only[go_sem,q,hg])|(refine zc (fun hc=>?_) (fun hc=>?_)<;>try exact zh hc)|(refine K_ret ?_;refine zt hQ ?_))
  rfl
 obtain⟨c,hx⟩:=get?_of hlt
 have q:decide ((i:Int)<(s.size:Int))=true:=decide_eq_true (by omega)
 have u0:=inc_u hlt (by omega)
 rw[drop_of hx,nameL] at he
 by_cases hbad:(!letB c&&(((i:Int)==0)||!digB c))=true
 ·rw[if_pos hbad] at he
  rw[he] at hQ
  unfold letB digB at hbad
  repeat'(first|apply nx|refine zx ?_|rw[zw]|((first|refine hK _ ?_|refine hKp _ _ ?_);clear hK hKp K Kp;try clear hanc anc)|((with_reducible refine And.intro ?_ ?_);exact zb)|((first|refine zr hE fun K Kp hK hKp=>?_|refine zd false mixed hE fun K Kp hK hKp anc hanc=>?_);simp only[go_sem,q,hx])|(refine zg (fun hg=>?_) (fun hg=>?_)<;>simp only[go_sem,q,hx,hg])|(refine zc (fun hc=>?_) (fun hc=>?_)<;>try exact zh hc)|(refine K_ret ?_;refine zt hQ ?_))
  all_goals first|rfl|(exfalso;clear hQ he ck q hsl hsz hx h1 h2;simp_all;done)
 ·rw[if_neg hbad] at he
  unfold letB digB at hbad
  repeat'(first|apply nx|refine zx ?_|rw[zw]|((first|refine hK _ ?_|refine hKp _ _ ?_);clear hK hKp K Kp;try clear hanc anc)|((with_reducible refine And.intro ?_ ?_);exact zb)|((first|refine zr hE fun K Kp hK hKp=>?_|refine zd false mixed hE fun K Kp hK hKp anc hanc=>?_);simp only[go_sem,q,hx,u0])|(refine zg (fun hg=>?_) (fun hg=>?_)<;>simp only[go_sem,q,hx,u0,hg])|(refine zc (fun hc=>?_) (fun hc=>?_)<;>try exact zh hc)|(refine K_ret ?_;refine zt hQ ?_))
  all_goals first|exact⟨i+1,⟨hlt,he⟩,by omega,fun i=>i,by refine ent_mk (by simp[go_sem]) (by simp[go_sem]) (by simp) (by simp[hN])⟩|(exfalso;clear hQ he ck q hsl hsz hx h1 h2;simp_all;done)
end Go.Proofs.YtffmphmiicnaeaaDoor

set_option maxHeartbeats 4000000
set_option maxRecDepth 100000
namespace Go.Lf
open Go Go.Am
def kInt:Nm:=⟨#[73,110,116]⟩
def kArena:Nm:=⟨#[65,114,101,110,97]⟩
def kBox:Nm:=⟨#[66,111,120]⟩
def kChan:Nm:=⟨#[67,104,97,110]⟩
def kRef:Nm:=⟨#[38]⟩
def kMut:Nm:=⟨#[38,33]⟩
mutual
def typeB:Tx→Bool
 | .mk n a _=>
  if(decide (n=kInt)||decide (n=kArena))=true then((a.length:Int)==0)
  else if(decide (n=kBox)||(decide (n=kChan)||(decide (n=kRef)||decide (n=kMut))))=true then((a.length:Int)==1)&&typesB a
  else nameB n&&typesB a
def typesB:List Tx→Bool
 | []=>true
 |t::l=>typeB t&&typesB l
end
def bdlB (l:List Bd):Bool:=l.all fun b=>nameB b.p&&nameB b.t
def agB (cap:Bool) (a:Ad):Bool:=nameB a.nm&&(typeB a.ty&&(decide (a.cp≥0)&&decide (a.cp≤if cap=true then 2 else 0)))
def agsB (cap:Bool) (l:List Ad):Bool:=l.all (agB cap)
end Go.Lf
namespace Go.Proofs.YtffmphmiicnaeaaDoor
open Go.Am Go.Proofs Go.Lf
open Classical
attribute [local irreducible] AW CallP CallB
theorem pnames_c (l:List Nm) (hl:l.length≤2 ^ 40):PCall Tryd.prog 34 [.sl (nml l)] (.bool (namesB l)):=by
 refine PCall.intro Tryd.func34 rfl isf34 (by simp[Tryd.f34]) (by simp[AV.cloL,AV.clo]) fun E Q hE hN hQ=>K_start ?_
 repeat'(first|apply nx|refine zx ?_|rw[zw]|((first|refine hK _ ?_|refine hKp _ _ ?_);clear hK hKp K Kp;try clear hanc anc)|((with_reducible refine And.intro ?_ ?_);exact zb)|((first|refine zr hE fun K Kp hK hKp=>?_|refine zd true mixed hE fun K Kp hK hKp anc hanc=>?_|refine zd false mixed hE fun K Kp hK hKp anc hanc=>?_);simp only[go_sem])|(refine zg (fun hg=>?_) (fun hg=>?_)<;>simp only[go_sem,hg])|(refine zc (fun hc=>?_) (fun hc=>?_)<;>try exact zh hc))
 refine K_loop (X:=Nat) (fun i=>i≤l.length∧namesB l=namesB (l.drop i)) (fun i=>mkSt [(0,.sl (nml l)),(3,.i (i:Nat))] [] 1) (fun i=>l.length - i) 0 ⟨Nat.zero_le _,rfl⟩ (fun i=>i) (by refine ent_mk (by simp[go_sem]) (by simp[go_sem]) (by simp) (by simp[hN])) ?_
 rintro i ⟨hi,he⟩
 by_cases hlt:i<l.length
 case neg=>
  obtain rfl:i=l.length:=by omega
  rw[List.drop_length] at he
  rw[he] at hQ
  repeat'(first|apply nx|refine zx ?_|rw[zw]|((first|refine hK _ ?_|refine hKp _ _ ?_);clear hK hKp K Kp;try clear hanc anc)|((with_reducible refine And.intro ?_ ?_);exact zb)|((first|refine zr hE fun K Kp hK hKp=>?_|refine zd false mixed hE fun K Kp hK hKp anc hanc=>?_);simp only[go_sem,ge_dec])|(refine zg (fun hg=>?_) (fun hg=>?_)<;>simp only[go_sem,ge_dec,hg])|(refine zc (fun hc=>?_) (fun hc=>?_)<;>try exact zh hc)|(refine K_ret ?_;refine zt hQ ?_))
  rfl
 obtain⟨c,hx⟩:=get?_of hlt
 have u0:=inc_u hlt (by omega)
 have cn:=name_c c
 rw[drop_of hx,show namesB (c::l.drop (i+1))=(nameB c&&namesB (l.drop (i+1))) from rfl] at he
 cases hb:nameB c
 ·rw[hb] at he cn
  rw[he] at hQ
  repeat'(first|apply nx|refine zx ?_|rw[zw]|((first|refine hK _ ?_|refine hKp _ _ ?_);clear hK hKp K Kp;try clear hanc anc)|((with_reducible refine And.intro ?_ ?_);exact zb)|((first|refine zr hE fun K Kp hK hKp=>?_|refine zd false mixed hE fun K Kp hK hKp anc hanc=>?_|(apply zm;exact zu;exact cn;exact zs;exact zl));simp only[go_sem,lt_dec hlt,hx])|(refine zg (fun hg=>?_) (fun hg=>?_)<;>simp only[go_sem,lt_dec hlt,hx,hg])|(refine zc (fun hc=>?_) (fun hc=>?_)<;>try exact zh hc)|(refine K_ret ?_;refine zt hQ ?_))
  rfl
 ·rw[hb] at he cn
  repeat'(first|apply nx|refine zx ?_|rw[zw]|((first|refine hK _ ?_|refine hKp _ _ ?_);clear hK hKp K Kp;try clear hanc anc)|((with_reducible refine And.intro ?_ ?_);exact zb)|((first|refine zr hE fun K Kp hK hKp=>?_|refine zd true mixed hE fun K Kp hK hKp anc hanc=>?_|refine zd false mixed hE fun K Kp hK hKp anc hanc=>?_|(apply zm;exact zu;exact cn;exact zs;exact zl));simp only[go_sem,lt_dec hlt,hx,u0])|(refine zg (fun hg=>?_) (fun hg=>?_)<;>simp only[go_sem,lt_dec hlt,hx,u0,hg])|(refine zc (fun hc=>?_) (fun hc=>?_)<;>try exact zh hc))
  exact⟨i+1,⟨hlt,by rw[he];rfl⟩,by omega,fun i=>i,by refine ent_mk (by simp[go_sem]) (by simp[go_sem]) (by simp) (by simp[hN])⟩
theorem types_c' {N:Nat} (h:∀ t:Tx,t.sz<N→PCall Tryd.prog 38 [.agg [.str t.n,.sl (Tx.avL t.a),.i t.o]] (.bool (typeB t))) (l:List Tx) (hl:l.length≤2 ^ 40) (hs:∀ t,t∈l→t.sz<N):PCall Tryd.prog 36 [.sl (Tx.avL l)] (.bool (typesB l)):=by
 refine PCall.intro Tryd.func36 rfl isf36 (by simp[Tryd.f36]) (by simp[AV.cloL,AV.clo]) fun E Q hE hN hQ=>K_start ?_
 repeat'(first|apply nx|refine zx ?_|rw[zw]|((first|refine hK _ ?_|refine hKp _ _ ?_);clear hK hKp K Kp;try clear hanc anc)|((with_reducible refine And.intro ?_ ?_);exact zb)|((first|refine zr hE fun K Kp hK hKp=>?_|refine zd true mixed hE fun K Kp hK hKp anc hanc=>?_|refine zd false mixed hE fun K Kp hK hKp anc hanc=>?_);simp only[go_sem])|(refine zg (fun hg=>?_) (fun hg=>?_)<;>simp only[go_sem,hg])|(refine zc (fun hc=>?_) (fun hc=>?_)<;>try exact zh hc))
 refine K_loop (X:=Nat) (fun i=>i≤l.length∧typesB l=typesB (l.drop i)) (fun i=>mkSt [(0,.sl (Tx.avL l)),(3,.i (i:Nat))] [] 1) (fun i=>l.length - i) 0 ⟨Nat.zero_le _,rfl⟩ (fun i=>i) (by refine ent_mk (by simp[go_sem]) (by simp[go_sem]) (by simp) (by simp[hN])) ?_
 rintro i ⟨hi,he⟩
 by_cases hlt:i<l.length
 case neg=>
  obtain rfl:i=l.length:=by omega
  rw[List.drop_length] at he
  rw[he] at hQ
  repeat'(first|apply nx|refine zx ?_|rw[zw]|((first|refine hK _ ?_|refine hKp _ _ ?_);clear hK hKp K Kp;try clear hanc anc)|((with_reducible refine And.intro ?_ ?_);exact zb)|((first|refine zr hE fun K Kp hK hKp=>?_|refine zd false mixed hE fun K Kp hK hKp anc hanc=>?_);simp only[go_sem,ge_dec])|(refine zg (fun hg=>?_) (fun hg=>?_)<;>simp only[go_sem,ge_dec,hg])|(refine zc (fun hc=>?_) (fun hc=>?_)<;>try exact zh hc)|(refine K_ret ?_;refine zt hQ ?_))
  rfl
 obtain⟨c,hx⟩:=get?_of hlt
 have u0:=inc_u hlt (by omega)
 have cn:=h c (hs c (List.mem_of_getElem? hx))
 rw[drop_of hx,typesB] at he
 obtain⟨n,a,o⟩:=c
 simp only[Tx.n,Tx.a,Tx.o] at cn
 cases hb:typeB (.mk n a o)
 ·rw[hb] at he cn
  rw[he] at hQ
  repeat'(first|apply nx|refine zx ?_|rw[zw]|((first|refine hK _ ?_|refine hKp _ _ ?_);clear hK hKp K Kp;try clear hanc anc)|((with_reducible refine And.intro ?_ ?_);exact zb)|((first|refine zr hE fun K Kp hK hKp=>?_|refine zd false mixed hE fun K Kp hK hKp anc hanc=>?_|(apply zm;exact zu;exact cn;exact zs;exact zl));simp only[go_sem,lt_dec hlt,hx,Tx.av])|(refine zg (fun hg=>?_) (fun hg=>?_)<;>simp only[go_sem,lt_dec hlt,hx,Tx.av,hg])|(refine zc (fun hc=>?_) (fun hc=>?_)<;>try exact zh hc)|(refine K_ret ?_;refine zt hQ ?_))
  rfl
 ·rw[hb] at he cn
  repeat'(first|apply nx|refine zx ?_|rw[zw]|((first|refine hK _ ?_|refine hKp _ _ ?_);clear hK hKp K Kp;try clear hanc anc)|((with_reducible refine And.intro ?_ ?_);exact zb)|((first|refine zr hE fun K Kp hK hKp=>?_|refine zd true mixed hE fun K Kp hK hKp anc hanc=>?_|refine zd false mixed hE fun K Kp hK hKp anc hanc=>?_|(apply zm;exact zu;exact cn;exact zs;exact zl));simp only[go_sem,lt_dec hlt,hx,Tx.av,u0])|(refine zg (fun hg=>?_) (fun hg=>?_)<;>simp only[go_sem,lt_dec hlt,hx,Tx.av,u0,hg])|(refine zc (fun hc=>?_) (fun hc=>?_)<;>try exact zh hc))
  exact⟨i+1,⟨hlt,by rw[he];rfl⟩,by omega,fun i=>i,by refine ent_mk (by simp[go_sem]) (by simp[go_sem]) (by simp) (by simp[hN])⟩
theorem type_c:∀ (N:Nat),N≤2 ^ 40→∀ t:Tx,t.sz<N→PCall Tryd.prog 38 [.agg [.str t.n,.sl (Tx.avL t.a),.i t.o]] (.bool (typeB t)):=by
 intro N
 induction N with
 |zero=>intro _ t h;omega
 |succ N IH=>
  rintro hN1 ⟨n,a,o⟩ hs
  rw[Tx.sz] at hs
  have hla:=Tx.len_le a
  have ct:=types_c' (fun t h=>IH (by omega) t h) a (by omega) (fun t ht=>by have:=Tx.mem_le ht;omega)
  have cn:=name_c n
  simp only[Tx.n,Tx.a,Tx.o]
  rw[typeB]
  by_cases h1:(decide (n=kInt)||decide (n=kArena))=true
  ·rw[if_pos h1]
   unfold kInt kArena at h1
   by_cases h2:decide (n=⟨#[73,110,116]⟩)=true
   ·refine PCall.intro Tryd.func38 rfl isf38 (by simp[Tryd.f38]) (by simp[AV.cloL,AV.clo]) fun E Q hE hN hQ=>K_start ?_
    repeat'(first|apply nx|refine zx ?_|rw[zw]|((first|refine hK _ ?_|refine hKp _ _ ?_);clear hK hKp K Kp;try clear hanc anc)|((with_reducible refine And.intro ?_ ?_);exact zb)|((first|refine zr hE fun K Kp hK hKp=>?_|refine zd false mixed hE fun K Kp hK hKp anc hanc=>?_);simp only[go_sem,h2])|(refine zg (fun hg=>?_) (fun hg=>?_)<;>simp only[go_sem,h2,hg])|(refine zc (fun hc=>?_) (fun hc=>?_)<;>try exact zh hc)|(refine K_ret ?_;refine zt hQ ?_))
    rfl
   ·have h2':=eq_false_of_ne_true h2
    have h3:decide (n=⟨#[65,114,101,110,97]⟩)=true:=by rw[h2'] at h1;simpa using h1
    refine PCall.intro Tryd.func38 rfl isf38 (by simp[Tryd.f38]) (by simp[AV.cloL,AV.clo]) fun E Q hE hN hQ=>K_start ?_
    repeat'(first|apply nx|refine zx ?_|rw[zw]|((first|refine hK _ ?_|refine hKp _ _ ?_);clear hK hKp K Kp;try clear hanc anc)|((with_reducible refine And.intro ?_ ?_);exact zb)|((first|refine zr hE fun K Kp hK hKp=>?_|refine zd false mixed hE fun K Kp hK hKp anc hanc=>?_);simp only[go_sem,h2',h3])|(refine zg (fun hg=>?_) (fun hg=>?_)<;>simp only[go_sem,h2',h3,hg])|(refine zc (fun hc=>?_) (fun hc=>?_)<;>try exact zh hc)|(refine K_ret ?_;refine zt hQ ?_))
    rfl
  rw[if_neg h1]
  simp only[Bool.or_eq_true,not_or,Bool.not_eq_true] at h1
  obtain⟨e1,e2⟩:=h1
  unfold kInt at e1
  unfold kArena at e2
  split
  ·rename_i h4
   have key:∀ r:Bool,(((a.length:Int)==1)&&typesB a)=r→PCall Tryd.prog 38 [.agg [.str n,.sl (Tx.avL a),.i o]] (.bool r):=by
    intro r hr
    have hone:((a.length:Int)==1)=true→∃ t,a=[t]∧typesB a=typeB t:=fun h=>by
     match a,h with
     | [t],_=>exact⟨t,rfl,by rw[typesB,typesB,Bool.and_true]⟩
     | [],h=>exact absurd h (by decide)
     |_::_::l,h=>simp at h;omega
    unfold kBox kChan kRef kMut at h4
    cases hl1:((a.length:Int)==1) with
    |false=>
     rw[hl1] at hr
     simp only[Bool.false_and] at hr
     subst hr
     cases b1:decide (n=⟨#[66,111,120]⟩)
     ·cases b2:decide (n=⟨#[67,104,97,110]⟩)
      ·cases b3:decide (n=⟨#[38]⟩)
       ·have b4:decide (n=⟨#[38,33]⟩)=true:=by rw[b1,b2,b3] at h4;simpa only[Bool.false_or] using h4
        refine PCall.intro Tryd.func38 rfl isf38 (by simp[Tryd.f38]) (by simp[AV.cloL,AV.clo]) fun E Q hE hN hQ=>K_start ?_
        repeat'(first|apply nx|refine zx ?_|rw[zw]|((first|refine hK _ ?_|refine hKp _ _ ?_);clear hK hKp K Kp;try clear hanc anc)|((with_reducible refine And.intro ?_ ?_);exact zb)|((first|refine zr hE fun K Kp hK hKp=>?_|refine zd false mixed hE fun K Kp hK hKp anc hanc=>?_);simp only[go_sem,e1,e2,b1,b2,b3,b4,hl1])|(refine zg (fun hg=>?_) (fun hg=>?_)<;>simp only[go_sem,e1,e2,b1,b2,b3,b4,hl1,hg])|(refine zc (fun hc=>?_) (fun hc=>?_)<;>try exact zh hc)|(refine K_ret ?_;refine zt hQ ?_))
        rfl
       ·refine PCall.intro Tryd.func38 rfl isf38 (by simp[Tryd.f38]) (by simp[AV.cloL,AV.clo]) fun E Q hE hN hQ=>K_start ?_
        repeat'(first|apply nx|refine zx ?_|rw[zw]|((first|refine hK _ ?_|refine hKp _ _ ?_);clear hK hKp K Kp;try clear hanc anc)|((with_reducible refine And.intro ?_ ?_);exact zb)|((first|refine zr hE fun K Kp hK hKp=>?_|refine zd false mixed hE fun K Kp hK hKp anc hanc=>?_);simp only[go_sem,e1,e2,b1,b2,b3,hl1])|(refine zg (fun hg=>?_) (fun hg=>?_)<;>simp only[go_sem,e1,e2,b1,b2,b3,hl1,hg])|(refine zc (fun hc=>?_) (fun hc=>?_)<;>try exact zh hc)|(refine K_ret ?_;refine zt hQ ?_))
        rfl
      ·refine PCall.intro Tryd.func38 rfl isf38 (by simp[Tryd.f38]) (by simp[AV.cloL,AV.clo]) fun E Q hE hN hQ=>K_start ?_
       repeat'(first|apply nx|refine zx ?_|rw[zw]|((first|refine hK _ ?_|refine hKp _ _ ?_);clear hK hKp K Kp;try clear hanc anc)|((with_reducible refine And.intro ?_ ?_);exact zb)|((first|refine zr hE fun K Kp hK hKp=>?_|refine zd false mixed hE fun K Kp hK hKp anc hanc=>?_);simp only[go_sem,e1,e2,b1,b2,hl1])|(refine zg (fun hg=>?_) (fun hg=>?_)<;>simp only[go_sem,e1,e2,b1,b2,hl1,hg])|(refine zc (fun hc=>?_) (fun hc=>?_)<;>try exact zh hc)|(refine K_ret ?_;refine zt hQ ?_))
       rfl
     ·refine PCall.intro Tryd.func38 rfl isf38 (by simp[Tryd.f38]) (by simp[AV.cloL,AV.clo]) fun E Q hE hN hQ=>K_start ?_
      repeat'(first|apply nx|refine zx ?_|rw[zw]|((first|refine hK _ ?_|refine hKp _ _ ?_);clear hK hKp K Kp;try clear hanc anc)|((with_reducible refine And.intro ?_ ?_);exact zb)|((first|refine zr hE fun K Kp hK hKp=>?_|refine zd false mixed hE fun K Kp hK hKp anc hanc=>?_);simp only[go_sem,e1,e2,b1,hl1])|(refine zg (fun hg=>?_) (fun hg=>?_)<;>simp only[go_sem,e1,e2,b1,hl1,hg])|(refine zc (fun hc=>?_) (fun hc=>?_)<;>try exact zh hc)|(refine K_ret ?_;refine zt hQ ?_))
      rfl
    |true=>
     obtain⟨t,rfl,ht⟩:=hone hl1
     rw[hl1,ht,Bool.true_and] at hr
     have c1:=IH (by omega) t (by simp only[Tx.szL] at hs;omega)
     rw[hr] at c1
     have hq1:(((1:Nat):Int)==1)=true:=by decide
     obtain⟨n1,a1,o1⟩:=t
     simp only[Tx.n,Tx.a,Tx.o] at c1
     cases b1:decide (n=⟨#[66,111,120]⟩)
     ·cases b2:decide (n=⟨#[67,104,97,110]⟩)
      ·cases b3:decide (n=⟨#[38]⟩)
       ·have b4:decide (n=⟨#[38,33]⟩)=true:=by rw[b1,b2,b3] at h4;simpa only[Bool.false_or] using h4
        refine PCall.intro Tryd.func38 rfl isf38 (by simp[Tryd.f38]) (by simp[AV.cloL,AV.clo]) fun E Q hE hN hQ=>K_start ?_
        repeat'(first|apply nx|refine zx ?_|rw[zw]|((first|refine hK _ ?_|refine hKp _ _ ?_);clear hK hKp K Kp;try clear hanc anc)|((with_reducible refine And.intro ?_ ?_);exact zb)|((first|refine zr hE fun K Kp hK hKp=>?_|refine zd false mixed hE fun K Kp hK hKp anc hanc=>?_|(apply zm;exact zu;exact c1;exact zs;exact zl));simp only[go_sem,e1,e2,b1,b2,b3,b4,hq1,Tx.avL,Tx.av])|(refine zg (fun hg=>?_) (fun hg=>?_)<;>simp only[go_sem,e1,e2,b1,b2,b3,b4,hq1,Tx.avL,Tx.av,hg])|(refine zc (fun hc=>?_) (fun hc=>?_)<;>try exact zh hc)|(refine K_ret ?_;refine zt hQ ?_))
        rfl
       ·refine PCall.intro Tryd.func38 rfl isf38 (by simp[Tryd.f38]) (by simp[AV.cloL,AV.clo]) fun E Q hE hN hQ=>K_start ?_
        repeat'(first|apply nx|refine zx ?_|rw[zw]|((first|refine hK _ ?_|refine hKp _ _ ?_);clear hK hKp K Kp;try clear hanc anc)|((with_reducible refine And.intro ?_ ?_);exact zb)|((first|refine zr hE fun K Kp hK hKp=>?_|refine zd false mixed hE fun K Kp hK hKp anc hanc=>?_|(apply zm;exact zu;exact c1;exact zs;exact zl));simp only[go_sem,e1,e2,b1,b2,b3,hq1,Tx.avL,Tx.av])|(refine zg (fun hg=>?_) (fun hg=>?_)<;>simp only[go_sem,e1,e2,b1,b2,b3,hq1,Tx.avL,Tx.av,hg])|(refine zc (fun hc=>?_) (fun hc=>?_)<;>try exact zh hc)|(refine K_ret ?_;refine zt hQ ?_))
        rfl
      ·refine PCall.intro Tryd.func38 rfl isf38 (by simp[Tryd.f38]) (by simp[AV.cloL,AV.clo]) fun E Q hE hN hQ=>K_start ?_
       repeat'(first|apply nx|refine zx ?_|rw[zw]|((first|refine hK _ ?_|refine hKp _ _ ?_);clear hK hKp K Kp;try clear hanc anc)|((with_reducible refine And.intro ?_ ?_);exact zb)|((first|refine zr hE fun K Kp hK hKp=>?_|refine zd false mixed hE fun K Kp hK hKp anc hanc=>?_|(apply zm;exact zu;exact c1;exact zs;exact zl));simp only[go_sem,e1,e2,b1,b2,hq1,Tx.avL,Tx.av])|(refine zg (fun hg=>?_) (fun hg=>?_)<;>simp only[go_sem,e1,e2,b1,b2,hq1,Tx.avL,Tx.av,hg])|(refine zc (fun hc=>?_) (fun hc=>?_)<;>try exact zh hc)|(refine K_ret ?_;refine zt hQ ?_))
       rfl
     ·refine PCall.intro Tryd.func38 rfl isf38 (by simp[Tryd.f38]) (by simp[AV.cloL,AV.clo]) fun E Q hE hN hQ=>K_start ?_
      repeat'(first|apply nx|refine zx ?_|rw[zw]|((first|refine hK _ ?_|refine hKp _ _ ?_);clear hK hKp K Kp;try clear hanc anc)|((with_reducible refine And.intro ?_ ?_);exact zb)|((first|refine zr hE fun K Kp hK hKp=>?_|refine zd false mixed hE fun K Kp hK hKp anc hanc=>?_|(apply zm;exact zu;exact c1;exact zs;exact zl));simp only[go_sem,e1,e2,b1,hq1,Tx.avL,Tx.av])|(refine zg (fun hg=>?_) (fun hg=>?_)<;>simp only[go_sem,e1,e2,b1,hq1,Tx.avL,Tx.av,hg])|(refine zc (fun hc=>?_) (fun hc=>?_)<;>try exact zh hc)|(refine K_ret ?_;refine zt hQ ?_))
      rfl
   exact key _ rfl
  ·rename_i h4
   simp only[Bool.or_eq_true,not_or,Bool.not_eq_true] at h4
   obtain⟨f1,f2,f3,f4⟩:=h4
   unfold kBox at f1
   unfold kChan at f2
   unfold kRef at f3
   unfold kMut at f4
   cases hb:nameB n
   ·rw[hb] at cn
    rw[Bool.false_and]
    refine PCall.intro Tryd.func38 rfl isf38 (by simp[Tryd.f38]) (by simp[AV.cloL,AV.clo]) fun E Q hE hN hQ=>K_start ?_
    repeat'(first|apply nx|refine zx ?_|rw[zw]|((first|refine hK _ ?_|refine hKp _ _ ?_);clear hK hKp K Kp;try clear hanc anc)|((with_reducible refine And.intro ?_ ?_);exact zb)|((first|refine zr hE fun K Kp hK hKp=>?_|refine zd false mixed hE fun K Kp hK hKp anc hanc=>?_|(apply zm;exact zu;exact cn;exact zs;exact zl));simp only[go_sem,e1,e2,f1,f2,f3,f4])|(refine zg (fun hg=>?_) (fun hg=>?_)<;>simp only[go_sem,e1,e2,f1,f2,f3,f4,hg])|(refine zc (fun hc=>?_) (fun hc=>?_)<;>try exact zh hc)|(refine K_ret ?_;refine zt hQ ?_))
    rfl
   ·rw[hb] at cn
    rw[Bool.true_and]
    refine PCall.intro Tryd.func38 rfl isf38 (by simp[Tryd.f38]) (by simp[AV.cloL,AV.clo]) fun E Q hE hN hQ=>K_start ?_
    repeat'(first|apply nx|refine zx ?_|rw[zw]|((first|refine hK _ ?_|refine hKp _ _ ?_);clear hK hKp K Kp;try clear hanc anc)|((with_reducible refine And.intro ?_ ?_);exact zb)|((first|refine zr hE fun K Kp hK hKp=>?_|refine zd false mixed hE fun K Kp hK hKp anc hanc=>?_|(apply zm;exact zu;(first|exact cn|exact ct);exact zs;exact zl));simp only[go_sem,e1,e2,f1,f2,f3,f4])|(refine zg (fun hg=>?_) (fun hg=>?_)<;>simp only[go_sem,e1,e2,f1,f2,f3,f4,hg])|(refine zc (fun hc=>?_) (fun hc=>?_)<;>try exact zh hc)|(refine K_ret ?_;refine zt hQ ?_))
    rfl
end Go.Proofs.YtffmphmiicnaeaaDoor

set_option maxHeartbeats 4000000
set_option maxRecDepth 100000
namespace Go.Lf
open Go Go.Am
def neq0 (n:Nm):Bool:=!decide (n=⟨#[]⟩)
def exSh (x:Ex):AV:= .tup [.bool (neq0 x.op),.bool (neq0 x.nm),.bool (neq0 x.vr),.bool (x.num !=0),.i x.ns.length,.i (x.ty.length:Nat)]
def emptyB (x:Ex):Bool:=(x.k==0)&&!neq0 x.op&&!neq0 x.nm&&!neq0 x.vr&&!(x.num !=0)&&((x.ns.length:Int)==0)&&((x.ty.length:Int)==0)
end Go.Lf
namespace Go.Proofs.YtffmphmiicnaeaaDoor
open Go.Am Go.Proofs Go.Lf
open Classical
attribute [local irreducible] AW CallP CallB
theorem types_c (l:List Tx) (hl:Tx.szL l≤2 ^ 30):PCall Tryd.prog 36 [.sl (Tx.avL l)] (.bool (typesB l)):=by
 have:=Tx.len_le l
 exact types_c' (fun t h=>type_c (2 ^ 40) (Nat.le_refl _) t h) l (by omega) (fun t ht=>by have:=Tx.mem_le ht;omega)
theorem bounds_c (l:List Bd) (hl:l.length≤2 ^ 40):PCall Tryd.prog 37 [.sl (bdl l)] (.bool (bdlB l)):=by
 refine PCall.intro Tryd.func37 rfl isf37 (by simp[Tryd.f37]) (by simp[AV.cloL,AV.clo]) fun E Q hE hN hQ=>K_start ?_
 repeat'(first|apply nx|refine zx ?_|rw[zw]|((first|refine hK _ ?_|refine hKp _ _ ?_);clear hK hKp K Kp;try clear hanc anc)|((with_reducible refine And.intro ?_ ?_);exact zb)|((first|refine zr hE fun K Kp hK hKp=>?_|refine zd true mixed hE fun K Kp hK hKp anc hanc=>?_|refine zd false mixed hE fun K Kp hK hKp anc hanc=>?_);simp only[go_sem])|(refine zg (fun hg=>?_) (fun hg=>?_)<;>simp only[go_sem,hg])|(refine zc (fun hc=>?_) (fun hc=>?_)<;>try exact zh hc))
 refine K_loop (X:=Nat) (fun i=>i≤l.length∧bdlB l=bdlB (l.drop i)) (fun i=>mkSt [(0,.sl (bdl l)),(3,.i (i:Nat))] [] 1) (fun i=>l.length - i) 0 ⟨Nat.zero_le _,rfl⟩ (fun i=>i) (by refine ent_mk (by simp[go_sem]) (by simp[go_sem]) (by simp) (by simp[hN])) ?_
 rintro i ⟨hi,he⟩
 by_cases hlt:i<l.length
 case neg=>
  obtain rfl:i=l.length:=by omega
  rw[List.drop_length] at he
  rw[he] at hQ
  repeat'(first|apply nx|refine zx ?_|rw[zw]|((first|refine hK _ ?_|refine hKp _ _ ?_);clear hK hKp K Kp;try clear hanc anc)|((with_reducible refine And.intro ?_ ?_);exact zb)|((first|refine zr hE fun K Kp hK hKp=>?_|refine zd false mixed hE fun K Kp hK hKp anc hanc=>?_);simp only[go_sem,ge_dec])|(refine zg (fun hg=>?_) (fun hg=>?_)<;>simp only[go_sem,ge_dec,hg])|(refine zc (fun hc=>?_) (fun hc=>?_)<;>try exact zh hc)|(refine K_ret ?_;refine zt hQ ?_))
  rfl
 obtain⟨c,hx⟩:=get?_of hlt
 have u0:=inc_u hlt (by omega)
 have cn:=name_c c.p
 have cm:=name_c c.t
 rw[drop_of hx,show bdlB (c::l.drop (i+1))=((nameB c.p&&nameB c.t)&&bdlB (l.drop (i+1))) from rfl] at he
 cases hb:nameB c.p
 ·rw[hb] at he cn
  rw[he] at hQ
  repeat'(first|apply nx|refine zx ?_|rw[zw]|((first|refine hK _ ?_|refine hKp _ _ ?_);clear hK hKp K Kp;try clear hanc anc)|((with_reducible refine And.intro ?_ ?_);exact zb)|((first|refine zr hE fun K Kp hK hKp=>?_|refine zd false mixed hE fun K Kp hK hKp anc hanc=>?_|(apply zm;exact zu;exact cn;exact zs;exact zl));simp only[go_sem,lt_dec hlt,hx,Bd.av])|(refine zg (fun hg=>?_) (fun hg=>?_)<;>simp only[go_sem,lt_dec hlt,hx,Bd.av,hg])|(refine zc (fun hc=>?_) (fun hc=>?_)<;>try exact zh hc)|(refine K_ret ?_;refine zt hQ ?_))
  rfl
 ·cases hb2:nameB c.t
  ·rw[hb] at he cn
   rw[hb2] at he cm
   rw[he] at hQ
   repeat'(first|apply nx|refine zx ?_|rw[zw]|((first|refine hK _ ?_|refine hKp _ _ ?_);clear hK hKp K Kp;try clear hanc anc)|((with_reducible refine And.intro ?_ ?_);exact zb)|((first|refine zr hE fun K Kp hK hKp=>?_|refine zd false mixed hE fun K Kp hK hKp anc hanc=>?_|(apply zm;exact zu;(first|exact cn|exact cm);exact zs;exact zl));simp only[go_sem,lt_dec hlt,hx,Bd.av])|(refine zg (fun hg=>?_) (fun hg=>?_)<;>simp only[go_sem,lt_dec hlt,hx,Bd.av,hg])|(refine zc (fun hc=>?_) (fun hc=>?_)<;>try exact zh hc)|(refine K_ret ?_;refine zt hQ ?_))
   rfl
  ·rw[hb] at he cn
   rw[hb2] at he cm
   repeat'(first|apply nx|refine zx ?_|rw[zw]|((first|refine hK _ ?_|refine hKp _ _ ?_);clear hK hKp K Kp;try clear hanc anc)|((with_reducible refine And.intro ?_ ?_);exact zb)|((first|refine zr hE fun K Kp hK hKp=>?_|refine zd true mixed hE fun K Kp hK hKp anc hanc=>?_|refine zd false mixed hE fun K Kp hK hKp anc hanc=>?_|(apply zm;exact zu;(first|exact cn|exact cm);exact zs;exact zl));simp only[go_sem,lt_dec hlt,hx,u0,Bd.av])|(refine zg (fun hg=>?_) (fun hg=>?_)<;>simp only[go_sem,lt_dec hlt,hx,u0,Bd.av,hg])|(refine zc (fun hc=>?_) (fun hc=>?_)<;>try exact zh hc))
   exact⟨i+1,⟨hlt,by rw[he];rfl⟩,by omega,fun i=>i,by refine ent_mk (by simp[go_sem]) (by simp[go_sem]) (by simp) (by simp[hN])⟩
theorem args_c (cap:Bool) (l:List Ad) (hl:adSz l≤2 ^ 30):PCall Tryd.prog 58 [.sl (adl l),.bool cap] (.bool (agsB cap l)):=by
 have hln:=ad_len_le l
 refine PCall.intro Tryd.func58 rfl isf58 (by simp[Tryd.f58]) (by simp[AV.cloL,AV.clo]) fun E Q hE hN hQ=>K_start ?_
 repeat'(first|apply nx|refine zx ?_|rw[zw]|((first|refine hK _ ?_|refine hKp _ _ ?_);clear hK hKp K Kp;try clear hanc anc)|((with_reducible refine And.intro ?_ ?_);exact zb)|((first|refine zr hE fun K Kp hK hKp=>?_|refine zd true mixed hE fun K Kp hK hKp anc hanc=>?_|refine zd false mixed hE fun K Kp hK hKp anc hanc=>?_);simp only[go_sem])|(refine zg (fun hg=>?_) (fun hg=>?_)<;>simp only[go_sem,hg])|(refine zc (fun hc=>?_) (fun hc=>?_)<;>try exact zh hc))
 refine K_loop (X:=Nat) (fun i=>i≤l.length∧agsB cap l=agsB cap (l.drop i)) (fun i=>mkSt [(0,.sl (adl l)),(1,.bool cap),(5,.i (i:Nat))] [] 1) (fun i=>l.length - i) 0 ⟨Nat.zero_le _,rfl⟩ (fun i=>i) (by refine ent_mk (by simp[go_sem]) (by simp[go_sem]) (by simp) (by simp[hN])) ?_
 rintro i ⟨hi,he⟩
 by_cases hlt:i<l.length
 case neg=>
  obtain rfl:i=l.length:=by omega
  rw[List.drop_length] at he
  rw[he] at hQ
  repeat'(first|apply nx|refine zx ?_|rw[zw]|((first|refine hK _ ?_|refine hKp _ _ ?_);clear hK hKp K Kp;try clear hanc anc)|((with_reducible refine And.intro ?_ ?_);exact zb)|((first|refine zr hE fun K Kp hK hKp=>?_|refine zd false mixed hE fun K Kp hK hKp anc hanc=>?_);simp only[go_sem,ge_dec])|(refine zg (fun hg=>?_) (fun hg=>?_)<;>simp only[go_sem,ge_dec,hg])|(refine zc (fun hc=>?_) (fun hc=>?_)<;>try exact zh hc)|(refine K_ret ?_;refine zt hQ ?_))
  rfl
 obtain⟨c,hx⟩:=get?_of hlt
 have u0:=inc_u hlt (by omega)
 have hcs:c.ty.sz≤adSz l:=sum_mem (f:=fun a:Ad=>a.ty.sz) (List.mem_of_getElem? hx)
 have cn:=name_c c.nm
 have cm:=type_c (2 ^ 40) (Nat.le_refl _) c.ty (by omega)
 rw[drop_of hx,show agsB cap (c::l.drop (i+1))=(agB cap c&&agsB cap (l.drop (i+1))) from rfl] at he
 have cb:PCall Tryd.prog 35 [.i c.cp,.i 0,.i (if cap=true then 2 else 0)] (.bool (decide (c.cp≥0)&&decide (c.cp≤if cap=true then 2 else 0))):=between_c _ _ _
 have hag:agB cap c=(nameB c.nm&&(typeB c.ty&&(decide (c.cp≥0)&&decide (c.cp≤if cap=true then 2 else 0)))):=rfl
 generalize (decide (c.cp≥0)&&decide (c.cp≤if cap=true then 2 else 0))=r at cb hag
 rw[hag] at he
 have fin:∀ b:Bool,agsB cap l=b→PCall Tryd.prog 58 [.sl (adl l),.bool cap] (.bool b)→True:=fun _ _ _=>trivial
 cases hb:nameB c.nm
 ·rw[hb] at he cn
  rw[he] at hQ
  cases cap<;>
  (
  repeat'(first|apply nx|refine zx ?_|rw[zw]|((first|refine hK _ ?_|refine hKp _ _ ?_);clear hK hKp K Kp;try clear hanc anc)|((with_reducible refine And.intro ?_ ?_);exact zb)|((first|refine zr hE fun K Kp hK hKp=>?_|refine zd false mixed hE fun K Kp hK hKp anc hanc=>?_|(apply zm;exact zu;exact cn;exact zs;exact zl));simp only[go_sem,lt_dec hlt,hx,Ad.av])|(refine zg (fun hg=>?_) (fun hg=>?_)<;>simp only[go_sem,lt_dec hlt,hx,Ad.av,hg])|(refine zc (fun hc=>?_) (fun hc=>?_)<;>try exact zh hc)|(refine K_ret ?_;refine zt hQ ?_))
  rfl)
 cases hb2:typeB c.ty
 ·rw[hb] at he cn
  rw[hb2] at he cm
  rw[he] at hQ
  cases cap
  ·repeat'(first|apply nx|refine zx ?_|rw[zw]|((first|refine hK _ ?_|refine hKp _ _ ?_);clear hK hKp K Kp;try clear hanc anc)|((with_reducible refine And.intro ?_ ?_);exact zb)|((first|refine zr hE fun K Kp hK hKp=>?_|refine zd false mixed hE fun K Kp hK hKp anc hanc=>?_|(apply zm;exact zu;(first|exact cn|exact cm);exact zs;exact zl));simp only[go_sem,lt_dec hlt,hx,Ad.av])|(refine zg (fun hg=>?_) (fun hg=>?_)<;>simp only[go_sem,lt_dec hlt,hx,Ad.av,hg])|(refine zc (fun hc=>?_) (fun hc=>?_)<;>try exact zh hc)|(refine K_ret ?_;refine zt hQ ?_))
   rfl
  ·repeat'(first|apply nx|refine zx ?_|rw[zw]|((first|refine hK _ ?_|refine hKp _ _ ?_);clear hK hKp K Kp;try clear hanc anc)|((with_reducible refine And.intro ?_ ?_);exact zb)|((first|refine zr hE fun K Kp hK hKp=>?_|refine zd false mixed hE fun K Kp hK hKp anc hanc=>?_|(apply zm;exact zu;(first|exact cn|exact cm);exact zs;exact zl));simp only[go_sem,lt_dec hlt,hx,Ad.av])|(refine zg (fun hg=>?_) (fun hg=>?_)<;>simp only[go_sem,lt_dec hlt,hx,Ad.av,hg])|(refine zc (fun hc=>?_) (fun hc=>?_)<;>try exact zh hc)|(refine K_ret ?_;refine zt hQ ?_))
   rfl
 rw[hb] at he cn
 rw[hb2] at he cm
 cases r
 ·rw[he] at hQ
  cases cap
  ·simp only[Bool.false_eq_true, ↓reduceIte] at cb
   repeat'(first|apply nx|refine zx ?_|rw[zw]|((first|refine hK _ ?_|refine hKp _ _ ?_);clear hK hKp K Kp;try clear hanc anc)|((with_reducible refine And.intro ?_ ?_);exact zb)|((first|refine zr hE fun K Kp hK hKp=>?_|refine zd false mixed hE fun K Kp hK hKp anc hanc=>?_|(apply zm;exact zu;(first|exact cn|exact cm|exact cb);exact zs;exact zl));simp only[go_sem,lt_dec hlt,hx,Ad.av])|(refine zg (fun hg=>?_) (fun hg=>?_)<;>simp only[go_sem,lt_dec hlt,hx,Ad.av,hg])|(refine zc (fun hc=>?_) (fun hc=>?_)<;>try exact zh hc)|(refine K_ret ?_;refine zt hQ ?_))
   rfl
  ·simp only[↓reduceIte] at cb
   repeat'(first|apply nx|refine zx ?_|rw[zw]|((first|refine hK _ ?_|refine hKp _ _ ?_);clear hK hKp K Kp;try clear hanc anc)|((with_reducible refine And.intro ?_ ?_);exact zb)|((first|refine zr hE fun K Kp hK hKp=>?_|refine zd false mixed hE fun K Kp hK hKp anc hanc=>?_|(apply zm;exact zu;(first|exact cn|exact cm|exact cb);exact zs;exact zl));simp only[go_sem,lt_dec hlt,hx,Ad.av])|(refine zg (fun hg=>?_) (fun hg=>?_)<;>simp only[go_sem,lt_dec hlt,hx,Ad.av,hg])|(refine zc (fun hc=>?_) (fun hc=>?_)<;>try exact zh hc)|(refine K_ret ?_;refine zt hQ ?_))
   rfl
 ·cases cap
  ·simp only[Bool.false_eq_true, ↓reduceIte] at cb
   repeat'(first|apply nx|refine zx ?_|rw[zw]|((first|refine hK _ ?_|refine hKp _ _ ?_);clear hK hKp K Kp;try clear hanc anc)|((with_reducible refine And.intro ?_ ?_);exact zb)|((first|refine zr hE fun K Kp hK hKp=>?_|refine zd true mixed hE fun K Kp hK hKp anc hanc=>?_|refine zd false mixed hE fun K Kp hK hKp anc hanc=>?_|(apply zm;exact zu;(first|exact cn|exact cm|exact cb);exact zs;exact zl));simp only[go_sem,lt_dec hlt,hx,u0,Ad.av])|(refine zg (fun hg=>?_) (fun hg=>?_)<;>simp only[go_sem,lt_dec hlt,hx,u0,Ad.av,hg])|(refine zc (fun hc=>?_) (fun hc=>?_)<;>try exact zh hc))
   exact⟨i+1,⟨hlt,by rw[he];rfl⟩,by omega,fun i=>i,by refine ent_mk (by simp[go_sem]) (by simp[go_sem]) (by simp) (by simp[hN])⟩
  ·simp only[↓reduceIte] at cb
   repeat'(first|apply nx|refine zx ?_|rw[zw]|((first|refine hK _ ?_|refine hKp _ _ ?_);clear hK hKp K Kp;try clear hanc anc)|((with_reducible refine And.intro ?_ ?_);exact zb)|((first|refine zr hE fun K Kp hK hKp=>?_|refine zd true mixed hE fun K Kp hK hKp anc hanc=>?_|refine zd false mixed hE fun K Kp hK hKp anc hanc=>?_|(apply zm;exact zu;(first|exact cn|exact cm|exact cb);exact zs;exact zl));simp only[go_sem,lt_dec hlt,hx,u0,Ad.av])|(refine zg (fun hg=>?_) (fun hg=>?_)<;>simp only[go_sem,lt_dec hlt,hx,u0,Ad.av,hg])|(refine zc (fun hc=>?_) (fun hc=>?_)<;>try exact zh hc))
   exact⟨i+1,⟨hlt,by rw[he];rfl⟩,by omega,fun i=>i,by refine ent_mk (by simp[go_sem]) (by simp[go_sem]) (by simp) (by simp[hN])⟩
theorem shape_c (x:Ex):PCall Tryd.prog 87 [.agg x.cs] (exSh x):=by
 unfold Ex.cs exSh
 refine PCall.intro Tryd.func87 rfl isf87 (by simp[Tryd.f87]) (by simp[AV.cloL,AV.clo]) fun E Q hE hN hQ=>K_start ?_
 repeat'(first|apply nx|refine zx ?_|rw[zw]|((first|refine hK _ ?_|refine hKp _ _ ?_);clear hK hKp K Kp;try clear hanc anc)|((with_reducible refine And.intro ?_ ?_);exact zb)|((first|refine zr hE fun K Kp hK hKp=>?_|refine zd false mixed hE fun K Kp hK hKp anc hanc=>?_);simp only[go_sem])|(refine zg (fun hg=>?_) (fun hg=>?_)<;>simp only[go_sem,hg])|(refine zc (fun hc=>?_) (fun hc=>?_)<;>try exact zh hc)|(refine K_ret ?_;refine zt hQ ?_))
 all_goals rfl
theorem empty_c (x:Ex):PCall Tryd.prog 83 [.agg x.cs] (.bool (emptyB x)):=by
 have cs:=shape_c x
 unfold exSh at cs
 unfold Ex.cs at*
 refine PCall.intro Tryd.func83 rfl isf83 (by simp[Tryd.f83]) (by simp[AV.cloL,AV.clo]) fun E Q hE hN hQ=>K_start ?_
 repeat'(first|apply nx|refine zx ?_|rw[zw]|((first|refine hK _ ?_|refine hKp _ _ ?_);clear hK hKp K Kp;try clear hanc anc)|((with_reducible refine And.intro ?_ ?_);exact zb)|((first|refine zr hE fun K Kp hK hKp=>?_|refine zd false mixed hE fun K Kp hK hKp anc hanc=>?_|(apply zm;exact zu;exact cs;exact zs;exact zl));simp only[go_sem])|(refine zg (fun hg=>?_) (fun hg=>?_)<;>simp only[go_sem,hg])|(refine zc (fun hc=>?_) (fun hc=>?_)<;>try exact zh hc)|(refine K_ret ?_;refine zt hQ ?_))
 all_goals (clear hQ;simp only[AV.snap,emptyB, *,Bool.true_and,Bool.and_true,Bool.false_and,Bool.and_false])
end Go.Proofs.YtffmphmiicnaeaaDoor

set_option maxHeartbeats 4000000
set_option maxRecDepth 100000
namespace Go.Lf
open Go Go.Am
def exPre (x:Ex):Bool:=!namesB x.ns||!typesB x.ty||(!(neq0 x.op==(x.k==3)))||(!(neq0 x.nm==((x.k==4)||(x.k==15)||(x.k==16))))||(!(neq0 x.vr==(x.k==4)))||((x.num !=0)&&(x.k !=1)&&(x.k !=13))||(!(((x.ty.length:Int)==1)==(x.k==19)))||decide ((x.ty.length:Int)>1)
def exOp (n:Nm):Bool:=decide (n=⟨#[43]⟩)||decide (n=⟨#[45]⟩)||decide (n=⟨#[42]⟩)||decide (n=⟨#[60]⟩)||decide (n=⟨#[61,61]⟩)
def exRest (x:Ex):Bool:=
 if(x.k==1)=true then((x.ns.length:Int)==0)&&(decide (x.num≥ -1000000000)&&decide (x.num≤1000000000))
 else if(x.k==3)=true then((x.ns.length:Int)==2)&&exOp x.op
 else if(x.k==4)=true then nameB x.nm&&nameB x.vr
 else if(x.k==15)=true then nameB x.nm
 else if(x.k==16)=true then nameB x.nm&&((x.ns.length:Int)==1)
 else if(x.k==13)=true then((x.ns.length:Int)==1)&&(decide (x.num≥0)&&decide (x.num≤1000000000))
 else if((x.k==17)||(x.k==19))=true then((x.ns.length:Int)==0)
 else if(x.k==18)=true then((x.ns.length:Int)==2)
 else if((x.k==2)||(x.k==5)||(x.k==6)||(x.k==7)||(x.k==8)||(x.k==9)||(x.k==10)||(x.k==11)||(x.k==12)||(x.k==14)||(x.k==20))=true then((x.ns.length:Int)==1)
 else false
def exprB (x:Ex):Bool:=if exPre x=true then false else exRest x
end Go.Lf
namespace Go.Proofs.YtffmphmiicnaeaaDoor
open Go.Am Go.Proofs Go.Lf
open Classical
attribute [local irreducible] AW CallP CallB
variable {E:En} {Q:AEx→Am.St→Prop}
noncomputable def c84:Code:=sq2 (sq2 (sq2 (Tryd.f84.body.getD .skip)))
theorem expr_b (hE : E.nt = Tryd.f84.ntmps) (hN : E.np = 0) {x : Ex} {n1 : Nat} (hQ : ∀ σ, (∃ r', resA Tryd.prog Tryd.f84.results.toList σ = some r' ∧ r'.snapOk σ.hp ∧ r'.snap σ.hp = .bool (exRest x) ∧ (AV.bool (exRest x)).clo = true) → Q .ret σ ∧ Q .norm σ) :
    AW Tryd.prog E (sq1 (sq1 c84)) (Kq Tryd.prog E [.code (sq2 (sq1 c84)),.code (sq2 c84)] Q) (mkSt [(1,.ptr 0 0),(7,.i x.ns.length)] [(0,.cells [.i x.k,.str x.op,.str x.nm,.str x.vr,.sl (nml x.ns),.i x.num,.sl (Tx.avL x.ty),.i x.off])] 1):=by
  have cm:=name_c x.nm
  have cv:=name_c x.vr
  have b1:=between_c x.num (-1000000000) 1000000000
  have b2:=between_c x.num 0 1000000000
  simp only[c84,Tryd.f84,Option.getD,sq1,sq2,blkC,lpC]
  repeat'(first|apply nx|refine zx ?_|rw[zw]|((first|refine hK _ ?_|refine hKp _ _ ?_);clear hK hKp K Kp;try clear hanc anc)|((with_reducible refine And.intro ?_ ?_);exact zb)|((first|refine zr hE fun K Kp hK hKp=>?_|refine zd false mixed hE fun K Kp hK hKp anc hanc=>?_|(apply zm;exact zu;(first|exact cm|exact cv|exact b1|exact b2);exact zs;exact zl));simp only[go_sem])|(refine zg (fun hg=>?_) (fun hg=>?_)<;>simp only[go_sem,hg])|(refine zc (fun hc=>?_) (fun hc=>?_)<;>try exact zh hc)|(refine K_ret ?_;refine zt hQ ?_))
  all_goals (clear hQ;first|(simp only[AV.snap,exRest,exOp, *,Bool.true_and,Bool.and_true,Bool.false_and,Bool.and_false,Bool.true_or,Bool.or_true,Bool.false_or,Bool.or_false, ↓reduceIte,Bool.false_eq_true];done)|(exfalso;simp_all;done)|trace_state)
theorem expr_c (x:Ex) (hl:x.sz≤2 ^ 30):PCall Tryd.prog 84 [.agg x.cs] (.bool (exprB x)):=by
  have cs:=shape_c x
  have ct:=types_c x.ty (by unfold Ex.sz at hl;omega)
  have cn:=pnames_c x.ns (by unfold Ex.sz at hl;omega)
  unfold exSh at cs
  unfold Ex.cs at*
  refine PCall.intro Tryd.func84 rfl isf84 (by simp[Tryd.f84]) (by simp[AV.cloL,AV.clo]) fun E Q hE hN hQ=>K_start ?_
  repeat'(first|apply nx|refine zx ?_|rw[zw]|((first|refine hK _ ?_|refine hKp _ _ ?_);clear hK hKp K Kp;try clear hanc anc)|((with_reducible refine And.intro ?_ ?_);exact zb)|((fail_if_success refine K_stop 2 ?_);(first|refine zr hE fun K Kp hK hKp=>?_|refine zd true mixed hE fun K Kp hK hKp anc hanc=>?_|refine zd false mixed hE fun K Kp hK hKp anc hanc=>?_|(apply zm;exact zu;exact cs;exact zs;exact zl));simp only[go_sem])|(refine zg (fun hg=>?_) (fun hg=>?_)<;>simp only[go_sem,hg])|(refine zc (fun hc=>?_) (fun hc=>?_)<;>try exact zh hc))
  simp only[List.append]
  repeat'(first|apply nx|refine zx ?_|rw[zw]|((first|refine hK _ ?_|refine hKp _ _ ?_);clear hK hKp K Kp;try clear hanc anc)|((with_reducible refine And.intro ?_ ?_);exact zb)|((fail_if_success refine K_stop 4 ?_);(first|refine zr hE fun K Kp hK hKp=>?_|refine zd true mixed hE fun K Kp hK hKp anc hanc=>?_|refine zd false mixed hE fun K Kp hK hKp anc hanc=>?_|(apply zm;exact zu;(first|exact ct|exact cn);exact zs;exact zl));simp only[go_sem])|(refine zg (fun hg=>?_) (fun hg=>?_)<;>simp only[go_sem,hg])|(refine zc (fun hc=>?_) (fun hc=>?_)<;>try exact zh hc))
  all_goals first
    | (refine K_ret (hQ _ ⟨.bool false, resA_tmp (by simp only [go_sem]), by simp [AV.snapOk], ?_, rfl⟩).1
       clear hQ cs ct cn hl hE hN
       simp_all only[AV.snap,exprB,exPre,Bool.true_and,Bool.and_true,Bool.false_and,Bool.and_false,Bool.true_or,Bool.or_true,Bool.false_or,Bool.or_false, ↓reduceIte])
    | (have he : exprB x = exRest x := by
         clear hQ cs ct cn hl hE hN
         simp_all only[exprB,exPre,Bool.true_and,Bool.and_true,Bool.false_and,Bool.and_false,Bool.true_or,Bool.or_true,Bool.false_or,Bool.or_false, ↓reduceIte,Bool.false_eq_true]
       rw[he] at hQ
       have hB:=expr_b hE hN (x:=x) (n1:=0) hQ
       simp only[c84,Tryd.f84,Option.getD,sq1,sq2,blkC,lpC] at hB
       refine AW.ent (fun i=>i) ?_ hB
       exact ent_mk (by simp[go_sem]) (by simp[go_sem]) (by simp) (by simp[hN]))
end Go.Proofs.YtffmphmiicnaeaaDoor

set_option maxHeartbeats 4000000
set_option maxRecDepth 100000
namespace Go.Lf
open Go Go.Am
def st1 (k:Int) (nm:Nm) (b1 b2 b3 b4:Bool):Bool:=(!((!decide (nm=⟨#[]⟩))==((k !=8)&&(k !=13))))||(((k !=8)&&(k !=13))&&!nameB nm)||!b1||!b2||!b3||!b4
def st2 (k:Int) (ty:List Tx) (e x:Bool):Bool:=(((k==1)||(k==2))==e)||(!e&&!x)||(decide ((ty.length:Int)>0)&&(k !=1))||decide ((ty.length:Int)>1)
def st3 (k:Int) (th el ar fn:Nat):Bool:=(decide ((th:Int)>0)&&(k !=4)&&(k !=5))||(decide ((el:Int)>0)&&(k !=4))||(!(decide ((ar:Int)>0)==(k==6)))||(!(((fn:Int)==1)==(k==13)))||decide ((fn:Int)>1)
def st4 (k:Int) (ns:Nat):Bool:=(((k==3)||(k==11))&&((ns:Int) !=1))||(!((k==3)||(k==11))&&(k !=12)&&decide ((ns:Int)>0))
def st5 (k:Int) (fn:Nat) (f:Bool):Bool:=if(((fn:Int)==1)&&!f)=true then false else(decide (k≥1)&&decide (k≤13))
mutual
def stmtB:St→Bool
 | .mk k nm ns ty ex th el ar fn off=>if st1 k nm (namesB ns) (typesB ty) (blkB th) (blkB el)=true then false else if st2 k ty (emptyB ex) (exprB ex)=true then false else if st3 k th.length el.length ar.length fn.length=true then false else if st4 k ns.length=true then false else if armsB ar=true then st5 k fn.length (fnsB fn) else false
def blkB:List St→Bool
 | []=>true
 |s::l=>stmtB s&&blkB l
def armB:Ar→Bool
 | .mk v ns b off=>nameB v&&namesB ns&&blkB b
def armsB:List Ar→Bool
 | []=>true
 |s::l=>armB s&&armsB l
def funB (nested:Bool):Fd→Bool
 | .mk nm ps bs cs ag res b off=>if((!nested&&decide ((cs.length:Int)>0))||(nested&&decide (((ps.length:Int)+bs.length)>0)))=true then false else nameB nm&&namesB ps&&bdlB bs&&agsB true cs&&agsB false ag&&typeB res&&blkB b
def fnsB:List Fd→Bool
 | []=>true
 |f::_=>funB true f
end
end Go.Lf
namespace Go.Proofs.YtffmphmiicnaeaaDoor
open Go.Am Go.Proofs Go.Lf
open Classical
attribute [local irreducible] AW CallP CallB
variable {E:En} {Q:AEx→Am.St→Prop} {k:Int} {nm:Nm} {ns:List Nm} {ty:List Tx} {ex:Ex} {th el:List Lf.St} {ar:List Ar} {fn:List Lf.Fd} {off:Int}
abbrev HB (F:Func) (Q:AEx→Am.St→Prop) (b:Bool):Prop:=∀ σ,(∃ r',resA Tryd.prog F.results.toList σ=some r'∧r'.snapOk σ.hp∧r'.snap σ.hp= .bool b∧(AV.bool b).clo=true)→Q .ret σ∧Q .norm σ
noncomputable def d5:Code:=sq2 (sq2 (sq2 (sq2 (Tryd.f73.body.getD .skip))))
noncomputable def d7:Code:=sq2 d5
noncomputable def d9:Code:=sq2 d7
noncomputable def d12:Code:=sq2 (sq2 d9)
noncomputable def d17:Code:=sq2 d12
theorem stmt_e (hE : E.nt = Tryd.f73.ntmps) (hN : E.np = 0) (hf : ∀ f, fn = [f] → PCall Tryd.prog 39 [f.av, .bool true] (.bool (funB true f))) (hQ : HB Tryd.f73 Q (st5 k fn.length (fnsB fn))) :
    AW Tryd.prog E (sq1 (sq1 d17)) (Kq Tryd.prog E [.code (sq2 (sq1 d17)),.code (sq2 d17)] Q) (mkSt [(1,.ptr 0 0),(3,.i k)] [(0,.cells [.i k,.str nm,.sl (nml ns),.sl (Tx.avL ty),.i ex.k,.str ex.op,.str ex.nm,.str ex.vr,.sl (nml ex.ns),.i ex.num,.sl (Tx.avL ex.ty),.i ex.off,.sl (stl th),.sl (stl el),.sl (arl ar),.sl (fdl fn),.i off])] 1):=by
  have b1:=between_c k 1 13
  simp only[d17,d12,d9,d7,d5,Tryd.f73,Option.getD,sq1,sq2,blkC,lpC]
  by_cases h1:((fn.length:Int)==1)=true
  · obtain ⟨f, rfl⟩ : ∃ f, fn = [f] := by
      match fn,h1 with
      | [f],_=>exact⟨f,rfl⟩
      | [],h=>exact absurd h (by decide)
      |_::_::l,h=>simp at h;omega
    have c1:=hf f rfl
    have hq1:(((1:Nat):Int)==1)=true:=by decide
    have e:st5 k [f].length (fnsB [f])=if(!funB true f)=true then false else(decide (k≥1)&&decide (k≤13)):=by
      unfold st5
      rw[fnsB]
      rfl
    rw[e] at hQ
    obtain⟨fm,p0,b0,cp0,a0,r0,bd,of0⟩:=f
    rw[Fd.av] at c1
    cases hb:funB true (.mk fm p0 b0 cp0 a0 r0 bd of0)
    · rw[hb] at c1 hQ
      repeat'(first|apply nx|refine zx ?_|rw[zw]|((first|refine hK _ ?_|refine hKp _ _ ?_);clear hK hKp K Kp;try clear hanc anc)|((with_reducible refine And.intro ?_ ?_);exact zb)|((first|refine zr hE fun K Kp hK hKp=>?_|refine zd false mixed hE fun K Kp hK hKp anc hanc=>?_|(apply zm;exact zu;exact c1;exact zs;exact zl));simp only[go_sem,hq1,fdl,Fd.av])|(refine zg (fun hg=>?_) (fun hg=>?_)<;>simp only[go_sem,hq1,fdl,Fd.av,hg])|(refine zc (fun hc=>?_) (fun hc=>?_)<;>try exact zh hc)|(refine K_ret ?_;refine zt hQ ?_))
      rfl
    · rw[hb] at c1 hQ
      repeat'(first|apply nx|refine zx ?_|rw[zw]|((first|refine hK _ ?_|refine hKp _ _ ?_);clear hK hKp K Kp;try clear hanc anc)|((with_reducible refine And.intro ?_ ?_);exact zb)|((first|refine zr hE fun K Kp hK hKp=>?_|refine zd false mixed hE fun K Kp hK hKp anc hanc=>?_|(apply zm;exact zu;(first|exact c1|exact b1);exact zs;exact zl));simp only[go_sem,hq1,fdl,Fd.av])|(refine zg (fun hg=>?_) (fun hg=>?_)<;>simp only[go_sem,hq1,fdl,Fd.av,hg])|(refine zc (fun hc=>?_) (fun hc=>?_)<;>try exact zh hc)|(refine K_ret ?_;refine zt hQ ?_))
      rfl
  · have h1':=eq_false_of_ne_true h1
    have e:st5 k fn.length (fnsB fn)=(decide (k≥1)&&decide (k≤13)):=by
      unfold st5
      rw[h1']
      rfl
    rw[e] at hQ
    repeat'(first|apply nx|refine zx ?_|rw[zw]|((first|refine hK _ ?_|refine hKp _ _ ?_);clear hK hKp K Kp;try clear hanc anc)|((with_reducible refine And.intro ?_ ?_);exact zb)|((first|refine zr hE fun K Kp hK hKp=>?_|refine zd false mixed hE fun K Kp hK hKp anc hanc=>?_|(apply zm;exact zu;exact b1;exact zs;exact zl));simp only[go_sem,h1'])|(refine zg (fun hg=>?_) (fun hg=>?_)<;>simp only[go_sem,h1',hg])|(refine zc (fun hc=>?_) (fun hc=>?_)<;>try exact zh hc)|(refine K_ret ?_;refine zt hQ ?_))
    rfl
theorem stmt_d (hE : E.nt = Tryd.f73.ntmps) (hN : E.np = 0) (hl : ar.length ≤ 2 ^ 30) (ha : ∀ v ns b o, Ar.mk v ns b o ∈ ar → ns.length ≤ 2 ^ 30 ∧ PCall Tryd.prog 59 [.sl (stl b)] (.bool (blkB b))) (hf : ∀ f, fn = [f] → PCall Tryd.prog 39 [f.av, .bool true] (.bool (funB true f))) (hQ : HB Tryd.f73 Q (if armsB ar = true then st5 k fn.length (fnsB fn) else false)) :
    AW Tryd.prog E (sq1 (sq1 d12)) (Kq Tryd.prog E [.code (sq2 (sq1 d12)),.code (sq2 d12)] Q) (mkSt [(1,.ptr 0 0),(3,.i k)] [(0,.cells [.i k,.str nm,.sl (nml ns),.sl (Tx.avL ty),.i ex.k,.str ex.op,.str ex.nm,.str ex.vr,.sl (nml ex.ns),.i ex.num,.sl (Tx.avL ex.ty),.i ex.off,.sl (stl th),.sl (stl el),.sl (arl ar),.sl (fdl fn),.i off])] 1):=by
  simp only[d12,d9,d7,d5,Tryd.f73,Option.getD,sq1,sq2,blkC,lpC]
  repeat'(first|apply nx|refine zx ?_|rw[zw]|((first|refine hK _ ?_|refine hKp _ _ ?_);clear hK hKp K Kp;try clear hanc anc)|((with_reducible refine And.intro ?_ ?_);exact zb)|((first|refine zr hE fun K Kp hK hKp=>?_|refine zd true mixed hE fun K Kp hK hKp anc hanc=>?_|refine zd false mixed hE fun K Kp hK hKp anc hanc=>?_);simp only[go_sem])|(refine zg (fun hg=>?_) (fun hg=>?_)<;>simp only[go_sem,hg])|(refine zc (fun hc=>?_) (fun hc=>?_)<;>try exact zh hc))
  refine K_loop (X:=Nat) (fun i=>i≤ar.length∧armsB ar=armsB (ar.drop i)) (fun i=>mkSt [(1,.ptr 0 0),(3,.i k),(6,.i (i:Nat))] [(0,.cells [.i k,.str nm,.sl (nml ns),.sl (Tx.avL ty),.i ex.k,.str ex.op,.str ex.nm,.str ex.vr,.sl (nml ex.ns),.i ex.num,.sl (Tx.avL ex.ty),.i ex.off,.sl (stl th),.sl (stl el),.sl (arl ar),.sl (fdl fn),.i off])] 1) (fun i=>ar.length - i) 0 ⟨Nat.zero_le _,rfl⟩ (fun i=>i) (by refine ent_mk (by simp[go_sem]) (by simp[go_sem]) (by simp) (by simp[hN])) ?_
  rintro i ⟨hi,he⟩
  by_cases hlt:i<ar.length
  case neg=>
    obtain rfl:i=ar.length:=by omega
    rw[List.drop_length,armsB] at he
    rw[he,if_pos rfl] at hQ
    have hB:=stmt_e (nm:=nm) (ns:=ns) (ty:=ty) (ex:=ex) (th:=th) (el:=el) (ar:=ar) (off:=off) hE hN hf hQ
    simp only[d17,d12,d9,d7,d5,Tryd.f73,Option.getD,sq1,sq2,blkC,lpC] at hB
    repeat'(first|apply nx|refine zx ?_|rw[zw]|((first|refine hK _ ?_|refine hKp _ _ ?_);clear hK hKp K Kp;try clear hanc anc)|((with_reducible refine And.intro ?_ ?_);exact zb)|((fail_if_success refine K_stop 17 ?_);(first|refine zr hE fun K Kp hK hKp=>?_|refine zd true mixed hE fun K Kp hK hKp anc hanc=>?_|refine zd false mixed hE fun K Kp hK hKp anc hanc=>?_);simp only[go_sem,ge_dec])|(refine zg (fun hg=>?_) (fun hg=>?_)<;>simp only[go_sem,ge_dec,hg])|(refine zc (fun hc=>?_) (fun hc=>?_)<;>try exact zh hc))
    refine AW.ent (fun i=>i) ?_ hB
    exact ent_mk (by simp[go_sem]) (by simp[go_sem]) (by simp) (by simp[hN])
  obtain⟨⟨v,ns1,b,o⟩,hx⟩:=get?_of hlt
  have u0:=inc_u hlt (by omega)
  obtain⟨hns,cb⟩:=ha v ns1 b o (List.mem_of_getElem? hx)
  have cn:=name_c v
  have cm:=pnames_c ns1 (by omega)
  rw[drop_of hx,armsB,armB] at he
  cases hb1:nameB v
  · rw[hb1] at he cn
    rw[he] at hQ
    repeat'(first|apply nx|refine zx ?_|rw[zw]|((first|refine hK _ ?_|refine hKp _ _ ?_);clear hK hKp K Kp;try clear hanc anc)|((with_reducible refine And.intro ?_ ?_);exact zb)|((first|refine zr hE fun K Kp hK hKp=>?_|refine zd false mixed hE fun K Kp hK hKp anc hanc=>?_|(apply zm;exact zu;exact cn;exact zs;exact zl));simp only[go_sem,lt_dec hlt,hx,Ar.av])|(refine zg (fun hg=>?_) (fun hg=>?_)<;>simp only[go_sem,lt_dec hlt,hx,Ar.av,hg])|(refine zc (fun hc=>?_) (fun hc=>?_)<;>try exact zh hc)|(refine K_ret ?_;refine zt hQ ?_))
    rfl
  cases hb2:namesB ns1
  · rw[hb1] at he cn
    rw[hb2] at he cm
    rw[he] at hQ
    repeat'(first|apply nx|refine zx ?_|rw[zw]|((first|refine hK _ ?_|refine hKp _ _ ?_);clear hK hKp K Kp;try clear hanc anc)|((with_reducible refine And.intro ?_ ?_);exact zb)|((first|refine zr hE fun K Kp hK hKp=>?_|refine zd false mixed hE fun K Kp hK hKp anc hanc=>?_|(apply zm;exact zu;(first|exact cn|exact cm);exact zs;exact zl));simp only[go_sem,lt_dec hlt,hx,Ar.av])|(refine zg (fun hg=>?_) (fun hg=>?_)<;>simp only[go_sem,lt_dec hlt,hx,Ar.av,hg])|(refine zc (fun hc=>?_) (fun hc=>?_)<;>try exact zh hc)|(refine K_ret ?_;refine zt hQ ?_))
    rfl
  rw[hb1] at he cn
  rw[hb2] at he cm
  cases hb3:blkB b
  · rw[hb3] at he cb
    rw[he] at hQ
    repeat'(first|apply nx|refine zx ?_|rw[zw]|((first|refine hK _ ?_|refine hKp _ _ ?_);clear hK hKp K Kp;try clear hanc anc)|((with_reducible refine And.intro ?_ ?_);exact zb)|((first|refine zr hE fun K Kp hK hKp=>?_|refine zd false mixed hE fun K Kp hK hKp anc hanc=>?_|(apply zm;exact zu;(first|exact cn|exact cm|exact cb);exact zs;exact zl));simp only[go_sem,lt_dec hlt,hx,Ar.av])|(refine zg (fun hg=>?_) (fun hg=>?_)<;>simp only[go_sem,lt_dec hlt,hx,Ar.av,hg])|(refine zc (fun hc=>?_) (fun hc=>?_)<;>try exact zh hc)|(refine K_ret ?_;refine zt hQ ?_))
    rfl
  · rw[hb3] at he cb
    repeat'(first|apply nx|refine zx ?_|rw[zw]|((first|refine hK _ ?_|refine hKp _ _ ?_);clear hK hKp K Kp;try clear hanc anc)|((with_reducible refine And.intro ?_ ?_);exact zb)|((first|refine zr hE fun K Kp hK hKp=>?_|refine zd true mixed hE fun K Kp hK hKp anc hanc=>?_|refine zd false mixed hE fun K Kp hK hKp anc hanc=>?_|(apply zm;exact zu;(first|exact cn|exact cm|exact cb);exact zs;exact zl));simp only[go_sem,lt_dec hlt,hx,u0,Ar.av])|(refine zg (fun hg=>?_) (fun hg=>?_)<;>simp only[go_sem,lt_dec hlt,hx,u0,Ar.av,hg])|(refine zc (fun hc=>?_) (fun hc=>?_)<;>try exact zh hc))
    exact⟨i+1,⟨hlt,by rw[he];rfl⟩,by omega,fun i=>i,by refine ent_mk (by simp[go_sem]) (by simp[go_sem]) (by simp) (by simp[hN])⟩
theorem stmt_c (hE : E.nt = Tryd.f73.ntmps) (hN : E.np = 0) (hl : ar.length ≤ 2 ^ 30) (ha : ∀ v ns b o, Ar.mk v ns b o ∈ ar → ns.length ≤ 2 ^ 30 ∧ PCall Tryd.prog 59 [.sl (stl b)] (.bool (blkB b))) (hf : ∀ f, fn = [f] → PCall Tryd.prog 39 [f.av, .bool true] (.bool (funB true f))) (hQ : HB Tryd.f73 Q (if st4 k ns.length = true then false else (if armsB ar = true then st5 k fn.length (fnsB fn) else false))) :
    AW Tryd.prog E (sq1 d9) (Kq Tryd.prog E [.code (sq2 d9)] Q) (mkSt [(1,.ptr 0 0),(3,.i k)] [(0,.cells [.i k,.str nm,.sl (nml ns),.sl (Tx.avL ty),.i ex.k,.str ex.op,.str ex.nm,.str ex.vr,.sl (nml ex.ns),.i ex.num,.sl (Tx.avL ex.ty),.i ex.off,.sl (stl th),.sl (stl el),.sl (arl ar),.sl (fdl fn),.i off])] 1):=by
  have hB:=fun h=>stmt_d (E:=E) (Q:=Q) (k:=k) (nm:=nm) (ns:=ns) (ty:=ty) (ex:=ex) (th:=th) (el:=el) (ar:=ar) (fn:=fn) (off:=off) hE hN hl ha hf h
  clear ha hf
  generalize hR:(if armsB ar=true then st5 k fn.length (fnsB fn) else false)=R at hQ hB
  simp only[d12,d9,d7,d5,Tryd.f73,Option.getD,sq1,sq2,blkC,lpC] at hB ⊢
  repeat'(first|apply nx|refine zx ?_|rw[zw]|((first|refine hK _ ?_|refine hKp _ _ ?_);clear hK hKp K Kp;try clear hanc anc)|((with_reducible refine And.intro ?_ ?_);exact zb)|((fail_if_success refine K_stop 12 ?_);(first|refine zr hE fun K Kp hK hKp=>?_|refine zd true mixed hE fun K Kp hK hKp anc hanc=>?_|refine zd false mixed hE fun K Kp hK hKp anc hanc=>?_);simp only[go_sem])|(refine zg (fun hg=>?_) (fun hg=>?_)<;>simp only[go_sem,hg])|(refine zc (fun hc=>?_) (fun hc=>?_)<;>try exact zh hc))
  all_goals first
    | (refine K_ret (hQ _ ⟨.bool false, resA_tmp (by simp only [go_sem]), by simp [AV.snapOk], ?_, rfl⟩).1
       clear hQ hB hR hE hN hl
       first|(simp_all only[AV.snap,st4,Bool.true_and,Bool.and_true,Bool.false_and,Bool.and_false,Bool.true_or,Bool.or_true,Bool.false_or,Bool.or_false, ↓reduceIte,Bool.false_eq_true,Bool.not_true,Bool.not_false];done)|(exfalso;simp_all;done))
    | (have he : st4 k ns.length = false := by
         clear hQ hB hR hE hN hl
         simp_all only[st4,Bool.true_and,Bool.and_true,Bool.false_and,Bool.and_false,Bool.true_or,Bool.or_true,Bool.false_or,Bool.or_false, ↓reduceIte,Bool.false_eq_true,Bool.not_true,Bool.not_false]
       rw[he,if_neg (by decide)] at hQ
       refine AW.ent (fun i=>i) ?_ (hB hQ)
       exact ent_mk (by simp[go_sem]) (by simp[go_sem]) (by simp) (by simp[hN]))
theorem stmt_b (hE : E.nt = Tryd.f73.ntmps) (hN : E.np = 0) (hl : ar.length ≤ 2 ^ 30) (ha : ∀ v ns b o, Ar.mk v ns b o ∈ ar → ns.length ≤ 2 ^ 30 ∧ PCall Tryd.prog 59 [.sl (stl b)] (.bool (blkB b))) (hf : ∀ f, fn = [f] → PCall Tryd.prog 39 [f.av, .bool true] (.bool (funB true f))) (hQ : HB Tryd.f73 Q (if st3 k th.length el.length ar.length fn.length = true then false else (if st4 k ns.length = true then false else (if armsB ar = true then st5 k fn.length (fnsB fn) else false)))) :
    AW Tryd.prog E (sq1 (sq1 d7)) (Kq Tryd.prog E [.code (sq2 (sq1 d7)),.code (sq2 d7)] Q) (mkSt [(1,.ptr 0 0),(3,.i k)] [(0,.cells [.i k,.str nm,.sl (nml ns),.sl (Tx.avL ty),.i ex.k,.str ex.op,.str ex.nm,.str ex.vr,.sl (nml ex.ns),.i ex.num,.sl (Tx.avL ex.ty),.i ex.off,.sl (stl th),.sl (stl el),.sl (arl ar),.sl (fdl fn),.i off])] 1):=by
  have hB:=fun h=>stmt_c (E:=E) (Q:=Q) (k:=k) (nm:=nm) (ns:=ns) (ty:=ty) (ex:=ex) (th:=th) (el:=el) (ar:=ar) (fn:=fn) (off:=off) hE hN hl ha hf h
  clear ha hf
  generalize hR:(if st4 k ns.length=true then false else(if armsB ar=true then st5 k fn.length (fnsB fn) else false))=R at hQ hB
  simp only[d12,d9,d7,d5,Tryd.f73,Option.getD,sq1,sq2,blkC,lpC] at hB ⊢
  repeat'(first|apply nx|refine zx ?_|rw[zw]|((first|refine hK _ ?_|refine hKp _ _ ?_);clear hK hKp K Kp;try clear hanc anc)|((with_reducible refine And.intro ?_ ?_);exact zb)|((fail_if_success refine K_stop 9 ?_);(first|refine zr hE fun K Kp hK hKp=>?_|refine zd true mixed hE fun K Kp hK hKp anc hanc=>?_|refine zd false mixed hE fun K Kp hK hKp anc hanc=>?_);simp only[go_sem])|(refine zg (fun hg=>?_) (fun hg=>?_)<;>simp only[go_sem,hg])|(refine zc (fun hc=>?_) (fun hc=>?_)<;>try exact zh hc))
  all_goals first
    | (refine K_ret (hQ _ ⟨.bool false, resA_tmp (by simp only [go_sem]), by simp [AV.snapOk], ?_, rfl⟩).1
       clear hQ hB hR hE hN hl
       first|(simp_all only[AV.snap,st3,Bool.true_and,Bool.and_true,Bool.false_and,Bool.and_false,Bool.true_or,Bool.or_true,Bool.false_or,Bool.or_false, ↓reduceIte,Bool.false_eq_true,Bool.not_true,Bool.not_false];done)|(exfalso;simp_all;done))
    | (have he : st3 k th.length el.length ar.length fn.length = false := by
         clear hQ hB hR hE hN hl
         simp_all only[st3,Bool.true_and,Bool.and_true,Bool.false_and,Bool.and_false,Bool.true_or,Bool.or_true,Bool.false_or,Bool.or_false, ↓reduceIte,Bool.false_eq_true,Bool.not_true,Bool.not_false]
       rw[he,if_neg (by decide)] at hQ
       refine AW.ent (fun i=>i) ?_ (hB hQ)
       exact ent_mk (by simp[go_sem]) (by simp[go_sem]) (by simp) (by simp[hN]))
theorem stmt_a (hE : E.nt = Tryd.f73.ntmps) (hN : E.np = 0) (hx : ex.sz ≤ 2 ^ 30) (hl : ar.length ≤ 2 ^ 30) (ha : ∀ v ns b o, Ar.mk v ns b o ∈ ar → ns.length ≤ 2 ^ 30 ∧ PCall Tryd.prog 59 [.sl (stl b)] (.bool (blkB b))) (hf : ∀ f, fn = [f] → PCall Tryd.prog 39 [f.av, .bool true] (.bool (funB true f))) (hQ : HB Tryd.f73 Q (if st2 k ty (emptyB ex) (exprB ex) = true then false else (if st3 k th.length el.length ar.length fn.length = true then false else (if st4 k ns.length = true then false else (if armsB ar = true then st5 k fn.length (fnsB fn) else false))))) :
    AW Tryd.prog E (sq1 (sq1 d5)) (Kq Tryd.prog E [.code (sq2 (sq1 d5)),.code (sq2 d5)] Q) (mkSt [(1,.ptr 0 0),(3,.i k)] [(0,.cells [.i k,.str nm,.sl (nml ns),.sl (Tx.avL ty),.i ex.k,.str ex.op,.str ex.nm,.str ex.vr,.sl (nml ex.ns),.i ex.num,.sl (Tx.avL ex.ty),.i ex.off,.sl (stl th),.sl (stl el),.sl (arl ar),.sl (fdl fn),.i off])] 1):=by
  have hB:=fun h=>stmt_b (E:=E) (Q:=Q) (k:=k) (nm:=nm) (ns:=ns) (ty:=ty) (ex:=ex) (th:=th) (el:=el) (ar:=ar) (fn:=fn) (off:=off) hE hN hl ha hf h
  have ce:=empty_c ex
  have cx:=expr_c ex hx
  unfold Ex.cs at ce cx
  clear ha hf
  generalize hR:(if st3 k th.length el.length ar.length fn.length=true then false else(if st4 k ns.length=true then false else(if armsB ar=true then st5 k fn.length (fnsB fn) else false)))=R at hQ hB
  simp only[d12,d9,d7,d5,Tryd.f73,Option.getD,sq1,sq2,blkC,lpC] at hB ⊢
  repeat'(first|apply nx|refine zx ?_|rw[zw]|((first|refine hK _ ?_|refine hKp _ _ ?_);clear hK hKp K Kp;try clear hanc anc)|((with_reducible refine And.intro ?_ ?_);exact zb)|((fail_if_success refine K_stop 7 ?_);(first|refine zr hE fun K Kp hK hKp=>?_|refine zd true mixed hE fun K Kp hK hKp anc hanc=>?_|refine zd false mixed hE fun K Kp hK hKp anc hanc=>?_|(apply zm;exact zu;(first|exact ce|exact cx);exact zs;exact zl));simp only[go_sem])|(refine zg (fun hg=>?_) (fun hg=>?_)<;>simp only[go_sem,hg])|(refine zc (fun hc=>?_) (fun hc=>?_)<;>try exact zh hc))
  all_goals first
    | (refine K_ret (hQ _ ⟨.bool false, resA_tmp (by simp only [go_sem]), by simp [AV.snapOk], ?_, rfl⟩).1
       clear hQ hB hR hE hN hl
       first|(simp_all only[AV.snap,st2,Bool.true_and,Bool.and_true,Bool.false_and,Bool.and_false,Bool.true_or,Bool.or_true,Bool.false_or,Bool.or_false, ↓reduceIte,Bool.false_eq_true,Bool.not_true,Bool.not_false];done)|(exfalso;simp_all;done))
    | (have he : st2 k ty (emptyB ex) (exprB ex) = false := by
         clear hQ hB hR hE hN hl
         simp_all only[st2,Bool.true_and,Bool.and_true,Bool.false_and,Bool.and_false,Bool.true_or,Bool.or_true,Bool.false_or,Bool.or_false, ↓reduceIte,Bool.false_eq_true,Bool.not_true,Bool.not_false]
       rw[he,if_neg (by decide)] at hQ
       refine AW.ent (fun i=>i) ?_ (hB hQ)
       exact ent_mk (by simp[go_sem]) (by simp[go_sem]) (by simp) (by simp[hN]))
theorem stmt_c1 (hf : ∀ f, fn = [f] → PCall Tryd.prog 39 [f.av, .bool true] (.bool (funB true f))) (hl : ar.length ≤ 2 ^ 30) (ha : ∀ v ns b o, Ar.mk v ns b o ∈ ar → ns.length ≤ 2 ^ 30 ∧ PCall Tryd.prog 59 [.sl (stl b)] (.bool (blkB b))) (hx : ex.sz ≤ 2 ^ 30) (hns : ns.length ≤ 2 ^ 30) (hty : Tx.szL ty ≤ 2 ^ 30) (ct : PCall Tryd.prog 59 [.sl (stl th)] (.bool (blkB th))) (ce : PCall Tryd.prog 59 [.sl (stl el)] (.bool (blkB el))) :
    PCall Tryd.prog 73 [.agg [.i k,.str nm,.sl (nml ns),.sl (Tx.avL ty),.i ex.k,.str ex.op,.str ex.nm,.str ex.vr,.sl (nml ex.ns),.i ex.num,.sl (Tx.avL ex.ty),.i ex.off,.sl (stl th),.sl (stl el),.sl (arl ar),.sl (fdl fn),.i off]] (.bool (stmtB (.mk k nm ns ty ex th el ar fn off))):=by
  have c1:=name_c nm
  have c2:=pnames_c ns (by omega)
  have c3:=types_c ty hty
  rw[stmtB]
  generalize hR:(if st2 k ty (emptyB ex) (exprB ex)=true then false else(if st3 k th.length el.length ar.length fn.length=true then false else(if st4 k ns.length=true then false else(if armsB ar=true then st5 k fn.length (fnsB fn) else false))))=R
  generalize namesB ns=b2 at c2 ⊢
  generalize typesB ty=b3 at c3 ⊢
  generalize blkB th=b4 at ct ⊢
  generalize blkB el=b5 at ce ⊢
  refine PCall.intro Tryd.func73 rfl isf73 (by simp[Tryd.f73]) (by simp[AV.cloL,AV.clo]) fun E Q hE hN hQ=>K_start ?_
  have hB:=fun h=>stmt_a (E:=E) (Q:=Q) (k:=k) (nm:=nm) (ns:=ns) (ty:=ty) (ex:=ex) (th:=th) (el:=el) (ar:=ar) (fn:=fn) (off:=off) hE hN hx hl ha hf h
  rw[hR] at hB
  clear ha hf
  simp only[d12,d9,d7,d5,Tryd.f73,Option.getD,sq1,sq2,blkC,lpC] at hB ⊢
  repeat'(first|apply nx|refine zx ?_|rw[zw]|((first|refine hK _ ?_|refine hKp _ _ ?_);clear hK hKp K Kp;try clear hanc anc)|((with_reducible refine And.intro ?_ ?_);exact zb)|((fail_if_success refine K_stop 5 ?_);(first|refine zr hE fun K Kp hK hKp=>?_|refine zd true mixed hE fun K Kp hK hKp anc hanc=>?_|refine zd false mixed hE fun K Kp hK hKp anc hanc=>?_|(apply zm;exact zu;(first|exact c1|exact c2|exact c3|exact ct|exact ce);exact zs;exact zl));simp only[go_sem])|(refine zg (fun hg=>?_) (fun hg=>?_)<;>simp only[go_sem,hg])|(refine zc (fun hc=>?_) (fun hc=>?_)<;>try exact zh hc))
  all_goals first
    | (refine K_ret (hQ _ ⟨.bool false, resA_tmp (by simp only [go_sem]), by simp [AV.snapOk], ?_, rfl⟩).1
       clear hQ hB hR hE hN hl c1 c2 c3 ct ce
       first|(simp_all only[AV.snap,st1,Bool.true_and,Bool.and_true,Bool.false_and,Bool.and_false,Bool.true_or,Bool.or_true,Bool.false_or,Bool.or_false, ↓reduceIte,Bool.false_eq_true,Bool.not_true,Bool.not_false];done)|(exfalso;simp_all;done))
    | (have he : st1 k nm b2 b3 b4 b5 = false := by
         clear hQ hB hR hE hN hl c1 c2 c3 ct ce
         simp_all only[st1,Bool.true_and,Bool.and_true,Bool.false_and,Bool.and_false,Bool.true_or,Bool.or_true,Bool.false_or,Bool.or_false, ↓reduceIte,Bool.false_eq_true,Bool.not_true,Bool.not_false]
       rw[he,if_neg (by decide)] at hQ
       refine AW.ent (fun i=>i) ?_ (hB hQ)
       exact ent_mk (by simp[go_sem]) (by simp[go_sem]) (by simp) (by simp[hN]))
end Go.Proofs.YtffmphmiicnaeaaDoor
