/- A part of the proof: an abstract machine for the walks, and what the walked functions compute. -/
import Derived.Test.YtffmphmiicnaeaaDoorRh
set_option linter.unusedVariables false
set_option linter.unusedSimpArgs false
set_option maxHeartbeats 4000000
set_option maxRecDepth 100000
namespace Go.Lf
theorem prM_nb {x:Md} (h:prM x=true):∀ f,f∈x.fs→f.nb:=by
 intro f hf
 unfold prM at h
 simp only[Bool.and_eq_true] at h
 exact funB_nb false f (List.all_eq_true.1 h.2.2.2.2.2 f hf)
theorem orF_some' {a b:Option Lf.Fd} {f:Lf.Fd} (h:orF a b=some f):a=some f∨b=some f:=by
 cases a with
 |none=>exact .inr h
 |some g=>exact .inl h
mutual
theorem fstS_nb:∀ (s:Lf.St) (f:Lf.Fd),s.nb→fstS s=some f→nbL f.b∧stSz f.b≤s.sz
 | .mk k nm ns ty ex th el ar fn off,f,h,hf=>by
  rw[St.nb] at h
  rw[fstS] at hf
  rw[St.sz]
  split at hf
  ·match fn,hf with
   | [],hf=>cases hf
   |g::l,hf=>
    cases hf
    have h5:=h.2.2.2.2
    rw[nbF] at h5
    rw[fdSz]
    obtain⟨fm,p0,b0,cp0,a0,r0,bd,of0⟩:=f
    have:=h5.1
    rw[Fd.nb] at this
    rw[Fd.sz]
    exact⟨this,by simp only[Fd.b];omega⟩
  ·rcases orF_some' hf with hf|hf
   ·have:=fstL_nb th f h.2.1 hf;exact⟨this.1,by omega⟩
   ·rcases orF_some' hf with hf|hf
    ·have:=fstL_nb el f h.2.2.1 hf;exact⟨this.1,by omega⟩
    ·have:=fstA_nb ar f h.2.2.2.1 hf;exact⟨this.1,by omega⟩
theorem fstL_nb:∀ (l:List Lf.St) (f:Lf.Fd),nbL l→fstL l=some f→nbL f.b∧stSz f.b≤stSz l
 | [],f,h,hf=>by rw[fstL] at hf;cases hf
 |s::l,f,h,hf=>by
  rw[nbL] at h
  rw[fstL] at hf
  rw[stSz]
  rcases orF_some' hf with hf|hf
  ·have:=fstS_nb s f h.1 hf;exact⟨this.1,by omega⟩
  ·have:=fstL_nb l f h.2 hf;exact⟨this.1,by omega⟩
theorem fstM_nb:∀ (s:Ar) (f:Lf.Fd),s.nb→fstM s=some f→nbL f.b∧stSz f.b≤s.sz
 | .mk v ns b off,f,h,hf=>by
  rw[Ar.nb] at h
  rw[fstM] at hf
  rw[Ar.sz]
  have:=fstL_nb b f h hf;exact⟨this.1,by omega⟩
theorem fstA_nb:∀ (l:List Ar) (f:Lf.Fd),nbA l→fstA l=some f→nbL f.b∧stSz f.b≤arSz l
 | [],f,h,hf=>by rw[fstA] at hf;cases hf
 |s::l,f,h,hf=>by
  rw[nbA] at h
  rw[fstA] at hf
  rw[arSz]
  rcases orF_some' hf with hf|hf
  ·have:=fstM_nb s f h.1 hf;exact⟨this.1,by omega⟩
  ·have:=fstA_nb l f h.2 hf;exact⟨this.1,by omega⟩
end
theorem fstT_nb:∀ (l:List Lf.Fd),(∀ f,f∈l→nbL f.b)→(∀ f,f∈l→stSz f.b≤400)→∀ f,fstT l=some f→nbL f.b∧stSz f.b≤400
 | [],h1,h2,f,hf=>by cases hf
 |g::l,h1,h2,f,hf=>by
  rw[fstT] at hf
  rcases orF_some' hf with hf|hf
  ·have h3:=fstL_nb g.b f (h1 g (by simp)) hf
   have h4:=h2 g (by simp)
   exact⟨h3.1,Nat.le_trans h3.2 h4⟩
  ·exact fstT_nb l (fun f hf=>h1 f (by simp[hf])) (fun f hf=>h2 f (by simp[hf])) f hf
end Go.Lf
namespace Go.Proofs.YtffmphmiicnaeaaDoor
open Go.Am Go.Proofs Go.Lf
open Classical
attribute [local irreducible] AW CallP CallB
theorem first_c (l:List Lf.Fd) (hl:fdSz l≤2 ^ 23):PCall Tryd.prog 18 [.sl (fdl l)] (inV (fstT l)):=by
 have hln:=fd_len_le l
 refine PCall.intro Tryd.func18 rfl isf18 (by simp[Tryd.f18]) (by simp[AV.cloL,AV.clo,fdl_clo]) fun E Q hE hN hQ=>K_start ?_
 repeat'(first|apply nx|refine zx ?_|rw[zw]|((first|refine hK _ ?_|refine hKp _ _ ?_);clear hK hKp K Kp;try clear hanc anc)|((with_reducible refine And.intro ?_ ?_);exact zb)|((first|refine zr hE fun K Kp hK hKp=>?_|refine zd true mixed hE fun K Kp hK hKp anc hanc=>?_|refine zd false mixed hE fun K Kp hK hKp anc hanc=>?_);simp only[go_sem])|(refine zg (fun hg=>?_) (fun hg=>?_)<;>simp only[go_sem,hg])|(refine zc (fun hc=>?_) (fun hc=>?_)<;>try exact zh hc))
 refine K_loop (X:=Nat) (fun i=>i≤l.length∧fstT l=fstT (l.drop i)) (fun i=>mkSt [(0,.sl (fdl l)),(2,.ptr 0 0),(3,.bool false),(4,.i (i:Nat))] [(0,.cells [.str ⟨#[]⟩,.nilsl,.nilsl,.nilsl,.nilsl,.str ⟨#[]⟩,.nilsl,.i 0,.nilsl,.i 0])] 1) (fun i=>l.length - i) 0 ⟨Nat.zero_le _,rfl⟩ (fun i=>i) (by refine ent_mk (by simp[go_sem]) (by simp[go_sem]) (by simp) (by simp[hN])) ?_
 rintro i ⟨hi,he⟩
 by_cases hlt:i<l.length
 case neg=>
  obtain rfl:i=l.length:=by omega
  rw[List.drop_length,fstT] at he
  rw[he] at hQ
  repeat'(first|apply nx|refine zx ?_|rw[zw]|((first|refine hK _ ?_|refine hKp _ _ ?_);clear hK hKp K Kp;try clear hanc anc)|((with_reducible refine And.intro ?_ ?_);exact zb)|((first|refine zr hE fun K Kp hK hKp=>?_|refine zd true mixed hE fun K Kp hK hKp anc hanc=>?_|refine zd false mixed hE fun K Kp hK hKp anc hanc=>?_);simp only[go_sem,ge_dec])|(refine zg (fun hg=>?_) (fun hg=>?_)<;>simp only[go_sem,ge_dec,hg])|(refine zc (fun hc=>?_) (fun hc=>?_)<;>try exact zh hc))
  refine K_ret (hQ _ ⟨.tup [.agg [.str ⟨#[]⟩,.nilsl,.nilsl,.nilsl,.nilsl,.str ⟨#[]⟩,.nilsl,.i 0,.nilsl,.i 0],.bool false],?_,?_,?_,rfl⟩).1
  ·simp[resA,rvA,Tryd.f18,go_sem];rfl
  ·simp[AV.snapOk,AV.snapOkL]
  ·rfl
 obtain⟨f,hx⟩:=get?_of hlt
 have hmm:=fd_mem_le (List.mem_of_getElem? hx)
 have u0:=inc_u hlt (by omega)
 rw[drop_of hx,fstT] at he
 have c1:=inside_c (2 ^ 24) (Nat.le_refl _) f.b (by obtain⟨fm,p0,b0,cp0,a0,r0,bd,of0⟩:=f;rw[Fd.sz] at hmm;simp only[Fd.b];omega)
 obtain⟨fm,p0,b0,cp0,a0,r0,bd,of0⟩:=f
 simp only[Fd.b] at c1 he
 cases hb:fstL bd with
 |some g=>
  rw[hb] at c1 he
  have he2:fstT l=some g:=by rw[he];rfl
  rw[he2] at hQ
  obtain⟨f2,p2,b2,c2,a2,r2,d2,o2⟩:=g
  unfold inV at c1
  simp only[Fd.av] at c1
  repeat'(first|apply nx|refine zx ?_|rw[zw]|((first|refine hK _ ?_|refine hKp _ _ ?_);clear hK hKp K Kp;try clear hanc anc)|((with_reducible refine And.intro ?_ ?_);exact zb)|((first|refine zr hE fun K Kp hK hKp=>?_|refine zd true mixed hE fun K Kp hK hKp anc hanc=>?_|refine zd false mixed hE fun K Kp hK hKp anc hanc=>?_|(apply zm;exact zu;exact c1;exact zs;exact zl));simp only[go_sem,lt_dec hlt,hx,Fd.av])|(refine zg (fun hg=>?_) (fun hg=>?_)<;>simp only[go_sem,lt_dec hlt,hx,Fd.av,hg])|(refine zc (fun hc=>?_) (fun hc=>?_)<;>try exact zh hc))
  refine K_ret (hQ _ ⟨.tup [.agg [.str f2,.sl (nml p2),.sl (bdl b2),.sl (adl c2),.sl (adl a2),.str r2.n,.sl (Tx.avL r2.a),.i r2.o,.sl (stl d2),.i o2],.bool true],?_,?_,?_,inV_clo _⟩).1
  ·simp[resA,rvA,Tryd.f18,go_sem];rfl
  ·simp[AV.snapOk,AV.snapOkL]
  ·rfl
 |none=>
  rw[hb] at c1 he
  unfold inV at c1
  simp only at c1
  repeat'(first|apply nx|refine zx ?_|rw[zw]|((first|refine hK _ ?_|refine hKp _ _ ?_);clear hK hKp K Kp;try clear hanc anc)|((with_reducible refine And.intro ?_ ?_);exact zb)|((first|refine zr hE fun K Kp hK hKp=>?_|refine zd true mixed hE fun K Kp hK hKp anc hanc=>?_|refine zd false mixed hE fun K Kp hK hKp anc hanc=>?_|(apply zm;exact zu;exact c1;exact zs;exact zl));simp only[go_sem,lt_dec hlt,hx,Fd.av,u0])|(refine zg (fun hg=>?_) (fun hg=>?_)<;>simp only[go_sem,lt_dec hlt,hx,Fd.av,u0,hg])|(refine zc (fun hc=>?_) (fun hc=>?_)<;>try exact zh hc))
  exact⟨i+1,⟨hlt,he⟩,by omega,fun i=>i,by refine ent_mk (by simp[go_sem]) (by simp[go_sem]) (by simp) (by simp[hN])⟩
theorem order_c (hh:PCall Tryd.prog 7 [] (.bool true)) (x:Md) (hx:x.sz<2 ^ 40) (hw:wtF x.fs≤2 ^ 40) (hw1:∀ f,f∈x.fs→f.wt≤2 ^ 40):PCall Tryd.prog 6 [x.av] (.bool true):=by
 have c8:=few_c x hx
 have e9:=fun h=>lift_call x h hw1
 have e13:=fun h=>print_c x h
 obtain⟨mn,us,ds,ts,ms,fs⟩:=x
 unfold Md.av Md.cs at*
 simp only at*
 by_cases hf:fewN ⟨mn,us,ds,ts,ms,fs⟩≤400
 case neg=>
  rw[decide_eq_false hf] at c8
  clear e9 e13
  refine PCall.intro Tryd.func6 rfl isf6 (by simp[Tryd.f6]) (by simp[AV.cloL,AV.clo]) fun E Q hE hN hQ=>K_start ?_
  repeat'(first|apply nx|refine zx ?_|rw[zw]|((first|refine hK _ ?_|refine hKp _ _ ?_);clear hK hKp K Kp;try clear hanc anc)|((with_reducible refine And.intro ?_ ?_);exact zb)|((first|refine zr hE fun K Kp hK hKp=>?_|refine zd false mixed hE fun K Kp hK hKp anc hanc=>?_|(apply zm;exact zu;(first|exact hh|exact c8);exact zs;exact zl));simp only[go_sem])|(refine zg (fun hg=>?_) (fun hg=>?_)<;>simp only[go_sem,hg])|(refine zc (fun hc=>?_) (fun hc=>?_)<;>try exact zh hc)|(refine K_ret ?_;refine zt hQ ?_))
  rfl
 rw[decide_eq_true hf] at c8
 have hs:=few_sz hf
 have hs':(⟨mn,us,ds,ts,ms,fs⟩:Md).sz≤400:=by omega
 have hfs:fdSz fs≤400:=by unfold Md.sz at hs';simp only at hs';omega
 have c9:=e9 (by omega)
 have c13:=e13 (by omega)
 clear e9 e13
 have hln:=fd_len_le fs
 cases hpr:prM ⟨mn,us,ds,ts,ms,fs⟩
 ·rw[hpr] at c13
  refine PCall.intro Tryd.func6 rfl isf6 (by simp[Tryd.f6]) (by simp[AV.cloL,AV.clo]) fun E Q hE hN hQ=>K_start ?_
  repeat'(first|apply nx|refine zx ?_|rw[zw]|((first|refine hK _ ?_|refine hKp _ _ ?_);clear hK hKp K Kp;try clear hanc anc)|((with_reducible refine And.intro ?_ ?_);exact zb)|((first|refine zr hE fun K Kp hK hKp=>?_|refine zd false mixed hE fun K Kp hK hKp anc hanc=>?_|(apply zm;exact zu;(first|exact hh|exact c8|exact c13);exact zs;exact zl));simp only[go_sem])|(refine zg (fun hg=>?_) (fun hg=>?_)<;>simp only[go_sem,hg])|(refine zc (fun hc=>?_) (fun hc=>?_)<;>try exact zh hc)|(refine K_ret ?_;refine zt hQ ?_))
  rfl
 rw[hpr] at c13
 have hpf:=prM_pr hpr
 have hnbf:=prM_nb hpr
 simp only at hpf hnbf
 cases hl:liftL dec fs with
 |error e=>
  have h:=lift_err hl
  unfold liftAV at c9
  rw[hl] at c9
  unfold Md.av Md.cs at c9
  simp only at c9
  have q:(e.1 !=0)=true:=bne_iff_ne.2 h
  refine PCall.intro Tryd.func6 rfl isf6 (by simp[Tryd.f6]) (by simp[AV.cloL,AV.clo]) fun E Q hE hN hQ=>K_start ?_
  repeat'(first|apply nx|refine zx ?_|rw[zw]|((first|refine hK _ ?_|refine hKp _ _ ?_);clear hK hKp K Kp;try clear hanc anc)|((with_reducible refine And.intro ?_ ?_);exact zb)|((first|refine zr hE fun K Kp hK hKp=>?_|refine zd false mixed hE fun K Kp hK hKp anc hanc=>?_|(apply zm;exact zu;(first|exact hh|exact c8|exact c13|exact c9);exact zs;exact zl));simp only[go_sem,q])|(refine zg (fun hg=>?_) (fun hg=>?_)<;>simp only[go_sem,q,hg])|(refine zc (fun hc=>?_) (fun hc=>?_)<;>try exact zh hc)|(refine K_ret ?_;refine zt hQ ?_))
  rfl
 |ok z=>
  rw[lift_tup2 hl] at c9
  simp only at c9
  have hzl:=liftL_len hl
  have hzs:=lift_sz hl (by omega)
  have hkd:=lift_kinds hl (fun f hf=>(hpf f hf).1)
  have hfst:=fun f h=>lift_first hl (fun f hf=>(hpf f hf).1) f h
  have hnb2:=lift_nb hl (by omega) hw hnbf
  have hnb1:∀ f,f∈fs→nbL f.b:=fun f hf=>by
   have:=hnbf f hf
   obtain⟨fm,p0,b0,cp0,a0,r0,bd,of0⟩:=f
   rw[Fd.nb] at this
   exact this
  obtain⟨z1,z2⟩:=z
  simp only at hzl hzs hkd hfst hnb2 c9
  have hget:∀ j f,z1[j]? =some f→(z1++z2)[j]? =some f:=fun j f h=>by
   rw[List.getElem?_append_left (by have:=(List.getElem?_eq_some_iff.1 h).1;omega)];exact h
  have hlen2:(z1++z2).length=fs.length+z2.length:=by rw[List.length_append,hzl]
  have hget2:∀ g r,z2=g::r→(z1++z2)[fs.length]? =some g:=fun g r h=>by
   rw[List.getElem?_append_right (by omega),hzl,Nat.sub_self,h];rfl
  have hszm:∀ f,f∈z1++z2→stSz f.b≤2800000:=fun f hf=>by
   have h1:=fd_mem_le hf
   rw[fdSz_app] at h1
   have h2:stSz f.b≤f.sz:=by
    obtain⟨fm,p0,b0,cp0,a0,r0,bd,of0⟩:=f
    rw[Fd.sz,Fd.b];omega
   omega
  have hsz1:∀ f,f∈fs→stSz f.b≤400:=fun f hf=>by
   have h1:=fd_mem_le hf
   have h2:stSz f.b≤f.sz:=by
    obtain⟨fm,p0,b0,cp0,a0,r0,bd,of0⟩:=f
    rw[Fd.sz,Fd.b];omega
   omega
  have hz2:=fd_len_le z2
  generalize hfs2:z1++z2=fs2 at*
  have q4:decide ((fs2.length:Int)<(fs.length:Int))=false:=decide_eq_false (by omega)
  refine PCall.intro Tryd.func6 rfl isf6 (by simp[Tryd.f6]) (by simp[AV.cloL,AV.clo]) fun E Q hE hN hQ=>K_start ?_
  repeat'(first|apply nx|refine zx ?_|rw[zw]|((first|refine hK _ ?_|refine hKp _ _ ?_);clear hK hKp K Kp;try clear hanc anc)|((with_reducible refine And.intro ?_ ?_);exact zb)|((first|refine zr hE fun K Kp hK hKp=>?_|refine zd true mixed hE fun K Kp hK hKp anc hanc=>?_|refine zd false mixed hE fun K Kp hK hKp anc hanc=>?_|(apply zm;exact zu;(first|exact hh|exact c8|exact c13|exact c9);exact zs;exact zl));simp only[go_sem,q4])|(refine zg (fun hg=>?_) (fun hg=>?_)<;>simp only[go_sem,q4,hg])|(refine zc (fun hc=>?_) (fun hc=>?_)<;>try exact zh hc))
  clear c8 c13 c9 hh
  refine K_loop (X:=Nat) (fun i=>i≤fs.length) (fun i=>mkSt [(1,.ptr 0 0),(3,.bool true),(4,.ptr 1 0),(7,.i (i:Nat))] [(0,.cells [.str mn,.sl (nml us),.sl (dtl ds),.sl (trl ts),.sl (iml ms),.sl (fdl fs)]),(1,.cells [.str mn,.sl (nml us),.sl (dtl ds),.sl (trl ts),.sl (iml ms),.sl (fdl fs2)])] 2) (fun i=>fs.length - i) 0 (Nat.zero_le _) (fun i=>if i=0 then 0 else 18874368) (by refine ent_mk (by simp[go_sem]) (by simp[go_sem]) (by simp) (by simp[hN])) ?_
  rintro i hi
  by_cases hlt:i<fs.length
  ·obtain⟨f,hxx⟩:=get?_of hlt
   obtain⟨g,hy⟩:=get?_of (show i<z1.length by omega)
   have hy2:=hget i g hy
   have u0:=inc_u hlt (by omega)
   have hmf:=List.mem_of_getElem? hxx
   have hmg:=List.mem_of_getElem? hy2
   have e1:kdL g.b=kdL f.b:=by
    have h1:(z1.map fun f=>kdL f.b)[i]? =some (kdL g.b):=by rw[List.getElem?_map,hy];rfl
    have h2:(fs.map fun f=>kdL f.b)[i]? =some (kdL f.b):=by rw[List.getElem?_map,hxx];rfl
    rw[hkd,h2] at h1
    exact(Option.some.inj h1).symm
   have s1:=hsz1 f hmf
   have s2:=hszm g hmg
   have c1:=skinds_c (2 ^ 24) (Nat.le_refl _) f.b (by omega) (hnb1 f hmf)
   have c2:=skinds_c (2 ^ 24) (Nat.le_refl _) g.b (by omega) (hnb2 g hmg)
   have k1:=kdL_len f.b
   have c3:=same_c (kdL f.b) (kdL f.b) (by omega) (by omega)
   rw[decide_eq_true rfl] at c3
   rw[e1] at c2
   clear e1 s1 s2 k1 hmf hmg hy
   obtain⟨fm,p0,b0,cp0,a0,r0,bd,of0⟩:=f
   obtain⟨fm1,p1,b1,cp1,a1,r1,bd1,of1⟩:=g
   simp only[Fd.b] at c1 c2 c3
   repeat'(first|apply nx|refine zx ?_|rw[zw]|((first|refine hK _ ?_|refine hKp _ _ ?_);clear hK hKp K Kp;try clear hanc anc)|((with_reducible refine And.intro ?_ ?_);exact zb)|((first|refine zr hE fun K Kp hK hKp=>?_|refine zd true mixed hE fun K Kp hK hKp anc hanc=>?_|refine zd false mixed hE fun K Kp hK hKp anc hanc=>?_|(apply zm;exact zu;(first|exact c1|exact c2|exact c3);exact zs;exact zl));simp only[go_sem,lt_dec hlt,hxx,hy2,Fd.av,u0])|(refine zg (fun hg=>?_) (fun hg=>?_)<;>simp only[go_sem,lt_dec hlt,hxx,hy2,Fd.av,u0,hg])|(refine zc (fun hc=>?_) (fun hc=>?_)<;>try exact zh hc))
   exact⟨i+1,hlt,by omega,fun i=>i,by refine ent_mk (by simp[go_sem]) (by simp[go_sem]) (by simp) (by simp[hN])⟩
  obtain rfl:i=fs.length:=by omega
  have cf:=first_c fs (by omega)
  cases hft:fstT fs with
  |none=>
   rw[hft] at cf
   unfold inV at cf
   simp only at cf
   repeat'(first|apply nx|refine zx ?_|rw[zw]|((first|refine hK _ ?_|refine hKp _ _ ?_);clear hK hKp K Kp;try clear hanc anc)|((with_reducible refine And.intro ?_ ?_);exact zb)|((first|refine zr hE fun K Kp hK hKp=>?_|refine zd false mixed hE fun K Kp hK hKp anc hanc=>?_|(apply zm;exact zu;exact cf;exact zs;exact zl));simp only[go_sem,ge_dec])|(refine zg (fun hg=>?_) (fun hg=>?_)<;>simp only[go_sem,ge_dec,hg])|(refine zc (fun hc=>?_) (fun hc=>?_)<;>try exact zh hc)|(refine K_ret ?_;refine zt hQ ?_))
   rfl
  |some f=>
   rw[hft] at cf
   obtain⟨g,r,hz2e,hk⟩:=hfst f hft
   have hgx:=hget2 g r hz2e
   have hmg:=List.mem_of_getElem? hgx
   have s2:=hszm g hmg
   have hfb:nbL f.b∧stSz f.b≤400:=fstT_nb fs hnb1 hsz1 f hft
   have c1:=skinds_c (2 ^ 24) (Nat.le_refl _) f.b (by omega) hfb.1
   have c2:=skinds_c (2 ^ 24) (Nat.le_refl _) g.b (by omega) (hnb2 g hmg)
   have k1:=kdL_len f.b
   have c3:=same_c (kdL f.b) (kdL f.b) (by omega) (by omega)
   rw[decide_eq_true rfl] at c3
   rw[hk] at c2
   have q5:decide ((fs2.length:Int)>(fs.length:Int))=true:=decide_eq_true (by rw[hlen2,hz2e,List.length_cons];omega)
   clear hk s2 k1 hmg hfb hz2e
   obtain⟨fm,p0,b0,cp0,a0,r0,bd,of0⟩:=f
   obtain⟨fm1,p1,b1,cp1,a1,r1,bd1,of1⟩:=g
   simp only[Fd.b] at c1 c2 c3
   unfold inV at cf
   simp only[Fd.av] at cf
   repeat'(first|apply nx|refine zx ?_|rw[zw]|((first|refine hK _ ?_|refine hKp _ _ ?_);clear hK hKp K Kp;try clear hanc anc)|((with_reducible refine And.intro ?_ ?_);exact zb)|((first|refine zr hE fun K Kp hK hKp=>?_|refine zd false mixed hE fun K Kp hK hKp anc hanc=>?_|(apply zm;exact zu;(first|exact cf|exact c1|exact c2|exact c3);exact zs;exact zl));simp only[go_sem,ge_dec,hgx,Fd.av,q5])|(refine zg (fun hg=>?_) (fun hg=>?_)<;>simp only[go_sem,ge_dec,hgx,Fd.av,q5,hg])|(refine zc (fun hc=>?_) (fun hc=>?_)<;>try exact zh hc)|(refine K_ret ?_;refine zt hQ ?_))
   rfl
end Go.Proofs.YtffmphmiicnaeaaDoor
