/- A part of the proof: an abstract machine for the walks, and what the walked functions compute. -/
import Derived.Lib.ItoaLen
import Derived.Test.YtffmphmiicnaeaaDoorRg
import Derived.Test.YtffmphmiicnaeaaDoorRa
import Derived.Test.YtffmphmiicnaeaaDoorRc
set_option linter.unusedVariables false
set_option linter.unusedSimpArgs false
set_option maxHeartbeats 4000000
set_option maxRecDepth 100000
namespace Go.Lf
open Go Go.Am
def vdB' (v:Vd):Bool:=nameB v.nm&&typesB v.fs
def dtB' (d:Dt):Bool:=nameB d.nm&&(namesB d.ps&&(!((d.vs.length:Int)==0)&&((decide (d.dr≥ -1)&&decide (d.dr≤1000000000))&&d.vs.all vdB')))
def imB' (x:Im):Bool:=nameB x.tr&&(namesB x.ps&&(bdlB x.bs&&(typeB x.ty&&nameB x.fn)))
def prM (x:Md):Bool:=nameB x.nm&&(namesB x.us&&(x.ds.all dtB'&&(x.ts.all (fun t=>nameB t.nm)&&(x.ms.all imB'&&x.fs.all (funB false)))))
theorem nd_empty:NoDot ⟨#[]⟩:=by unfold NoDot;simp
theorem nd_of_neq {n:Nm} (h:neq0 n=false):NoDot n:=by
 unfold neq0 at h
 have h1:decide (n=⟨#[]⟩)=true:=by simpa only[Bool.not_eq_false'] using h
 rw[of_decide_eq_true h1]
 exact nd_empty
theorem exRest_nd {ex:Ex} (hp:¬ exPre ex=true) (h:exRest ex=true):NoDot ex.nm:=by
 unfold exPre at hp
 simp only[Bool.or_eq_true,not_or,Bool.not_eq_true,Bool.not_eq_false'] at hp
 obtain⟨⟨⟨⟨⟨⟨⟨a1,a2⟩,a3⟩,a4⟩,a5⟩,a6⟩,a7⟩,a8⟩:=hp
 have a4:=eq_of_beq a4
 by_cases h4:(ex.k==4)=true
 ·unfold exRest at h
  have e:=eq_of_beq h4
  rw[e] at h
  simp at h
  exact nameB_nd h.1
 by_cases h15:(ex.k==15)=true
 ·unfold exRest at h
  have e:=eq_of_beq h15
  rw[e] at h
  simp at h
  exact nameB_nd h
 by_cases h16:(ex.k==16)=true
 ·unfold exRest at h
  have e:=eq_of_beq h16
  rw[e] at h
  simp at h
  exact nameB_nd h.1
 ·rw[eq_false_of_ne_true h4,eq_false_of_ne_true h15,eq_false_of_ne_true h16] at a4
  exact nd_of_neq (by simpa only[Bool.or_false] using a4)
mutual
theorem stmtB_pr:∀ s:St,stmtB s=true→s.pr
 | .mk k nm ns ty ex th el ar fn off,h=>by
  rw[stmtB] at h
  split at h
  ·cases h
  rename_i h1
  split at h
  ·cases h
  rename_i h2
  split at h
  ·cases h
  rename_i h3
  split at h
  ·cases h
  split at h
  case isFalse=>cases h
  rename_i h5
  unfold st1 at h1
  unfold st2 at h2
  unfold st3 at h3
  unfold st5 at h
  simp only[Bool.or_eq_true,not_or,Bool.not_eq_true,Bool.not_eq_false'] at h1 h2 h3
  obtain⟨⟨⟨⟨⟨a1,a2⟩,a3⟩,a4⟩,a5⟩,a6⟩:=h1
  obtain⟨⟨⟨b1,b2⟩,b3⟩,b4⟩:=h2
  obtain⟨⟨⟨⟨c1,c2⟩,c3⟩,c4⟩,c5⟩:=h3
  rw[St.pr]
  have hfn:fn.length≤1:=by have:=of_decide_eq_false c5;omega
  have hk:(fn.length=1↔k=13):=by
   have:=eq_of_beq c4
   rw[Bool.eq_iff_iff] at this
   simp only[beq_iff_eq] at this
   constructor
   ·intro h;exact this.1 (by omega)
   ·intro h;have:=this.2 h;omega
  refine⟨?_,?_,hk,hfn,blkB_pr th a5,blkB_pr el a6,armsB_pr ar h5,?_⟩
  ·by_cases hn:nm=⟨#[]⟩
   ·rw[hn];exact nd_empty
   ·have:(!decide (nm=⟨#[]⟩))=true:=by simp[hn]
    rw[this] at a1
    have hq:=(eq_of_beq a1).symm
    rw[hq] at a2
    exact nameB_nd (by simpa using a2)
  ·have hex:emptyB ex=true∨exprB ex=true:=by
    cases he:emptyB ex
    ·rw[he] at b2;right;simpa using b2
    ·exact .inl rfl
   rcases hex with he|he
   ·unfold emptyB at he
    simp only[Bool.and_eq_true,Bool.not_eq_true'] at he
    obtain⟨⟨⟨⟨⟨⟨_,_⟩,e3⟩,_⟩,_⟩,_⟩,_⟩:=he
    exact nd_of_neq e3
   ·unfold exprB at he
    split at he
    ·cases he
    ·rename_i hp
     exact exRest_nd hp he
  ·by_cases h1:fn.length=1
   ·match fn,h1 with
    | [f],_=>
     have hq:((([f]:List Fd).length:Int)==1)=true:=rfl
     rw[hq,fnsB,Bool.true_and] at h
     cases hb:funB true f
     ·rw[hb] at h;cases h
     ·rw[fdP,fdP];exact⟨funB_pr true f hb,trivial⟩
   ·have:fn=[]:=List.length_eq_zero_iff.1 (by omega)
    rw[this,fdP]
    trivial
theorem blkB_pr:∀ l:List St,blkB l=true→stP l
 | [],_=>by rw[stP];trivial
 |s::l,h=>by
  rw[blkB,Bool.and_eq_true] at h
  rw[stP]
  exact⟨stmtB_pr s h.1,blkB_pr l h.2⟩
theorem armB_pr:∀ s:Ar,armB s=true→s.pr
 | .mk v ns b off,h=>by
  rw[armB,Bool.and_eq_true] at h
  rw[Ar.pr]
  exact blkB_pr b h.2
theorem armsB_pr:∀ l:List Ar,armsB l=true→arP l
 | [],_=>by rw[arP];trivial
 |s::l,h=>by
  rw[armsB,Bool.and_eq_true] at h
  rw[arP]
  exact⟨armB_pr s h.1,armsB_pr l h.2⟩
theorem funB_pr:∀ (b:Bool) (f:Fd),funB b f=true→f.pr
 |nb,.mk nm ps bs cs ag res b off,h=>by
  rw[funB] at h
  split at h
  ·cases h
  simp only[Bool.and_eq_true] at h
  obtain⟨⟨⟨⟨⟨⟨f1,f2⟩,f3⟩,f4⟩,f5⟩,f6⟩,f7⟩:=h
  rw[Fd.pr]
  refine⟨nameB_nd f1,fun c hc=>?_,blkB_pr b f7⟩
  have:=List.all_eq_true.1 f4 c hc
  unfold agB at this
  rw[Bool.and_eq_true] at this
  exact nameB_nd this.1
end
theorem prM_pr {x:Md} (h:prM x=true):∀ f,f∈x.fs→f.pr∧NoDot f.nm:=by
 intro f hf
 unfold prM at h
 simp only[Bool.and_eq_true] at h
 have hb:=List.all_eq_true.1 h.2.2.2.2.2 f hf
 have hp:=funB_pr false f hb
 refine⟨hp,?_⟩
 obtain⟨nm,ps,bs,cs,ag,res,b,off⟩:=f
 rw[Fd.pr] at hp
 exact hp.1
end Go.Lf
namespace Go.Proofs.YtffmphmiicnaeaaDoor
open Go.Am Go.Proofs Go.Lf
open Classical
attribute [local irreducible] AW CallP CallB
theorem pblock_c' (l:List Lf.St) (hl:l.length≤2 ^ 30) (h:∀ s,s∈l→PCall Tryd.prog 73 [s.av] (.bool (stmtB s))):PCall Tryd.prog 59 [.sl (stl l)] (.bool (blkB l)):=by
 refine PCall.intro Tryd.func59 rfl isf59 (by simp[Tryd.f59]) (by simp[AV.cloL,AV.clo]) fun E Q hE hN hQ=>K_start ?_
 repeat'(first|apply nx|refine zx ?_|rw[zw]|((first|refine hK _ ?_|refine hKp _ _ ?_);clear hK hKp K Kp;try clear hanc anc)|((with_reducible refine And.intro ?_ ?_);exact zb)|((first|refine zr hE fun K Kp hK hKp=>?_|refine zd true mixed hE fun K Kp hK hKp anc hanc=>?_|refine zd false mixed hE fun K Kp hK hKp anc hanc=>?_);simp only[go_sem])|(refine zg (fun hg=>?_) (fun hg=>?_)<;>simp only[go_sem,hg])|(refine zc (fun hc=>?_) (fun hc=>?_)<;>try exact zh hc))
 refine K_loop (X:=Nat) (fun i=>i≤l.length∧blkB l=blkB (l.drop i)) (fun i=>mkSt [(0,.sl (stl l)),(3,.i (i:Nat))] [] 1) (fun i=>l.length - i) 0 ⟨Nat.zero_le _,rfl⟩ (fun i=>i) (by refine ent_mk (by simp[go_sem]) (by simp[go_sem]) (by simp) (by simp[hN])) ?_
 rintro i ⟨hi,he⟩
 by_cases hlt:i<l.length
 case neg=>
  obtain rfl:i=l.length:=by omega
  rw[List.drop_length] at he
  rw[he] at hQ
  repeat'(first|apply nx|refine zx ?_|rw[zw]|((first|refine hK _ ?_|refine hKp _ _ ?_);clear hK hKp K Kp;try clear hanc anc)|((with_reducible refine And.intro ?_ ?_);exact zb)|((first|refine zr hE fun K Kp hK hKp=>?_|refine zd false mixed hE fun K Kp hK hKp anc hanc=>?_);simp only[go_sem,ge_dec])|(refine zg (fun hg=>?_) (fun hg=>?_)<;>simp only[go_sem,ge_dec,hg])|(refine zc (fun hc=>?_) (fun hc=>?_)<;>try exact zh hc)|(refine K_ret ?_;refine zt hQ ?_))
  rfl
 obtain⟨c,hx⟩:=get?_of hlt
 have u0:=inc_u hlt (by omega)
 have cn:=h c (List.mem_of_getElem? hx)
 rw[drop_of hx,blkB] at he
 obtain⟨k,nm,ns,ty,ex,th,el,ar,fn,off⟩:=c
 rw[Lf.St.av] at cn
 cases hb:stmtB (.mk k nm ns ty ex th el ar fn off)
 ·rw[hb] at he cn
  rw[he] at hQ
  repeat'(first|apply nx|refine zx ?_|rw[zw]|((first|refine hK _ ?_|refine hKp _ _ ?_);clear hK hKp K Kp;try clear hanc anc)|((with_reducible refine And.intro ?_ ?_);exact zb)|((first|refine zr hE fun K Kp hK hKp=>?_|refine zd false mixed hE fun K Kp hK hKp anc hanc=>?_|(apply zm;exact zu;exact cn;exact zs;exact zl));simp only[go_sem,lt_dec hlt,hx,Lf.St.av])|(refine zg (fun hg=>?_) (fun hg=>?_)<;>simp only[go_sem,lt_dec hlt,hx,Lf.St.av,hg])|(refine zc (fun hc=>?_) (fun hc=>?_)<;>try exact zh hc)|(refine K_ret ?_;refine zt hQ ?_))
  rfl
 ·rw[hb] at he cn
  repeat'(first|apply nx|refine zx ?_|rw[zw]|((first|refine hK _ ?_|refine hKp _ _ ?_);clear hK hKp K Kp;try clear hanc anc)|((with_reducible refine And.intro ?_ ?_);exact zb)|((first|refine zr hE fun K Kp hK hKp=>?_|refine zd true mixed hE fun K Kp hK hKp anc hanc=>?_|refine zd false mixed hE fun K Kp hK hKp anc hanc=>?_|(apply zm;exact zu;exact cn;exact zs;exact zl));simp only[go_sem,lt_dec hlt,hx,Lf.St.av,u0])|(refine zg (fun hg=>?_) (fun hg=>?_)<;>simp only[go_sem,lt_dec hlt,hx,Lf.St.av,u0,hg])|(refine zc (fun hc=>?_) (fun hc=>?_)<;>try exact zh hc))
  exact⟨i+1,⟨hlt,by rw[he];rfl⟩,by omega,fun i=>i,by refine ent_mk (by simp[go_sem]) (by simp[go_sem]) (by simp) (by simp[hN])⟩
theorem fun_c (nb:Bool) (f:Lf.Fd) (hs:f.sz≤2 ^ 20) (cb:PCall Tryd.prog 59 [.sl (stl f.b)] (.bool (blkB f.b))):PCall Tryd.prog 39 [f.av,.bool nb] (.bool (funB nb f)):=by
 obtain⟨fm,ps,bs,cp,ag,rs,b,off⟩:=f
 rw[Fd.sz] at hs
 simp only[Fd.b] at cb
 have c1:=name_c fm
 have c2:=pnames_c ps (by omega)
 have c3:=bounds_c bs (by omega)
 have c4:=args_c true cp (by omega)
 have c5:=args_c false ag (by omega)
 have c6:=type_c (2 ^ 40) (Nat.le_refl _) rs (by omega)
 rw[Fd.av,funB]
 have w1:IntKind.i64.wrap ((ps.length:Int)+(bs.length:Int))=(ps.length:Int)+bs.length:=by rw[wrap64 (by omega) (by omega)]
 generalize namesB ps=b2 at c2 ⊢
 generalize bdlB bs=b3 at c3 ⊢
 generalize agsB true cp=b4 at c4 ⊢
 generalize agsB false ag=b5 at c5 ⊢
 generalize typeB rs=b6 at c6 ⊢
 generalize blkB b=b7 at cb ⊢
 generalize nameB fm=b1 at c1 ⊢
 cases nb
 ·refine PCall.intro Tryd.func39 rfl isf39 (by simp[Tryd.f39]) (by simp[AV.cloL,AV.clo]) fun E Q hE hN hQ=>K_start ?_
  repeat'(first|apply nx|refine zx ?_|rw[zw]|((first|refine hK _ ?_|refine hKp _ _ ?_);clear hK hKp K Kp;try clear hanc anc)|((with_reducible refine And.intro ?_ ?_);exact zb)|((first|refine zr hE fun K Kp hK hKp=>?_|refine zd false mixed hE fun K Kp hK hKp anc hanc=>?_|(apply zm;exact zu;(first|exact c1|exact c2|exact c3|exact c4|exact c5|exact c6|exact cb);exact zs;exact zl));simp only[go_sem,w1])|(refine zg (fun hg=>?_) (fun hg=>?_)<;>simp only[go_sem,w1,hg])|(refine zc (fun hc=>?_) (fun hc=>?_)<;>try exact zh hc)|(refine K_ret ?_;refine zt hQ ?_))
  all_goals (clear hQ c1 c2 c3 c4 c5 c6 cb w1 hs hE hN;first|(simp_all[AV.snap];done)|trace_state)
 ·refine PCall.intro Tryd.func39 rfl isf39 (by simp[Tryd.f39]) (by simp[AV.cloL,AV.clo]) fun E Q hE hN hQ=>K_start ?_
  repeat'(first|apply nx|refine zx ?_|rw[zw]|((first|refine hK _ ?_|refine hKp _ _ ?_);clear hK hKp K Kp;try clear hanc anc)|((with_reducible refine And.intro ?_ ?_);exact zb)|((first|refine zr hE fun K Kp hK hKp=>?_|refine zd false mixed hE fun K Kp hK hKp anc hanc=>?_|(apply zm;exact zu;(first|exact c1|exact c2|exact c3|exact c4|exact c5|exact c6|exact cb);exact zs;exact zl));simp only[go_sem,w1])|(refine zg (fun hg=>?_) (fun hg=>?_)<;>simp only[go_sem,w1,hg])|(refine zc (fun hc=>?_) (fun hc=>?_)<;>try exact zh hc)|(refine K_ret ?_;refine zt hQ ?_))
  all_goals (clear hQ c1 c2 c3 c4 c5 c6 cb w1 hs hE hN;first|(simp_all[AV.snap];done)|trace_state)
theorem pblock_c:∀ (N:Nat),N≤2 ^ 20→∀ l:List Lf.St,stSz l<N→PCall Tryd.prog 59 [.sl (stl l)] (.bool (blkB l)):=by
 intro N
 induction N with
 |zero=>intro _ l h;omega
 |succ N IH=>
  intro hN1 l hl
  have hln:=st_len_le l
  refine pblock_c' l (by omega) fun s hs=>?_
  have hm:=st_mem_le hs
  obtain⟨k,nm,ns,ty,ex,th,el,ar,fn,off⟩:=s
  rw[St.sz] at hm
  have har:=ar_len_le ar
  rw[Lf.St.av]
  refine stmt_c1 (fun f hf=>?_) (by omega) (fun v ns1 b o hb=>?_) (by omega) (by omega) (by omega) (IH (by omega) th (by omega)) (IH (by omega) el (by omega))
  ·subst hf
   rw[fdSz,fdSz] at hm
   refine fun_c true f (by omega) (IH (by omega) _ ?_)
   obtain⟨fm,ps,bs,cp,ag,rs,b,off⟩:=f
   rw[Fd.sz] at hm
   simp only[Fd.b]
   omega
  ·have h2:=ar_mem_le hb
   rw[Ar.sz] at h2
   exact⟨by omega,IH (by omega) b (by omega)⟩
end Go.Proofs.YtffmphmiicnaeaaDoor

set_option maxHeartbeats 4000000
set_option maxRecDepth 100000
namespace Go.Lf
open Go Go.Am
theorem dt_mem {d:Dt} {l:List Dt} (h:d∈l):1+d.ps.length+vdSz d.vs≤dtSz l:=sum_mem (f:=fun d:Dt=>1+d.ps.length+vdSz d.vs) h
theorem vd_mem {d:Vd} {l:List Vd} (h:d∈l):1+Tx.szL d.fs≤vdSz l:=sum_mem (f:=fun v:Vd=>1+Tx.szL v.fs) h
theorem im_mem {d:Im} {l:List Im} (h:d∈l):1+d.ps.length+d.bs.length+d.ty.sz≤imSz l:=sum_mem (f:=fun x:Im=>1+x.ps.length+x.bs.length+x.ty.sz) h
end Go.Lf
namespace Go.Proofs.YtffmphmiicnaeaaDoor
open Go.Am Go.Proofs Go.Lf
open Classical
attribute [local irreducible] AW CallP CallB
theorem print_c (x:Md) (hx:x.sz≤2 ^ 19):PCall Tryd.prog 13 [x.av] (.bool (prM x)):=by
 obtain⟨mn,us,ds,ts,ms,fs⟩:=x
 unfold Md.sz at hx
 simp only at hx
 have hld:=dt_len ds
 have hlm:=im_len ms
 have hlf:=fd_len_le fs
 have c1:=name_c mn
 have c2:=pnames_c us (by omega)
 unfold Md.av Md.cs prM
 simp only
 cases h1:nameB mn
 ·rw[h1] at c1
  refine PCall.intro Tryd.func13 rfl isf13 (by simp[Tryd.f13]) (by simp[AV.cloL,AV.clo]) fun E Q hE hN hQ=>K_start ?_
  repeat'(first|apply nx|refine zx ?_|rw[zw]|((first|refine hK _ ?_|refine hKp _ _ ?_);clear hK hKp K Kp;try clear hanc anc)|((with_reducible refine And.intro ?_ ?_);exact zb)|((first|refine zr hE fun K Kp hK hKp=>?_|refine zd false mixed hE fun K Kp hK hKp anc hanc=>?_|(apply zm;exact zu;exact c1;exact zs;exact zl));simp only[go_sem])|(refine zg (fun hg=>?_) (fun hg=>?_)<;>simp only[go_sem,hg])|(refine zc (fun hc=>?_) (fun hc=>?_)<;>try exact zh hc)|(refine K_ret ?_;refine zt hQ ?_))
  rfl
 cases h2:namesB us
 ·rw[h1] at c1
  rw[h2] at c2
  refine PCall.intro Tryd.func13 rfl isf13 (by simp[Tryd.f13]) (by simp[AV.cloL,AV.clo]) fun E Q hE hN hQ=>K_start ?_
  repeat'(first|apply nx|refine zx ?_|rw[zw]|((first|refine hK _ ?_|refine hKp _ _ ?_);clear hK hKp K Kp;try clear hanc anc)|((with_reducible refine And.intro ?_ ?_);exact zb)|((first|refine zr hE fun K Kp hK hKp=>?_|refine zd false mixed hE fun K Kp hK hKp anc hanc=>?_|(apply zm;exact zu;(first|exact c1|exact c2);exact zs;exact zl));simp only[go_sem])|(refine zg (fun hg=>?_) (fun hg=>?_)<;>simp only[go_sem,hg])|(refine zc (fun hc=>?_) (fun hc=>?_)<;>try exact zh hc)|(refine K_ret ?_;refine zt hQ ?_))
  rfl
 rw[h1] at c1
 rw[h2] at c2
 simp only[Bool.true_and]
 refine PCall.intro Tryd.func13 rfl isf13 (by simp[Tryd.f13]) (by simp[AV.cloL,AV.clo]) fun E Q hE hN hQ=>K_start ?_
 repeat'(first|apply nx|refine zx ?_|rw[zw]|((first|refine hK _ ?_|refine hKp _ _ ?_);clear hK hKp K Kp;try clear hanc anc)|((with_reducible refine And.intro ?_ ?_);exact zb)|((first|refine zr hE fun K Kp hK hKp=>?_|refine zd true mixed hE fun K Kp hK hKp anc hanc=>?_|refine zd false mixed hE fun K Kp hK hKp anc hanc=>?_|(apply zm;exact zu;(first|exact c1|exact c2);exact zs;exact zl));simp only[go_sem])|(refine zg (fun hg=>?_) (fun hg=>?_)<;>simp only[go_sem,hg])|(refine zc (fun hc=>?_) (fun hc=>?_)<;>try exact zh hc))
 clear c1 c2
 refine K_loop (X:=Nat) (fun i=>i≤ds.length∧ds.all dtB'=(ds.drop i).all dtB') (fun i=>(mkSt [(1,.ptr 0 0),(3,.i (i:Nat))] [(0,.cells [.str mn,.sl (nml us),.sl (dtl ds),.sl (trl ts),.sl (iml ms),.sl (fdl fs)])] 1)) (fun i=>ds.length - i) 0 ⟨Nat.zero_le _,rfl⟩ (fun i=>i) (by refine ent_mk (by simp[go_sem]) (by simp[go_sem]) (by simp) (by simp[hN])) ?_
 rintro i ⟨hi,he⟩
 by_cases hlt:i<ds.length
 ·obtain⟨⟨dn,dp,dv,dr,dof⟩,hxx⟩:=get?_of hlt
  have hmm:=dt_mem (List.mem_of_getElem? hxx)
  simp only at hmm
  have hlv:=vd_len dv
  have u0:=inc_u hlt (by omega)
  have c1:=name_c dn
  have c2:=pnames_c dp (by omega)
  have c3:=between_c dr (-1) 1000000000
  rw[drop_of hxx,List.all_cons] at he
  rw[show dtB' ⟨dn,dp,dv,dr,dof⟩=(nameB dn&&(namesB dp&&(!((dv.length:Int)==0)&&((decide (dr≥ -1)&&decide (dr≤1000000000))&&dv.all vdB')))) from rfl] at he
  generalize (decide (dr≥ -1)&&decide (dr≤1000000000))=b3 at c3 he
  cases h1:nameB dn
  ·rw[h1] at c1 he
   rw[he] at hQ
   repeat'(first|apply nx|refine zx ?_|rw[zw]|((first|refine hK _ ?_|refine hKp _ _ ?_);clear hK hKp K Kp;try clear hanc anc)|((with_reducible refine And.intro ?_ ?_);exact zb)|((first|refine zr hE fun K Kp hK hKp=>?_|refine zd false mixed hE fun K Kp hK hKp anc hanc=>?_|(apply zm;exact zu;exact c1;exact zs;exact zl));simp only[go_sem,lt_dec hlt,hxx,Dt.av])|(refine zg (fun hg=>?_) (fun hg=>?_)<;>simp only[go_sem,lt_dec hlt,hxx,Dt.av,hg])|(refine zc (fun hc=>?_) (fun hc=>?_)<;>try exact zh hc)|(refine K_ret ?_;refine zt hQ ?_))
   rfl
  cases h2:namesB dp
  ·rw[h1] at c1 he
   rw[h2] at c2 he
   rw[he] at hQ
   repeat'(first|apply nx|refine zx ?_|rw[zw]|((first|refine hK _ ?_|refine hKp _ _ ?_);clear hK hKp K Kp;try clear hanc anc)|((with_reducible refine And.intro ?_ ?_);exact zb)|((first|refine zr hE fun K Kp hK hKp=>?_|refine zd false mixed hE fun K Kp hK hKp anc hanc=>?_|(apply zm;exact zu;(first|exact c1|exact c2);exact zs;exact zl));simp only[go_sem,lt_dec hlt,hxx,Dt.av])|(refine zg (fun hg=>?_) (fun hg=>?_)<;>simp only[go_sem,lt_dec hlt,hxx,Dt.av,hg])|(refine zc (fun hc=>?_) (fun hc=>?_)<;>try exact zh hc)|(refine K_ret ?_;refine zt hQ ?_))
   rfl
  rw[h1] at c1 he
  rw[h2] at c2 he
  cases h3:((dv.length:Int)==0)
  case true=>
   rw[h3] at he
   rw[he] at hQ
   repeat'(first|apply nx|refine zx ?_|rw[zw]|((first|refine hK _ ?_|refine hKp _ _ ?_);clear hK hKp K Kp;try clear hanc anc)|((with_reducible refine And.intro ?_ ?_);exact zb)|((first|refine zr hE fun K Kp hK hKp=>?_|refine zd false mixed hE fun K Kp hK hKp anc hanc=>?_|(apply zm;exact zu;(first|exact c1|exact c2);exact zs;exact zl));simp only[go_sem,lt_dec hlt,hxx,Dt.av,h3])|(refine zg (fun hg=>?_) (fun hg=>?_)<;>simp only[go_sem,lt_dec hlt,hxx,Dt.av,h3,hg])|(refine zc (fun hc=>?_) (fun hc=>?_)<;>try exact zh hc)|(refine K_ret ?_;refine zt hQ ?_))
   rfl
  rw[h3] at he
  cases b3
  ·rw[he] at hQ
   repeat'(first|apply nx|refine zx ?_|rw[zw]|((first|refine hK _ ?_|refine hKp _ _ ?_);clear hK hKp K Kp;try clear hanc anc)|((with_reducible refine And.intro ?_ ?_);exact zb)|((first|refine zr hE fun K Kp hK hKp=>?_|refine zd false mixed hE fun K Kp hK hKp anc hanc=>?_|(apply zm;exact zu;(first|exact c1|exact c2|exact c3);exact zs;exact zl));simp only[go_sem,lt_dec hlt,hxx,Dt.av,h3])|(refine zg (fun hg=>?_) (fun hg=>?_)<;>simp only[go_sem,lt_dec hlt,hxx,Dt.av,h3,hg])|(refine zc (fun hc=>?_) (fun hc=>?_)<;>try exact zh hc)|(refine K_ret ?_;refine zt hQ ?_))
   rfl
  repeat'(first|apply nx|refine zx ?_|rw[zw]|((first|refine hK _ ?_|refine hKp _ _ ?_);clear hK hKp K Kp;try clear hanc anc)|((with_reducible refine And.intro ?_ ?_);exact zb)|((first|refine zr hE fun K Kp hK hKp=>?_|refine zd true mixed hE fun K Kp hK hKp anc hanc=>?_|refine zd false mixed hE fun K Kp hK hKp anc hanc=>?_|(apply zm;exact zu;(first|exact c1|exact c2|exact c3);exact zs;exact zl));simp only[go_sem,lt_dec hlt,hxx,Dt.av,h3])|(refine zg (fun hg=>?_) (fun hg=>?_)<;>simp only[go_sem,lt_dec hlt,hxx,Dt.av,h3,hg])|(refine zc (fun hc=>?_) (fun hc=>?_)<;>try exact zh hc))
  clear c1 c2 c3
  simp only[Bool.true_and,Bool.not_false] at he
  refine K_loop (X:=Nat) (fun j=>j≤dv.length∧dv.all vdB'=(dv.drop j).all vdB') (fun j=>(mkSt [(1,.ptr 0 0),(3,.i (i:Nat)),(4,.ptr 1 0),(5,.i (j:Nat))] [(0,.cells [.str mn,.sl (nml us),.sl (dtl ds),.sl (trl ts),.sl (iml ms),.sl (fdl fs)]),(1,.cells [.str dn,.sl (nml dp),.sl (vdl dv),.i dr,.i dof])] 2)) (fun j=>dv.length - j) 0 ⟨Nat.zero_le _,rfl⟩ (fun i=>if i=1 then 10485761 else i) (by refine ent_mk (by simp[go_sem]) (by simp[go_sem]) (by simp) (by simp[hN])) ?_
  rintro j ⟨hj,he2⟩
  by_cases hlj:j<dv.length
  ·obtain⟨⟨vn,vt,vo⟩,hy⟩:=get?_of hlj
   have hmv:=vd_mem (List.mem_of_getElem? hy)
   simp only at hmv
   have v0:=inc_u hlj (by omega)
   have c1:=name_c vn
   have c2:=types_c vt (by omega)
   rw[drop_of hy,List.all_cons,show vdB' ⟨vn,vt,vo⟩=(nameB vn&&typesB vt) from rfl] at he2
   cases h1:nameB vn
   ·rw[h1] at c1 he2
    rw[he,he2] at hQ
    repeat'(first|apply nx|refine zx ?_|rw[zw]|((first|refine hK _ ?_|refine hKp _ _ ?_);clear hK hKp K Kp;try clear hanc anc)|((with_reducible refine And.intro ?_ ?_);exact zb)|((first|refine zr hE fun K Kp hK hKp=>?_|refine zd false mixed hE fun K Kp hK hKp anc hanc=>?_|(apply zm;exact zu;exact c1;exact zs;exact zl));simp only[go_sem,lt_dec hlj,hy,Vd.av])|(refine zg (fun hg=>?_) (fun hg=>?_)<;>simp only[go_sem,lt_dec hlj,hy,Vd.av,hg])|(refine zc (fun hc=>?_) (fun hc=>?_)<;>try exact zh hc)|(refine K_ret ?_;refine zt hQ ?_))
    rfl
   cases h2:typesB vt
   ·rw[h1] at c1 he2
    rw[h2] at c2 he2
    rw[he,he2] at hQ
    repeat'(first|apply nx|refine zx ?_|rw[zw]|((first|refine hK _ ?_|refine hKp _ _ ?_);clear hK hKp K Kp;try clear hanc anc)|((with_reducible refine And.intro ?_ ?_);exact zb)|((first|refine zr hE fun K Kp hK hKp=>?_|refine zd false mixed hE fun K Kp hK hKp anc hanc=>?_|(apply zm;exact zu;(first|exact c1|exact c2);exact zs;exact zl));simp only[go_sem,lt_dec hlj,hy,Vd.av])|(refine zg (fun hg=>?_) (fun hg=>?_)<;>simp only[go_sem,lt_dec hlj,hy,Vd.av,hg])|(refine zc (fun hc=>?_) (fun hc=>?_)<;>try exact zh hc)|(refine K_ret ?_;refine zt hQ ?_))
    rfl
   rw[h1] at c1 he2
   rw[h2] at c2 he2
   repeat'(first|apply nx|refine zx ?_|rw[zw]|((first|refine hK _ ?_|refine hKp _ _ ?_);clear hK hKp K Kp;try clear hanc anc)|((with_reducible refine And.intro ?_ ?_);exact zb)|((first|refine zr hE fun K Kp hK hKp=>?_|refine zd true mixed hE fun K Kp hK hKp anc hanc=>?_|refine zd false mixed hE fun K Kp hK hKp anc hanc=>?_|(apply zm;exact zu;(first|exact c1|exact c2);exact zs;exact zl));simp only[go_sem,lt_dec hlj,hy,Vd.av,v0])|(refine zg (fun hg=>?_) (fun hg=>?_)<;>simp only[go_sem,lt_dec hlj,hy,Vd.av,v0,hg])|(refine zc (fun hc=>?_) (fun hc=>?_)<;>try exact zh hc))
   exact⟨j+1,⟨hlj,by rw[he2];rfl⟩,by omega,fun i=>i,by refine ent_mk (by simp[go_sem]) (by simp[go_sem]) (by simp) (by simp[hN])⟩
  ·obtain rfl:j=dv.length:=by omega
   rw[List.drop_length,List.all_nil] at he2
   rw[he2] at he
   repeat'(first|apply nx|refine zx ?_|rw[zw]|((first|refine hK _ ?_|refine hKp _ _ ?_);clear hK hKp K Kp;try clear hanc anc)|((with_reducible refine And.intro ?_ ?_);exact zb)|((first|refine zr hE fun K Kp hK hKp=>?_|refine zd true mixed hE fun K Kp hK hKp anc hanc=>?_|refine zd false mixed hE fun K Kp hK hKp anc hanc=>?_);simp only[go_sem,ge_dec,u0])|(refine zg (fun hg=>?_) (fun hg=>?_)<;>simp only[go_sem,ge_dec,u0,hg])|(refine zc (fun hc=>?_) (fun hc=>?_)<;>try exact zh hc))
   exact⟨i+1,⟨hlt,he⟩,by omega,fun i=>i,by refine ent_mk (by simp[go_sem]) (by simp[go_sem]) (by simp) (by simp[hN])⟩
 obtain rfl:i=ds.length:=by omega
 rw[List.drop_length,List.all_nil] at he
 rw[he,Bool.true_and] at hQ
 repeat'(first|apply nx|refine zx ?_|rw[zw]|((first|refine hK _ ?_|refine hKp _ _ ?_);clear hK hKp K Kp;try clear hanc anc)|((with_reducible refine And.intro ?_ ?_);exact zb)|((first|refine zr hE fun K Kp hK hKp=>?_|refine zd true mixed hE fun K Kp hK hKp anc hanc=>?_|refine zd false mixed hE fun K Kp hK hKp anc hanc=>?_);simp only[go_sem,ge_dec])|(refine zg (fun hg=>?_) (fun hg=>?_)<;>simp only[go_sem,ge_dec,hg])|(refine zc (fun hc=>?_) (fun hc=>?_)<;>try exact zh hc))
 refine K_loop (X:=Nat) (fun i=>i≤ts.length∧ts.all (fun t=>nameB t.nm)=(ts.drop i).all (fun t=>nameB t.nm)) (fun i=>(mkSt [(1,.ptr 0 0),(6,.i (i:Nat))] [(0,.cells [.str mn,.sl (nml us),.sl (dtl ds),.sl (trl ts),.sl (iml ms),.sl (fdl fs)])] 1)) (fun i=>ts.length - i) 0 ⟨Nat.zero_le _,rfl⟩ (fun i=>i) (by refine ent_mk (by simp[go_sem]) (by simp[go_sem]) (by simp) (by simp[hN])) ?_
 rintro i ⟨hi,he⟩
 by_cases hlt:i<ts.length
 ·obtain⟨⟨tn,tof⟩,hxx⟩:=get?_of hlt
  have u0:=inc_u hlt (by omega)
  have c1:=name_c tn
  rw[drop_of hxx,List.all_cons] at he
  simp only at he
  cases h1:nameB tn
  ·rw[h1] at c1 he
   rw[he] at hQ
   repeat'(first|apply nx|refine zx ?_|rw[zw]|((first|refine hK _ ?_|refine hKp _ _ ?_);clear hK hKp K Kp;try clear hanc anc)|((with_reducible refine And.intro ?_ ?_);exact zb)|((first|refine zr hE fun K Kp hK hKp=>?_|refine zd false mixed hE fun K Kp hK hKp anc hanc=>?_|(apply zm;exact zu;exact c1;exact zs;exact zl));simp only[go_sem,lt_dec hlt,hxx,Tr.av])|(refine zg (fun hg=>?_) (fun hg=>?_)<;>simp only[go_sem,lt_dec hlt,hxx,Tr.av,hg])|(refine zc (fun hc=>?_) (fun hc=>?_)<;>try exact zh hc)|(refine K_ret ?_;refine zt hQ ?_))
   rfl
  ·rw[h1] at c1 he
   repeat'(first|apply nx|refine zx ?_|rw[zw]|((first|refine hK _ ?_|refine hKp _ _ ?_);clear hK hKp K Kp;try clear hanc anc)|((with_reducible refine And.intro ?_ ?_);exact zb)|((first|refine zr hE fun K Kp hK hKp=>?_|refine zd true mixed hE fun K Kp hK hKp anc hanc=>?_|refine zd false mixed hE fun K Kp hK hKp anc hanc=>?_|(apply zm;exact zu;exact c1;exact zs;exact zl));simp only[go_sem,lt_dec hlt,hxx,Tr.av,u0])|(refine zg (fun hg=>?_) (fun hg=>?_)<;>simp only[go_sem,lt_dec hlt,hxx,Tr.av,u0,hg])|(refine zc (fun hc=>?_) (fun hc=>?_)<;>try exact zh hc))
   exact⟨i+1,⟨hlt,by rw[he];rfl⟩,by omega,fun i=>i,by refine ent_mk (by simp[go_sem]) (by simp[go_sem]) (by simp) (by simp[hN])⟩
 obtain rfl:i=ts.length:=by omega
 rw[List.drop_length,List.all_nil] at he
 rw[he,Bool.true_and] at hQ
 repeat'(first|apply nx|refine zx ?_|rw[zw]|((first|refine hK _ ?_|refine hKp _ _ ?_);clear hK hKp K Kp;try clear hanc anc)|((with_reducible refine And.intro ?_ ?_);exact zb)|((first|refine zr hE fun K Kp hK hKp=>?_|refine zd true mixed hE fun K Kp hK hKp anc hanc=>?_|refine zd false mixed hE fun K Kp hK hKp anc hanc=>?_);simp only[go_sem,ge_dec])|(refine zg (fun hg=>?_) (fun hg=>?_)<;>simp only[go_sem,ge_dec,hg])|(refine zc (fun hc=>?_) (fun hc=>?_)<;>try exact zh hc))
 refine K_loop (X:=Nat) (fun i=>i≤ms.length∧ms.all imB'=(ms.drop i).all imB') (fun i=>(mkSt [(1,.ptr 0 0),(7,.i (i:Nat))] [(0,.cells [.str mn,.sl (nml us),.sl (dtl ds),.sl (trl ts),.sl (iml ms),.sl (fdl fs)])] 1)) (fun i=>ms.length - i) 0 ⟨Nat.zero_le _,rfl⟩ (fun i=>i) (by refine ent_mk (by simp[go_sem]) (by simp[go_sem]) (by simp) (by simp[hN])) ?_
 rintro i ⟨hi,he⟩
 by_cases hlt:i<ms.length
 ·obtain⟨⟨it,ip,ib,iy,ifn,iof⟩,hxx⟩:=get?_of hlt
  have hmm:=im_mem (List.mem_of_getElem? hxx)
  simp only at hmm
  have u0:=inc_u hlt (by omega)
  have c1:=name_c it
  have c2:=pnames_c ip (by omega)
  have c3:=bounds_c ib (by omega)
  have c4:=type_c (2 ^ 40) (Nat.le_refl _) iy (by omega)
  have c5:=name_c ifn
  rw[drop_of hxx,List.all_cons,show imB' ⟨it,ip,ib,iy,ifn,iof⟩=(nameB it&&(namesB ip&&(bdlB ib&&(typeB iy&&nameB ifn)))) from rfl] at he
  generalize hb1:nameB it=b1 at c1 he
  generalize hb2:namesB ip=b2 at c2 he
  generalize hb3:bdlB ib=b3 at c3 he
  generalize hb4:typeB iy=b4 at c4 he
  generalize hb5:nameB ifn=b5 at c5 he
  clear hb1 hb2 hb3 hb4 hb5
  cases b1
  ·rw[he] at hQ
   repeat'(first|apply nx|refine zx ?_|rw[zw]|((first|refine hK _ ?_|refine hKp _ _ ?_);clear hK hKp K Kp;try clear hanc anc)|((with_reducible refine And.intro ?_ ?_);exact zb)|((first|refine zr hE fun K Kp hK hKp=>?_|refine zd false mixed hE fun K Kp hK hKp anc hanc=>?_|(apply zm;exact zu;exact c1;exact zs;exact zl));simp only[go_sem,lt_dec hlt,hxx,Im.av])|(refine zg (fun hg=>?_) (fun hg=>?_)<;>simp only[go_sem,lt_dec hlt,hxx,Im.av,hg])|(refine zc (fun hc=>?_) (fun hc=>?_)<;>try exact zh hc)|(refine K_ret ?_;refine zt hQ ?_))
   rfl
  cases b2
  ·rw[he] at hQ
   repeat'(first|apply nx|refine zx ?_|rw[zw]|((first|refine hK _ ?_|refine hKp _ _ ?_);clear hK hKp K Kp;try clear hanc anc)|((with_reducible refine And.intro ?_ ?_);exact zb)|((first|refine zr hE fun K Kp hK hKp=>?_|refine zd false mixed hE fun K Kp hK hKp anc hanc=>?_|(apply zm;exact zu;(first|exact c1|exact c2);exact zs;exact zl));simp only[go_sem,lt_dec hlt,hxx,Im.av])|(refine zg (fun hg=>?_) (fun hg=>?_)<;>simp only[go_sem,lt_dec hlt,hxx,Im.av,hg])|(refine zc (fun hc=>?_) (fun hc=>?_)<;>try exact zh hc)|(refine K_ret ?_;refine zt hQ ?_))
   rfl
  cases b3
  ·rw[he] at hQ
   repeat'(first|apply nx|refine zx ?_|rw[zw]|((first|refine hK _ ?_|refine hKp _ _ ?_);clear hK hKp K Kp;try clear hanc anc)|((with_reducible refine And.intro ?_ ?_);exact zb)|((first|refine zr hE fun K Kp hK hKp=>?_|refine zd false mixed hE fun K Kp hK hKp anc hanc=>?_|(apply zm;exact zu;(first|exact c1|exact c2|exact c3);exact zs;exact zl));simp only[go_sem,lt_dec hlt,hxx,Im.av])|(refine zg (fun hg=>?_) (fun hg=>?_)<;>simp only[go_sem,lt_dec hlt,hxx,Im.av,hg])|(refine zc (fun hc=>?_) (fun hc=>?_)<;>try exact zh hc)|(refine K_ret ?_;refine zt hQ ?_))
   rfl
  cases b4
  ·rw[he] at hQ
   repeat'(first|apply nx|refine zx ?_|rw[zw]|((first|refine hK _ ?_|refine hKp _ _ ?_);clear hK hKp K Kp;try clear hanc anc)|((with_reducible refine And.intro ?_ ?_);exact zb)|((first|refine zr hE fun K Kp hK hKp=>?_|refine zd false mixed hE fun K Kp hK hKp anc hanc=>?_|(apply zm;exact zu;(first|exact c1|exact c2|exact c3|exact c4);exact zs;exact zl));simp only[go_sem,lt_dec hlt,hxx,Im.av])|(refine zg (fun hg=>?_) (fun hg=>?_)<;>simp only[go_sem,lt_dec hlt,hxx,Im.av,hg])|(refine zc (fun hc=>?_) (fun hc=>?_)<;>try exact zh hc)|(refine K_ret ?_;refine zt hQ ?_))
   rfl
  cases b5
  ·rw[he] at hQ
   repeat'(first|apply nx|refine zx ?_|rw[zw]|((first|refine hK _ ?_|refine hKp _ _ ?_);clear hK hKp K Kp;try clear hanc anc)|((with_reducible refine And.intro ?_ ?_);exact zb)|((first|refine zr hE fun K Kp hK hKp=>?_|refine zd false mixed hE fun K Kp hK hKp anc hanc=>?_|(apply zm;exact zu;(first|exact c1|exact c2|exact c3|exact c4|exact c5);exact zs;exact zl));simp only[go_sem,lt_dec hlt,hxx,Im.av])|(refine zg (fun hg=>?_) (fun hg=>?_)<;>simp only[go_sem,lt_dec hlt,hxx,Im.av,hg])|(refine zc (fun hc=>?_) (fun hc=>?_)<;>try exact zh hc)|(refine K_ret ?_;refine zt hQ ?_))
   rfl
  repeat'(first|apply nx|refine zx ?_|rw[zw]|((first|refine hK _ ?_|refine hKp _ _ ?_);clear hK hKp K Kp;try clear hanc anc)|((with_reducible refine And.intro ?_ ?_);exact zb)|((first|refine zr hE fun K Kp hK hKp=>?_|refine zd true mixed hE fun K Kp hK hKp anc hanc=>?_|refine zd false mixed hE fun K Kp hK hKp anc hanc=>?_|(apply zm;exact zu;(first|exact c1|exact c2|exact c3|exact c4|exact c5);exact zs;exact zl));simp only[go_sem,lt_dec hlt,hxx,Im.av,u0])|(refine zg (fun hg=>?_) (fun hg=>?_)<;>simp only[go_sem,lt_dec hlt,hxx,Im.av,u0,hg])|(refine zc (fun hc=>?_) (fun hc=>?_)<;>try exact zh hc))
  exact⟨i+1,⟨hlt,by rw[he];rfl⟩,by omega,fun i=>i,by refine ent_mk (by simp[go_sem]) (by simp[go_sem]) (by simp) (by simp[hN])⟩
 obtain rfl:i=ms.length:=by omega
 rw[List.drop_length,List.all_nil] at he
 rw[he,Bool.true_and] at hQ
 repeat'(first|apply nx|refine zx ?_|rw[zw]|((first|refine hK _ ?_|refine hKp _ _ ?_);clear hK hKp K Kp;try clear hanc anc)|((with_reducible refine And.intro ?_ ?_);exact zb)|((first|refine zr hE fun K Kp hK hKp=>?_|refine zd true mixed hE fun K Kp hK hKp anc hanc=>?_|refine zd false mixed hE fun K Kp hK hKp anc hanc=>?_);simp only[go_sem,ge_dec])|(refine zg (fun hg=>?_) (fun hg=>?_)<;>simp only[go_sem,ge_dec,hg])|(refine zc (fun hc=>?_) (fun hc=>?_)<;>try exact zh hc))
 refine K_loop (X:=Nat) (fun i=>i≤fs.length∧fs.all (funB false)=(fs.drop i).all (funB false)) (fun i=>(mkSt [(1,.ptr 0 0),(9,.i (i:Nat))] [(0,.cells [.str mn,.sl (nml us),.sl (dtl ds),.sl (trl ts),.sl (iml ms),.sl (fdl fs)])] 1)) (fun i=>fs.length - i) 0 ⟨Nat.zero_le _,rfl⟩ (fun i=>i) (by refine ent_mk (by simp[go_sem]) (by simp[go_sem]) (by simp) (by simp[hN])) ?_
 rintro i ⟨hi,he⟩
 by_cases hlt:i<fs.length
 ·obtain⟨f,hxx⟩:=get?_of hlt
  have hmm:=fd_mem_le (List.mem_of_getElem? hxx)
  have u0:=inc_u hlt (by omega)
  have c1:=fun_c false f (by omega) (pblock_c (2 ^ 20) (Nat.le_refl _) _ (by obtain⟨fm,p0,b0,cp0,a0,r0,bd,of0⟩:=f;rw[Fd.sz] at hmm;simp only[Fd.b];omega))
  rw[drop_of hxx,List.all_cons] at he
  obtain⟨fm,p0,b0,cp0,a0,r0,bd,of0⟩:=f
  rw[Fd.av] at c1
  cases h1:funB false (.mk fm p0 b0 cp0 a0 r0 bd of0)
  ·rw[h1] at c1 he
   rw[he] at hQ
   repeat'(first|apply nx|refine zx ?_|rw[zw]|((first|refine hK _ ?_|refine hKp _ _ ?_);clear hK hKp K Kp;try clear hanc anc)|((with_reducible refine And.intro ?_ ?_);exact zb)|((first|refine zr hE fun K Kp hK hKp=>?_|refine zd false mixed hE fun K Kp hK hKp anc hanc=>?_|(apply zm;exact zu;exact c1;exact zs;exact zl));simp only[go_sem,lt_dec hlt,hxx,Fd.av])|(refine zg (fun hg=>?_) (fun hg=>?_)<;>simp only[go_sem,lt_dec hlt,hxx,Fd.av,hg])|(refine zc (fun hc=>?_) (fun hc=>?_)<;>try exact zh hc)|(refine K_ret ?_;refine zt hQ ?_))
   rfl
  ·rw[h1] at c1 he
   repeat'(first|apply nx|refine zx ?_|rw[zw]|((first|refine hK _ ?_|refine hKp _ _ ?_);clear hK hKp K Kp;try clear hanc anc)|((with_reducible refine And.intro ?_ ?_);exact zb)|((first|refine zr hE fun K Kp hK hKp=>?_|refine zd true mixed hE fun K Kp hK hKp anc hanc=>?_|refine zd false mixed hE fun K Kp hK hKp anc hanc=>?_|(apply zm;exact zu;exact c1;exact zs;exact zl));simp only[go_sem,lt_dec hlt,hxx,Fd.av,u0])|(refine zg (fun hg=>?_) (fun hg=>?_)<;>simp only[go_sem,lt_dec hlt,hxx,Fd.av,u0,hg])|(refine zc (fun hc=>?_) (fun hc=>?_)<;>try exact zh hc))
   exact⟨i+1,⟨hlt,by rw[he];rfl⟩,by omega,fun i=>i,by refine ent_mk (by simp[go_sem]) (by simp[go_sem]) (by simp) (by simp[hN])⟩
 obtain rfl:i=fs.length:=by omega
 rw[List.drop_length,List.all_nil] at he
 rw[he] at hQ
 repeat'(first|apply nx|refine zx ?_|rw[zw]|((first|refine hK _ ?_|refine hKp _ _ ?_);clear hK hKp K Kp;try clear hanc anc)|((with_reducible refine And.intro ?_ ?_);exact zb)|((first|refine zr hE fun K Kp hK hKp=>?_|refine zd false mixed hE fun K Kp hK hKp anc hanc=>?_);simp only[go_sem,ge_dec])|(refine zg (fun hg=>?_) (fun hg=>?_)<;>simp only[go_sem,ge_dec,hg])|(refine zc (fun hc=>?_) (fun hc=>?_)<;>try exact zh hc)|(refine K_ret ?_;refine zt hQ ?_))
 rfl
end Go.Proofs.YtffmphmiicnaeaaDoor

set_option maxHeartbeats 4000000
set_option maxRecDepth 100000
namespace Go.Lf
open Go Go.Am
def prl (l:List (Nm×Nat)):List AV:=l.map fun p=> .agg [.str p.1,.i (p.2:Nat)]
theorem prl_clo (l:List (Nm×Nat)):AV.cloL (prl l)=true:=cloLeq _ fun x hx=>by obtain⟨p,_,rfl⟩:=List.mem_map.1 hx;rfl
@[go_sem] theorem prl_ln (l:List (Nm×Nat)):(prl l).length=l.length:=List.length_map ..
@[go_sem] theorem prl_gt (l:List (Nm×Nat)) (i:Nat):(prl l)[i]? =l[i]?.map fun p=> .agg [.str p.1,.i (p.2:Nat)]:=List.getElem?_map ..
@[go_sem] theorem prl_ren (m:Nat→Nat) (l:List (Nm×Nat)):AV.renL m (prl l)=prl l:=cloL_renL (prl_clo l)
@[go_sem] theorem prl_ids (p:Nat→Prop) (l:List (Nm×Nat)):AV.idsL p (prl l)=True:=eq_true (cloL_idsL (prl_clo l))
theorem prl_szok (l:List (Nm×Nat)):SzOk (prl l) 2:=szOk_of (f:=fun p:Nm×Nat=>AV.agg [.str p.1,.i (p.2:Nat)]) (fun x=>rfl) l
theorem prl_clor (l:List (Nm×Nat)):CloRow (prl l):=cloRow_of (f:=fun p:Nm×Nat=>AV.agg [.str p.1,.i (p.2:Nat)]) (fun x=>cells_clo rfl) l
@[go_sem] theorem prl_clort (l:List (Nm×Nat)):CloRow (prl l)=True:=eq_true (prl_clor l)
theorem prl_snoc (l:List (Nm×Nat)) (n:Nm) (k:Nat):prl l++[.agg [.str n,.i (k:Nat)]]=prl (l++[(n,k)]):=by simp[prl]
end Go.Lf
namespace Go.Proofs.YtffmphmiicnaeaaDoor
open Go.Am Go.Proofs Go.Lf
open Classical
attribute [local irreducible] AW CallP CallB
theorem nodup_take {α:Type} {l:List α} {i:Nat} {x:α} (h:l[i]? =some x) (hn:(l.take i).Nodup) (hx:x∉l.take i):(l.take (i+1)).Nodup:=by
 rw[List.take_add_one,h]
 simp only[Option.toList_some]
 rw[List.nodup_append]
 refine⟨hn,by simp,fun a ha b hb e=>?_⟩
 rw[List.mem_singleton] at hb
 rw[← hb, ← e] at hx
 exact hx ha
theorem dif_c (l:List Lf.Fd) (hl:l.length≤2 ^ 30):PCall Tryd.prog 14 [.sl (fdl l)] (.bool (decide ((l.map Fd.nm).Nodup))):=by
 refine PCall.intro Tryd.func14 rfl isf14 (by simp[Tryd.f14]) (by simp[AV.cloL,AV.clo]) fun E Q hE hN hQ=>K_start ?_
 repeat'(first|apply nx|refine zx ?_|rw[zw]|((first|refine hK _ ?_|refine hKp _ _ ?_);clear hK hKp K Kp;try clear hanc anc)|((with_reducible refine And.intro ?_ ?_);exact zb)|((first|refine zr hE fun K Kp hK hKp=>?_|refine zd true mixed hE fun K Kp hK hKp anc hanc=>?_|refine zd false mixed hE fun K Kp hK hKp anc hanc=>?_);simp only[go_sem])|(refine zg (fun hg=>?_) (fun hg=>?_)<;>simp only[go_sem,hg])|(refine zc (fun hc=>?_) (fun hc=>?_)<;>try exact zh hc))
 refine K_loop (X:=Nat) (fun i=>i≤l.length∧((l.map Fd.nm).take i).Nodup) (fun i=>mkSt [(0,.sl (fdl l)),(3,.i (i:Nat))] [] 1) (fun i=>l.length - i) 0 ⟨Nat.zero_le _,by simp⟩ (fun i=>i) (by refine ent_mk (by simp[go_sem]) (by simp[go_sem]) (by simp) (by simp[hN])) ?_
 rintro i ⟨hi,he⟩
 by_cases hlt:i<l.length
 case neg=>
  obtain rfl:i=l.length:=by omega
  rw[List.take_of_length_le (by simp)] at he
  rw[decide_eq_true he] at hQ
  repeat'(first|apply nx|refine zx ?_|rw[zw]|((first|refine hK _ ?_|refine hKp _ _ ?_);clear hK hKp K Kp;try clear hanc anc)|((with_reducible refine And.intro ?_ ?_);exact zb)|((first|refine zr hE fun K Kp hK hKp=>?_|refine zd false mixed hE fun K Kp hK hKp anc hanc=>?_);simp only[go_sem,ge_dec])|(refine zg (fun hg=>?_) (fun hg=>?_)<;>simp only[go_sem,ge_dec,hg])|(refine zc (fun hc=>?_) (fun hc=>?_)<;>try exact zh hc)|(refine K_ret ?_;refine zt hQ ?_))
  rfl
 obtain⟨f,hx⟩:=get?_of hlt
 have u0:=inc_u hlt (by omega)
 have hxn:(l.map Fd.nm)[i]? =some f.nm:=by rw[List.getElem?_map,hx];rfl
 repeat'(first|apply nx|refine zx ?_|rw[zw]|((first|refine hK _ ?_|refine hKp _ _ ?_);clear hK hKp K Kp;try clear hanc anc)|((with_reducible refine And.intro ?_ ?_);exact zb)|((first|refine zr hE fun K Kp hK hKp=>?_|refine zd true mixed hE fun K Kp hK hKp anc hanc=>?_|refine zd false mixed hE fun K Kp hK hKp anc hanc=>?_);simp only[go_sem,lt_dec hlt])|(refine zg (fun hg=>?_) (fun hg=>?_)<;>simp only[go_sem,lt_dec hlt,hg])|(refine zc (fun hc=>?_) (fun hc=>?_)<;>try exact zh hc))
 refine K_loop (X:=Nat) (fun j=>j≤i∧f.nm∉(l.map Fd.nm).take j) (fun j=>mkSt [(0,.sl (fdl l)),(3,.i (i:Nat)),(4,.i (j:Nat))] [] 1) (fun j=>i - j) 0 ⟨Nat.zero_le _,by simp⟩ (fun i=>i) (by refine ent_mk (by simp[go_sem]) (by simp[go_sem]) (by simp) (by simp[hN])) ?_
 rintro j ⟨hj,hn⟩
 by_cases hlj:j<i
 case neg=>
  obtain rfl:j=i:=by omega
  have q:decide ((j:Int)<(j:Int))=false:=decide_eq_false (by omega)
  repeat'(first|apply nx|refine zx ?_|rw[zw]|((first|refine hK _ ?_|refine hKp _ _ ?_);clear hK hKp K Kp;try clear hanc anc)|((with_reducible refine And.intro ?_ ?_);exact zb)|((first|refine zr hE fun K Kp hK hKp=>?_|refine zd true mixed hE fun K Kp hK hKp anc hanc=>?_|refine zd false mixed hE fun K Kp hK hKp anc hanc=>?_);simp only[go_sem,q,u0])|(refine zg (fun hg=>?_) (fun hg=>?_)<;>simp only[go_sem,q,u0,hg])|(refine zc (fun hc=>?_) (fun hc=>?_)<;>try exact zh hc))
  exact⟨j+1,⟨hlt,nodup_take hxn he hn⟩,by omega,fun i=>i,by refine ent_mk (by simp[go_sem]) (by simp[go_sem]) (by simp) (by simp[hN])⟩
 obtain⟨g,hy⟩:=get?_of (show j<l.length by omega)
 have hyn:(l.map Fd.nm)[j]? =some g.nm:=by rw[List.getElem?_map,hy];rfl
 have q:decide ((j:Int)<(i:Int))=true:=decide_eq_true (by omega)
 have v0:IntKind.i64.wrap ((j:Int)+1)=((j+1:Nat):Int):=by rw[wrap64 (by omega) (by omega)];omega
 by_cases hnm:f.nm=g.nm
 ·have hno:¬ (l.map Fd.nm).Nodup:=fun h=>by
   obtain⟨k1,e1⟩:=List.getElem?_eq_some_iff.1 hyn
   obtain⟨k2,e2⟩:=List.getElem?_eq_some_iff.1 hxn
   exact List.pairwise_iff_getElem.1 h j i k1 k2 hlj (by rw[e1,e2,hnm])
  rw[decide_eq_false hno] at hQ
  have q3:decide (f.nm=g.nm)=true:=decide_eq_true hnm
  obtain⟨fm,p0,b0,cp0,a0,r0,bd,of0⟩:=f
  obtain⟨fm1,p1,b1,cp1,a1,r1,bd1,of1⟩:=g
  simp only[Fd.nm] at q3
  repeat'(first|apply nx|refine zx ?_|rw[zw]|((first|refine hK _ ?_|refine hKp _ _ ?_);clear hK hKp K Kp;try clear hanc anc)|((with_reducible refine And.intro ?_ ?_);exact zb)|((first|refine zr hE fun K Kp hK hKp=>?_|refine zd false mixed hE fun K Kp hK hKp anc hanc=>?_);simp only[go_sem,q,hx,hy,Fd.av])|(refine zg (fun hg=>?_) (fun hg=>?_)<;>simp only[go_sem,q,hx,hy,Fd.av,hg])|(refine zc (fun hc=>?_) (fun hc=>?_)<;>try exact zh hc)|(refine K_ret ?_;refine zt hQ ?_))
  ·rfl
  ·exact absurd (of_decide_eq_true q3) (of_decide_eq_false hc)
 ·have q3:decide (f.nm=g.nm)=false:=decide_eq_false hnm
  have hn2:f.nm∉(l.map Fd.nm).take (j+1):=by
   rw[List.take_add_one,hyn]
   simp only[Option.toList_some,List.mem_append,List.mem_singleton,not_or]
   exact⟨hn,hnm⟩
  clear hxn he
  obtain⟨fm,p0,b0,cp0,a0,r0,bd,of0⟩:=f
  obtain⟨fm1,p1,b1,cp1,a1,r1,bd1,of1⟩:=g
  simp only[Fd.nm] at q3
  repeat'(first|apply nx|refine zx ?_|rw[zw]|((first|refine hK _ ?_|refine hKp _ _ ?_);clear hK hKp K Kp;try clear hanc anc)|((with_reducible refine And.intro ?_ ?_);exact zb)|((first|refine zr hE fun K Kp hK hKp=>?_|refine zd true mixed hE fun K Kp hK hKp anc hanc=>?_|refine zd false mixed hE fun K Kp hK hKp anc hanc=>?_);simp only[go_sem,q,hx,hy,Fd.av,v0])|(refine zg (fun hg=>?_) (fun hg=>?_)<;>simp only[go_sem,q,hx,hy,Fd.av,v0,hg])|(refine zc (fun hc=>?_) (fun hc=>?_)<;>try exact zh hc))
  ·exact absurd (of_decide_eq_true hc) (of_decide_eq_false q3)
  exact⟨j+1,⟨hlj,hn2⟩,by omega,fun i=>i,by refine ent_mk (by simp[go_sem]) (by simp[go_sem]) (by simp) (by simp[hN])⟩
theorem fit_c (m:List (Nm×Nat)) (n:Nm) (a:Nat) (hl:m.length≤2 ^ 30):PCall Tryd.prog 40 [.sl (prl m),.str n,.i (a:Nat)] (.bool (fits m n a)):=by
 have u0:IntKind.i64.wrap ((m.length:Int) - 1)=(m.length:Int) - 1:=by rw[wrap64 (by omega) (by omega)]
 refine PCall.intro Tryd.func40 rfl isf40 (by simp[Tryd.f40]) (by simp[AV.cloL,AV.clo]) fun E Q hE hN hQ=>K_start ?_
 repeat'(first|apply nx|refine zx ?_|rw[zw]|((first|refine hK _ ?_|refine hKp _ _ ?_);clear hK hKp K Kp;try clear hanc anc)|((with_reducible refine And.intro ?_ ?_);exact zb)|((first|refine zr hE fun K Kp hK hKp=>?_|refine zd true mixed hE fun K Kp hK hKp anc hanc=>?_|refine zd false mixed hE fun K Kp hK hKp anc hanc=>?_);simp only[go_sem,u0])|(refine zg (fun hg=>?_) (fun hg=>?_)<;>simp only[go_sem,u0,hg])|(refine zc (fun hc=>?_) (fun hc=>?_)<;>try exact zh hc))
 refine K_loop (X:=Nat) (fun i=>i≤m.length∧fits m n a=fits (m.take i) n a) (fun i=>mkSt [(0,.sl (prl m)),(1,.str n),(2,.i (a:Nat)),(7,.i ((i:Int) - 1))] [] 1) (fun i=>i) m.length ⟨Nat.le_refl _,by rw[List.take_length]⟩ (fun i=>i) (by refine ent_mk (by simp[go_sem]) (by simp[go_sem]) (by simp) (by simp[hN])) ?_
 rintro i ⟨hi,he⟩
 cases i with
 |zero=>
  have q:decide (((0:Nat):Int) - 1≥0)=false:=by decide
  rw[he] at hQ
  repeat'(first|apply nx|refine zx ?_|rw[zw]|((first|refine hK _ ?_|refine hKp _ _ ?_);clear hK hKp K Kp;try clear hanc anc)|((with_reducible refine And.intro ?_ ?_);exact zb)|((first|refine zr hE fun K Kp hK hKp=>?_|refine zd false mixed hE fun K Kp hK hKp anc hanc=>?_);simp only[go_sem,q])|(refine zg (fun hg=>?_) (fun hg=>?_)<;>simp only[go_sem,q,hg])|(refine zc (fun hc=>?_) (fun hc=>?_)<;>try exact zh hc)|(refine K_ret ?_;refine zt hQ ?_))
  rfl
 |succ i=>
  obtain⟨⟨x,k⟩,hx⟩:=get?_of (show i<m.length by omega)
  have q:decide ((i:Int)≥0)=true:=decide_eq_true (by omega)
  have q2:((i+1:Nat):Int) - 1=(i:Nat):=by omega
  have u1:IntKind.i64.wrap ((i:Int) - 1)=(i:Int) - 1:=by rw[wrap64 (by omega) (by omega)]
  rw[List.take_add_one,hx] at he
  simp only[Option.toList_some] at he
  rw[fits_snoc] at he
  rw[q2]
  by_cases hn:x=n
  ·rw[if_pos hn] at he
   have q3:decide (x=n)=true:=decide_eq_true hn
   have q4:((k:Int)==(a:Int))=decide (k=a):=by
    by_cases h:k=a
    ·subst h;simp
    ·have:¬ (k:Int)=a:=by omega
     simp[h,this]
   rw[he] at hQ
   repeat'(first|apply nx|refine zx ?_|rw[zw]|((first|refine hK _ ?_|refine hKp _ _ ?_);clear hK hKp K Kp;try clear hanc anc)|((with_reducible refine And.intro ?_ ?_);exact zb)|((first|refine zr hE fun K Kp hK hKp=>?_|refine zd false mixed hE fun K Kp hK hKp anc hanc=>?_);simp only[go_sem,q,hx,q3,q4])|(refine zg (fun hg=>?_) (fun hg=>?_)<;>simp only[go_sem,q,hx,q3,q4,hg])|(refine zc (fun hc=>?_) (fun hc=>?_)<;>try exact zh hc)|(refine K_ret ?_;refine zt hQ ?_))
   rfl
  ·rw[if_neg hn] at he
   have q3:decide (x=n)=false:=decide_eq_false hn
   repeat'(first|apply nx|refine zx ?_|rw[zw]|((first|refine hK _ ?_|refine hKp _ _ ?_);clear hK hKp K Kp;try clear hanc anc)|((with_reducible refine And.intro ?_ ?_);exact zb)|((first|refine zr hE fun K Kp hK hKp=>?_|refine zd true mixed hE fun K Kp hK hKp anc hanc=>?_|refine zd false mixed hE fun K Kp hK hKp anc hanc=>?_);simp only[go_sem,q,hx,q3,u1])|(refine zg (fun hg=>?_) (fun hg=>?_)<;>simp only[go_sem,q,hx,q3,u1,hg])|(refine zc (fun hc=>?_) (fun hc=>?_)<;>try exact zh hc))
   exact⟨i,⟨by omega,he⟩,by omega,fun i=>i,by refine ent_mk (by simp[go_sem]) (by simp[go_sem]) (by simp) (by simp[hN])⟩
end Go.Proofs.YtffmphmiicnaeaaDoor

set_option maxHeartbeats 4000000
set_option maxRecDepth 100000
namespace Go.Proofs.YtffmphmiicnaeaaDoor
open Go.Am Go.Proofs Go.Lf
open Classical
attribute [local irreducible] AW CallP CallB
theorem called_c:∀ (N:Nat),N≤2 ^ 24→∀ l:List Lf.St,stSz l<N→∀ now:List (Nm×Nat),now.length+stSz l≤2 ^ 25→PCall Tryd.prog 15 [.sl (stl l),.sl (prl now)] (.bool (cldL now l)):=by
 intro N
 induction N with
 |zero=>intro _ l h;omega
 |succ N IH=>
 intro hN1 l hl now hnow
 have hln:=st_len_le l
 refine PCall.intro Tryd.func15 rfl isf15 (by simp[Tryd.f15]) (by simp[AV.cloL,AV.clo]) fun E Q hE hN hQ=>K_start ?_
 repeat'(first|apply nx|refine zx ?_|rw[zw]|((first|refine hK _ ?_|refine hKp _ _ ?_);clear hK hKp K Kp;try clear hanc anc)|((with_reducible refine And.intro ?_ ?_);exact zb)|((first|refine zr hE fun K Kp hK hKp=>?_|refine zd true mixed hE fun K Kp hK hKp anc hanc=>?_|refine zd false mixed hE fun K Kp hK hKp anc hanc=>?_);simp only[go_sem])|(refine zg (fun hg=>?_) (fun hg=>?_)<;>simp only[go_sem,hg])|(refine zc (fun hc=>?_) (fun hc=>?_)<;>try exact zh hc))
 refine⟨⟨prl_szok _,by simp only[Fits];omega⟩,hK _ ?_⟩
 clear hK hKp
 repeat'(first|apply nx|refine zx ?_|rw[zw]|((first|refine hK _ ?_|refine hKp _ _ ?_);clear hK hKp K Kp;try clear hanc anc)|((with_reducible refine And.intro ?_ ?_);exact zb)|((first|refine zr hE fun K Kp hK hKp=>?_|refine zd true mixed hE fun K Kp hK hKp anc hanc=>?_|refine zd false mixed hE fun K Kp hK hKp anc hanc=>?_);simp only[go_sem])|(refine zg (fun hg=>?_) (fun hg=>?_)<;>simp only[go_sem,hg])|(refine zc (fun hc=>?_) (fun hc=>?_)<;>try exact zh hc))
 refine K_loop (X:=Nat×List (Nm×Nat)) (fun z=>z.1≤l.length∧cldL now l=cldL z.2 (l.drop z.1)∧z.2.length+stSz (l.drop z.1)≤2 ^ 25) (fun z=>mkSt [(0,.sl (stl l)),(5,.rw 1),(6,.i (z.1:Nat))] [(1,.row 2 (prl z.2))] 2) (fun z=>l.length - z.1) (0,now) ⟨Nat.zero_le _,rfl,by simpa using hnow⟩ (fun i=>3145728) (by refine ent_mk (by simp[go_sem]) (by simp[go_sem]) (by simp) (by simp[hN])) ?_
 rintro⟨i,m⟩ ⟨hi,he,hm⟩
 simp only at hi he hm
 by_cases hlt:i<l.length
 case neg=>
  obtain rfl:i=l.length:=by omega
  rw[List.drop_length,cldL] at he
  rw[he] at hQ
  repeat'(first|apply nx|refine zx ?_|rw[zw]|((first|refine hK _ ?_|refine hKp _ _ ?_);clear hK hKp K Kp;try clear hanc anc)|((with_reducible refine And.intro ?_ ?_);exact zb)|((first|refine zr hE fun K Kp hK hKp=>?_|refine zd false mixed hE fun K Kp hK hKp anc hanc=>?_);simp only[go_sem,ge_dec])|(refine zg (fun hg=>?_) (fun hg=>?_)<;>simp only[go_sem,ge_dec,hg])|(refine zc (fun hc=>?_) (fun hc=>?_)<;>try exact zh hc)|(refine K_ret ?_;refine zt hQ ?_))
  rfl
 obtain⟨⟨k,nm,ns,ty,ex,th,el,ar,fn,off⟩,hx⟩:=get?_of hlt
 have hmm:=st_mem_le (List.mem_of_getElem? hx)
 rw[St.sz,Ex.sz] at hmm
 rw[drop_of hx,stSz,St.sz,Ex.sz] at hm
 rw[drop_of hx,cldL] at he
 have u0:=inc_u hlt (by omega)
 have har:=ar_len_le ar
 have c1:=IH (by omega) th (by omega) m (by omega)
 have c2:=IH (by omega) el (by omega) m (by omega)
 have hth:(cldS m (.mk k nm ns ty ex th el ar fn off)).1=true→cldL m th=true∧cldL m el=true∧cldA m ar=true:=fun h=>by
  rw[cldS] at h
  split at h<;>simp only[Bool.and_eq_true] at h
  ·exact⟨h.1.1.1,h.1.1.2,h.1.2⟩
  ·exact⟨h.1.1.1.1,h.1.1.1.2,h.1.1.2⟩
 have hno:(cldS m (.mk k nm ns ty ex th el ar fn off)).1=false→cldL now l=false:=fun h=>by rw[he,h,Bool.false_and]
 have hno1:¬ (cldL m th=true∧cldL m el=true∧cldA m ar=true)→cldL now l=false:=fun h=>hno (eq_false_of_ne_true fun g=>h (hth g))
 cases hb1:cldL m th
 ·rw[hno1 (by rw[hb1];simp)] at hQ
  rw[hb1] at c1
  repeat'(first|apply nx|refine zx ?_|rw[zw]|((first|refine hK _ ?_|refine hKp _ _ ?_);clear hK hKp K Kp;try clear hanc anc)|((with_reducible refine And.intro ?_ ?_);exact zb)|((first|refine zr hE fun K Kp hK hKp=>?_|refine zd false mixed hE fun K Kp hK hKp anc hanc=>?_|(apply zm;exact zu;exact c1;exact zs;exact zl));simp only[go_sem,lt_dec hlt,hx,Lf.St.av])|(refine zg (fun hg=>?_) (fun hg=>?_)<;>simp only[go_sem,lt_dec hlt,hx,Lf.St.av,hg])|(refine zc (fun hc=>?_) (fun hc=>?_)<;>try exact zh hc)|(refine K_ret ?_;refine zt hQ ?_))
  rfl
 cases hb2:cldL m el
 ·rw[hno1 (by rw[hb2];simp)] at hQ
  rw[hb1] at c1
  rw[hb2] at c2
  repeat'(first|apply nx|refine zx ?_|rw[zw]|((first|refine hK _ ?_|refine hKp _ _ ?_);clear hK hKp K Kp;try clear hanc anc)|((with_reducible refine And.intro ?_ ?_);exact zb)|((first|refine zr hE fun K Kp hK hKp=>?_|refine zd false mixed hE fun K Kp hK hKp anc hanc=>?_|(apply zm;exact zu;(first|exact c1|exact c2);exact zs;exact zl));simp only[go_sem,lt_dec hlt,hx,Lf.St.av])|(refine zg (fun hg=>?_) (fun hg=>?_)<;>simp only[go_sem,lt_dec hlt,hx,Lf.St.av,hg])|(refine zc (fun hc=>?_) (fun hc=>?_)<;>try exact zh hc)|(refine K_ret ?_;refine zt hQ ?_))
  rfl
 rw[hb1] at c1
 rw[hb2] at c2
 repeat'(first|apply nx|refine zx ?_|rw[zw]|((first|refine hK _ ?_|refine hKp _ _ ?_);clear hK hKp K Kp;try clear hanc anc)|((with_reducible refine And.intro ?_ ?_);exact zb)|((first|refine zr hE fun K Kp hK hKp=>?_|refine zd true mixed hE fun K Kp hK hKp anc hanc=>?_|refine zd false mixed hE fun K Kp hK hKp anc hanc=>?_|(apply zm;exact zu;(first|exact c1|exact c2);exact zs;exact zl));simp only[go_sem,lt_dec hlt,hx,Lf.St.av])|(refine zg (fun hg=>?_) (fun hg=>?_)<;>simp only[go_sem,lt_dec hlt,hx,Lf.St.av,hg])|(refine zc (fun hc=>?_) (fun hc=>?_)<;>try exact zh hc))
 refine K_loop (X:=Nat) (fun j=>j≤ar.length∧cldA m ar=cldA m (ar.drop j)) (fun j=>mkSt [(0,.sl (stl l)),(5,.rw 1),(6,.i (i:Nat)),(7,.ptr 2 0),(8,.i (j:Nat))] [(1,.row 2 (prl m)),(2,.cells [.i k,.str nm,.sl (nml ns),.sl (Tx.avL ty),.i ex.k,.str ex.op,.str ex.nm,.str ex.vr,.sl (nml ex.ns),.i ex.num,.sl (Tx.avL ex.ty),.i ex.off,.sl (stl th),.sl (stl el),.sl (arl ar),.sl (fdl fn),.i off])] 3) (fun j=>ar.length - j) 0 ⟨Nat.zero_le _,rfl⟩ (fun i=>if i=2 then 8388610 else i) (by refine ent_mk (by simp[go_sem]) (by simp[go_sem]) (by simp) (by simp[hN])) ?_
 rintro j ⟨hj,he2⟩
 by_cases hlj:j<ar.length
 ·obtain⟨⟨v,ns1,b,o⟩,hy⟩:=get?_of hlj
  have v0:=inc_u hlj (by omega)
  have h2:=ar_mem_le (List.mem_of_getElem? hy)
  rw[Ar.sz] at h2
  have c3:=IH (by omega) b (by omega) m (by omega)
  rw[drop_of hy,cldA] at he2
  cases hb3:cldL m b
  ·rw[hb3] at c3 he2
   rw[hno1 (by rw[he2];simp)] at hQ
   repeat'(first|apply nx|refine zx ?_|rw[zw]|((first|refine hK _ ?_|refine hKp _ _ ?_);clear hK hKp K Kp;try clear hanc anc)|((with_reducible refine And.intro ?_ ?_);exact zb)|((first|refine zr hE fun K Kp hK hKp=>?_|refine zd false mixed hE fun K Kp hK hKp anc hanc=>?_|(apply zm;exact zu;exact c3;exact zs;exact zl));simp only[go_sem,lt_dec hlj,hy,Ar.av])|(refine zg (fun hg=>?_) (fun hg=>?_)<;>simp only[go_sem,lt_dec hlj,hy,Ar.av,hg])|(refine zc (fun hc=>?_) (fun hc=>?_)<;>try exact zh hc)|(refine K_ret ?_;refine zt hQ ?_))
   rfl
  ·rw[hb3] at c3 he2
   repeat'(first|apply nx|refine zx ?_|rw[zw]|((first|refine hK _ ?_|refine hKp _ _ ?_);clear hK hKp K Kp;try clear hanc anc)|((with_reducible refine And.intro ?_ ?_);exact zb)|((first|refine zr hE fun K Kp hK hKp=>?_|refine zd true mixed hE fun K Kp hK hKp anc hanc=>?_|refine zd false mixed hE fun K Kp hK hKp anc hanc=>?_|(apply zm;exact zu;exact c3;exact zs;exact zl));simp only[go_sem,lt_dec hlj,hy,Ar.av,v0])|(refine zg (fun hg=>?_) (fun hg=>?_)<;>simp only[go_sem,lt_dec hlj,hy,Ar.av,v0,hg])|(refine zc (fun hc=>?_) (fun hc=>?_)<;>try exact zh hc))
   exact⟨j+1,⟨hlj,by rw[he2];rfl⟩,by omega,fun i=>i,by refine ent_mk (by simp[go_sem]) (by simp[go_sem]) (by simp) (by simp[hN])⟩
 obtain rfl:j=ar.length:=by omega
 rw[List.drop_length,cldA] at he2
 clear c1 c2 hth hno1
 by_cases h13:k=13∧fn.length=1
 ·obtain⟨hk,hf1⟩:=h13
  subst hk
  match fn,hf1 with
  | [.mk fm p0 b0 cp0 a0 r0 bd of0],_=>
  rw[fdSz,fdSz,Fd.sz] at hmm hm
  have ha0:=ad_len_le a0
  have c3:=IH (by omega) bd (by omega) [] (by simp only[List.length_nil];omega)
  have hq1:(((1:Nat):Int)==1)=true:=by decide
  have e1:cldS m (.mk 13 nm ns ty ex th el ar [.mk fm p0 b0 cp0 a0 r0 bd of0] off)=(cldL [] bd,[(fm,a0.length)]):=by
   rw[cldS,if_pos ⟨rfl,rfl⟩,hb1,hb2,he2,cldF]
   simp
  rw[e1] at hno he
  cases hb3:cldL [] bd
  ·rw[hb3] at c3
   rw[hno hb3] at hQ
   repeat'(first|apply nx|refine zx ?_|rw[zw]|((first|refine hK _ ?_|refine hKp _ _ ?_);clear hK hKp K Kp;try clear hanc anc)|((with_reducible refine And.intro ?_ ?_);exact zb)|((first|refine zr hE fun K Kp hK hKp=>?_|refine zd false mixed hE fun K Kp hK hKp anc hanc=>?_|(apply zm;exact zu;exact c3;exact zs;exact zl));simp only[go_sem,ge_dec,hq1,fdl,Fd.av])|(refine zg (fun hg=>?_) (fun hg=>?_)<;>simp only[go_sem,ge_dec,hq1,fdl,Fd.av,hg])|(refine zc (fun hc=>?_) (fun hc=>?_)<;>try exact zh hc)|(refine K_ret ?_;refine zt hQ ?_))
   rfl
  ·rw[hb3] at c3 he
   repeat'(first|apply nx|refine zx ?_|rw[zw]|((first|refine hK _ ?_|refine hKp _ _ ?_);clear hK hKp K Kp;try clear hanc anc)|((with_reducible refine And.intro ?_ ?_);exact zb)|((first|refine zr hE fun K Kp hK hKp=>?_|refine zd true mixed hE fun K Kp hK hKp anc hanc=>?_|refine zd false mixed hE fun K Kp hK hKp anc hanc=>?_|(apply zm;exact zu;exact c3;exact zs;exact zl));simp only[go_sem,ge_dec,hq1,fdl,Fd.av,u0])|(refine zg (fun hg=>?_) (fun hg=>?_)<;>simp only[go_sem,ge_dec,hq1,fdl,Fd.av,u0,hg])|(refine zc (fun hc=>?_) (fun hc=>?_)<;>try exact zh hc))
   have ea:=prl_snoc m fm a0.length
   refine⟨(i+1,m++[(fm,a0.length)]),⟨by simp only;omega,by rw[he];rfl,by simp only[List.length_append,List.length_cons,List.length_nil];omega⟩,by simp only;omega,fun i=>if i=1 then 36700163 else i,?_⟩
   exact ent_mk (by simp[go_sem]) (by simp[go_sem,ea]) (by simp) (by simp[hN])
 ·have e1:cldS m (.mk k nm ns ty ex th el ar fn off)=((if(k=1∨k=2)∧ex.k=15 then fits m ex.nm ex.ns.length else true)&&(if k=12 then fits m nm ns.length else true),[]):=by
   rw[cldS,if_neg h13,hb1,hb2,he2]
   simp
  rw[e1] at hno he
  simp only[List.append_nil] at he
  have f1:=fit_c m ex.nm ex.ns.length (by omega)
  have f2:=fit_c m nm ns.length (by omega)
  clear IH
  by_cases h12v:(k=1∨k=2)∧ex.k=15
  ·obtain⟨hk12,h15⟩:=h12v
   have q15:(ex.k==15)=true:=by simp[h15]
   have eA:((if(k=1∨k=2)∧ex.k=15 then fits m ex.nm ex.ns.length else true)&&(if k=12 then fits m nm ns.length else true))=fits m ex.nm ex.ns.length:=by
    rw[if_pos ⟨hk12,h15⟩,if_neg (by omega),Bool.and_true]
   simp only[eA] at hno he
   cases hF:fits m ex.nm ex.ns.length
   ·rw[hF] at f1
    rw[hno hF] at hQ
    rcases hk12 with rfl|rfl
    ·repeat'(first|apply nx|refine zx ?_|rw[zw]|((first|refine hK _ ?_|refine hKp _ _ ?_);clear hK hKp K Kp;try clear hanc anc)|((with_reducible refine And.intro ?_ ?_);exact zb)|((first|refine zr hE fun K Kp hK hKp=>?_|refine zd false mixed hE fun K Kp hK hKp anc hanc=>?_|(apply zm;exact zu;exact f1;exact zs;exact zl));simp only[go_sem,ge_dec,q15,u0])|(refine zg (fun hg=>?_) (fun hg=>?_)<;>simp only[go_sem,ge_dec,q15,u0,hg])|(refine zc (fun hc=>?_) (fun hc=>?_)<;>try exact zh hc)|(refine K_ret ?_;refine zt hQ ?_))
     rfl
    ·repeat'(first|apply nx|refine zx ?_|rw[zw]|((first|refine hK _ ?_|refine hKp _ _ ?_);clear hK hKp K Kp;try clear hanc anc)|((with_reducible refine And.intro ?_ ?_);exact zb)|((first|refine zr hE fun K Kp hK hKp=>?_|refine zd false mixed hE fun K Kp hK hKp anc hanc=>?_|(apply zm;exact zu;exact f1;exact zs;exact zl));simp only[go_sem,ge_dec,q15,u0])|(refine zg (fun hg=>?_) (fun hg=>?_)<;>simp only[go_sem,ge_dec,q15,u0,hg])|(refine zc (fun hc=>?_) (fun hc=>?_)<;>try exact zh hc)|(refine K_ret ?_;refine zt hQ ?_))
     rfl
   ·rw[hF] at f1 he
    rcases hk12 with rfl|rfl
    ·repeat'(first|apply nx|refine zx ?_|rw[zw]|((first|refine hK _ ?_|refine hKp _ _ ?_);clear hK hKp K Kp;try clear hanc anc)|((with_reducible refine And.intro ?_ ?_);exact zb)|((first|refine zr hE fun K Kp hK hKp=>?_|refine zd true mixed hE fun K Kp hK hKp anc hanc=>?_|refine zd false mixed hE fun K Kp hK hKp anc hanc=>?_|(apply zm;exact zu;exact f1;exact zs;exact zl));simp only[go_sem,ge_dec,q15,u0])|(refine zg (fun hg=>?_) (fun hg=>?_)<;>simp only[go_sem,ge_dec,q15,u0,hg])|(refine zc (fun hc=>?_) (fun hc=>?_)<;>try exact zh hc))
     exact⟨(i+1,m),⟨by simp only;omega,by rw[he];rfl,by simp only;omega⟩,by simp only;omega,fun i=>i,by refine ent_mk (by simp[go_sem]) (by simp[go_sem]) (by simp) (by simp[hN])⟩
    ·repeat'(first|apply nx|refine zx ?_|rw[zw]|((first|refine hK _ ?_|refine hKp _ _ ?_);clear hK hKp K Kp;try clear hanc anc)|((with_reducible refine And.intro ?_ ?_);exact zb)|((first|refine zr hE fun K Kp hK hKp=>?_|refine zd true mixed hE fun K Kp hK hKp anc hanc=>?_|refine zd false mixed hE fun K Kp hK hKp anc hanc=>?_|(apply zm;exact zu;exact f1;exact zs;exact zl));simp only[go_sem,ge_dec,q15,u0])|(refine zg (fun hg=>?_) (fun hg=>?_)<;>simp only[go_sem,ge_dec,q15,u0,hg])|(refine zc (fun hc=>?_) (fun hc=>?_)<;>try exact zh hc))
     exact⟨(i+1,m),⟨by simp only;omega,by rw[he];rfl,by simp only;omega⟩,by simp only;omega,fun i=>i,by refine ent_mk (by simp[go_sem]) (by simp[go_sem]) (by simp) (by simp[hN])⟩
  by_cases h12:k=12
  ·subst h12
   have eA:((if((12:Int)=1∨(12:Int)=2)∧ex.k=15 then fits m ex.nm ex.ns.length else true)&&(if(12:Int)=12 then fits m nm ns.length else true))=fits m nm ns.length:=by
    rw[if_neg h12v,if_pos rfl,Bool.true_and]
   simp only[eA] at hno he
   cases hF:fits m nm ns.length
   ·rw[hF] at f2
    rw[hno hF] at hQ
    repeat'(first|apply nx|refine zx ?_|rw[zw]|((first|refine hK _ ?_|refine hKp _ _ ?_);clear hK hKp K Kp;try clear hanc anc)|((with_reducible refine And.intro ?_ ?_);exact zb)|((first|refine zr hE fun K Kp hK hKp=>?_|refine zd false mixed hE fun K Kp hK hKp anc hanc=>?_|(apply zm;exact zu;exact f2;exact zs;exact zl));simp only[go_sem,ge_dec,u0])|(refine zg (fun hg=>?_) (fun hg=>?_)<;>simp only[go_sem,ge_dec,u0,hg])|(refine zc (fun hc=>?_) (fun hc=>?_)<;>try exact zh hc)|(refine K_ret ?_;refine zt hQ ?_))
    rfl
   ·rw[hF] at f2 he
    repeat'(first|apply nx|refine zx ?_|rw[zw]|((first|refine hK _ ?_|refine hKp _ _ ?_);clear hK hKp K Kp;try clear hanc anc)|((with_reducible refine And.intro ?_ ?_);exact zb)|((first|refine zr hE fun K Kp hK hKp=>?_|refine zd true mixed hE fun K Kp hK hKp anc hanc=>?_|refine zd false mixed hE fun K Kp hK hKp anc hanc=>?_|(apply zm;exact zu;exact f2;exact zs;exact zl));simp only[go_sem,ge_dec,u0])|(refine zg (fun hg=>?_) (fun hg=>?_)<;>simp only[go_sem,ge_dec,u0,hg])|(refine zc (fun hc=>?_) (fun hc=>?_)<;>try exact zh hc))
    exact⟨(i+1,m),⟨by simp only;omega,by rw[he];rfl,by simp only;omega⟩,by simp only;omega,fun i=>i,by refine ent_mk (by simp[go_sem]) (by simp[go_sem]) (by simp) (by simp[hN])⟩
  have eA:((if(k=1∨k=2)∧ex.k=15 then fits m ex.nm ex.ns.length else true)&&(if k=12 then fits m nm ns.length else true))=true:=by
   rw[if_neg h12v,if_neg h12];rfl
  simp only[eA] at he
  have q12:(k==12)=false:=by simp[h12]
  by_cases hk1:k=1
  ·subst hk1
   have q15:(ex.k==15)=false:=by
    have:ex.k≠15:=fun h=>h12v ⟨.inl rfl,h⟩
    simp[this]
   repeat'(first|apply nx|refine zx ?_|rw[zw]|((first|refine hK _ ?_|refine hKp _ _ ?_);clear hK hKp K Kp;try clear hanc anc)|((with_reducible refine And.intro ?_ ?_);exact zb)|((first|refine zr hE fun K Kp hK hKp=>?_|refine zd true mixed hE fun K Kp hK hKp anc hanc=>?_|refine zd false mixed hE fun K Kp hK hKp anc hanc=>?_);simp only[go_sem,ge_dec,q15,u0])|(refine zg (fun hg=>?_) (fun hg=>?_)<;>simp only[go_sem,ge_dec,q15,u0,hg])|(refine zc (fun hc=>?_) (fun hc=>?_)<;>try exact zh hc))
   exact⟨(i+1,m),⟨by simp only;omega,by rw[he];rfl,by simp only;omega⟩,by simp only;omega,fun i=>i,by refine ent_mk (by simp[go_sem]) (by simp[go_sem]) (by simp) (by simp[hN])⟩
  by_cases hk2:k=2
  ·subst hk2
   have q15:(ex.k==15)=false:=by
    have:ex.k≠15:=fun h=>h12v ⟨.inr rfl,h⟩
    simp[this]
   repeat'(first|apply nx|refine zx ?_|rw[zw]|((first|refine hK _ ?_|refine hKp _ _ ?_);clear hK hKp K Kp;try clear hanc anc)|((with_reducible refine And.intro ?_ ?_);exact zb)|((first|refine zr hE fun K Kp hK hKp=>?_|refine zd true mixed hE fun K Kp hK hKp anc hanc=>?_|refine zd false mixed hE fun K Kp hK hKp anc hanc=>?_);simp only[go_sem,ge_dec,q15,u0])|(refine zg (fun hg=>?_) (fun hg=>?_)<;>simp only[go_sem,ge_dec,q15,u0,hg])|(refine zc (fun hc=>?_) (fun hc=>?_)<;>try exact zh hc))
   exact⟨(i+1,m),⟨by simp only;omega,by rw[he];rfl,by simp only;omega⟩,by simp only;omega,fun i=>i,by refine ent_mk (by simp[go_sem]) (by simp[go_sem]) (by simp) (by simp[hN])⟩
  have q1:(k==1)=false:=by simp[hk1]
  have q2:(k==2)=false:=by simp[hk2]
  by_cases hk13:k=13
  ·subst hk13
   have hq1:((fn.length:Int)==1)=false:=by
    have:fn.length≠1:=fun h=>h13 ⟨rfl,h⟩
    simp
    omega
   repeat'(first|apply nx|refine zx ?_|rw[zw]|((first|refine hK _ ?_|refine hKp _ _ ?_);clear hK hKp K Kp;try clear hanc anc)|((with_reducible refine And.intro ?_ ?_);exact zb)|((first|refine zr hE fun K Kp hK hKp=>?_|refine zd true mixed hE fun K Kp hK hKp anc hanc=>?_|refine zd false mixed hE fun K Kp hK hKp anc hanc=>?_);simp only[go_sem,ge_dec,hq1,u0])|(refine zg (fun hg=>?_) (fun hg=>?_)<;>simp only[go_sem,ge_dec,hq1,u0,hg])|(refine zc (fun hc=>?_) (fun hc=>?_)<;>try exact zh hc))
   exact⟨(i+1,m),⟨by simp only;omega,by rw[he];rfl,by simp only;omega⟩,by simp only;omega,fun i=>i,by refine ent_mk (by simp[go_sem]) (by simp[go_sem]) (by simp) (by simp[hN])⟩
  have q13:(k==13)=false:=by simp[hk13]
  repeat'(first|apply nx|refine zx ?_|rw[zw]|((first|refine hK _ ?_|refine hKp _ _ ?_);clear hK hKp K Kp;try clear hanc anc)|((with_reducible refine And.intro ?_ ?_);exact zb)|((first|refine zr hE fun K Kp hK hKp=>?_|refine zd true mixed hE fun K Kp hK hKp anc hanc=>?_|refine zd false mixed hE fun K Kp hK hKp anc hanc=>?_);simp only[go_sem,ge_dec,q1,q2,q12,q13,u0])|(refine zg (fun hg=>?_) (fun hg=>?_)<;>simp only[go_sem,ge_dec,q1,q2,q12,q13,u0,hg])|(refine zc (fun hc=>?_) (fun hc=>?_)<;>try exact zh hc))
  exact⟨(i+1,m),⟨by simp only;omega,by rw[he];rfl,by simp only;omega⟩,by simp only;omega,fun i=>i,by refine ent_mk (by simp[go_sem]) (by simp[go_sem]) (by simp) (by simp[hN])⟩
end Go.Proofs.YtffmphmiicnaeaaDoor

namespace Go.Lf
open Go Go.Am
def dg (u:Nat):UInt8:=UInt8.ofNat (48+u % 10)
theorem dd_step {u:Nat} (h:¬ u<10):Lib.decDigits u=Lib.decDigits (u / 10)++[dg u]:=by rw[Lib.decDigits,dif_neg h];rfl
theorem dd_one {u:Nat} (h:u<10):Lib.decDigits u=[dg u]:=by rw[Lib.decDigits,dif_pos h,dg,Nat.mod_eq_of_lt h]
def dval (l:List UInt8):Nat:=l.foldl (fun n b=>n*10+(b.toNat - 48)) 0
theorem dval_snoc (l:List UInt8) (b:UInt8):dval (l++[b])=dval l*10+(b.toNat - 48):=by simp[dval]
theorem dg_val (u:Nat):(dg u).toNat=48+u % 10:=by
 rw[dg,UInt8.toNat_ofNat']
 exact Nat.mod_eq_of_lt (by omega)
theorem dval_dd:∀ (N u:Nat),u<N→dval (Lib.decDigits u)=u
 |0,_,h=>by omega
 |N+1,u,h=>by
  by_cases h10:u<10
  ·rw[dd_one h10]
   have:=dg_val u
   simp only[dval,List.foldl]
   omega
  ·rw[dd_step h10,dval_snoc,dval_dd N (u / 10) (by omega),dg_val]
   omega
theorem dd_inj {u v:Nat} (h:Lib.decDigits u=Lib.decDigits v):u=v:=by
 rw[← dval_dd (u+1) u (by omega),h,dval_dd (v+1) v (by omega)]
theorem dd_low:∀ (N u:Nat),u<N→∀ b,b∈Lib.decDigits u→48≤b.toNat
 |0,_,h=>by omega
 |N+1,u,h=>by
  intro b hb
  by_cases h10:u<10
  ·rw[dd_one h10] at hb
   simp at hb
   subst hb
   rw[dg_val];omega
  ·rw[dd_step h10] at hb
   rcases List.mem_append.1 hb with hb|hb
   ·exact dd_low N (u / 10) (by omega) b hb
   ·simp at hb;subst hb;rw[dg_val];omega
theorem itoa_nat (n:Nat):Lib.itoa n=Lib.decDigits n:=by
 unfold Lib.itoa
 rw[if_neg (by omega),Int.toNat_natCast]
theorem dec_ok:DecOk Go.Proofs.YtffmphmiicnaeaaDoor.dec where
 nd n:=by
  unfold NoDot Go.Proofs.YtffmphmiicnaeaaDoor.dec
  rw[itoa_nat]
  intro h
  exact absurd (dd_low (n+1) n (by omega) 46 (by simpa using h)) (by decide)
 inj a b h:=by
  unfold Go.Proofs.YtffmphmiicnaeaaDoor.dec at h
  rw[itoa_nat,itoa_nat] at h
  have:=congrArg (fun x:ByteArray=>x.data.toList) h
  simp only[List.toList_toArray] at this
  exact dd_inj this
end Go.Lf

set_option maxHeartbeats 4000000
set_option maxRecDepth 100000
namespace Go.Proofs.YtffmphmiicnaeaaDoor
open Go.Am Go.Proofs Go.Lf
open Classical
attribute [local irreducible] AW CallP CallB
theorem lift_tup2 {x:Md} {z:List Lf.Fd×List Lf.Fd} (h:liftL dec x.fs= .ok z):liftAV x= .tup [.agg [.str x.nm,.sl (nml x.us),.sl (dtl x.ds),.sl (trl x.ts),.sl (iml x.ms),.sl (fdl (z.1++z.2))],.i 0,.i 0]:=by
 unfold liftAV
 rw[h]
 rfl
theorem calls_c (hh:PCall Tryd.prog 7 [] (.bool true)) (x:Md) (hx:x.sz<2 ^ 40) (hw:∀ f,f∈x.fs→f.wt≤2 ^ 40):PCall Tryd.prog 4 [x.av] (.bool true):=by
 have c8:=few_c x hx
 have e9:=fun h=>lift_call x h hw
 have e13:=fun h=>print_c x h
 obtain⟨mn,us,ds,ts,ms,fs⟩:=x
 unfold Md.av Md.cs at*
 simp only at*
 by_cases hf:fewN ⟨mn,us,ds,ts,ms,fs⟩≤400
 case neg=>
  rw[decide_eq_false hf] at c8
  clear e9 e13
  refine PCall.intro Tryd.func4 rfl isf4 (by simp[Tryd.f4]) (by simp[AV.cloL,AV.clo]) fun E Q hE hN hQ=>K_start ?_
  repeat'(first|apply nx|refine zx ?_|rw[zw]|((first|refine hK _ ?_|refine hKp _ _ ?_);clear hK hKp K Kp;try clear hanc anc)|((with_reducible refine And.intro ?_ ?_);exact zb)|((first|refine zr hE fun K Kp hK hKp=>?_|refine zd false mixed hE fun K Kp hK hKp anc hanc=>?_|(apply zm;exact zu;(first|exact hh|exact c8);exact zs;exact zl));simp only[go_sem])|(refine zg (fun hg=>?_) (fun hg=>?_)<;>simp only[go_sem,hg])|(refine zc (fun hc=>?_) (fun hc=>?_)<;>try exact zh hc)|(refine K_ret ?_;refine zt hQ ?_))
  rfl
 rw[decide_eq_true hf] at c8
 have hs:=few_sz hf
 have hs':(⟨mn,us,ds,ts,ms,fs⟩:Md).sz≤400:=by omega
 have hfs:fdSz fs≤400:=by unfold Md.sz at hs';simp only at hs';omega
 have c9:=e9 (by omega)
 have c13:=e13 (by omega)
 clear e9 e13
 have hln:=fd_len_le fs
 have c14:=dif_c fs (by omega)
 cases hpr:prM ⟨mn,us,ds,ts,ms,fs⟩
 ·rw[hpr] at c13
  refine PCall.intro Tryd.func4 rfl isf4 (by simp[Tryd.f4]) (by simp[AV.cloL,AV.clo]) fun E Q hE hN hQ=>K_start ?_
  repeat'(first|apply nx|refine zx ?_|rw[zw]|((first|refine hK _ ?_|refine hKp _ _ ?_);clear hK hKp K Kp;try clear hanc anc)|((with_reducible refine And.intro ?_ ?_);exact zb)|((first|refine zr hE fun K Kp hK hKp=>?_|refine zd false mixed hE fun K Kp hK hKp anc hanc=>?_|(apply zm;exact zu;(first|exact hh|exact c8|exact c13);exact zs;exact zl));simp only[go_sem])|(refine zg (fun hg=>?_) (fun hg=>?_)<;>simp only[go_sem,hg])|(refine zc (fun hc=>?_) (fun hc=>?_)<;>try exact zh hc)|(refine K_ret ?_;refine zt hQ ?_))
  rfl
 rw[hpr] at c13
 have hpf:=prM_pr hpr
 simp only at hpf
 by_cases hnd:(fs.map Fd.nm).Nodup
 case neg=>
  rw[decide_eq_false hnd] at c14
  refine PCall.intro Tryd.func4 rfl isf4 (by simp[Tryd.f4]) (by simp[AV.cloL,AV.clo]) fun E Q hE hN hQ=>K_start ?_
  repeat'(first|apply nx|refine zx ?_|rw[zw]|((first|refine hK _ ?_|refine hKp _ _ ?_);clear hK hKp K Kp;try clear hanc anc)|((with_reducible refine And.intro ?_ ?_);exact zb)|((first|refine zr hE fun K Kp hK hKp=>?_|refine zd false mixed hE fun K Kp hK hKp anc hanc=>?_|(apply zm;exact zu;(first|exact hh|exact c8|exact c13|exact c14);exact zs;exact zl));simp only[go_sem])|(refine zg (fun hg=>?_) (fun hg=>?_)<;>simp only[go_sem,hg])|(refine zc (fun hc=>?_) (fun hc=>?_)<;>try exact zh hc)|(refine K_ret ?_;refine zt hQ ?_))
  rfl
 rw[decide_eq_true hnd] at c14
 cases hl:liftL dec fs with
 |error e=>
  have h:=lift_err hl
  unfold liftAV at c9
  rw[hl] at c9
  unfold Md.av Md.cs at c9
  simp only at c9
  have q:(e.1 !=0)=true:=bne_iff_ne.2 h
  refine PCall.intro Tryd.func4 rfl isf4 (by simp[Tryd.f4]) (by simp[AV.cloL,AV.clo]) fun E Q hE hN hQ=>K_start ?_
  repeat'(first|apply nx|refine zx ?_|rw[zw]|((first|refine hK _ ?_|refine hKp _ _ ?_);clear hK hKp K Kp;try clear hanc anc)|((with_reducible refine And.intro ?_ ?_);exact zb)|((first|refine zr hE fun K Kp hK hKp=>?_|refine zd false mixed hE fun K Kp hK hKp anc hanc=>?_|(apply zm;exact zu;(first|exact hh|exact c8|exact c13|exact c14|exact c9);exact zs;exact zl));simp only[go_sem,q])|(refine zg (fun hg=>?_) (fun hg=>?_)<;>simp only[go_sem,q,hg])|(refine zc (fun hc=>?_) (fun hc=>?_)<;>try exact zh hc)|(refine K_ret ?_;refine zt hQ ?_))
  rfl
 |ok z=>
  rw[lift_tup2 hl] at c9
  simp only at c9
  have hzl:=liftL_len hl
  have hzs:=lift_sz hl (by omega)
  have hd:=lift_dif dec_ok hl (fun f hf=>(hpf f hf).2) hnd
  have hcl:=fun hc=>lift_cld dec_ok hl (fun f hf=>(hpf f hf).1) (fun f hf=>(hpf f hf).2) hnd hc
  obtain⟨z1,z2⟩:=z
  simp only at hzl hzs hd hcl c9
  have hz2:=fd_len_le z2
  have hget:∀ j f,z2[j]? =some f→(z1++z2)[fs.length+j]? =some f:=fun j f h=>by
   rw[List.getElem?_append_right (by omega),hzl,Nat.add_sub_cancel_left];exact h
  have hlen2:(z1++z2).length=fs.length+z2.length:=by rw[List.length_append,hzl]
  have hszm:∀ f,f∈z1++z2→stSz f.b≤2800000:=fun f hf=>by
   have h1:=fd_mem_le hf
   rw[fdSz_app] at h1
   have h2:stSz f.b≤f.sz:=by
    obtain⟨fm,p0,b0,cp0,a0,r0,bd,of0⟩:=f
    rw[Fd.sz,Fd.b];omega
   omega
  generalize hfs2:z1++z2=fs2 at*
  have c14':=dif_c fs2 (by omega)
  rw[decide_eq_true hd] at c14'
  have q4:decide ((fs2.length:Int)<(fs.length:Int))=false:=decide_eq_false (by omega)
  refine PCall.intro Tryd.func4 rfl isf4 (by simp[Tryd.f4]) (by simp[AV.cloL,AV.clo]) fun E Q hE hN hQ=>K_start ?_
  repeat'(first|apply nx|refine zx ?_|rw[zw]|((first|refine hK _ ?_|refine hKp _ _ ?_);clear hK hKp K Kp;try clear hanc anc)|((with_reducible refine And.intro ?_ ?_);exact zb)|((first|refine zr hE fun K Kp hK hKp=>?_|refine zd true mixed hE fun K Kp hK hKp anc hanc=>?_|refine zd false mixed hE fun K Kp hK hKp anc hanc=>?_|(apply zm;exact zu;(first|exact hh|exact c8|exact c13|exact c14|exact c9|exact c14');exact zs;exact zl));simp only[go_sem,q4])|(refine zg (fun hg=>?_) (fun hg=>?_)<;>simp only[go_sem,q4,hg])|(refine zc (fun hc=>?_) (fun hc=>?_)<;>try exact zh hc))
  clear c8 c13 c14 c9 c14' hh
  refine K_loop (X:=Nat) (fun i=>i≤fs.length∧∀ j f,j<i→fs[j]? =some f→cldL [] f.b=true) (fun i=>mkSt [(1,.ptr 0 0),(3,.bool true),(4,.ptr 1 0),(7,.i (i:Nat))] [(0,.cells [.str mn,.sl (nml us),.sl (dtl ds),.sl (trl ts),.sl (iml ms),.sl (fdl fs)]),(1,.cells [.str mn,.sl (nml us),.sl (dtl ds),.sl (trl ts),.sl (iml ms),.sl (fdl fs2)])] 2) (fun i=>fs.length - i) 0 ⟨Nat.zero_le _,fun j f h=>by omega⟩ (fun i=>if i=0 then 0 else 25165824) (by refine ent_mk (by simp[go_sem]) (by simp[go_sem]) (by simp) (by simp[hN])) ?_
  rintro i ⟨hi,he⟩
  by_cases hlt:i<fs.length
  ·obtain⟨f,hxx⟩:=get?_of hlt
   have u0:=inc_u hlt (by omega)
   have hmm:=fd_mem_le (List.mem_of_getElem? hxx)
   have c1:=called_c (2 ^ 24) (Nat.le_refl _) f.b (by obtain⟨fm,p0,b0,cp0,a0,r0,bd,of0⟩:=f;rw[Fd.sz] at hmm;simp only[Fd.b];omega) [] (by obtain⟨fm,p0,b0,cp0,a0,r0,bd,of0⟩:=f;rw[Fd.sz] at hmm;simp only[Fd.b,List.length_nil];omega)
   cases hb:cldL [] f.b
   ·rw[hb] at c1
    obtain⟨fm,p0,b0,cp0,a0,r0,bd,of0⟩:=f
    simp only[Fd.b] at c1
    repeat'(first|apply nx|refine zx ?_|rw[zw]|((first|refine hK _ ?_|refine hKp _ _ ?_);clear hK hKp K Kp;try clear hanc anc)|((with_reducible refine And.intro ?_ ?_);exact zb)|((first|refine zr hE fun K Kp hK hKp=>?_|refine zd false mixed hE fun K Kp hK hKp anc hanc=>?_|(apply zm;exact zu;exact c1;exact zs;exact zl));simp only[go_sem,lt_dec hlt,hxx,Fd.av])|(refine zg (fun hg=>?_) (fun hg=>?_)<;>simp only[go_sem,lt_dec hlt,hxx,Fd.av,hg])|(refine zc (fun hc=>?_) (fun hc=>?_)<;>try exact zh hc)|(refine K_ret ?_;refine zt hQ ?_))
    rfl
   ·have he':∀ j f',j<i+1→fs[j]? =some f'→cldL [] f'.b=true:=fun j f' h1 h2=>by
     by_cases hji:j=i
     ·subst hji;rw[hxx] at h2;cases h2;exact hb
     ·exact he j f' (by omega) h2
    rw[hb] at c1
    clear he hb
    obtain⟨fm,p0,b0,cp0,a0,r0,bd,of0⟩:=f
    simp only[Fd.b] at c1
    repeat'(first|apply nx|refine zx ?_|rw[zw]|((first|refine hK _ ?_|refine hKp _ _ ?_);clear hK hKp K Kp;try clear hanc anc)|((with_reducible refine And.intro ?_ ?_);exact zb)|((first|refine zr hE fun K Kp hK hKp=>?_|refine zd true mixed hE fun K Kp hK hKp anc hanc=>?_|refine zd false mixed hE fun K Kp hK hKp anc hanc=>?_|(apply zm;exact zu;exact c1;exact zs;exact zl));simp only[go_sem,lt_dec hlt,hxx,Fd.av,u0])|(refine zg (fun hg=>?_) (fun hg=>?_)<;>simp only[go_sem,lt_dec hlt,hxx,Fd.av,u0,hg])|(refine zc (fun hc=>?_) (fun hc=>?_)<;>try exact zh hc))
    exact⟨i+1,⟨hlt,he'⟩,by omega,fun i=>i,by refine ent_mk (by simp[go_sem]) (by simp[go_sem]) (by simp) (by simp[hN])⟩
  obtain rfl:i=fs.length:=by omega
  have hcl':=hcl (fun f hf=>by obtain⟨j,hj,e⟩:=List.mem_iff_getElem.1 hf;exact he j f hj (by rw[List.getElem?_eq_getElem hj,e]))
  clear hcl he
  repeat'(first|apply nx|refine zx ?_|rw[zw]|((first|refine hK _ ?_|refine hKp _ _ ?_);clear hK hKp K Kp;try clear hanc anc)|((with_reducible refine And.intro ?_ ?_);exact zb)|((fail_if_success refine K_stop 15 ?_);(first|refine zr hE fun K Kp hK hKp=>?_|refine zd true mixed hE fun K Kp hK hKp anc hanc=>?_|refine zd false mixed hE fun K Kp hK hKp anc hanc=>?_);simp only[go_sem,ge_dec])|(refine zg (fun hg=>?_) (fun hg=>?_)<;>simp only[go_sem,ge_dec,hg])|(refine zc (fun hc=>?_) (fun hc=>?_)<;>try exact zh hc))
  refine AW.ent (σ':=mkSt [(1,.ptr 0 0),(3,.bool true),(4,.ptr 1 0),(8,.nilsl)] [(0,.cells [.str mn,.sl (nml us),.sl (dtl ds),.sl (trl ts),.sl (iml ms),.sl (fdl fs)]),(1,.cells [.str mn,.sl (nml us),.sl (dtl ds),.sl (trl ts),.sl (iml ms),.sl (fdl fs2)])] 2) (fun i=>i) ?_ ?_
  ·exact ent_mk (by simp[go_sem]) (by simp[go_sem]) (by simp) (by simp[hN])
  have hA0:prl (arO [])=[]:=rfl
  refine AW_nil 8 2 (by rw[hE];decide) (by simp only[go_sem]) ?_
  repeat'(first|apply nx|refine zx ?_|rw[zw]|((first|refine hK _ ?_|refine hKp _ _ ?_);clear hK hKp K Kp;try clear hanc anc)|((with_reducible refine And.intro ?_ ?_);exact zb)|((first|refine zr hE fun K Kp hK hKp=>?_|refine zd true mixed hE fun K Kp hK hKp anc hanc=>?_|refine zd false mixed hE fun K Kp hK hKp anc hanc=>?_);simp only[go_sem])|(refine zg (fun hg=>?_) (fun hg=>?_)<;>simp only[go_sem,hg])|(refine zc (fun hc=>?_) (fun hc=>?_)<;>try exact zh hc))
  refine K_loop (X:=Nat) (fun i=>i≤z2.length) (fun i=>mkSt [(1,.ptr 0 0),(3,.bool true),(4,.ptr 1 0),(8,.rw 2),(9,.i ((fs.length+i:Nat):Int))] [(0,.cells [.str mn,.sl (nml us),.sl (dtl ds),.sl (trl ts),.sl (iml ms),.sl (fdl fs)]),(1,.cells [.str mn,.sl (nml us),.sl (dtl ds),.sl (trl ts),.sl (iml ms),.sl (fdl fs2)]),(2,.row 2 (prl (arO (z2.take i))))] 3) (fun i=>z2.length - i) 0 (Nat.zero_le _) (fun i=>i) (by refine ent_mk (by simp[go_sem,hA0]) (by simp[go_sem,hA0]) (by simp) (by simp[hN])) ?_
  rintro i hi2
  by_cases hlt:i<z2.length
  ·obtain⟨f,hxx⟩:=get?_of hlt
   have hx2:=hget i f hxx
   have q:=lt_dec (show fs.length+i<fs2.length by omega)
   have u0:IntKind.i64.wrap (((fs.length+i:Nat):Int)+1)=((fs.length+(i+1):Nat):Int):=by rw[wrap64 (by omega) (by omega)];omega
   have hrow:prl (arO (z2.take i))++[.agg [.str f.nm,.i (f.ag.length:Nat)]]=prl (arO (z2.take (i+1))):=by
    rw[prl_snoc,List.take_add_one,hxx];simp[arO]
   have hl1:(arO (z2.take i)).length≤z2.length:=by unfold arO;rw[List.length_map];exact List.length_take_le' _ _
   obtain⟨fm,p0,b0,cp0,a0,r0,bd,of0⟩:=f
   simp only[Fd.nm,Fd.ag] at hrow
   repeat'(first|apply nx|refine zx ?_|rw[zw]|((first|refine hK _ ?_|refine hKp _ _ ?_);clear hK hKp K Kp;try clear hanc anc)|((with_reducible refine And.intro ?_ ?_);exact zb)|((first|refine zr hE fun K Kp hK hKp=>?_|refine zd true mixed hE fun K Kp hK hKp anc hanc=>?_|refine zd false mixed hE fun K Kp hK hKp anc hanc=>?_);simp only[go_sem,q,hx2,Fd.av,u0])|(refine zg (fun hg=>?_) (fun hg=>?_)<;>simp only[go_sem,q,hx2,Fd.av,u0,hg])|(refine zc (fun hc=>?_) (fun hc=>?_)<;>try exact zh hc))
   refine⟨i+1,by omega,by omega,fun j=>if j=2 then 22020099 else j,?_⟩
   exact ent_mk (by simp[go_sem]) (by simp[go_sem,hrow]) (by simp) (by simp[hN])
  obtain rfl:i=z2.length:=by omega
  rw[List.take_length]
  have q:decide (((fs.length+z2.length:Nat):Int)<(fs2.length:Int))=false:=decide_eq_false (by omega)
  repeat'(first|apply nx|refine zx ?_|rw[zw]|((first|refine hK _ ?_|refine hKp _ _ ?_);clear hK hKp K Kp;try clear hanc anc)|((with_reducible refine And.intro ?_ ?_);exact zb)|((first|refine zr hE fun K Kp hK hKp=>?_|refine zd true mixed hE fun K Kp hK hKp anc hanc=>?_|refine zd false mixed hE fun K Kp hK hKp anc hanc=>?_);simp only[go_sem,q])|(refine zg (fun hg=>?_) (fun hg=>?_)<;>simp only[go_sem,q,hg])|(refine zc (fun hc=>?_) (fun hc=>?_)<;>try exact zh hc))
  refine K_loop (X:=Nat) (fun i=>i≤fs2.length) (fun i=>mkSt [(1,.ptr 0 0),(3,.bool true),(4,.ptr 1 0),(8,.rw 2),(10,.i (i:Nat))] [(0,.cells [.str mn,.sl (nml us),.sl (dtl ds),.sl (trl ts),.sl (iml ms),.sl (fdl fs)]),(1,.cells [.str mn,.sl (nml us),.sl (dtl ds),.sl (trl ts),.sl (iml ms),.sl (fdl fs2)]),(2,.row 2 (prl (arO z2)))] 3) (fun i=>fs2.length - i) 0 (Nat.zero_le _) (fun i=>i) (by refine ent_mk (by simp[go_sem]) (by simp[go_sem]) (by simp) (by simp[hN])) ?_
  rintro i hi3
  by_cases hlt:i<fs2.length
  ·obtain⟨f,hxx⟩:=get?_of hlt
   have u0:=inc_u hlt (by omega)
   have hm:=List.mem_of_getElem? hxx
   have hsz:=hszm f hm
   have hlA:(arO z2).length≤2800000:=by unfold arO;rw[List.length_map];omega
   have c1:=called_c (2 ^ 24) (Nat.le_refl _) f.b (by omega) (arO z2) (by omega)
   rw[hcl' f hm] at c1
   obtain⟨fm,p0,b0,cp0,a0,r0,bd,of0⟩:=f
   simp only[Fd.b] at c1
   repeat'(first|apply nx|refine zx ?_|rw[zw]|((first|refine hK _ ?_|refine hKp _ _ ?_);clear hK hKp K Kp;try clear hanc anc)|((with_reducible refine And.intro ?_ ?_);exact zb)|((first|refine zr hE fun K Kp hK hKp=>?_|refine zd true mixed hE fun K Kp hK hKp anc hanc=>?_|refine zd false mixed hE fun K Kp hK hKp anc hanc=>?_|(apply zm;exact zu;exact c1;exact zs;exact zl));simp only[go_sem,lt_dec hlt,hxx,Fd.av,u0])|(refine zg (fun hg=>?_) (fun hg=>?_)<;>simp only[go_sem,lt_dec hlt,hxx,Fd.av,u0,hg])|(refine zc (fun hc=>?_) (fun hc=>?_)<;>try exact zh hc))
   exact⟨i+1,hlt,by omega,fun i=>i,by refine ent_mk (by simp[go_sem]) (by simp[go_sem]) (by simp) (by simp[hN])⟩
  obtain rfl:i=fs2.length:=by omega
  repeat'(first|apply nx|refine zx ?_|rw[zw]|((first|refine hK _ ?_|refine hKp _ _ ?_);clear hK hKp K Kp;try clear hanc anc)|((with_reducible refine And.intro ?_ ?_);exact zb)|((first|refine zr hE fun K Kp hK hKp=>?_|refine zd false mixed hE fun K Kp hK hKp anc hanc=>?_);simp only[go_sem,ge_dec])|(refine zg (fun hg=>?_) (fun hg=>?_)<;>simp only[go_sem,ge_dec,hg])|(refine zc (fun hc=>?_) (fun hc=>?_)<;>try exact zh hc)|(refine K_ret ?_;refine zt hQ ?_))
  rfl
end Go.Proofs.YtffmphmiicnaeaaDoor
