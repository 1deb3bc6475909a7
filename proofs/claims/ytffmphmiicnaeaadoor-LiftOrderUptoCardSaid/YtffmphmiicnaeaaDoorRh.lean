/- A part of the proof: an abstract machine for the walks, and what the walked functions compute. -/
import Derived.Lib.ItoaLen
import Derived.Test.YtffmphmiicnaeaaDoorRg
import Derived.Test.YtffmphmiicnaeaaDoorRa
import Derived.Test.YtffmphmiicnaeaaDoorRc
import Derived.Test.YtffmphmiicnaeaaDoorRd
set_option linter.unusedVariables false
set_option linter.unusedSimpArgs false
set_option maxHeartbeats 4000000
set_option maxRecDepth 100000
namespace Go.Lf
open Go Go.Am
def vdB' (v:Vd):Bool:=nameB v.nm&&typesB v.fs
def dtB' (d:Dt):Bool:=nameB d.nm&&(namesB d.ps&&(!((d.vs.length:Int)==0)&&((decide (d.dr≥ -1)&&decide (d.dr≤1000000000))&&d.vs.all vdB')))
def imB' (x:Im):Bool:=nameB x.tr&&(namesB x.ps&&(bdlB x.bs&&(typeB x.ty&&nameB x.fn)))
def prM (x:Md):Bool:=nameB x.nm&&(namesB x.us&&(x.ds.all dtB'&&(x.ts.all (fun t=>nameB t.nm)&&(x.ms.all imB'&&x.fs.all (funB false)))))
theorem nd_empty:NoDot ⟨#[]⟩:=by unfold NoDot;simp
theorem nd_of_neq {n:Nm} (h:neq0 n=false):NoDot n:=by
 unfold neq0 at h
 have h1:decide (n=⟨#[]⟩)=true:=by simpa only[Bool.not_eq_false'] using h
 rw[of_decide_eq_true h1]
 exact nd_empty
theorem exRest_nd {ex:Ex} (hp:¬ exPre ex=true) (h:exRest ex=true):NoDot ex.nm:=by
 unfold exPre at hp
 simp only[Bool.or_eq_true,not_or,Bool.not_eq_true,Bool.not_eq_false'] at hp
 obtain⟨⟨⟨⟨⟨⟨⟨a1,a2⟩,a3⟩,a4⟩,a5⟩,a6⟩,a7⟩,a8⟩:=hp
 have a4:=eq_of_beq a4
 by_cases h4:(ex.k==4)=true
 ·unfold exRest at h
  have e:=eq_of_beq h4
  rw[e] at h
  simp at h
  exact nameB_nd h.1
 by_cases h15:(ex.k==15)=true
 ·unfold exRest at h
  have e:=eq_of_beq h15
  rw[e] at h
  simp at h
  exact nameB_nd h
 by_cases h16:(ex.k==16)=true
 ·unfold exRest at h
  have e:=eq_of_beq h16
  rw[e] at h
  simp at h
  exact nameB_nd h.1
 ·rw[eq_false_of_ne_true h4,eq_false_of_ne_true h15,eq_false_of_ne_true h16] at a4
  exact nd_of_neq (by simpa only[Bool.or_false] using a4)
mutual
theorem stmtB_pr:∀ s:St,stmtB s=true→s.pr
 | .mk k nm ns ty ex th el ar fn off,h=>by
  rw[stmtB] at h
  split at h
  ·cases h
  rename_i h1
  split at h
  ·cases h
  rename_i h2
  split at h
  ·cases h
  rename_i h3
  split at h
  ·cases h
  split at h
  case isFalse=>cases h
  rename_i h5
  unfold st1 at h1
  unfold st2 at h2
  unfold st3 at h3
  unfold st5 at h
  simp only[Bool.or_eq_true,not_or,Bool.not_eq_true,Bool.not_eq_false'] at h1 h2 h3
  obtain⟨⟨⟨⟨⟨a1,a2⟩,a3⟩,a4⟩,a5⟩,a6⟩:=h1
  obtain⟨⟨⟨b1,b2⟩,b3⟩,b4⟩:=h2
  obtain⟨⟨⟨⟨c1,c2⟩,c3⟩,c4⟩,c5⟩:=h3
  rw[St.pr]
  have hfn:fn.length≤1:=by have:=of_decide_eq_false c5;omega
  have hk:(fn.length=1↔k=13):=by
   have:=eq_of_beq c4
   rw[Bool.eq_iff_iff] at this
   simp only[beq_iff_eq] at this
   constructor
   ·intro h;exact this.1 (by omega)
   ·intro h;have:=this.2 h;omega
  refine⟨?_,?_,hk,hfn,blkB_pr th a5,blkB_pr el a6,armsB_pr ar h5,?_⟩
  ·by_cases hn:nm=⟨#[]⟩
   ·rw[hn];exact nd_empty
   ·have:(!decide (nm=⟨#[]⟩))=true:=by simp[hn]
    rw[this] at a1
    have hq:=(eq_of_beq a1).symm
    rw[hq] at a2
    exact nameB_nd (by simpa using a2)
  ·have hex:emptyB ex=true∨exprB ex=true:=by
    cases he:emptyB ex
    ·rw[he] at b2;right;simpa using b2
    ·exact .inl rfl
   rcases hex with he|he
   ·unfold emptyB at he
    simp only[Bool.and_eq_true,Bool.not_eq_true'] at he
    obtain⟨⟨⟨⟨⟨⟨_,_⟩,e3⟩,_⟩,_⟩,_⟩,_⟩:=he
    exact nd_of_neq e3
   ·unfold exprB at he
    split at he
    ·cases he
    ·rename_i hp
     exact exRest_nd hp he
  ·by_cases h1:fn.length=1
   ·match fn,h1 with
    | [f],_=>
     have hq:((([f]:List Fd).length:Int)==1)=true:=rfl
     rw[hq,fnsB,Bool.true_and] at h
     cases hb:funB true f
     ·rw[hb] at h;cases h
     ·rw[fdP,fdP];exact⟨funB_pr true f hb,trivial⟩
   ·have:fn=[]:=List.length_eq_zero_iff.1 (by omega)
    rw[this,fdP]
    trivial
theorem blkB_pr:∀ l:List St,blkB l=true→stP l
 | [],_=>by rw[stP];trivial
 |s::l,h=>by
  rw[blkB,Bool.and_eq_true] at h
  rw[stP]
  exact⟨stmtB_pr s h.1,blkB_pr l h.2⟩
theorem armB_pr:∀ s:Ar,armB s=true→s.pr
 | .mk v ns b off,h=>by
  rw[armB,Bool.and_eq_true] at h
  rw[Ar.pr]
  exact blkB_pr b h.2
theorem armsB_pr:∀ l:List Ar,armsB l=true→arP l
 | [],_=>by rw[arP];trivial
 |s::l,h=>by
  rw[armsB,Bool.and_eq_true] at h
  rw[arP]
  exact⟨armB_pr s h.1,armsB_pr l h.2⟩
theorem funB_pr:∀ (b:Bool) (f:Fd),funB b f=true→f.pr
 |nb,.mk nm ps bs cs ag res b off,h=>by
  rw[funB] at h
  split at h
  ·cases h
  simp only[Bool.and_eq_true] at h
  obtain⟨⟨⟨⟨⟨⟨f1,f2⟩,f3⟩,f4⟩,f5⟩,f6⟩,f7⟩:=h
  rw[Fd.pr]
  refine⟨nameB_nd f1,fun c hc=>?_,blkB_pr b f7⟩
  have:=List.all_eq_true.1 f4 c hc
  unfold agB at this
  rw[Bool.and_eq_true] at this
  exact nameB_nd this.1
end
theorem prM_pr {x:Md} (h:prM x=true):∀ f,f∈x.fs→f.pr∧NoDot f.nm:=by
 intro f hf
 unfold prM at h
 simp only[Bool.and_eq_true] at h
 have hb:=List.all_eq_true.1 h.2.2.2.2.2 f hf
 have hp:=funB_pr false f hb
 refine⟨hp,?_⟩
 obtain⟨nm,ps,bs,cs,ag,res,b,off⟩:=f
 rw[Fd.pr] at hp
 exact hp.1
end Go.Lf
namespace Go.Proofs.YtffmphmiicnaeaaDoor
open Go.Am Go.Proofs Go.Lf
open Classical
attribute [local irreducible] AW CallP CallB
theorem pblock_c' (l:List Lf.St) (hl:l.length≤2 ^ 30) (h:∀ s,s∈l→PCall Tryd.prog 73 [s.av] (.bool (stmtB s))):PCall Tryd.prog 59 [.sl (stl l)] (.bool (blkB l)):=by
 refine PCall.intro Tryd.func59 rfl isf59 (by simp[Tryd.f59]) (by simp[AV.cloL,AV.clo]) fun E Q hE hN hQ=>K_start ?_
 repeat'(first|apply nx|refine zx ?_|rw[zw]|((first|refine hK _ ?_|refine hKp _ _ ?_);clear hK hKp K Kp;try clear hanc anc)|((with_reducible refine And.intro ?_ ?_);exact zb)|((first|refine zr hE fun K Kp hK hKp=>?_|refine zd true mixed hE fun K Kp hK hKp anc hanc=>?_|refine zd false mixed hE fun K Kp hK hKp anc hanc=>?_);simp only[go_sem])|(refine zg (fun hg=>?_) (fun hg=>?_)<;>simp only[go_sem,hg])|(refine zc (fun hc=>?_) (fun hc=>?_)<;>try exact zh hc))
 refine K_loop (X:=Nat) (fun i=>i≤l.length∧blkB l=blkB (l.drop i)) (fun i=>mkSt [(0,.sl (stl l)),(3,.i (i:Nat))] [] 1) (fun i=>l.length - i) 0 ⟨Nat.zero_le _,rfl⟩ (fun i=>i) (by refine ent_mk (by simp[go_sem]) (by simp[go_sem]) (by simp) (by simp[hN])) ?_
 rintro i ⟨hi,he⟩
 by_cases hlt:i<l.length
 case neg=>
  obtain rfl:i=l.length:=by omega
  rw[List.drop_length] at he
  rw[he] at hQ
  repeat'(first|apply nx|refine zx ?_|rw[zw]|((first|refine hK _ ?_|refine hKp _ _ ?_);clear hK hKp K Kp;try clear hanc anc)|((with_reducible refine And.intro ?_ ?_);exact zb)|((first|refine zr hE fun K Kp hK hKp=>?_|refine zd false mixed hE fun K Kp hK hKp anc hanc=>?_);simp only[go_sem,ge_dec])|(refine zg (fun hg=>?_) (fun hg=>?_)<;>simp only[go_sem,ge_dec,hg])|(refine zc (fun hc=>?_) (fun hc=>?_)<;>try exact zh hc)|(refine K_ret ?_;refine zt hQ ?_))
  rfl
 obtain⟨c,hx⟩:=get?_of hlt
 have u0:=inc_u hlt (by omega)
 have cn:=h c (List.mem_of_getElem? hx)
 rw[drop_of hx,blkB] at he
 obtain⟨k,nm,ns,ty,ex,th,el,ar,fn,off⟩:=c
 rw[Lf.St.av] at cn
 cases hb:stmtB (.mk k nm ns ty ex th el ar fn off)
 ·rw[hb] at he cn
  rw[he] at hQ
  repeat'(first|apply nx|refine zx ?_|rw[zw]|((first|refine hK _ ?_|refine hKp _ _ ?_);clear hK hKp K Kp;try clear hanc anc)|((with_reducible refine And.intro ?_ ?_);exact zb)|((first|refine zr hE fun K Kp hK hKp=>?_|refine zd false mixed hE fun K Kp hK hKp anc hanc=>?_|(apply zm;exact zu;exact cn;exact zs;exact zl));simp only[go_sem,lt_dec hlt,hx,Lf.St.av])|(refine zg (fun hg=>?_) (fun hg=>?_)<;>simp only[go_sem,lt_dec hlt,hx,Lf.St.av,hg])|(refine zc (fun hc=>?_) (fun hc=>?_)<;>try exact zh hc)|(refine K_ret ?_;refine zt hQ ?_))
  rfl
 ·rw[hb] at he cn
  repeat'(first|apply nx|refine zx ?_|rw[zw]|((first|refine hK _ ?_|refine hKp _ _ ?_);clear hK hKp K Kp;try clear hanc anc)|((with_reducible refine And.intro ?_ ?_);exact zb)|((first|refine zr hE fun K Kp hK hKp=>?_|refine zd true mixed hE fun K Kp hK hKp anc hanc=>?_|refine zd false mixed hE fun K Kp hK hKp anc hanc=>?_|(apply zm;exact zu;exact cn;exact zs;exact zl));simp only[go_sem,lt_dec hlt,hx,Lf.St.av,u0])|(refine zg (fun hg=>?_) (fun hg=>?_)<;>simp only[go_sem,lt_dec hlt,hx,Lf.St.av,u0,hg])|(refine zc (fun hc=>?_) (fun hc=>?_)<;>try exact zh hc))
  exact⟨i+1,⟨hlt,by rw[he];rfl⟩,by omega,fun i=>i,by refine ent_mk (by simp[go_sem]) (by simp[go_sem]) (by simp) (by simp[hN])⟩
theorem fun_c (nb:Bool) (f:Lf.Fd) (hs:f.sz≤2 ^ 20) (cb:PCall Tryd.prog 59 [.sl (stl f.b)] (.bool (blkB f.b))):PCall Tryd.prog 39 [f.av,.bool nb] (.bool (funB nb f)):=by
 obtain⟨fm,ps,bs,cp,ag,rs,b,off⟩:=f
 rw[Fd.sz] at hs
 simp only[Fd.b] at cb
 have c1:=name_c fm
 have c2:=pnames_c ps (by omega)
 have c3:=bounds_c bs (by omega)
 have c4:=args_c true cp (by omega)
 have c5:=args_c false ag (by omega)
 have c6:=type_c (2 ^ 40) (Nat.le_refl _) rs (by omega)
 rw[Fd.av,funB]
 have w1:IntKind.i64.wrap ((ps.length:Int)+(bs.length:Int))=(ps.length:Int)+bs.length:=by rw[wrap64 (by omega) (by omega)]
 generalize namesB ps=b2 at c2 ⊢
 generalize bdlB bs=b3 at c3 ⊢
 generalize agsB true cp=b4 at c4 ⊢
 generalize agsB false ag=b5 at c5 ⊢
 generalize typeB rs=b6 at c6 ⊢
 generalize blkB b=b7 at cb ⊢
 generalize nameB fm=b1 at c1 ⊢
 cases nb
 ·refine PCall.intro Tryd.func39 rfl isf39 (by simp[Tryd.f39]) (by simp[AV.cloL,AV.clo]) fun E Q hE hN hQ=>K_start ?_
  repeat'(first|apply nx|refine zx ?_|rw[zw]|((first|refine hK _ ?_|refine hKp _ _ ?_);clear hK hKp K Kp;try clear hanc anc)|((with_reducible refine And.intro ?_ ?_);exact zb)|((first|refine zr hE fun K Kp hK hKp=>?_|refine zd false mixed hE fun K Kp hK hKp anc hanc=>?_|(apply zm;exact zu;(first|exact c1|exact c2|exact c3|exact c4|exact c5|exact c6|exact cb);exact zs;exact zl));simp only[go_sem,w1])|(refine zg (fun hg=>?_) (fun hg=>?_)<;>simp only[go_sem,w1,hg])|(refine zc (fun hc=>?_) (fun hc=>?_)<;>try exact zh hc)|(refine K_ret ?_;refine zt hQ ?_))
  all_goals (clear hQ c1 c2 c3 c4 c5 c6 cb w1 hs hE hN;first|(simp_all[AV.snap];done)|trace_state)
 ·refine PCall.intro Tryd.func39 rfl isf39 (by simp[Tryd.f39]) (by simp[AV.cloL,AV.clo]) fun E Q hE hN hQ=>K_start ?_
  repeat'(first|apply nx|refine zx ?_|rw[zw]|((first|refine hK _ ?_|refine hKp _ _ ?_);clear hK hKp K Kp;try clear hanc anc)|((with_reducible refine And.intro ?_ ?_);exact zb)|((first|refine zr hE fun K Kp hK hKp=>?_|refine zd false mixed hE fun K Kp hK hKp anc hanc=>?_|(apply zm;exact zu;(first|exact c1|exact c2|exact c3|exact c4|exact c5|exact c6|exact cb);exact zs;exact zl));simp only[go_sem,w1])|(refine zg (fun hg=>?_) (fun hg=>?_)<;>simp only[go_sem,w1,hg])|(refine zc (fun hc=>?_) (fun hc=>?_)<;>try exact zh hc)|(refine K_ret ?_;refine zt hQ ?_))
  all_goals (clear hQ c1 c2 c3 c4 c5 c6 cb w1 hs hE hN;first|(simp_all[AV.snap];done)|trace_state)
theorem pblock_c:∀ (N:Nat),N≤2 ^ 20→∀ l:List Lf.St,stSz l<N→PCall Tryd.prog 59 [.sl (stl l)] (.bool (blkB l)):=by
 intro N
 induction N with
 |zero=>intro _ l h;omega
 |succ N IH=>
  intro hN1 l hl
  have hln:=st_len_le l
  refine pblock_c' l (by omega) fun s hs=>?_
  have hm:=st_mem_le hs
  obtain⟨k,nm,ns,ty,ex,th,el,ar,fn,off⟩:=s
  rw[St.sz] at hm
  have har:=ar_len_le ar
  rw[Lf.St.av]
  refine stmt_c1 (fun f hf=>?_) (by omega) (fun v ns1 b o hb=>?_) (by omega) (by omega) (by omega) (IH (by omega) th (by omega)) (IH (by omega) el (by omega))
  ·subst hf
   rw[fdSz,fdSz] at hm
   refine fun_c true f (by omega) (IH (by omega) _ ?_)
   obtain⟨fm,ps,bs,cp,ag,rs,b,off⟩:=f
   rw[Fd.sz] at hm
   simp only[Fd.b]
   omega
  ·have h2:=ar_mem_le hb
   rw[Ar.sz] at h2
   exact⟨by omega,IH (by omega) b (by omega)⟩
end Go.Proofs.YtffmphmiicnaeaaDoor

set_option maxHeartbeats 4000000
set_option maxRecDepth 100000
namespace Go.Lf
open Go Go.Am
theorem dt_mem {d:Dt} {l:List Dt} (h:d∈l):1+d.ps.length+vdSz d.vs≤dtSz l:=sum_mem (f:=fun d:Dt=>1+d.ps.length+vdSz d.vs) h
theorem vd_mem {d:Vd} {l:List Vd} (h:d∈l):1+Tx.szL d.fs≤vdSz l:=sum_mem (f:=fun v:Vd=>1+Tx.szL v.fs) h
theorem im_mem {d:Im} {l:List Im} (h:d∈l):1+d.ps.length+d.bs.length+d.ty.sz≤imSz l:=sum_mem (f:=fun x:Im=>1+x.ps.length+x.bs.length+x.ty.sz) h
end Go.Lf
namespace Go.Proofs.YtffmphmiicnaeaaDoor
open Go.Am Go.Proofs Go.Lf
open Classical
attribute [local irreducible] AW CallP CallB
theorem print_c (x:Md) (hx:x.sz≤2 ^ 19):PCall Tryd.prog 13 [x.av] (.bool (prM x)):=by
 obtain⟨mn,us,ds,ts,ms,fs⟩:=x
 unfold Md.sz at hx
 simp only at hx
 have hld:=dt_len ds
 have hlm:=im_len ms
 have hlf:=fd_len_le fs
 have c1:=name_c mn
 have c2:=pnames_c us (by omega)
 unfold Md.av Md.cs prM
 simp only
 cases h1:nameB mn
 ·rw[h1] at c1
  refine PCall.intro Tryd.func13 rfl isf13 (by simp[Tryd.f13]) (by simp[AV.cloL,AV.clo]) fun E Q hE hN hQ=>K_start ?_
  repeat'(first|apply nx|refine zx ?_|rw[zw]|((first|refine hK _ ?_|refine hKp _ _ ?_);clear hK hKp K Kp;try clear hanc anc)|((with_reducible refine And.intro ?_ ?_);exact zb)|((first|refine zr hE fun K Kp hK hKp=>?_|refine zd false mixed hE fun K Kp hK hKp anc hanc=>?_|(apply zm;exact zu;exact c1;exact zs;exact zl));simp only[go_sem])|(refine zg (fun hg=>?_) (fun hg=>?_)<;>simp only[go_sem,hg])|(refine zc (fun hc=>?_) (fun hc=>?_)<;>try exact zh hc)|(refine K_ret ?_;refine zt hQ ?_))
  rfl
 cases h2:namesB us
 ·rw[h1] at c1
  rw[h2] at c2
  refine PCall.intro Tryd.func13 rfl isf13 (by simp[Tryd.f13]) (by simp[AV.cloL,AV.clo]) fun E Q hE hN hQ=>K_start ?_
  repeat'(first|apply nx|refine zx ?_|rw[zw]|((first|refine hK _ ?_|refine hKp _ _ ?_);clear hK hKp K Kp;try clear hanc anc)|((with_reducible refine And.intro ?_ ?_);exact zb)|((first|refine zr hE fun K Kp hK hKp=>?_|refine zd false mixed hE fun K Kp hK hKp anc hanc=>?_|(apply zm;exact zu;(first|exact c1|exact c2);exact zs;exact zl));simp only[go_sem])|(refine zg (fun hg=>?_) (fun hg=>?_)<;>simp only[go_sem,hg])|(refine zc (fun hc=>?_) (fun hc=>?_)<;>try exact zh hc)|(refine K_ret ?_;refine zt hQ ?_))
  rfl
 rw[h1] at c1
 rw[h2] at c2
 simp only[Bool.true_and]
 refine PCall.intro Tryd.func13 rfl isf13 (by simp[Tryd.f13]) (by simp[AV.cloL,AV.clo]) fun E Q hE hN hQ=>K_start ?_
 repeat'(first|apply nx|refine zx ?_|rw[zw]|((first|refine hK _ ?_|refine hKp _ _ ?_);clear hK hKp K Kp;try clear hanc anc)|((with_reducible refine And.intro ?_ ?_);exact zb)|((first|refine zr hE fun K Kp hK hKp=>?_|refine zd true mixed hE fun K Kp hK hKp anc hanc=>?_|refine zd false mixed hE fun K Kp hK hKp anc hanc=>?_|(apply zm;exact zu;(first|exact c1|exact c2);exact zs;exact zl));simp only[go_sem])|(refine zg (fun hg=>?_) (fun hg=>?_)<;>simp only[go_sem,hg])|(refine zc (fun hc=>?_) (fun hc=>?_)<;>try exact zh hc))
 clear c1 c2
 refine K_loop (X:=Nat) (fun i=>i≤ds.length∧ds.all dtB'=(ds.drop i).all dtB') (fun i=>(mkSt [(1,.ptr 0 0),(3,.i (i:Nat))] [(0,.cells [.str mn,.sl (nml us),.sl (dtl ds),.sl (trl ts),.sl (iml ms),.sl (fdl fs)])] 1)) (fun i=>ds.length - i) 0 ⟨Nat.zero_le _,rfl⟩ (fun i=>i) (by refine ent_mk (by simp[go_sem]) (by simp[go_sem]) (by simp) (by simp[hN])) ?_
 rintro i ⟨hi,he⟩
 by_cases hlt:i<ds.length
 ·obtain⟨⟨dn,dp,dv,dr,dof⟩,hxx⟩:=get?_of hlt
  have hmm:=dt_mem (List.mem_of_getElem? hxx)
  simp only at hmm
  have hlv:=vd_len dv
  have u0:=inc_u hlt (by omega)
  have c1:=name_c dn
  have c2:=pnames_c dp (by omega)
  have c3:=between_c dr (-1) 1000000000
  rw[drop_of hxx,List.all_cons] at he
  rw[show dtB' ⟨dn,dp,dv,dr,dof⟩=(nameB dn&&(namesB dp&&(!((dv.length:Int)==0)&&((decide (dr≥ -1)&&decide (dr≤1000000000))&&dv.all vdB')))) from rfl] at he
  generalize (decide (dr≥ -1)&&decide (dr≤1000000000))=b3 at c3 he
  cases h1:nameB dn
  ·rw[h1] at c1 he
   rw[he] at hQ
   repeat'(first|apply nx|refine zx ?_|rw[zw]|((first|refine hK _ ?_|refine hKp _ _ ?_);clear hK hKp K Kp;try clear hanc anc)|((with_reducible refine And.intro ?_ ?_);exact zb)|((first|refine zr hE fun K Kp hK hKp=>?_|refine zd false mixed hE fun K Kp hK hKp anc hanc=>?_|(apply zm;exact zu;exact c1;exact zs;exact zl));simp only[go_sem,lt_dec hlt,hxx,Dt.av])|(refine zg (fun hg=>?_) (fun hg=>?_)<;>simp only[go_sem,lt_dec hlt,hxx,Dt.av,hg])|(refine zc (fun hc=>?_) (fun hc=>?_)<;>try exact zh hc)|(refine K_ret ?_;refine zt hQ ?_))
   rfl
  cases h2:namesB dp
  ·rw[h1] at c1 he
   rw[h2] at c2 he
   rw[he] at hQ
   repeat'(first|apply nx|refine zx ?_|rw[zw]|((first|refine hK _ ?_|refine hKp _ _ ?_);clear hK hKp K Kp;try clear hanc anc)|((with_reducible refine And.intro ?_ ?_);exact zb)|((first|refine zr hE fun K Kp hK hKp=>?_|refine zd false mixed hE fun K Kp hK hKp anc hanc=>?_|(apply zm;exact zu;(first|exact c1|exact c2);exact zs;exact zl));simp only[go_sem,lt_dec hlt,hxx,Dt.av])|(refine zg (fun hg=>?_) (fun hg=>?_)<;>simp only[go_sem,lt_dec hlt,hxx,Dt.av,hg])|(refine zc (fun hc=>?_) (fun hc=>?_)<;>try exact zh hc)|(refine K_ret ?_;refine zt hQ ?_))
   rfl
  rw[h1] at c1 he
  rw[h2] at c2 he
  cases h3:((dv.length:Int)==0)
  case true=>
   rw[h3] at he
   rw[he] at hQ
   repeat'(first|apply nx|refine zx ?_|rw[zw]|((first|refine hK _ ?_|refine hKp _ _ ?_);clear hK hKp K Kp;try clear hanc anc)|((with_reducible refine And.intro ?_ ?_);exact zb)|((first|refine zr hE fun K Kp hK hKp=>?_|refine zd false mixed hE fun K Kp hK hKp anc hanc=>?_|(apply zm;exact zu;(first|exact c1|exact c2);exact zs;exact zl));simp only[go_sem,lt_dec hlt,hxx,Dt.av,h3])|(refine zg (fun hg=>?_) (fun hg=>?_)<;>simp only[go_sem,lt_dec hlt,hxx,Dt.av,h3,hg])|(refine zc (fun hc=>?_) (fun hc=>?_)<;>try exact zh hc)|(refine K_ret ?_;refine zt hQ ?_))
   rfl
  rw[h3] at he
  cases b3
  ·rw[he] at hQ
   repeat'(first|apply nx|refine zx ?_|rw[zw]|((first|refine hK _ ?_|refine hKp _ _ ?_);clear hK hKp K Kp;try clear hanc anc)|((with_reducible refine And.intro ?_ ?_);exact zb)|((first|refine zr hE fun K Kp hK hKp=>?_|refine zd false mixed hE fun K Kp hK hKp anc hanc=>?_|(apply zm;exact zu;(first|exact c1|exact c2|exact c3);exact zs;exact zl));simp only[go_sem,lt_dec hlt,hxx,Dt.av,h3])|(refine zg (fun hg=>?_) (fun hg=>?_)<;>simp only[go_sem,lt_dec hlt,hxx,Dt.av,h3,hg])|(refine zc (fun hc=>?_) (fun hc=>?_)<;>try exact zh hc)|(refine K_ret ?_;refine zt hQ ?_))
   rfl
  repeat'(first|apply nx|refine zx ?_|rw[zw]|((first|refine hK _ ?_|refine hKp _ _ ?_);clear hK hKp K Kp;try clear hanc anc)|((with_reducible refine And.intro ?_ ?_);exact zb)|((first|refine zr hE fun K Kp hK hKp=>?_|refine zd true mixed hE fun K Kp hK hKp anc hanc=>?_|refine zd false mixed hE fun K Kp hK hKp anc hanc=>?_|(apply zm;exact zu;(first|exact c1|exact c2|exact c3);exact zs;exact zl));simp only[go_sem,lt_dec hlt,hxx,Dt.av,h3])|(refine zg (fun hg=>?_) (fun hg=>?_)<;>simp only[go_sem,lt_dec hlt,hxx,Dt.av,h3,hg])|(refine zc (fun hc=>?_) (fun hc=>?_)<;>try exact zh hc))
  clear c1 c2 c3
  simp only[Bool.true_and,Bool.not_false] at he
  refine K_loop (X:=Nat) (fun j=>j≤dv.length∧dv.all vdB'=(dv.drop j).all vdB') (fun j=>(mkSt [(1,.ptr 0 0),(3,.i (i:Nat)),(4,.ptr 1 0),(5,.i (j:Nat))] [(0,.cells [.str mn,.sl (nml us),.sl (dtl ds),.sl (trl ts),.sl (iml ms),.sl (fdl fs)]),(1,.cells [.str dn,.sl (nml dp),.sl (vdl dv),.i dr,.i dof])] 2)) (fun j=>dv.length - j) 0 ⟨Nat.zero_le _,rfl⟩ (fun i=>if i=1 then 10485761 else i) (by refine ent_mk (by simp[go_sem]) (by simp[go_sem]) (by simp) (by simp[hN])) ?_
  rintro j ⟨hj,he2⟩
  by_cases hlj:j<dv.length
  ·obtain⟨⟨vn,vt,vo⟩,hy⟩:=get?_of hlj
   have hmv:=vd_mem (List.mem_of_getElem? hy)
   simp only at hmv
   have v0:=inc_u hlj (by omega)
   have c1:=name_c vn
   have c2:=types_c vt (by omega)
   rw[drop_of hy,List.all_cons,show vdB' ⟨vn,vt,vo⟩=(nameB vn&&typesB vt) from rfl] at he2
   cases h1:nameB vn
   ·rw[h1] at c1 he2
    rw[he,he2] at hQ
    repeat'(first|apply nx|refine zx ?_|rw[zw]|((first|refine hK _ ?_|refine hKp _ _ ?_);clear hK hKp K Kp;try clear hanc anc)|((with_reducible refine And.intro ?_ ?_);exact zb)|((first|refine zr hE fun K Kp hK hKp=>?_|refine zd false mixed hE fun K Kp hK hKp anc hanc=>?_|(apply zm;exact zu;exact c1;exact zs;exact zl));simp only[go_sem,lt_dec hlj,hy,Vd.av])|(refine zg (fun hg=>?_) (fun hg=>?_)<;>simp only[go_sem,lt_dec hlj,hy,Vd.av,hg])|(refine zc (fun hc=>?_) (fun hc=>?_)<;>try exact zh hc)|(refine K_ret ?_;refine zt hQ ?_))
    rfl
   cases h2:typesB vt
   ·rw[h1] at c1 he2
    rw[h2] at c2 he2
    rw[he,he2] at hQ
    repeat'(first|apply nx|refine zx ?_|rw[zw]|((first|refine hK _ ?_|refine hKp _ _ ?_);clear hK hKp K Kp;try clear hanc anc)|((with_reducible refine And.intro ?_ ?_);exact zb)|((first|refine zr hE fun K Kp hK hKp=>?_|refine zd false mixed hE fun K Kp hK hKp anc hanc=>?_|(apply zm;exact zu;(first|exact c1|exact c2);exact zs;exact zl));simp only[go_sem,lt_dec hlj,hy,Vd.av])|(refine zg (fun hg=>?_) (fun hg=>?_)<;>simp only[go_sem,lt_dec hlj,hy,Vd.av,hg])|(refine zc (fun hc=>?_) (fun hc=>?_)<;>try exact zh hc)|(refine K_ret ?_;refine zt hQ ?_))
    rfl
   rw[h1] at c1 he2
   rw[h2] at c2 he2
   repeat'(first|apply nx|refine zx ?_|rw[zw]|((first|refine hK _ ?_|refine hKp _ _ ?_);clear hK hKp K Kp;try clear hanc anc)|((with_reducible refine And.intro ?_ ?_);exact zb)|((first|refine zr hE fun K Kp hK hKp=>?_|refine zd true mixed hE fun K Kp hK hKp anc hanc=>?_|refine zd false mixed hE fun K Kp hK hKp anc hanc=>?_|(apply zm;exact zu;(first|exact c1|exact c2);exact zs;exact zl));simp only[go_sem,lt_dec hlj,hy,Vd.av,v0])|(refine zg (fun hg=>?_) (fun hg=>?_)<;>simp only[go_sem,lt_dec hlj,hy,Vd.av,v0,hg])|(refine zc (fun hc=>?_) (fun hc=>?_)<;>try exact zh hc))
   exact⟨j+1,⟨hlj,by rw[he2];rfl⟩,by omega,fun i=>i,by refine ent_mk (by simp[go_sem]) (by simp[go_sem]) (by simp) (by simp[hN])⟩
  ·obtain rfl:j=dv.length:=by omega
   rw[List.drop_length,List.all_nil] at he2
   rw[he2] at he
   repeat'(first|apply nx|refine zx ?_|rw[zw]|((first|refine hK _ ?_|refine hKp _ _ ?_);clear hK hKp K Kp;try clear hanc anc)|((with_reducible refine And.intro ?_ ?_);exact zb)|((first|refine zr hE fun K Kp hK hKp=>?_|refine zd true mixed hE fun K Kp hK hKp anc hanc=>?_|refine zd false mixed hE fun K Kp hK hKp anc hanc=>?_);simp only[go_sem,ge_dec,u0])|(refine zg (fun hg=>?_) (fun hg=>?_)<;>simp only[go_sem,ge_dec,u0,hg])|(refine zc (fun hc=>?_) (fun hc=>?_)<;>try exact zh hc))
   exact⟨i+1,⟨hlt,he⟩,by omega,fun i=>i,by refine ent_mk (by simp[go_sem]) (by simp[go_sem]) (by simp) (by simp[hN])⟩
 obtain rfl:i=ds.length:=by omega
 rw[List.drop_length,List.all_nil] at he
 rw[he,Bool.true_and] at hQ
 repeat'(first|apply nx|refine zx ?_|rw[zw]|((first|refine hK _ ?_|refine hKp _ _ ?_);clear hK hKp K Kp;try clear hanc anc)|((with_reducible refine And.intro ?_ ?_);exact zb)|((first|refine zr hE fun K Kp hK hKp=>?_|refine zd true mixed hE fun K Kp hK hKp anc hanc=>?_|refine zd false mixed hE fun K Kp hK hKp anc hanc=>?_);simp only[go_sem,ge_dec])|(refine zg (fun hg=>?_) (fun hg=>?_)<;>simp only[go_sem,ge_dec,hg])|(refine zc (fun hc=>?_) (fun hc=>?_)<;>try exact zh hc))
 refine K_loop (X:=Nat) (fun i=>i≤ts.length∧ts.all (fun t=>nameB t.nm)=(ts.drop i).all (fun t=>nameB t.nm)) (fun i=>(mkSt [(1,.ptr 0 0),(6,.i (i:Nat))] [(0,.cells [.str mn,.sl (nml us),.sl (dtl ds),.sl (trl ts),.sl (iml ms),.sl (fdl fs)])] 1)) (fun i=>ts.length - i) 0 ⟨Nat.zero_le _,rfl⟩ (fun i=>i) (by refine ent_mk (by simp[go_sem]) (by simp[go_sem]) (by simp) (by simp[hN])) ?_
 rintro i ⟨hi,he⟩
 by_cases hlt:i<ts.length
 ·obtain⟨⟨tn,tof⟩,hxx⟩:=get?_of hlt
  have u0:=inc_u hlt (by omega)
  have c1:=name_c tn
  rw[drop_of hxx,List.all_cons] at he
  simp only at he
  cases h1:nameB tn
  ·rw[h1] at c1 he
   rw[he] at hQ
   repeat'(first|apply nx|refine zx ?_|rw[zw]|((first|refine hK _ ?_|refine hKp _ _ ?_);clear hK hKp K Kp;try clear hanc anc)|((with_reducible refine And.intro ?_ ?_);exact zb)|((first|refine zr hE fun K Kp hK hKp=>?_|refine zd false mixed hE fun K Kp hK hKp anc hanc=>?_|(apply zm;exact zu;exact c1;exact zs;exact zl));simp only[go_sem,lt_dec hlt,hxx,Tr.av])|(refine zg (fun hg=>?_) (fun hg=>?_)<;>simp only[go_sem,lt_dec hlt,hxx,Tr.av,hg])|(refine zc (fun hc=>?_) (fun hc=>?_)<;>try exact zh hc)|(refine K_ret ?_;refine zt hQ ?_))
   rfl
  ·rw[h1] at c1 he
   repeat'(first|apply nx|refine zx ?_|rw[zw]|((first|refine hK _ ?_|refine hKp _ _ ?_);clear hK hKp K Kp;try clear hanc anc)|((with_reducible refine And.intro ?_ ?_);exact zb)|((first|refine zr hE fun K Kp hK hKp=>?_|refine zd true mixed hE fun K Kp hK hKp anc hanc=>?_|refine zd false mixed hE fun K Kp hK hKp anc hanc=>?_|(apply zm;exact zu;exact c1;exact zs;exact zl));simp only[go_sem,lt_dec hlt,hxx,Tr.av,u0])|(refine zg (fun hg=>?_) (fun hg=>?_)<;>simp only[go_sem,lt_dec hlt,hxx,Tr.av,u0,hg])|(refine zc (fun hc=>?_) (fun hc=>?_)<;>try exact zh hc))
   exact⟨i+1,⟨hlt,by rw[he];rfl⟩,by omega,fun i=>i,by refine ent_mk (by simp[go_sem]) (by simp[go_sem]) (by simp) (by simp[hN])⟩
 obtain rfl:i=ts.length:=by omega
 rw[List.drop_length,List.all_nil] at he
 rw[he,Bool.true_and] at hQ
 repeat'(first|apply nx|refine zx ?_|rw[zw]|((first|refine hK _ ?_|refine hKp _ _ ?_);clear hK hKp K Kp;try clear hanc anc)|((with_reducible refine And.intro ?_ ?_);exact zb)|((first|refine zr hE fun K Kp hK hKp=>?_|refine zd true mixed hE fun K Kp hK hKp anc hanc=>?_|refine zd false mixed hE fun K Kp hK hKp anc hanc=>?_);simp only[go_sem,ge_dec])|(refine zg (fun hg=>?_) (fun hg=>?_)<;>simp only[go_sem,ge_dec,hg])|(refine zc (fun hc=>?_) (fun hc=>?_)<;>try exact zh hc))
 refine K_loop (X:=Nat) (fun i=>i≤ms.length∧ms.all imB'=(ms.drop i).all imB') (fun i=>(mkSt [(1,.ptr 0 0),(7,.i (i:Nat))] [(0,.cells [.str mn,.sl (nml us),.sl (dtl ds),.sl (trl ts),.sl (iml ms),.sl (fdl fs)])] 1)) (fun i=>ms.length - i) 0 ⟨Nat.zero_le _,rfl⟩ (fun i=>i) (by refine ent_mk (by simp[go_sem]) (by simp[go_sem]) (by simp) (by simp[hN])) ?_
 rintro i ⟨hi,he⟩
 by_cases hlt:i<ms.length
 ·obtain⟨⟨it,ip,ib,iy,ifn,iof⟩,hxx⟩:=get?_of hlt
  have hmm:=im_mem (List.mem_of_getElem? hxx)
  simp only at hmm
  have u0:=inc_u hlt (by omega)
  have c1:=name_c it
  have c2:=pnames_c ip (by omega)
  have c3:=bounds_c ib (by omega)
  have c4:=type_c (2 ^ 40) (Nat.le_refl _) iy (by omega)
  have c5:=name_c ifn
  rw[drop_of hxx,List.all_cons,show imB' ⟨it,ip,ib,iy,ifn,iof⟩=(nameB it&&(namesB ip&&(bdlB ib&&(typeB iy&&nameB ifn)))) from rfl] at he
  generalize hb1:nameB it=b1 at c1 he
  generalize hb2:namesB ip=b2 at c2 he
  generalize hb3:bdlB ib=b3 at c3 he
  generalize hb4:typeB iy=b4 at c4 he
  generalize hb5:nameB ifn=b5 at c5 he
  clear hb1 hb2 hb3 hb4 hb5
  cases b1
  ·rw[he] at hQ
   repeat'(first|apply nx|refine zx ?_|rw[zw]|((first|refine hK _ ?_|refine hKp _ _ ?_);clear hK hKp K Kp;try clear hanc anc)|((with_reducible refine And.intro ?_ ?_);exact zb)|((first|refine zr hE fun K Kp hK hKp=>?_|refine zd false mixed hE fun K Kp hK hKp anc hanc=>?_|(apply zm;exact zu;exact c1;exact zs;exact zl));simp only[go_sem,lt_dec hlt,hxx,Im.av])|(refine zg (fun hg=>?_) (fun hg=>?_)<;>simp only[go_sem,lt_dec hlt,hxx,Im.av,hg])|(refine zc (fun hc=>?_) (fun hc=>?_)<;>try exact zh hc)|(refine K_ret ?_;refine zt hQ ?_))
   rfl
  cases b2
  ·rw[he] at hQ
   repeat'(first|apply nx|refine zx ?_|rw[zw]|((first|refine hK _ ?_|refine hKp _ _ ?_);clear hK hKp K Kp;try clear hanc anc)|((with_reducible refine And.intro ?_ ?_);exact zb)|((first|refine zr hE fun K Kp hK hKp=>?_|refine zd false mixed hE fun K Kp hK hKp anc hanc=>?_|(apply zm;exact zu;(first|exact c1|exact c2);exact zs;exact zl));simp only[go_sem,lt_dec hlt,hxx,Im.av])|(refine zg (fun hg=>?_) (fun hg=>?_)<;>simp only[go_sem,lt_dec hlt,hxx,Im.av,hg])|(refine zc (fun hc=>?_) (fun hc=>?_)<;>try exact zh hc)|(refine K_ret ?_;refine zt hQ ?_))
   rfl
  cases b3
  ·rw[he] at hQ
   repeat'(first|apply nx|refine zx ?_|rw[zw]|((first|refine hK _ ?_|refine hKp _ _ ?_);clear hK hKp K Kp;try clear hanc anc)|((with_reducible refine And.intro ?_ ?_);exact zb)|((first|refine zr hE fun K Kp hK hKp=>?_|refine zd false mixed hE fun K Kp hK hKp anc hanc=>?_|(apply zm;exact zu;(first|exact c1|exact c2|exact c3);exact zs;exact zl));simp only[go_sem,lt_dec hlt,hxx,Im.av])|(refine zg (fun hg=>?_) (fun hg=>?_)<;>simp only[go_sem,lt_dec hlt,hxx,Im.av,hg])|(refine zc (fun hc=>?_) (fun hc=>?_)<;>try exact zh hc)|(refine K_ret ?_;refine zt hQ ?_))
   rfl
  cases b4
  ·rw[he] at hQ
   repeat'(first|apply nx|refine zx ?_|rw[zw]|((first|refine hK _ ?_|refine hKp _ _ ?_);clear hK hKp K Kp;try clear hanc anc)|((with_reducible refine And.intro ?_ ?_);exact zb)|((first|refine zr hE fun K Kp hK hKp=>?_|refine zd false mixed hE fun K Kp hK hKp anc hanc=>?_|(apply zm;exact zu;(first|exact c1|exact c2|exact c3|exact c4);exact zs;exact zl));simp only[go_sem,lt_dec hlt,hxx,Im.av])|(refine zg (fun hg=>?_) (fun hg=>?_)<;>simp only[go_sem,lt_dec hlt,hxx,Im.av,hg])|(refine zc (fun hc=>?_) (fun hc=>?_)<;>try exact zh hc)|(refine K_ret ?_;refine zt hQ ?_))
   rfl
  cases b5
  ·rw[he] at hQ
   repeat'(first|apply nx|refine zx ?_|rw[zw]|((first|refine hK _ ?_|refine hKp _ _ ?_);clear hK hKp K Kp;try clear hanc anc)|((with_reducible refine And.intro ?_ ?_);exact zb)|((first|refine zr hE fun K Kp hK hKp=>?_|refine zd false mixed hE fun K Kp hK hKp anc hanc=>?_|(apply zm;exact zu;(first|exact c1|exact c2|exact c3|exact c4|exact c5);exact zs;exact zl));simp only[go_sem,lt_dec hlt,hxx,Im.av])|(refine zg (fun hg=>?_) (fun hg=>?_)<;>simp only[go_sem,lt_dec hlt,hxx,Im.av,hg])|(refine zc (fun hc=>?_) (fun hc=>?_)<;>try exact zh hc)|(refine K_ret ?_;refine zt hQ ?_))
   rfl
  repeat'(first|apply nx|refine zx ?_|rw[zw]|((first|refine hK _ ?_|refine hKp _ _ ?_);clear hK hKp K Kp;try clear hanc anc)|((with_reducible refine And.intro ?_ ?_);exact zb)|((first|refine zr hE fun K Kp hK hKp=>?_|refine zd true mixed hE fun K Kp hK hKp anc hanc=>?_|refine zd false mixed hE fun K Kp hK hKp anc hanc=>?_|(apply zm;exact zu;(first|exact c1|exact c2|exact c3|exact c4|exact c5);exact zs;exact zl));simp only[go_sem,lt_dec hlt,hxx,Im.av,u0])|(refine zg (fun hg=>?_) (fun hg=>?_)<;>simp only[go_sem,lt_dec hlt,hxx,Im.av,u0,hg])|(refine zc (fun hc=>?_) (fun hc=>?_)<;>try exact zh hc))
  exact⟨i+1,⟨hlt,by rw[he];rfl⟩,by omega,fun i=>i,by refine ent_mk (by simp[go_sem]) (by simp[go_sem]) (by simp) (by simp[hN])⟩
 obtain rfl:i=ms.length:=by omega
 rw[List.drop_length,List.all_nil] at he
 rw[he,Bool.true_and] at hQ
 repeat'(first|apply nx|refine zx ?_|rw[zw]|((first|refine hK _ ?_|refine hKp _ _ ?_);clear hK hKp K Kp;try clear hanc anc)|((with_reducible refine And.intro ?_ ?_);exact zb)|((first|refine zr hE fun K Kp hK hKp=>?_|refine zd true mixed hE fun K Kp hK hKp anc hanc=>?_|refine zd false mixed hE fun K Kp hK hKp anc hanc=>?_);simp only[go_sem,ge_dec])|(refine zg (fun hg=>?_) (fun hg=>?_)<;>simp only[go_sem,ge_dec,hg])|(refine zc (fun hc=>?_) (fun hc=>?_)<;>try exact zh hc))
 refine K_loop (X:=Nat) (fun i=>i≤fs.length∧fs.all (funB false)=(fs.drop i).all (funB false)) (fun i=>(mkSt [(1,.ptr 0 0),(9,.i (i:Nat))] [(0,.cells [.str mn,.sl (nml us),.sl (dtl ds),.sl (trl ts),.sl (iml ms),.sl (fdl fs)])] 1)) (fun i=>fs.length - i) 0 ⟨Nat.zero_le _,rfl⟩ (fun i=>i) (by refine ent_mk (by simp[go_sem]) (by simp[go_sem]) (by simp) (by simp[hN])) ?_
 rintro i ⟨hi,he⟩
 by_cases hlt:i<fs.length
 ·obtain⟨f,hxx⟩:=get?_of hlt
  have hmm:=fd_mem_le (List.mem_of_getElem? hxx)
  have u0:=inc_u hlt (by omega)
  have c1:=fun_c false f (by omega) (pblock_c (2 ^ 20) (Nat.le_refl _) _ (by obtain⟨fm,p0,b0,cp0,a0,r0,bd,of0⟩:=f;rw[Fd.sz] at hmm;simp only[Fd.b];omega))
  rw[drop_of hxx,List.all_cons] at he
  obtain⟨fm,p0,b0,cp0,a0,r0,bd,of0⟩:=f
  rw[Fd.av] at c1
  cases h1:funB false (.mk fm p0 b0 cp0 a0 r0 bd of0)
  ·rw[h1] at c1 he
   rw[he] at hQ
   repeat'(first|apply nx|refine zx ?_|rw[zw]|((first|refine hK _ ?_|refine hKp _ _ ?_);clear hK hKp K Kp;try clear hanc anc)|((with_reducible refine And.intro ?_ ?_);exact zb)|((first|refine zr hE fun K Kp hK hKp=>?_|refine zd false mixed hE fun K Kp hK hKp anc hanc=>?_|(apply zm;exact zu;exact c1;exact zs;exact zl));simp only[go_sem,lt_dec hlt,hxx,Fd.av])|(refine zg (fun hg=>?_) (fun hg=>?_)<;>simp only[go_sem,lt_dec hlt,hxx,Fd.av,hg])|(refine zc (fun hc=>?_) (fun hc=>?_)<;>try exact zh hc)|(refine K_ret ?_;refine zt hQ ?_))
   rfl
  ·rw[h1] at c1 he
   repeat'(first|apply nx|refine zx ?_|rw[zw]|((first|refine hK _ ?_|refine hKp _ _ ?_);clear hK hKp K Kp;try clear hanc anc)|((with_reducible refine And.intro ?_ ?_);exact zb)|((first|refine zr hE fun K Kp hK hKp=>?_|refine zd true mixed hE fun K Kp hK hKp anc hanc=>?_|refine zd false mixed hE fun K Kp hK hKp anc hanc=>?_|(apply zm;exact zu;exact c1;exact zs;exact zl));simp only[go_sem,lt_dec hlt,hxx,Fd.av,u0])|(refine zg (fun hg=>?_) (fun hg=>?_)<;>simp only[go_sem,lt_dec hlt,hxx,Fd.av,u0,hg])|(refine zc (fun hc=>?_) (fun hc=>?_)<;>try exact zh hc))
   exact⟨i+1,⟨hlt,by rw[he];rfl⟩,by omega,fun i=>i,by refine ent_mk (by simp[go_sem]) (by simp[go_sem]) (by simp) (by simp[hN])⟩
 obtain rfl:i=fs.length:=by omega
 rw[List.drop_length,List.all_nil] at he
 rw[he] at hQ
 repeat'(first|apply nx|refine zx ?_|rw[zw]|((first|refine hK _ ?_|refine hKp _ _ ?_);clear hK hKp K Kp;try clear hanc anc)|((with_reducible refine And.intro ?_ ?_);exact zb)|((first|refine zr hE fun K Kp hK hKp=>?_|refine zd false mixed hE fun K Kp hK hKp anc hanc=>?_);simp only[go_sem,ge_dec])|(refine zg (fun hg=>?_) (fun hg=>?_)<;>simp only[go_sem,ge_dec,hg])|(refine zc (fun hc=>?_) (fun hc=>?_)<;>try exact zh hc)|(refine K_ret ?_;refine zt hQ ?_))
 rfl
end Go.Proofs.YtffmphmiicnaeaaDoor

set_option maxHeartbeats 4000000
set_option maxRecDepth 100000
namespace Go.Lf
open Go Go.Am
end Go.Lf
namespace Go.Proofs.YtffmphmiicnaeaaDoor
open Go.Am Go.Proofs Go.Lf
open Classical
attribute [local irreducible] AW CallP CallB
end Go.Proofs.YtffmphmiicnaeaaDoor

set_option maxHeartbeats 4000000
set_option maxRecDepth 100000
namespace Go.Proofs.YtffmphmiicnaeaaDoor
open Go.Am Go.Proofs Go.Lf
open Classical
attribute [local irreducible] AW CallP CallB
end Go.Proofs.YtffmphmiicnaeaaDoor

namespace Go.Lf
open Go Go.Am
end Go.Lf

set_option maxHeartbeats 4000000
set_option maxRecDepth 100000
namespace Go.Proofs.YtffmphmiicnaeaaDoor
open Go.Am Go.Proofs Go.Lf
open Classical
attribute [local irreducible] AW CallP CallB
theorem lift_tup2 {x:Md} {z:List Lf.Fd×List Lf.Fd} (h:liftL dec x.fs= .ok z):liftAV x= .tup [.agg [.str x.nm,.sl (nml x.us),.sl (dtl x.ds),.sl (trl x.ts),.sl (iml x.ms),.sl (fdl (z.1++z.2))],.i 0,.i 0]:=by
 unfold liftAV
 rw[h]
 rfl
end Go.Proofs.YtffmphmiicnaeaaDoor

set_option maxHeartbeats 4000000
set_option maxRecDepth 100000
namespace Go.Lf
open Go Go.Am
def inl (l:List Int):List AV:=l.map AV.i
theorem inl_clo (l:List Int):AV.cloL (inl l)=true:=cloLeq _ fun x hx=>by obtain⟨p,_,rfl⟩:=List.mem_map.1 hx;rfl
@[go_sem] theorem inl_ln (l:List Int):(inl l).length=l.length:=List.length_map ..
@[go_sem] theorem inl_gt (l:List Int) (i:Nat):(inl l)[i]? =l[i]?.map AV.i:=List.getElem?_map ..
@[go_sem] theorem inl_ren (m:Nat→Nat) (l:List Int):AV.renL m (inl l)=inl l:=cloL_renL (inl_clo l)
@[go_sem] theorem inl_ids (p:Nat→Prop) (l:List Int):AV.idsL p (inl l)=True:=eq_true (cloL_idsL (inl_clo l))
theorem inl_szok (l:List Int):SzOk (inl l) 1:=szOk_of (f:=AV.i) (fun x=>rfl) l
theorem inl_clor (l:List Int):CloRow (inl l):=cloRow_of (f:=AV.i) (fun x=>cells_clo rfl) l
@[go_sem] theorem inl_clort (l:List Int):CloRow (inl l)=True:=eq_true (inl_clor l)
theorem inl_app (l m:List Int):inl (l++m)=inl l++inl m:=by simp[inl]
mutual
theorem kdS_len:∀ s:Lf.St,s.kd.length≤6*s.sz
 | .mk k nm ns ty ex th el ar fn off=>by
  have:=kdL_len th;have:=kdL_len el;have:=arK_len ar
  rw[St.kd,St.sz]
  split
  ·simp
  ·simp only[List.length_append,List.length_cons,List.length_nil];omega
theorem kdL_len:∀ l:List Lf.St,(kdL l).length≤6*stSz l+1
 | []=>by rw[kdL];simp
 |s::l=>by
  have:=kdS_len s;have:=kdL_len l
  rw[kdL,stSz,List.length_append];omega
theorem arM_len:∀ s:Ar,s.kd.length≤6*s.sz
 | .mk v ns b off=>by
  have:=kdL_len b
  rw[Ar.kd,Ar.sz];omega
theorem arK_len:∀ l:List Ar,(arK l).length≤6*arSz l
 | []=>by rw[arK];simp
 |s::l=>by
  have:=arM_len s;have:=arK_len l
  rw[arK,arSz,List.length_append];omega
end
end Go.Lf
namespace Go.Proofs.YtffmphmiicnaeaaDoor
open Go.Am Go.Proofs Go.Lf
open Classical
attribute [local irreducible] AW CallP CallB
theorem dotted_c (s:Nm) (hs:s.size≤2 ^ 60):PCall Tryd.prog 41 [.str s] (.bool (dotted s)):=by
 have hsl:s.size=s.data.toList.length:=rfl
 have hd:dotted s=s.data.toList.any fun c=>decide (c=46):=by unfold dotted;rw[Array.any_toList]
 rw[hd]
 refine PCall.intro Tryd.func41 rfl isf41 (by simp[Tryd.f41]) (by simp[AV.cloL,AV.clo]) fun E Q hE hN hQ=>K_start ?_
 repeat'(first|apply nx|refine zx ?_|rw[zw]|((first|refine hK _ ?_|refine hKp _ _ ?_);clear hK hKp K Kp;try clear hanc anc)|((with_reducible refine And.intro ?_ ?_);exact zb)|((first|refine zr hE fun K Kp hK hKp=>?_|refine zd true mixed hE fun K Kp hK hKp anc hanc=>?_|refine zd false mixed hE fun K Kp hK hKp anc hanc=>?_);simp only[go_sem])|(refine zg (fun hg=>?_) (fun hg=>?_)<;>simp only[go_sem,hg])|(refine zc (fun hc=>?_) (fun hc=>?_)<;>try exact zh hc))
 refine K_loop (X:=Nat) (fun i=>i≤s.data.toList.length∧(s.data.toList.any fun c=>decide (c=46))=((s.data.toList.drop i).any fun c=>decide (c=46))) (fun i=>mkSt [(0,.str s),(3,.i (i:Nat))] [] 1) (fun i=>s.data.toList.length - i) 0 ⟨Nat.zero_le _,rfl⟩ (fun i=>i) (by refine ent_mk (by simp[go_sem]) (by simp[go_sem]) (by simp) (by simp[hN])) ?_
 rintro i ⟨hi,he⟩
 by_cases hlt:i<s.data.toList.length
 case neg=>
  obtain rfl:i=s.data.toList.length:=by omega
  rw[List.drop_length,List.any_nil] at he
  rw[he] at hQ
  have q:decide (((s.data.toList.length:Nat):Int)<(s.size:Int))=false:=decide_eq_false (by omega)
  repeat'(first|apply nx|refine zx ?_|rw[zw]|((first|refine hK _ ?_|refine hKp _ _ ?_);clear hK hKp K Kp;try clear hanc anc)|((with_reducible refine And.intro ?_ ?_);exact zb)|((first|refine zr hE fun K Kp hK hKp=>?_|refine zd false mixed hE fun K Kp hK hKp anc hanc=>?_);simp only[go_sem,q])|(refine zg (fun hg=>?_) (fun hg=>?_)<;>simp only[go_sem,q,hg])|(refine zc (fun hc=>?_) (fun hc=>?_)<;>try exact zh hc)|(refine K_ret ?_;refine zt hQ ?_))
  rfl
 obtain⟨c,hx⟩:=get?_of hlt
 have q:decide ((i:Int)<(s.size:Int))=true:=decide_eq_true (by omega)
 have u0:IntKind.i64.wrap ((i:Int)+1)=((i+1:Nat):Int):=by rw[wrap64 (by omega) (by omega)];omega
 rw[drop_of hx,List.any_cons] at he
 by_cases hc46:c=46
 ·have q2:((c.toNat:Int)==46)=true:=by subst hc46;rfl
  rw[decide_eq_true hc46,Bool.true_or] at he
  rw[he] at hQ
  repeat'(first|apply nx|refine zx ?_|rw[zw]|((first|refine hK _ ?_|refine hKp _ _ ?_);clear hK hKp K Kp;try clear hanc anc)|((with_reducible refine And.intro ?_ ?_);exact zb)|((first|refine zr hE fun K Kp hK hKp=>?_|refine zd false mixed hE fun K Kp hK hKp anc hanc=>?_);simp only[go_sem,q,hx,q2])|(refine zg (fun hg=>?_) (fun hg=>?_)<;>simp only[go_sem,q,hx,q2,hg])|(refine zc (fun hc=>?_) (fun hc=>?_)<;>try exact zh hc)|(refine K_ret ?_;refine zt hQ ?_))
  rfl
 ·have q2:((c.toNat:Int)==46)=false:=by
   have:c.toNat≠46:=fun h=>hc46 (UInt8.toNat_inj.1 (by rw[h];rfl))
   simp
   omega
  rw[decide_eq_false hc46,Bool.false_or] at he
  repeat'(first|apply nx|refine zx ?_|rw[zw]|((first|refine hK _ ?_|refine hKp _ _ ?_);clear hK hKp K Kp;try clear hanc anc)|((with_reducible refine And.intro ?_ ?_);exact zb)|((first|refine zr hE fun K Kp hK hKp=>?_|refine zd true mixed hE fun K Kp hK hKp anc hanc=>?_|refine zd false mixed hE fun K Kp hK hKp anc hanc=>?_);simp only[go_sem,q,hx,q2,u0])|(refine zg (fun hg=>?_) (fun hg=>?_)<;>simp only[go_sem,q,hx,q2,u0,hg])|(refine zc (fun hc=>?_) (fun hc=>?_)<;>try exact zh hc))
  exact⟨i+1,⟨hlt,he⟩,by omega,fun i=>i,by refine ent_mk (by simp[go_sem]) (by simp[go_sem]) (by simp) (by simp[hN])⟩
theorem same_c (l m:List Int) (hl:l.length≤2 ^ 40) (hm:m.length≤2 ^ 40):PCall Tryd.prog 16 [.sl (inl l),.sl (inl m)] (.bool (decide (l=m))):=by
 by_cases hlm:l.length=m.length
 case neg=>
  have q:((l.length:Int) !=(m.length:Int))=true:=bne_iff_ne.2 (by omega)
  have e:decide (l=m)=false:=decide_eq_false fun h=>hlm (by rw[h])
  rw[e]
  refine PCall.intro Tryd.func16 rfl isf16 (by simp[Tryd.f16]) (by simp[AV.cloL,AV.clo]) fun E Q hE hN hQ=>K_start ?_
  repeat'(first|apply nx|refine zx ?_|rw[zw]|((first|refine hK _ ?_|refine hKp _ _ ?_);clear hK hKp K Kp;try clear hanc anc)|((with_reducible refine And.intro ?_ ?_);exact zb)|((first|refine zr hE fun K Kp hK hKp=>?_|refine zd false mixed hE fun K Kp hK hKp anc hanc=>?_);simp only[go_sem,q])|(refine zg (fun hg=>?_) (fun hg=>?_)<;>simp only[go_sem,q,hg])|(refine zc (fun hc=>?_) (fun hc=>?_)<;>try exact zh hc)|(refine K_ret ?_;refine zt hQ ?_))
  rfl
 have q:((l.length:Int) !=(m.length:Int))=false:=by simp[hlm]
 refine PCall.intro Tryd.func16 rfl isf16 (by simp[Tryd.f16]) (by simp[AV.cloL,AV.clo]) fun E Q hE hN hQ=>K_start ?_
 repeat'(first|apply nx|refine zx ?_|rw[zw]|((first|refine hK _ ?_|refine hKp _ _ ?_);clear hK hKp K Kp;try clear hanc anc)|((with_reducible refine And.intro ?_ ?_);exact zb)|((first|refine zr hE fun K Kp hK hKp=>?_|refine zd true mixed hE fun K Kp hK hKp anc hanc=>?_|refine zd false mixed hE fun K Kp hK hKp anc hanc=>?_);simp only[go_sem,q])|(refine zg (fun hg=>?_) (fun hg=>?_)<;>simp only[go_sem,q,hg])|(refine zc (fun hc=>?_) (fun hc=>?_)<;>try exact zh hc))
 refine K_loop (X:=Nat) (fun i=>i≤l.length∧l.take i=m.take i) (fun i=>mkSt [(0,.sl (inl l)),(1,.sl (inl m)),(5,.i (i:Nat))] [] 1) (fun i=>l.length - i) 0 ⟨Nat.zero_le _,by simp⟩ (fun i=>i) (by refine ent_mk (by simp[go_sem]) (by simp[go_sem]) (by simp) (by simp[hN])) ?_
 rintro i ⟨hi,he⟩
 by_cases hlt:i<l.length
 case neg=>
  obtain rfl:i=l.length:=by omega
  rw[List.take_length,List.take_of_length_le (by omega)] at he
  rw[decide_eq_true he] at hQ
  repeat'(first|apply nx|refine zx ?_|rw[zw]|((first|refine hK _ ?_|refine hKp _ _ ?_);clear hK hKp K Kp;try clear hanc anc)|((with_reducible refine And.intro ?_ ?_);exact zb)|((first|refine zr hE fun K Kp hK hKp=>?_|refine zd false mixed hE fun K Kp hK hKp anc hanc=>?_);simp only[go_sem,ge_dec])|(refine zg (fun hg=>?_) (fun hg=>?_)<;>simp only[go_sem,ge_dec,hg])|(refine zc (fun hc=>?_) (fun hc=>?_)<;>try exact zh hc)|(refine K_ret ?_;refine zt hQ ?_))
  rfl
 obtain⟨a,hx⟩:=get?_of hlt
 obtain⟨b,hy⟩:=get?_of (show i<m.length by omega)
 have u0:=inc_u hlt (by omega)
 by_cases hab:a=b
 ·subst hab
  have q2:(a !=a)=false:=by simp
  repeat'(first|apply nx|refine zx ?_|rw[zw]|((first|refine hK _ ?_|refine hKp _ _ ?_);clear hK hKp K Kp;try clear hanc anc)|((with_reducible refine And.intro ?_ ?_);exact zb)|((first|refine zr hE fun K Kp hK hKp=>?_|refine zd true mixed hE fun K Kp hK hKp anc hanc=>?_|refine zd false mixed hE fun K Kp hK hKp anc hanc=>?_);simp only[go_sem,lt_dec hlt,hx,hy,q2,u0])|(refine zg (fun hg=>?_) (fun hg=>?_)<;>simp only[go_sem,lt_dec hlt,hx,hy,q2,u0,hg])|(refine zc (fun hc=>?_) (fun hc=>?_)<;>try exact zh hc))
  exact⟨i+1,⟨hlt,by rw[List.take_add_one,List.take_add_one,he,hx,hy]⟩,by omega,fun i=>i,by refine ent_mk (by simp[go_sem]) (by simp[go_sem]) (by simp) (by simp[hN])⟩
 ·have q2:(a !=b)=true:=bne_iff_ne.2 hab
  have e:decide (l=m)=false:=decide_eq_false fun h=>by
   subst h
   rw[hx] at hy
   exact hab (Option.some.inj hy)
  rw[e] at hQ
  repeat'(first|apply nx|refine zx ?_|rw[zw]|((first|refine hK _ ?_|refine hKp _ _ ?_);clear hK hKp K Kp;try clear hanc anc)|((with_reducible refine And.intro ?_ ?_);exact zb)|((first|refine zr hE fun K Kp hK hKp=>?_|refine zd false mixed hE fun K Kp hK hKp anc hanc=>?_);simp only[go_sem,lt_dec hlt,hx,hy,q2])|(refine zg (fun hg=>?_) (fun hg=>?_)<;>simp only[go_sem,lt_dec hlt,hx,hy,q2,hg])|(refine zc (fun hc=>?_) (fun hc=>?_)<;>try exact zh hc)|(refine K_ret ?_;refine zt hQ ?_))
  rfl
end Go.Proofs.YtffmphmiicnaeaaDoor

namespace Go.Lf
open Go Go.Am
variable {dec:Nat→Nm}
mutual
def St.nb:St→Prop
 | .mk k nm ns ty ex th el ar fn off=>(k=1→nm.size≤2 ^ 50)∧nbL th∧nbL el∧nbA ar∧nbF fn
def nbL:List St→Prop
 | []=>True
 |s::l=>s.nb∧nbL l
def Ar.nb:Ar→Prop
 | .mk v ns b off=>nbL b
def nbA:List Ar→Prop
 | []=>True
 |s::l=>s.nb∧nbA l
def Fd.nb:Fd→Prop
 | .mk nm ps bs cs ag res b off=>nbL b
def nbF:List Fd→Prop
 | []=>True
 |s::l=>s.nb∧nbF l
end
theorem nbL_iff:∀ {l:List St},nbL l↔∀ s,s∈l→s.nb
 | []=>by rw[nbL];simp
 |s::l=>by rw[nbL,nbL_iff (l:=l)];simp
theorem nbL_app {l m:List St} :nbL (l++m)↔nbL l∧nbL m:=by
 rw[nbL_iff,nbL_iff,nbL_iff]
 constructor
 ·intro h;exact⟨fun s hs=>h s (by simp[hs]),fun s hs=>h s (by simp[hs])⟩
 ·rintro⟨h,g⟩ s hs
  rcases List.mem_append.1 hs with hs|hs
  ·exact h s hs
  ·exact g s hs
theorem nameB_sz {n:Nm} (h:nameB n=true):n.size≤24:=by
 unfold nameB at h
 split at h
 ·cases h
 ·rename_i h1
  simp only[Bool.or_eq_true,not_or,Bool.not_eq_true] at h1
  have:=of_decide_eq_false h1.1.2
  omega
mutual
theorem stmtB_nb:∀ s:St,stmtB s=true→s.nb
 | .mk k nm ns ty ex th el ar fn off,h=>by
  rw[stmtB] at h
  split at h
  ·cases h
  rename_i h1
  split at h
  ·cases h
  split at h
  ·cases h
  rename_i h3
  split at h
  ·cases h
  split at h
  case isFalse=>cases h
  rename_i h5
  unfold st1 at h1
  unfold st3 at h3
  unfold st5 at h
  simp only[Bool.or_eq_true,not_or,Bool.not_eq_true,Bool.not_eq_false'] at h1 h3
  obtain⟨⟨⟨⟨⟨a1,a2⟩,a3⟩,a4⟩,a5⟩,a6⟩:=h1
  obtain⟨⟨⟨⟨c1,c2⟩,c3⟩,c4⟩,c5⟩:=h3
  have hfn:fn.length≤1:=by have:=of_decide_eq_false c5;omega
  rw[St.nb]
  refine⟨fun _=>?_,blkB_nb th a5,blkB_nb el a6,armsB_nb ar h5,?_⟩
  ·by_cases hn:nm=⟨#[]⟩
   ·rw[hn];decide
   ·have:(!decide (nm=⟨#[]⟩))=true:=by simp[hn]
    rw[this] at a1
    have hq:=(eq_of_beq a1).symm
    rw[hq] at a2
    have:=nameB_sz (n:=nm) (by simpa using a2)
    omega
  ·by_cases h1:fn.length=1
   ·match fn,h1 with
    | [f],_=>
     have hq:((([f]:List Fd).length:Int)==1)=true:=rfl
     rw[hq,fnsB,Bool.true_and] at h
     cases hb:funB true f
     ·rw[hb] at h;cases h
     ·rw[nbF,nbF];exact⟨funB_nb true f hb,trivial⟩
   ·have:fn=[]:=List.length_eq_zero_iff.1 (by omega)
    rw[this,nbF]
    trivial
theorem blkB_nb:∀ l:List St,blkB l=true→nbL l
 | [],_=>by rw[nbL];trivial
 |s::l,h=>by
  rw[blkB,Bool.and_eq_true] at h
  rw[nbL]
  exact⟨stmtB_nb s h.1,blkB_nb l h.2⟩
theorem armB_nb:∀ s:Ar,armB s=true→s.nb
 | .mk v ns b off,h=>by
  rw[armB,Bool.and_eq_true] at h
  rw[Ar.nb]
  exact blkB_nb b h.2
theorem armsB_nb:∀ l:List Ar,armsB l=true→nbA l
 | [],_=>by rw[nbA];trivial
 |s::l,h=>by
  rw[armsB,Bool.and_eq_true] at h
  rw[nbA]
  exact⟨armB_nb s h.1,armsB_nb l h.2⟩
theorem funB_nb:∀ (b:Bool) (f:Fd),funB b f=true→f.nb
 |nb,.mk nm ps bs cs ag res b off,h=>by
  rw[funB] at h
  split at h
  ·cases h
  simp only[Bool.and_eq_true] at h
  rw[Fd.nb]
  exact blkB_nb b h.2
end
theorem lends_nb {v:Vs} (h1:v.nm.size≤2 ^ 40) (h2:∀ c,c∈v.cs→c.nm.size≤2 ^ 40) (off:Int):nbL (v.cs.flatMap (lendS v off)):=by
 rw[nbL_iff]
 intro s hs
 obtain⟨c,hc,hs⟩:=List.mem_flatMap.1 hs
 unfold lendS at hs
 split at hs
 ·rw[List.mem_singleton] at hs
  subst hs
  rw[St.nb,nbL,nbA,nbF]
  refine⟨fun _=>?_,trivial,trivial,trivial,trivial⟩
  have:=h2 c hc
  have hd:dot.size=1:=rfl
  simp only[ByteArray.size_append]
  omega
 ·cases hs
theorem call_nb {now:List Vs} (h:NV now) {k:Int} {nm:Nm} (hn:k=1→nm.size≤2 ^ 50) (ns:List Nm) (ty:List Tx) (ex:Ex) {th el:List St} {ar:List Ar} (h1:nbL th) (h2:nbL el) (h3:nbA ar) (off:Int):nbL (call now k nm ns ty ex th el ar [] off):=by
 have one:∀ k nm ns ex,(k=1→ByteArray.size nm≤2 ^ 50)→nbL [.mk k nm ns ty ex th el ar [] off]:=fun k nm ns ex h=>by
  rw[nbL,St.nb,nbF,nbL]
  exact⟨⟨h,h1,h2,h3,trivial⟩,trivial⟩
 unfold call
 split
 ·rename_i hk
  split
  ·rename_i v hv
   have hv':=h v (find_mem hv).1
   rw[nbL_app]
   exact⟨lends_nb hv'.2.1 hv'.2.2 off,one _ _ _ _ (fun h=>by omega)⟩
  ·exact one _ _ _ _ hn
 ·split
  ·split
   ·rename_i v hv
    have hv':=h v (find_mem hv).1
    rw[nbL_app]
    exact⟨lends_nb hv'.2.1 hv'.2.2 off,one _ _ _ _ hn⟩
   ·exact one _ _ _ _ hn
  ·exact one _ _ _ _ hn
theorem NV.app {l m:List Vs} (h:NV l) (g:NV m):NV (l++m):=fun v hv=>by
 rcases List.mem_append.1 hv with hv|hv
 ·exact h v hv
 ·exact g v hv
def OutNb (x:Ls):Prop:=∀ f,f∈x.out→nbL f.b
theorem OutNb.fail {x:Ls} (h:OutNb x) (e p:Int):OutNb (x.fail e p):=fun f hf=>h f (by rw[(fail_cnt x e p).2] at hf;exact hf)
mutual
theorem blk_nb (nm:Nm) (ps:List Nm) (bs:List Bd):∀ (l:List St) (now:List Vs) (x:Ls),NV now→stSz l≤1024→wtL l≤2 ^ 40→nbL l→OutNb x→nbL (blk dec nm ps bs now l x).1∧OutNb (blk dec nm ps bs now l x).2
 | [],now,x,hv,hl,hw,hb,ho=>by rw[blk];exact⟨by rw[nbL];trivial,ho⟩
 |s::l,now,x,hv,hl,hw,hb,ho=>by
  rw[stSz] at hl
  rw[wtL] at hw
  rw[nbL] at hb
  obtain⟨a1,a2,a3⟩:=stm_nb nm ps bs s now x hv (by omega) (by omega) hb.1 ho
  obtain⟨b1,b2⟩:=blk_nb nm ps bs l (now++(stm dec nm ps bs now s x).1) (stm dec nm ps bs now s x).2.2 (hv.app a1) (by omega) (by omega) hb.2 a3
  rw[blk]
  exact⟨nbL_app.2 ⟨a2,b1⟩,b2⟩
theorem stm_nb (nm:Nm) (ps:List Nm) (bs:List Bd):∀ (s:St) (now:List Vs) (x:Ls),NV now→s.sz≤1024→s.wt≤2 ^ 40→s.nb→OutNb x→NV (stm dec nm ps bs now s x).1∧nbL (stm dec nm ps bs now s x).2.1∧OutNb (stm dec nm ps bs now s x).2.2
 | .mk k n ns ty ex th el ar fn off,now,x,hv,hl,hw,hb,ho=>by
  rw[St.sz] at hl
  rw[St.wt] at hw
  rw[St.nb] at hb
  obtain⟨b1,b2,b3,b4,b5⟩:=hb
  have h0:nbL []:=by rw[nbL];trivial
  have n0:NV []:=fun v hv=>by cases hv
  rw[stm]
  split
  ·split
   ·obtain⟨c1,c2⟩:=locs_nb nm ps bs fn x (by omega) (by omega) b5 ho
    exact⟨c1,h0,c2⟩
   ·exact⟨n0,h0,ho.fail 1 off⟩
  ·split
   ·rename_i hf
    obtain rfl:fn=[]:=List.length_eq_zero_iff.1 hf
    obtain⟨c1,c2⟩:=blk_nb nm ps bs th now x hv (by omega) (by omega) b2 ho
    obtain⟨d1,d2⟩:=blk_nb nm ps bs el now (blk dec nm ps bs now th x).2 hv (by omega) (by omega) b3 c2
    obtain⟨e1,e2⟩:=arms_nb nm ps bs ar now (blk dec nm ps bs now el (blk dec nm ps bs now th x).2).2 hv (by omega) (by omega) b4 d2
    exact⟨n0,call_nb hv b1 ns ty ex c1 d1 e1 off,e2⟩
   ·exact⟨n0,h0,ho.fail 1 off⟩
theorem arms_nb (nm:Nm) (ps:List Nm) (bs:List Bd):∀ (l:List Ar) (now:List Vs) (x:Ls),NV now→arSz l≤1024→wtA l≤2 ^ 40→nbA l→OutNb x→nbA (arms dec nm ps bs now l x).1∧OutNb (arms dec nm ps bs now l x).2
 | [],now,x,hv,hl,hw,hb,ho=>by rw[arms];exact⟨by rw[nbA];trivial,ho⟩
 |s::l,now,x,hv,hl,hw,hb,ho=>by
  rw[arSz] at hl
  rw[wtA] at hw
  rw[nbA] at hb
  obtain⟨a2,a3⟩:=arm_nb nm ps bs s now x hv (by omega) (by omega) hb.1 ho
  obtain⟨b1,b2⟩:=arms_nb nm ps bs l now (arm dec nm ps bs now s x).2 hv (by omega) (by omega) hb.2 a3
  rw[arms]
  exact⟨by rw[nbA];exact⟨a2,b1⟩,b2⟩
theorem arm_nb (nm:Nm) (ps:List Nm) (bs:List Bd):∀ (s:Ar) (now:List Vs) (x:Ls),NV now→s.sz≤1024→s.wt≤2 ^ 40→s.nb→OutNb x→(arm dec nm ps bs now s x).1.nb∧OutNb (arm dec nm ps bs now s x).2
 | .mk v ns b off,now,x,hv,hl,hw,hb,ho=>by
  rw[Ar.sz] at hl
  rw[Ar.wt] at hw
  rw[Ar.nb] at hb
  obtain⟨a2,a3⟩:=blk_nb nm ps bs b now x hv (by omega) (by omega) hb ho
  rw[arm]
  exact⟨by rw[Ar.nb];exact a2,a3⟩
theorem locs_nb (nm:Nm) (ps:List Nm) (bs:List Bd):∀ (l:List Fd) (x:Ls),fdSz l≤1024→wtF l≤2 ^ 40→nbF l→OutNb x→NV (locs dec nm ps bs l x).1∧OutNb (locs dec nm ps bs l x).2
 | [],x,hl,hw,hb,ho=>by rw[locs];exact⟨fun v hv=>(by cases hv),ho⟩
 |f::l,x,hl,hw,hb,ho=>by
  rw[fdSz] at hl
  rw[wtF] at hw
  rw[nbF] at hb
  obtain⟨a1,a2⟩:=loc_nb nm ps bs f x (by omega) (by omega) hb.1 ho
  rw[locs]
  exact⟨fun v hv=>(by rw[List.mem_singleton] at hv;subst hv;exact a1),a2⟩
theorem loc_nb (nm:Nm) (ps:List Nm) (bs:List Bd):∀ (f:Fd) (x:Ls),f.sz≤1024→f.wt≤2 ^ 40→f.nb→OutNb x→((loc dec nm ps bs f x).1.cs.length≤1024∧(loc dec nm ps bs f x).1.nm.size≤2 ^ 40∧∀ c,c∈(loc dec nm ps bs f x).1.cs→c.nm.size≤2 ^ 40)∧OutNb (loc dec nm ps bs f x).2
 | .mk n ps0 bs0 cs ag res b off,x,hl,hw,hb,ho=>by
  rw[Fd.sz] at hl
  rw[Fd.wt] at hw
  rw[Fd.nb] at hb
  have hlc:=ad_len_le cs
  rw[loc]
  obtain⟨a2,a3⟩:=blk_nb (nm++dot++dec x.cnt++dot++n) (ps.filter fun p=>inN p (Fd.nms (.mk n ps0 bs0 cs ag res b off))) (bs.filter fun b'=>inN b'.p (ps.filter fun p=>inN p (Fd.nms (.mk n ps0 bs0 cs ag res b off)))) b [] ⟨0,[],(x.failO (chk (cs++ag) off)).err,(x.failO (chk (cs++ag) off)).pos⟩ (fun v hv=>by cases hv) (by omega) (by omega) hb (fun f hf=>by cases hf)
  refine⟨⟨by simp only;omega,by simp only;omega,fun c hc=>?_⟩,fun f hf=>?_⟩
  ·have hc':c∈cs:=hc
   have:=sum_mem (f:=fun c:Ad=>c.nm.size) hc'
   omega
  ·simp only[List.mem_append,List.mem_cons] at hf
   rcases hf with hf|hf|hf
   ·exact ho f hf
   ·subst hf;exact a2
   ·exact a3 f hf
end
theorem lift_nb {l:List Fd} {z:List Fd×List Fd} (h:liftL dec l= .ok z) (hs:fdSz l≤1000) (hw:wtF l≤2 ^ 40) (hb:∀ f,f∈l→f.nb):∀ f,f∈z.1++z.2→nbL f.b:=by
 have key:∀ f,f∈l→nbL (topF dec f).1.b∧OutNb (topF dec f).2:=fun f hf=>by
  have h1:=fd_mem_le hf
  have h2:f.wt≤wtF l:=by
   clear h hs hb h1 hw
   induction l with
   |nil=>cases hf
   |cons g l ih=>
    rw[wtF]
    rcases List.mem_cons.1 hf with rfl|hf
    ·omega
    ·have:=ih hf;omega
  have h3:=hb f hf
  obtain⟨nm,ps,bs,cs,ag,res,b,off⟩:=f
  rw[Fd.sz] at h1
  rw[Fd.wt] at h2
  rw[Fd.nb] at h3
  exact blk_nb nm ps bs b [] ⟨0,[],0,0⟩ (fun v hv=>by cases hv) (by omega) (by omega) h3 (fun f hf=>by cases hf)
 intro f hf
 rcases List.mem_append.1 hf with hf|hf
 ·rw[liftL_fst h] at hf
  obtain⟨g,hg,rfl⟩:=List.mem_map.1 hf
  exact(key g hg).1
 ·rw[liftL_snd h] at hf
  obtain⟨g,hg,hf⟩:=List.mem_flatMap.1 hf
  exact(key g hg).2 f hf
end Go.Lf

set_option maxHeartbeats 4000000
set_option maxRecDepth 100000
namespace Go.Lf
theorem nbA_mem {s:Ar} :∀ {l:List Ar},nbA l→s∈l→s.nb
 | [],_,h=>by cases h
 |a::l,h,hm=>by
  rw[nbA] at h
  rcases List.mem_cons.1 hm with rfl|hm
  ·exact h.1
  ·exact nbA_mem h.2 hm
end Go.Lf
namespace Go.Proofs.YtffmphmiicnaeaaDoor
open Go.Am Go.Proofs Go.Lf
open Classical
attribute [local irreducible] AW CallP CallB
variable {E:En} {Q:AEx→Am.St→Prop} {J:Am.St→Prop} {fs:List Fm}
noncomputable def k17:Code:=lpC (blkC (sq2 (sq1 (sq2 (sq2 (Tryd.f17.body.getD .skip))))))
noncomputable def k7:Code:=sq2 (sq2 (blkC (sq1 (sq2 k17))))
def IKd (L0:List AV) (i0:Int) (Z:List Int) (T U:List Lf.St) (C1 C2 C3:List AV) (D:Nat→Bool) (σ:Go.Am.St):Prop:=
 σ.nx=2∧σ.fr 0=some (.sl L0)∧σ.fr 4=some (.i i0)∧σ.fr 5=some (.ptr 1 0)∧(D 9=false→σ.fr 3=some (.rw 0))∧(D 4=false→σ.hp 0=some (.row 1 (inl Z)))∧σ.hp 1=some (.cells (C1++[.sl (stl T),.sl (stl U)]++C2))∧(D 0=true→σ.fr 40=some (.rw 0))∧(D 1=true→σ.fr 41=some (.ptr 1 12))∧(D 2=true→σ.fr 42=some (.sl (stl T)))∧(D 3=true→σ.fr 43=some (.sl (inl (kdL T))))∧(D 4=true→σ.fr 44=some (.rw 4194306))∧(D 5=true→σ.fr 45=some (.ptr 1 13))∧(D 6=true→σ.fr 46=some (.sl (stl U)))∧(D 7=true→σ.fr 47=some (.sl (inl (kdL U))))∧(D 8=true→σ.fr 48=some (.rw 8388610))∧(D 9=true→σ.fr 3=some (.rw 8388610))∧(D 4=true→D 8=false→σ.hp 4194306=some (.row 1 (inl Z++inl (kdL T))))∧(D 8=true→σ.hp 8388610=some (.row 1 (inl Z++inl (kdL T)++inl (kdL U))))∧(D 9=true→D 0=true)
theorem kinds_r (hE : E.nt = Tryd.f17.ntmps) (hN : E.np = 0) {l : List Lf.St} {i : Nat} {K0 : List Int} {k : Int} {nm : Nm} {ns : List Nm} {ty : List Tx} {ex : Ex} {th el : List Lf.St} {ar : List Ar} {fn : List Lf.Fd} {off : Int} (hi : i ≤ 2 ^ 30) (hK0 : K0.length + 3 + (kdL th).length + (kdL el).length + (arK ar).length ≤ 2 ^ 40) (har : ar.length ≤ 2 ^ 30)
    (c1:PCall Tryd.prog 17 [.sl (stl th)] (.sl (inl (kdL th)))) (c2:PCall Tryd.prog 17 [.sl (stl el)] (.sl (inl (kdL el)))) (ca:∀ v ns b o,Ar.mk v ns b o∈ar→PCall Tryd.prog 17 [.sl (stl b)] (.sl (inl (kdL b))))
    (hJ:∀ σ,(∃ m,Ent E.np m σ (mkSt [(0,.sl (stl l)),(3,.rw 0),(4,.i ((i+1:Nat):Int))] [(0,.row 1 (inl (K0++([k,ex.k,off]++(kdL th++kdL el++arK ar)))))] 1))→J σ):
    AW Tryd.prog E (sq1 k7) (Kq Tryd.prog E (.code (sq2 k7):: .blk 1:: .code (sq2 (sq2 k17)):: .lp J::fs) Q) (mkSt [(0,.sl (stl l)),(3,.rw 0),(4,.i (i:Nat)),(5,.ptr 1 0)] [(0,.row 1 (inl K0)),(1,.cells [.i k,.str nm,.sl (nml ns),.sl (Tx.avL ty),.i ex.k,.str ex.op,.str ex.nm,.str ex.vr,.sl (nml ex.ns),.i ex.num,.sl (Tx.avL ex.ty),.i ex.off,.sl (stl th),.sl (stl el),.sl (arl ar),.sl (fdl fn),.i off])] 2):=by
  have u0:IntKind.i64.wrap ((i:Int)+1)=((i+1:Nat):Int):=by rw[wrap64 (by omega) (by omega)];omega
  simp only[k7,k17,Tryd.f17,Option.getD,sq1,sq2,blkC,lpC]
  repeat'(first|apply nx|refine zx ?_|rw[zw]|((first|refine hK _ ?_|refine hKp _ _ ?_);clear hK hKp K Kp;try clear hanc anc)|((with_reducible refine And.intro ?_ ?_);exact zb)|((fail_if_success refine K_stop 8 ?_);(first|refine zr hE fun K Kp hK hKp=>?_|refine zd true mixed hE fun K Kp hK hKp anc hanc=>?_|refine zd false mixed hE fun K Kp hK hKp anc hanc=>?_);simp only[go_sem])|(refine zg (fun hg=>?_) (fun hg=>?_)<;>simp only[go_sem,hg])|(refine zc (fun hc=>?_) (fun hc=>?_)<;>try exact zh hc))
  refine AW.ent (σ':=mkSt [(0,.sl (stl l)),(3,.rw 0),(4,.i (i:Nat)),(5,.ptr 1 0)] [(0,.row 1 (inl (K0++[k,ex.k,off]))),(1,.cells [.i k,.str nm,.sl (nml ns),.sl (Tx.avL ty),.i ex.k,.str ex.op,.str ex.nm,.str ex.vr,.sl (nml ex.ns),.i ex.num,.sl (Tx.avL ex.ty),.i ex.off,.sl (stl th),.sl (stl el),.sl (arl ar),.sl (fdl fn),.i off])] 2) (fun i=>if i=0 then 9437186 else i) ?_ ?_
  · refine ent_mk (by simp[go_sem]) ?_ (by simp) (by simp[hN])
    have e3:inl K0++[.i k,.i ex.k,.i off]=inl (K0++[k,ex.k,off]):=by simp[inl]
    simp[go_sem,e3]
  repeat(first|apply w1|apply w2)
  refine K_inv (n:=10) (IKd (stl l) i (K0++[k,ex.k,off]) th el [.i k,.str nm,.sl (nml ns),.sl (Tx.avL ty),.i ex.k,.str ex.op,.str ex.nm,.str ex.vr,.sl (nml ex.ns),.i ex.num,.sl (Tx.avL ex.ty),.i ex.off] [.sl (arl ar),.sl (fdl fn),.i off] []) mixed hE ?_ ?_ (fun Kp hKp=>?_) ?_ rfl
  · intro D D' σ h
    have:=fun j=>(h j).symm
    unfold IKd
    simp only[this]
    exact fun h=>h
  · simp[IKd,go_sem]
  · refine⟨?_,?_,?_,?_,?_,?_,?_,?_,?_,?_,trivial⟩
    all_goals rintro D' ⟨fr,hp,nx⟩ hD' hr ⟨hn,f0,f4,f5,f3,h0,h1,d0,d1,d2,d3,d4,d5,d6,d7,d8,d9,e4,e8,o9_0⟩
    all_goals simp[Region.binds] at hn f0 f4 f5 f3 h0 h1 d0 d1 d2 d3 d4 d5 d6 d7 d8 d9 e4 e8 o9_0 hD' hr
    all_goals subst hn
    all_goals try clear hQ'
    · skip
      have zf3:=f3 (by first|(simp[hr,hD'];done)|(cases hq:D' 9<;>simp_all))
      simp only[go_sem,zf3]
      (simp only[IKd,upd,updo];simp[f0,f4,f5,h1];simp_all)
    · skip
      simp only[go_sem,f5]
      (simp only[IKd,upd,updo];simp[f0,f4,f5,h1];simp_all)
    · skip
      have zd1:=d1 (by first|(simp[hr,hD'];done)|(cases hq:D' 1<;>simp_all))
      simp only[go_sem,zd1,h1]
      (simp only[IKd,upd,updo];simp[f0,f4,f5,h1];simp_all)
    · skip
      have zd2:=d2 (by first|(simp[hr,hD'];done)|(cases hq:D' 2<;>simp_all))
      simp only[go_sem,zd2]
      refine CallB_mk (by simp only[go_sem,zd2]<;>rfl) c1 (by simp[go_sem,CloRow,AV.cells,AV.clo,zd2]) (by first|exact .inl rfl|exact .inr rfl|(right;simp[go_sem])) ?_
      simp only[go_sem]
      (simp only[IKd,upd,updo];simp[f0,f4,f5,h1];simp_all)
    · skip
      have zd0:=d0 (by first|(simp[hr,hD'];done)|(cases hq:D' 0<;>simp_all))
      have zd3:=d3 (by first|(simp[hr,hD'];done)|(cases hq:D' 3<;>simp_all))
      have zh0:=h0 (by first|(simp[hr,hD'];done)|(cases hq:D' 4<;>simp_all))
      simp only[go_sem,zd0,zd3,zh0]
      refine⟨⟨inl_szok _,by simp only[Fits,List.length_append,inl_ln,List.length_cons,List.length_nil];omega⟩,?_⟩
      (simp only[IKd,upd,updo];simp[f0,f4,f5,h1];simp_all)
    · skip
      simp only[go_sem,f5]
      (simp only[IKd,upd,updo];simp[f0,f4,f5,h1];simp_all)
    · skip
      have zd5:=d5 (by first|(simp[hr,hD'];done)|(cases hq:D' 5<;>simp_all))
      simp only[go_sem,zd5,h1]
      (simp only[IKd,upd,updo];simp[f0,f4,f5,h1];simp_all)
    · skip
      have zd6:=d6 (by first|(simp[hr,hD'];done)|(cases hq:D' 6<;>simp_all))
      simp only[go_sem,zd6]
      refine CallB_mk (by simp only[go_sem,zd6]<;>rfl) c2 (by simp[go_sem,CloRow,AV.cells,AV.clo,zd6]) (by first|exact .inl rfl|exact .inr rfl|(right;simp[go_sem])) ?_
      simp only[go_sem]
      (simp only[IKd,upd,updo];simp[f0,f4,f5,h1];simp_all)
    · skip
      have zd4:=d4 (by first|(simp[hr,hD'];done)|(cases hq:D' 4<;>simp_all))
      have zd7:=d7 (by first|(simp[hr,hD'];done)|(cases hq:D' 7<;>simp_all))
      have ze4:=e4 (by first|(simp[hr,hD'];done)|(cases hq:D' 4<;>simp_all)) (by first|(simp[hr,hD'];done)|(cases hq:D' 8<;>simp_all))
      simp only[go_sem,zd4,zd7,ze4]
      refine⟨⟨inl_szok _,by simp only[Fits,List.length_append,inl_ln,List.length_cons,List.length_nil];omega⟩,?_⟩
      (simp only[IKd,upd,updo];simp[f0,f4,f5,h1];simp_all)
    · skip
      have zd8:=d8 (by first|(simp[hr,hD'];done)|(cases hq:D' 8<;>simp_all))
      simp only[go_sem,zd8]
      (simp only[IKd,upd,updo];simp[f0,f4,f5,h1];simp_all)
  rintro⟨fr,hp,nx⟩ D' hD' ⟨hn,f0,f4,f5,f3,h0,h1,d0,d1,d2,d3,d4,d5,d6,d7,d8,d9,e4,e8,o9_0⟩
  simp only at hn f0 f4 f5 f3 h0 h1 d0 d1 d2 d3 d4 d5 d6 d7 d8 d9 e4 e8 o9_0
  have zd0:=d0 (hD' 0)
  have zd1:=d1 (hD' 1)
  have zd2:=d2 (hD' 2)
  have zd3:=d3 (hD' 3)
  have zd4:=d4 (hD' 4)
  have zd5:=d5 (hD' 5)
  have zd6:=d6 (hD' 6)
  have zd7:=d7 (hD' 7)
  have zd8:=d8 (hD' 8)
  have zd9:=d9 (hD' 9)
  have ze8:=e8 (hD' 8)
  repeat(first|refine Kq_norm_code ?_|refine Kq_norm_blk ?_)
  refine AW.ent (σ':=mkSt [(0,.sl (stl l)),(3,.rw 0),(4,.i (i:Nat)),(5,.ptr 1 0)] [(0,.row 1 (inl (K0++[k,ex.k,off]++kdL th++kdL el))),(1,.cells [.i k,.str nm,.sl (nml ns),.sl (Tx.avL ty),.i ex.k,.str ex.op,.str ex.nm,.str ex.vr,.sl (nml ex.ns),.i ex.num,.sl (Tx.avL ex.ty),.i ex.off,.sl (stl th),.sl (stl el),.sl (arl ar),.sl (fdl fn),.i off])] 2) (fun i=>if i=0 then 8388610 else i) ?_ ?_
  · refine ent_mk (by simp[go_sem,f0,f4,f5,zd9]) ?_ (by simp) (by simp[hN])
    simp[go_sem,h1,ze8, ← inl_app]
  clear zd0 zd1 zd2 zd3 zd4 zd5 zd6 zd7 zd8 zd9 ze8 f0 f3 f4 f5 h0 h1 d0 d1 d2 d3 d4 d5 d6 d7 d8 d9 e4 e8 o9_0 hD' hn
  clear fr hp nx D'
  clear c1 c2
  repeat'(first|apply nx|refine zx ?_|rw[zw]|((first|refine hK _ ?_|refine hKp _ _ ?_);clear hK hKp K Kp;try clear hanc anc)|((with_reducible refine And.intro ?_ ?_);exact zb)|((first|refine zr hE fun K Kp hK hKp=>?_|refine zd true mixed hE fun K Kp hK hKp anc hanc=>?_|refine zd false mixed hE fun K Kp hK hKp anc hanc=>?_);simp only[go_sem])|(refine zg (fun hg=>?_) (fun hg=>?_)<;>simp only[go_sem,hg])|(refine zc (fun hc=>?_) (fun hc=>?_)<;>try exact zh hc))
  refine K_loop (X:=Nat×List Int) (fun z=>z.1≤ar.length∧arK ar=z.2++arK (ar.drop z.1)) (fun z=>mkSt [(0,.sl (stl l)),(3,.rw 0),(4,.i (i:Nat)),(5,.ptr 1 0),(6,.i (z.1:Nat))] [(0,.row 1 (inl (K0++[k,ex.k,off]++kdL th++kdL el++z.2))),(1,.cells [.i k,.str nm,.sl (nml ns),.sl (Tx.avL ty),.i ex.k,.str ex.op,.str ex.nm,.str ex.vr,.sl (nml ex.ns),.i ex.num,.sl (Tx.avL ex.ty),.i ex.off,.sl (stl th),.sl (stl el),.sl (arl ar),.sl (fdl fn),.i off])] 2) (fun z=>ar.length - z.1) (0,[]) ⟨Nat.zero_le _,by simp⟩ (fun i=>i) (by refine ent_mk (by simp[go_sem]) (by simp[go_sem]) (by simp) (by simp[hN])) ?_
  rintro⟨j,A⟩ ⟨hj,he⟩
  simp only at hj he
  have hA:A.length≤(arK ar).length:=by rw[he,List.length_append];omega
  by_cases hlj:j<ar.length
  · obtain⟨⟨v,ns1,b,o⟩,hy⟩:=get?_of hlj
    have v0:=inc_u hlj (by omega)
    have c3:=ca v ns1 b o (List.mem_of_getElem? hy)
    rw[drop_of hy,arK,Ar.kd] at he
    have hlb:A.length+(kdL b).length≤(arK ar).length:=by rw[he,List.length_append,List.length_append];omega
    repeat'(first|apply nx|refine zx ?_|rw[zw]|((first|refine hK _ ?_|refine hKp _ _ ?_);clear hK hKp K Kp;try clear hanc anc)|((with_reducible refine And.intro ?_ ?_);exact zb)|((first|refine zr hE fun K Kp hK hKp=>?_|refine zd true mixed hE fun K Kp hK hKp anc hanc=>?_|refine zd false mixed hE fun K Kp hK hKp anc hanc=>?_|(apply zm;exact zu;exact c3;exact zs;exact zl));simp only[go_sem,lt_dec hlj,hy,Ar.av,v0])|(refine zg (fun hg=>?_) (fun hg=>?_)<;>simp only[go_sem,lt_dec hlj,hy,Ar.av,v0,hg])|(refine zc (fun hc=>?_) (fun hc=>?_)<;>try exact zh hc))
    refine⟨⟨inl_szok _,by simp only[Fits,List.length_append,inl_ln,List.length_cons,List.length_nil];omega⟩,?_⟩
    repeat'(first|apply nx|refine zx ?_|rw[zw]|((first|refine hK _ ?_|refine hKp _ _ ?_);clear hK hKp K Kp;try clear hanc anc)|((with_reducible refine And.intro ?_ ?_);exact zb)|((first|refine zr hE fun K Kp hK hKp=>?_|refine zd true mixed hE fun K Kp hK hKp anc hanc=>?_|refine zd false mixed hE fun K Kp hK hKp anc hanc=>?_);simp only[go_sem,lt_dec hlj,hy,Ar.av,v0])|(refine zg (fun hg=>?_) (fun hg=>?_)<;>simp only[go_sem,lt_dec hlj,hy,Ar.av,v0,hg])|(refine zc (fun hc=>?_) (fun hc=>?_)<;>try exact zh hc))
    refine⟨(j+1,A++kdL b),⟨hlj,by rw[he];simp⟩,by simp only;omega,fun i=>if i=0 then 13631490 else i,?_⟩
    refine ent_mk (by simp[go_sem]) ?_ (by simp) (by simp[hN])
    simp[go_sem, ← inl_app]
  obtain rfl:j=ar.length:=by omega
  rw[List.drop_length,arK,List.append_nil] at he
  repeat'(first|apply nx|refine zx ?_|rw[zw]|((first|refine hK _ ?_|refine hKp _ _ ?_);clear hK hKp K Kp;try clear hanc anc)|((with_reducible refine And.intro ?_ ?_);exact zb)|((first|refine zr hE fun K Kp hK hKp=>?_|refine zd true mixed hE fun K Kp hK hKp anc hanc=>?_|refine zd false mixed hE fun K Kp hK hKp anc hanc=>?_);simp only[go_sem,ge_dec,u0])|(refine zg (fun hg=>?_) (fun hg=>?_)<;>simp only[go_sem,ge_dec,u0,hg])|(refine zc (fun hc=>?_) (fun hc=>?_)<;>try exact zh hc))
  refine hJ _ ⟨fun i=>i,?_⟩
  refine ent_mk (by simp[go_sem]) ?_ (by simp) (by simp[hN])
  simp[go_sem,he]
theorem skinds_c:∀ (N:Nat),N≤2 ^ 24→∀ l:List Lf.St,stSz l<N→nbL l→PCall Tryd.prog 17 [.sl (stl l)] (.sl (inl (kdL l))):=by
 intro N
 induction N with
 |zero=>intro _ l h;omega
 |succ N IH=>
 intro hN1 l hl hnb
 have hln:=st_len_le l
 have hkl:=kdL_len l
 refine PCall.intro Tryd.func17 rfl isf17 (by simp[Tryd.f17]) (by simp[AV.cloL,AV.clo]) fun E Q hE hN hQ=>K_start ?_
 repeat'(first|apply nx|refine zx ?_|rw[zw]|((first|refine hK _ ?_|refine hKp _ _ ?_);clear hK hKp K Kp;try clear hanc anc)|((with_reducible refine And.intro ?_ ?_);exact zb)|((fail_if_success refine K_stop 2 ?_);(first|refine zr hE fun K Kp hK hKp=>?_|refine zd true mixed hE fun K Kp hK hKp anc hanc=>?_|refine zd false mixed hE fun K Kp hK hKp anc hanc=>?_);simp only[go_sem])|(refine zg (fun hg=>?_) (fun hg=>?_)<;>simp only[go_sem,hg])|(refine zc (fun hc=>?_) (fun hc=>?_)<;>try exact zh hc))
 refine AW.ent (σ':=mkSt [(0,.sl (stl l)),(3,.nilsl)] [] 0) (fun i=>i) ?_ ?_
 ·exact ent_mk (by simp[go_sem]) (by simp[go_sem]) (by simp) (by simp[hN])
 have hK00:inl []=[]:=rfl
 refine AW_nil 3 1 (by rw[hE];decide) (by simp only[go_sem]) ?_
 repeat'(first|apply nx|refine zx ?_|rw[zw]|((first|refine hK _ ?_|refine hKp _ _ ?_);clear hK hKp K Kp;try clear hanc anc)|((with_reducible refine And.intro ?_ ?_);exact zb)|((first|refine zr hE fun K Kp hK hKp=>?_|refine zd true mixed hE fun K Kp hK hKp anc hanc=>?_|refine zd false mixed hE fun K Kp hK hKp anc hanc=>?_);simp only[go_sem])|(refine zg (fun hg=>?_) (fun hg=>?_)<;>simp only[go_sem,hg])|(refine zc (fun hc=>?_) (fun hc=>?_)<;>try exact zh hc))
 refine K_loop (X:=Nat×List Int) (fun z=>z.1≤l.length∧kdL l=z.2++kdL (l.drop z.1)) (fun z=>mkSt [(0,.sl (stl l)),(3,.rw 0),(4,.i (z.1:Nat))] [(0,.row 1 (inl z.2))] 1) (fun z=>l.length - z.1) (0,[]) ⟨Nat.zero_le _,by simp⟩ (fun i=>i) (by refine ent_mk (by simp[go_sem,hK00]) (by simp[go_sem,hK00]) (by simp) (by simp[hN])) ?_
 rintro⟨i,K0⟩ ⟨hi,he⟩
 simp only at hi he
 have hK0:K0.length≤(kdL l).length:=by rw[he,List.length_append];omega
 by_cases hlt:i<l.length
 case neg=>
  obtain rfl:i=l.length:=by omega
  rw[List.drop_length,kdL] at he
  have ee:inl K0++[.i (-1)]=inl (kdL l):=by rw[he,inl_app];rfl
  repeat'(first|apply nx|refine zx ?_|rw[zw]|((first|refine hK _ ?_|refine hKp _ _ ?_);clear hK hKp K Kp;try clear hanc anc)|((with_reducible refine And.intro ?_ ?_);exact zb)|((first|refine zr hE fun K Kp hK hKp=>?_|refine zd true mixed hE fun K Kp hK hKp anc hanc=>?_|refine zd false mixed hE fun K Kp hK hKp anc hanc=>?_);simp only[go_sem,ge_dec])|(refine zg (fun hg=>?_) (fun hg=>?_)<;>simp only[go_sem,ge_dec,hg])|(refine zc (fun hc=>?_) (fun hc=>?_)<;>try exact zh hc))
  refine K_ret (hQ _ ⟨.rw 6291457,resA_tmp (by simp only[go_sem]),?_,?_,by simp[AV.clo,inl_clo]⟩).1
  ·simp[AV.snapOk,updo,go_sem,ee]
  ·simp[AV.snap,updo,ee]
 obtain⟨⟨k,nm,ns,ty,ex,th,el,ar,fn,off⟩,hx⟩:=get?_of hlt
 have hmm:=st_mem_le (List.mem_of_getElem? hx)
 rw[St.sz,Ex.sz] at hmm
 have hnm:=nbL_iff.1 hnb _ (List.mem_of_getElem? hx)
 rw[St.nb] at hnm
 obtain⟨n1,n2,n3,n4,n5⟩:=hnm
 have u0:=inc_u hlt (by omega)
 have har:=ar_len_le ar
 rw[drop_of hx,kdL,St.kd] at he
 by_cases hsk:k=13∨k=1∧dotted nm=true
 ·rw[if_pos hsk,List.nil_append] at he
  rcases hsk with hk|⟨hk,hd⟩
  ·subst hk
   repeat'(first|apply nx|refine zx ?_|rw[zw]|((first|refine hK _ ?_|refine hKp _ _ ?_);clear hK hKp K Kp;try clear hanc anc)|((with_reducible refine And.intro ?_ ?_);exact zb)|((first|refine zr hE fun K Kp hK hKp=>?_|refine zd true mixed hE fun K Kp hK hKp anc hanc=>?_|refine zd false mixed hE fun K Kp hK hKp anc hanc=>?_);simp only[go_sem,lt_dec hlt,hx,Lf.St.av,u0])|(refine zg (fun hg=>?_) (fun hg=>?_)<;>simp only[go_sem,lt_dec hlt,hx,Lf.St.av,u0,hg])|(refine zc (fun hc=>?_) (fun hc=>?_)<;>try exact zh hc))
   exact⟨(i+1,K0),⟨hlt,he⟩,by simp only;omega,fun i=>i,by refine ent_mk (by simp[go_sem]) (by simp[go_sem]) (by simp) (by simp[hN])⟩
  ·have cd:=dotted_c nm (by have:=n1 hk;omega)
   rw[hd] at cd
   subst hk
   repeat'(first|apply nx|refine zx ?_|rw[zw]|((first|refine hK _ ?_|refine hKp _ _ ?_);clear hK hKp K Kp;try clear hanc anc)|((with_reducible refine And.intro ?_ ?_);exact zb)|((first|refine zr hE fun K Kp hK hKp=>?_|refine zd true mixed hE fun K Kp hK hKp anc hanc=>?_|refine zd false mixed hE fun K Kp hK hKp anc hanc=>?_|(apply zm;exact zu;exact cd;exact zs;exact zl));simp only[go_sem,lt_dec hlt,hx,Lf.St.av,u0])|(refine zg (fun hg=>?_) (fun hg=>?_)<;>simp only[go_sem,lt_dec hlt,hx,Lf.St.av,u0,hg])|(refine zc (fun hc=>?_) (fun hc=>?_)<;>try exact zh hc))
   exact⟨(i+1,K0),⟨hlt,he⟩,by simp only;omega,fun i=>i,by refine ent_mk (by simp[go_sem]) (by simp[go_sem]) (by simp) (by simp[hN])⟩
 rw[if_neg hsk] at he
 have c1:=IH (by omega) th (by omega) n2
 have c2:=IH (by omega) el (by omega) n3
 have ca:∀ v ns b o,Ar.mk v ns b o∈ar→PCall Tryd.prog 17 [.sl (stl b)] (.sl (inl (kdL b))):=fun v ns b o hb=>by
  have h2:=ar_mem_le hb
  rw[Ar.sz] at h2
  have h3:=nbA_mem n4 hb
  rw[Ar.nb] at h3
  exact IH (by omega) b (by omega) h3
 have hlen:K0.length+3+(kdL th).length+(kdL el).length+(arK ar).length≤2 ^ 40:=by
  have:=kdL_len th;have:=kdL_len el;have:=arK_len ar
  omega
 have hrest:=fun(gs:List Fm) hJ=>kinds_r (J:=fun σ'=>∃ x':Nat×List Int,(x'.1≤l.length∧kdL l=x'.2++kdL (l.drop x'.1))∧l.length - x'.1<l.length - i∧∃ m,Ent E.np m σ' (mkSt [(0,.sl (stl l)),(3,.rw 0),(4,.i (x'.1:Nat))] [(0,.row 1 (inl x'.2))] 1)) (Q:=Q) (fs:=gs) (E:=E) (l:=l) (i:=i) (K0:=K0) (k:=k) (nm:=nm) (ns:=ns) (ty:=ty) (ex:=ex) (th:=th) (el:=el) (ar:=ar) (fn:=fn) (off:=off) hE hN (by omega) hlen (by omega) c1 c2 ca hJ
 have hJ:∀ σ,(∃ m,Ent E.np m σ (mkSt [(0,.sl (stl l)),(3,.rw 0),(4,.i ((i+1:Nat):Int))] [(0,.row 1 (inl (K0++([k,ex.k,off]++(kdL th++kdL el++arK ar)))))] 1))→∃ x':Nat×List Int,(x'.1≤l.length∧kdL l=x'.2++kdL (l.drop x'.1))∧l.length - x'.1<l.length - i∧∃ m,Ent E.np m σ (mkSt [(0,.sl (stl l)),(3,.rw 0),(4,.i (x'.1:Nat))] [(0,.row 1 (inl x'.2))] 1):=fun σ hm=>
  ⟨(i+1,K0++([k,ex.k,off]++(kdL th++kdL el++arK ar))),⟨hlt,by rw[he];simp⟩,by simp only;omega,hm⟩
 have hR:=fun gs=>hrest gs hJ
 clear hrest hJ c1 c2 ca IH
 by_cases hk1:k=1
 ·have hd:dotted nm=false:=eq_false_of_ne_true fun h=>hsk (.inr ⟨hk1,h⟩)
  have cd:=dotted_c nm (by have:=n1 hk1;omega)
  rw[hd] at cd
  subst hk1
  repeat'(first|apply nx|refine zx ?_|rw[zw]|((first|refine hK _ ?_|refine hKp _ _ ?_);clear hK hKp K Kp;try clear hanc anc)|((with_reducible refine And.intro ?_ ?_);exact zb)|((fail_if_success refine K_stop 7 ?_);(first|refine zr hE fun K Kp hK hKp=>?_|refine zd true mixed hE fun K Kp hK hKp anc hanc=>?_|refine zd false mixed hE fun K Kp hK hKp anc hanc=>?_|(apply zm;exact zu;exact cd;exact zs;exact zl));simp only[go_sem,lt_dec hlt,hx,Lf.St.av])|(refine zg (fun hg=>?_) (fun hg=>?_)<;>simp only[go_sem,lt_dec hlt,hx,Lf.St.av,hg])|(refine zc (fun hc=>?_) (fun hc=>?_)<;>try exact zh hc))
  simp only[k7,k17,Tryd.f17,Option.getD,sq1,sq2,blkC,lpC] at hR
  refine AW.ent (fun i=>if i=1 then 8388609 else i) ?_ (hR _)
  exact ent_mk (by simp[go_sem]) (by simp[go_sem]) (by simp) (by simp[hN])
 ·have q1:(k==1)=false:=by simp[hk1]
  have q13:(k==13)=false:=by
   have:k≠13:=fun h=>hsk (.inl h)
   simp[this]
  repeat'(first|apply nx|refine zx ?_|rw[zw]|((first|refine hK _ ?_|refine hKp _ _ ?_);clear hK hKp K Kp;try clear hanc anc)|((with_reducible refine And.intro ?_ ?_);exact zb)|((fail_if_success refine K_stop 7 ?_);(first|refine zr hE fun K Kp hK hKp=>?_|refine zd true mixed hE fun K Kp hK hKp anc hanc=>?_|refine zd false mixed hE fun K Kp hK hKp anc hanc=>?_);simp only[go_sem,lt_dec hlt,hx,Lf.St.av,q1,q13])|(refine zg (fun hg=>?_) (fun hg=>?_)<;>simp only[go_sem,lt_dec hlt,hx,Lf.St.av,q1,q13,hg])|(refine zc (fun hc=>?_) (fun hc=>?_)<;>try exact zh hc))
  simp only[k7,k17,Tryd.f17,Option.getD,sq1,sq2,blkC,lpC] at hR
  refine AW.ent (fun i=>if i=1 then 8388609 else i) ?_ (hR _)
  exact ent_mk (by simp[go_sem]) (by simp[go_sem]) (by simp) (by simp[hN])
end Go.Proofs.YtffmphmiicnaeaaDoor

set_option maxHeartbeats 4000000
set_option maxRecDepth 100000
namespace Go.Lf
open Go Go.Am
def inV:Option Lf.Fd→AV
 |some f=> .tup [f.av,.bool true]
 |none=> .tup [.agg [.str ⟨#[]⟩,.sl [],.sl [],.sl [],.sl [],.str ⟨#[]⟩,.sl [],.i 0,.sl [],.i 0],.bool false]
theorem inV_clo (o:Option Lf.Fd):(inV o).clo=true:=by
 cases o with
 |none=>rfl
 |some f=>cases f;rfl
def bsl (l:List (List Lf.St)):List AV:=l.map fun b=> .sl (stl b)
theorem bsl_clo (l:List (List Lf.St)):AV.cloL (bsl l)=true:=cloLeq _ fun x hx=>by
 obtain⟨p,_,rfl⟩:=List.mem_map.1 hx
 simp[AV.clo]
@[go_sem] theorem bsl_ln (l:List (List Lf.St)):(bsl l).length=l.length:=List.length_map ..
@[go_sem] theorem bsl_gt (l:List (List Lf.St)) (i:Nat):(bsl l)[i]? =l[i]?.map fun b=> .sl (stl b):=List.getElem?_map ..
@[go_sem] theorem bsl_ren (m:Nat→Nat) (l:List (List Lf.St)):AV.renL m (bsl l)=bsl l:=cloL_renL (bsl_clo l)
@[go_sem] theorem bsl_ids (p:Nat→Prop) (l:List (List Lf.St)):AV.idsL p (bsl l)=True:=eq_true (cloL_idsL (bsl_clo l))
theorem bsl_snoc (l:List (List Lf.St)) (b:List Lf.St):bsl l++[.sl (stl b)]=bsl (l++[b]):=by simp[bsl]
def Ar.bd:Ar→List Lf.St| .mk _ _ b _=>b
def fstBs:List (List Lf.St)→Option Lf.Fd
 | []=>none
 |b::l=>orF (fstL b) (fstBs l)
theorem fstBs_ar:∀ l:List Ar,fstBs (l.map Ar.bd)=fstA l
 | []=>rfl
 | .mk v ns b o::l=>by rw[List.map_cons,fstBs,fstBs_ar l,fstA,fstM];rfl
theorem fstBs_st (th el:List Lf.St) (ar:List Ar):fstBs ([th,el]++ar.map Ar.bd)=orF (fstL th) (orF (fstL el) (fstA ar)):=by
 simp only[List.cons_append,List.nil_append]
 rw[fstBs,fstBs,fstBs_ar]
end Go.Lf
namespace Go.Proofs.YtffmphmiicnaeaaDoor
open Go.Am Go.Proofs Go.Lf
open Classical
attribute [local irreducible] AW CallP CallB
noncomputable def i42:Code:=lpC (blkC (sq2 (sq1 (sq2 (Tryd.f42.body.getD .skip)))))
noncomputable def i6:Code:=sq2 (blkC (sq1 (sq2 i42)))
theorem inside_c:∀ (N:Nat),N≤2 ^ 24→∀ l:List Lf.St,stSz l<N→PCall Tryd.prog 42 [.sl (stl l)] (inV (fstL l)):=by
  intro N
  induction N with
  |zero=>intro _ l h;omega
  |succ N IH=>
  intro hN1 l hl
  have hln:=st_len_le l
  refine PCall.intro Tryd.func42 rfl isf42 (by simp[Tryd.f42]) (by simp[AV.cloL,AV.clo,stl_clo]) fun E Q hE hN hQ=>K_start ?_
  repeat'(first|apply nx|refine zx ?_|rw[zw]|((first|refine hK _ ?_|refine hKp _ _ ?_);clear hK hKp K Kp;try clear hanc anc)|((with_reducible refine And.intro ?_ ?_);exact zb)|((first|refine zr hE fun K Kp hK hKp=>?_|refine zd true mixed hE fun K Kp hK hKp anc hanc=>?_|refine zd false mixed hE fun K Kp hK hKp anc hanc=>?_);simp only[go_sem])|(refine zg (fun hg=>?_) (fun hg=>?_)<;>simp only[go_sem,hg])|(refine zc (fun hc=>?_) (fun hc=>?_)<;>try exact zh hc))
  refine K_loop (X:=Nat) (fun i=>i≤l.length∧fstL l=fstL (l.drop i)) (fun i=>mkSt [(0,.sl (stl l)),(2,.ptr 0 0),(3,.bool false),(4,.i (i:Nat))] [(0,.cells [.str ⟨#[]⟩,.nilsl,.nilsl,.nilsl,.nilsl,.str ⟨#[]⟩,.nilsl,.i 0,.nilsl,.i 0])] 1) (fun i=>l.length - i) 0 ⟨Nat.zero_le _,rfl⟩ (fun i=>i) (by refine ent_mk (by simp[go_sem]) (by simp[go_sem]) (by simp) (by simp[hN])) ?_
  rintro i ⟨hi,he⟩
  by_cases hlt:i<l.length
  case neg=>
    obtain rfl:i=l.length:=by omega
    rw[List.drop_length,fstL] at he
    rw[he] at hQ
    repeat'(first|apply nx|refine zx ?_|rw[zw]|((first|refine hK _ ?_|refine hKp _ _ ?_);clear hK hKp K Kp;try clear hanc anc)|((with_reducible refine And.intro ?_ ?_);exact zb)|((first|refine zr hE fun K Kp hK hKp=>?_|refine zd true mixed hE fun K Kp hK hKp anc hanc=>?_|refine zd false mixed hE fun K Kp hK hKp anc hanc=>?_);simp only[go_sem,ge_dec])|(refine zg (fun hg=>?_) (fun hg=>?_)<;>simp only[go_sem,ge_dec,hg])|(refine zc (fun hc=>?_) (fun hc=>?_)<;>try exact zh hc))
    refine K_ret (hQ _ ⟨.tup [.agg [.str ⟨#[]⟩,.nilsl,.nilsl,.nilsl,.nilsl,.str ⟨#[]⟩,.nilsl,.i 0,.nilsl,.i 0],.bool false],?_,?_,?_,rfl⟩).1
    · simp[resA,rvA,Tryd.f42,go_sem];rfl
    · simp[AV.snapOk,AV.snapOkL]
    · rfl
  obtain⟨⟨k,nm,ns,ty,ex,th,el,ar,fn,off⟩,hx⟩:=get?_of hlt
  have hmm:=st_mem_le (List.mem_of_getElem? hx)
  rw[St.sz,Ex.sz] at hmm
  have u0:=inc_u hlt (by omega)
  have har:=ar_len_le ar
  rw[drop_of hx,fstL,fstS] at he
  by_cases h13:k=13∧fn.length=1
  · rw[if_pos h13] at he
    obtain⟨hk,hf1⟩:=h13
    subst hk
    match fn,hf1 with
    | [.mk f1 p1 b1 c1 a1 r1 d1 o1],_=>
    have he2:fstL l=some (.mk f1 p1 b1 c1 a1 r1 d1 o1):=by rw[he];rfl
    rw[he2] at hQ
    have hq1:(((1:Nat):Int)==1)=true:=by decide
    repeat'(first|apply nx|refine zx ?_|rw[zw]|((first|refine hK _ ?_|refine hKp _ _ ?_);clear hK hKp K Kp;try clear hanc anc)|((with_reducible refine And.intro ?_ ?_);exact zb)|((first|refine zr hE fun K Kp hK hKp=>?_|refine zd true mixed hE fun K Kp hK hKp anc hanc=>?_|refine zd false mixed hE fun K Kp hK hKp anc hanc=>?_);simp only[go_sem,lt_dec hlt,hx,Lf.St.av,hq1,fdl,Fd.av])|(refine zg (fun hg=>?_) (fun hg=>?_)<;>simp only[go_sem,lt_dec hlt,hx,Lf.St.av,hq1,fdl,Fd.av,hg])|(refine zc (fun hc=>?_) (fun hc=>?_)<;>try exact zh hc))
    refine K_ret (hQ _ ⟨.tup [.agg [.str f1,.sl (nml p1),.sl (bdl b1),.sl (adl c1),.sl (adl a1),.str r1.n,.sl (Tx.avL r1.a),.i r1.o,.sl (stl d1),.i o1],.bool true],?_,?_,?_,inV_clo _⟩).1
    · simp[resA,rvA,Tryd.f42,go_sem];rfl
    · simp[AV.snapOk,AV.snapOkL]
    · rfl
  rw[if_neg h13, ← fstBs_st] at he
  have hq:(k==13)=false∨(k==13)=true∧((fn.length:Int)==1)=false:=by
    by_cases hk:k=13
    · right
      refine⟨by simp[hk],?_⟩
      have:fn.length≠1:=fun h=>h13 ⟨hk,h⟩
      simp
      omega
    · left;simp[hk]
  have hBs:∀ b,b∈ [th,el]++ar.map Ar.bd→stSz b<N:=fun b hb=>by
    simp only[List.cons_append,List.nil_append,List.mem_cons,List.mem_map] at hb
    rcases hb with rfl|rfl|⟨⟨v,ns1,b',o⟩,hm,rfl⟩
    · omega
    · omega
    · have:=ar_mem_le hm
      rw[Ar.sz] at this
      simp only[Ar.bd]
      omega
  have hlen:([th,el]++ar.map Ar.bd).length=ar.length+2:=by simp
  have hrest : ∀ (fs : List Fm) (J : Am.St → Prop), (∀ σ, (∃ m, Ent E.np m σ (mkSt [(0, .sl (stl l)), (2, .ptr 0 0), (3, .bool false), (4, .i ((i + 1 : Nat) : Int))] [(0, .cells [.str ⟨#[]⟩, .nilsl, .nilsl, .nilsl, .nilsl, .str ⟨#[]⟩, .nilsl, .i 0, .nilsl, .i 0])] 1)) → fstL l = fstL (l.drop (i + 1)) → J σ) →
      AW Tryd.prog E (sq1 i6) (Kq Tryd.prog E (.code (sq2 i6):: .blk 1:: .code (sq2 (sq2 i42)):: .lp J::fs) Q) (mkSt [(0,.sl (stl l)),(2,.ptr 0 0),(3,.bool false),(4,.i (i:Nat))] [(0,.cells [.str ⟨#[]⟩,.nilsl,.nilsl,.nilsl,.nilsl,.str ⟨#[]⟩,.nilsl,.i 0,.nilsl,.i 0])] 1):=by
    intro fs J hJ
    simp only[i6,i42,Tryd.f42,Option.getD,sq1,sq2,blkC,lpC]
    have hb0:bsl [th,el]=[.sl (stl th),.sl (stl el)]:=rfl
    repeat'(first|apply nx|refine zx ?_|rw[zw]|((first|refine hK _ ?_|refine hKp _ _ ?_);clear hK hKp K Kp;try clear hanc anc)|((with_reducible refine And.intro ?_ ?_);exact zb)|((first|refine zr hE fun K Kp hK hKp=>?_|refine zd true mixed hE fun K Kp hK hKp anc hanc=>?_|refine zd false mixed hE fun K Kp hK hKp anc hanc=>?_);simp only[go_sem,hx,Lf.St.av])|(refine zg (fun hg=>?_) (fun hg=>?_)<;>simp only[go_sem,hx,Lf.St.av,hg])|(refine zc (fun hc=>?_) (fun hc=>?_)<;>try exact zh hc))
    refine K_loop (X:=Nat) (fun j=>j≤ar.length) (fun j=>mkSt [(0,.sl (stl l)),(2,.ptr 0 0),(3,.bool false),(4,.i (i:Nat)),(5,.rw 1),(6,.i (j:Nat))] [(0,.cells [.str ⟨#[]⟩,.nilsl,.nilsl,.nilsl,.nilsl,.str ⟨#[]⟩,.nilsl,.i 0,.nilsl,.i 0]),(1,.row 1 (bsl ([th,el]++(ar.take j).map Ar.bd)))] 2) (fun j=>ar.length - j) 0 (Nat.zero_le _) (fun i=>if i=1 then 10485761 else i) (by refine ent_mk (by simp[go_sem,hb0]) (by simp[go_sem,hb0]) (by simp) (by simp[hN])) ?_
    rintro j hj
    by_cases hlj:j<ar.length
    · obtain⟨⟨v,ns1,b,o⟩,hy⟩:=get?_of hlj
      have v0:=inc_u hlj (by omega)
      have hrow:bsl ([th,el]++(ar.take j).map Ar.bd)++[.sl (stl b)]=bsl ([th,el]++(ar.take (j+1)).map Ar.bd):=by
        rw[bsl_snoc,List.take_add_one,hy];simp[Ar.bd]
      have hl1:([th,el]++(ar.take j).map Ar.bd).length≤ar.length+2:=by
        have:=List.length_take_le j ar
        simp only[List.length_append,List.length_map,List.length_cons,List.length_nil]
        have:=List.length_take_le' j ar
        omega
      repeat'(first|apply nx|refine zx ?_|rw[zw]|((first|refine hK _ ?_|refine hKp _ _ ?_);clear hK hKp K Kp;try clear hanc anc)|((with_reducible refine And.intro ?_ ?_);exact zb)|((first|refine zr hE fun K Kp hK hKp=>?_|refine zd true mixed hE fun K Kp hK hKp anc hanc=>?_|refine zd false mixed hE fun K Kp hK hKp anc hanc=>?_);simp only[go_sem,hx,Lf.St.av,lt_dec hlj,hy,Ar.av,v0])|(refine zg (fun hg=>?_) (fun hg=>?_)<;>simp only[go_sem,hx,Lf.St.av,lt_dec hlj,hy,Ar.av,v0,hg])|(refine zc (fun hc=>?_) (fun hc=>?_)<;>try exact zh hc))
      refine⟨by simp only[Fits,List.length_take];omega,?_⟩
      repeat'(first|apply nx|refine zx ?_|rw[zw]|((first|refine hK _ ?_|refine hKp _ _ ?_);clear hK hKp K Kp;try clear hanc anc)|((with_reducible refine And.intro ?_ ?_);exact zb)|((first|refine zr hE fun K Kp hK hKp=>?_|refine zd true mixed hE fun K Kp hK hKp anc hanc=>?_|refine zd false mixed hE fun K Kp hK hKp anc hanc=>?_);simp only[go_sem,hx,Lf.St.av,lt_dec hlj,hy,Ar.av,v0])|(refine zg (fun hg=>?_) (fun hg=>?_)<;>simp only[go_sem,hx,Lf.St.av,lt_dec hlj,hy,Ar.av,v0,hg])|(refine zc (fun hc=>?_) (fun hc=>?_)<;>try exact zh hc))
      simp only[List.cons_append,List.nil_append] at hrow
      refine⟨j+1,hlj,by omega,fun i=>if i=1 then 19922946 else i,?_⟩
      refine ent_mk (by simp[go_sem]) ?_ (by simp) (by simp[hN])
      simp only[List.cons_append,List.nil_append]
      simp[go_sem,hrow, -List.map_take]
    obtain rfl:j=ar.length:=by omega
    rw[List.take_length]
    repeat'(first|apply nx|refine zx ?_|rw[zw]|((first|refine hK _ ?_|refine hKp _ _ ?_);clear hK hKp K Kp;try clear hanc anc)|((with_reducible refine And.intro ?_ ?_);exact zb)|((first|refine zr hE fun K Kp hK hKp=>?_|refine zd true mixed hE fun K Kp hK hKp anc hanc=>?_|refine zd false mixed hE fun K Kp hK hKp anc hanc=>?_);simp only[go_sem,hx,Lf.St.av,ge_dec])|(refine zg (fun hg=>?_) (fun hg=>?_)<;>simp only[go_sem,hx,Lf.St.av,ge_dec,hg])|(refine zc (fun hc=>?_) (fun hc=>?_)<;>try exact zh hc))
    generalize hbb: [th,el]++ar.map Ar.bd=bb at*
    have hb1:bsl (th::el::List.map Ar.bd ar)=bsl bb:=by rw[← hbb];rfl
    refine K_loop (X:=Nat) (fun j=>j≤bb.length∧fstBs bb=fstBs (bb.drop j)) (fun j=>mkSt [(0,.sl (stl l)),(2,.ptr 0 0),(3,.bool false),(4,.i (i:Nat)),(5,.rw 1),(7,.i (j:Nat))] [(0,.cells [.str ⟨#[]⟩,.nilsl,.nilsl,.nilsl,.nilsl,.str ⟨#[]⟩,.nilsl,.i 0,.nilsl,.i 0]),(1,.row 1 (bsl bb))] 2) (fun j=>bb.length - j) 0 ⟨Nat.zero_le _,rfl⟩ (fun i=>i) (by refine ent_mk (by simp[go_sem,hb1]) (by simp[go_sem,hb1]) (by simp) (by simp[hN])) ?_
    rintro j ⟨hj,hf⟩
    by_cases hlj:j<bb.length
    · obtain⟨b,hy⟩:=get?_of hlj
      have v0:=inc_u hlj (by omega)
      have c1:=IH (by omega) b (hBs b (List.mem_of_getElem? hy))
      rw[drop_of hy,fstBs] at hf
      cases hb:fstL b with
      |some f=>
        rw[hb] at c1 hf
        have he2:fstL l=some f:=by rw[he,hf];rfl
        rw[he2] at hQ
        obtain⟨f2,p2,b2,c2,a2,r2,d2,o2⟩:=f
        unfold inV at c1
        simp only[Fd.av] at c1
        repeat'(first|apply nx|refine zx ?_|rw[zw]|((first|refine hK _ ?_|refine hKp _ _ ?_);clear hK hKp K Kp;try clear hanc anc)|((with_reducible refine And.intro ?_ ?_);exact zb)|((first|refine zr hE fun K Kp hK hKp=>?_|refine zd true mixed hE fun K Kp hK hKp anc hanc=>?_|refine zd false mixed hE fun K Kp hK hKp anc hanc=>?_|(apply zm;exact zu;exact c1;exact zs;exact zl));simp only[go_sem,lt_dec hlj,hy])|(refine zg (fun hg=>?_) (fun hg=>?_)<;>simp only[go_sem,lt_dec hlj,hy,hg])|(refine zc (fun hc=>?_) (fun hc=>?_)<;>try exact zh hc))
        refine K_ret (hQ _ ⟨.tup [.agg [.str f2,.sl (nml p2),.sl (bdl b2),.sl (adl c2),.sl (adl a2),.str r2.n,.sl (Tx.avL r2.a),.i r2.o,.sl (stl d2),.i o2],.bool true],?_,?_,?_,inV_clo _⟩).1
        · simp[resA,rvA,Tryd.f42,go_sem];rfl
        · simp[AV.snapOk,AV.snapOkL]
        · rfl
      |none=>
        rw[hb] at c1 hf
        unfold inV at c1
        simp only at c1
        repeat'(first|apply nx|refine zx ?_|rw[zw]|((first|refine hK _ ?_|refine hKp _ _ ?_);clear hK hKp K Kp;try clear hanc anc)|((with_reducible refine And.intro ?_ ?_);exact zb)|((first|refine zr hE fun K Kp hK hKp=>?_|refine zd true mixed hE fun K Kp hK hKp anc hanc=>?_|refine zd false mixed hE fun K Kp hK hKp anc hanc=>?_|(apply zm;exact zu;exact c1;exact zs;exact zl));simp only[go_sem,lt_dec hlj,hy,v0])|(refine zg (fun hg=>?_) (fun hg=>?_)<;>simp only[go_sem,lt_dec hlj,hy,v0,hg])|(refine zc (fun hc=>?_) (fun hc=>?_)<;>try exact zh hc))
        exact⟨j+1,⟨hlj,hf⟩,by omega,fun i=>i,by refine ent_mk (by simp[go_sem]) (by simp[go_sem]) (by simp) (by simp[hN])⟩
    obtain rfl:j=bb.length:=by omega
    rw[List.drop_length,fstBs] at hf
    rw[hf] at he
    repeat'(first|apply nx|refine zx ?_|rw[zw]|((first|refine hK _ ?_|refine hKp _ _ ?_);clear hK hKp K Kp;try clear hanc anc)|((with_reducible refine And.intro ?_ ?_);exact zb)|((first|refine zr hE fun K Kp hK hKp=>?_|refine zd true mixed hE fun K Kp hK hKp anc hanc=>?_|refine zd false mixed hE fun K Kp hK hKp anc hanc=>?_);simp only[go_sem,ge_dec,u0])|(refine zg (fun hg=>?_) (fun hg=>?_)<;>simp only[go_sem,ge_dec,u0,hg])|(refine zc (fun hc=>?_) (fun hc=>?_)<;>try exact zh hc))
    exact hJ _ ⟨fun i=>i,by refine ent_mk (by simp[go_sem]) (by simp[go_sem]) (by simp) (by simp[hN])⟩ he
  have hJ:=fun fs=>hrest fs (fun σ'=>∃ x',(x'≤l.length∧fstL l=fstL (l.drop x'))∧l.length - x'<l.length - i∧∃ m,Ent E.np m σ' (mkSt [(0,.sl (stl l)),(2,.ptr 0 0),(3,.bool false),(4,.i (x':Nat))] [(0,.cells [.str ⟨#[]⟩,.nilsl,.nilsl,.nilsl,.nilsl,.str ⟨#[]⟩,.nilsl,.i 0,.nilsl,.i 0])] 1)) (fun σ hm he=>⟨i+1,⟨hlt,he⟩,by omega,hm⟩)
  clear hrest IH hBs
  simp only[i6,i42,Tryd.f42,Option.getD,sq1,sq2,blkC,lpC] at hJ
  rcases hq with q13|⟨q13,q1⟩
  · repeat'(first|apply nx|refine zx ?_|rw[zw]|((first|refine hK _ ?_|refine hKp _ _ ?_);clear hK hKp K Kp;try clear hanc anc)|((with_reducible refine And.intro ?_ ?_);exact zb)|((fail_if_success refine K_stop 6 ?_);(first|refine zr hE fun K Kp hK hKp=>?_|refine zd true mixed hE fun K Kp hK hKp anc hanc=>?_|refine zd false mixed hE fun K Kp hK hKp anc hanc=>?_);simp only[go_sem,lt_dec hlt,hx,Lf.St.av,q13])|(refine zg (fun hg=>?_) (fun hg=>?_)<;>simp only[go_sem,lt_dec hlt,hx,Lf.St.av,q13,hg])|(refine zc (fun hc=>?_) (fun hc=>?_)<;>try exact zh hc))
    refine AW.ent (fun i=>i) ?_ (hJ _)
    exact ent_mk (by simp[go_sem]) (by simp[go_sem]) (by simp) (by simp[hN])
  · repeat'(first|apply nx|refine zx ?_|rw[zw]|((first|refine hK _ ?_|refine hKp _ _ ?_);clear hK hKp K Kp;try clear hanc anc)|((with_reducible refine And.intro ?_ ?_);exact zb)|((fail_if_success refine K_stop 6 ?_);(first|refine zr hE fun K Kp hK hKp=>?_|refine zd true mixed hE fun K Kp hK hKp anc hanc=>?_|refine zd false mixed hE fun K Kp hK hKp anc hanc=>?_);simp only[go_sem,lt_dec hlt,hx,Lf.St.av,q13,q1])|(refine zg (fun hg=>?_) (fun hg=>?_)<;>simp only[go_sem,lt_dec hlt,hx,Lf.St.av,q13,q1,hg])|(refine zc (fun hc=>?_) (fun hc=>?_)<;>try exact zh hc))
    refine AW.ent (fun i=>i) ?_ (hJ _)
    exact ent_mk (by simp[go_sem]) (by simp[go_sem]) (by simp) (by simp[hN])
end Go.Proofs.YtffmphmiicnaeaaDoor
