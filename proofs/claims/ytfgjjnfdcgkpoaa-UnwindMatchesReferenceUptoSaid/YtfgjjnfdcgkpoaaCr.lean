/- A part of the proof: an abstract machine for the walks, and what the walked functions compute. -/
import Derived.Test.YtfgjjnfdcgkpoaaCq
set_option linter.unusedVariables false
set_option linter.unusedSimpArgs false
set_option maxHeartbeats 4000000
set_option maxRecDepth 100000
namespace Go.Proofs.Ytfgjjnfdcgkpoaa
open Go.Am Go.Proofs Go.Hv
open Classical
attribute [local irreducible] AW CallP CallB CallY
theorem GB.run {w:Wd} {tk:Int} :∀ (l:List Vl) (i:Nat) (e:Ed),GB i e→(∀ v,v∈l→v.sz≤2 ^ 20)→i+l.length≤100→GB (i+l.length) (l.foldl (stE w.D tk) e)
 | [],i,e,h,_,_=>h
 |v::l,i,e,h,hz,hl=>by
  rw[List.foldl_cons,List.length_cons]
  simp only[List.length_cons] at hl
  have:=GB.run (w:=w) (tk:=tk) l (i+1) _ (h.step (D:=w.D) (tk:=tk) (hz v (by simp)) (by omega)) (fun x hx=>hz x (by simp[hx])) (by omega)
  rwa [show i+(l.length+1)=i+1+l.length from by omega]
theorem run_gb {w:Wd} (hw:WS w) {t:Tsk} (ht:t∈w.ts) (tk st:Int) (sh:Bool):GB (valsT t).length (runE' w tk st sh t):=by
 have:=GB.run (w:=w) (tk:=tk) (valsT t) 0 (w.ed st sh) (GB.start hw st sh) (valsT_sz (hw.tv t ht)) (by have:=valsT_len (hw.tb t ht);omega)
 rwa [Nat.zero_add] at this
theorem endW_wl {w:Wd} (hg:WG w) (hw:WS w) (tk st:Int) (sh:Bool):WL (endW w tk st sh):=by
 have hl:=hg.wl
 unfold endW
 cases hr:readyT w tk with
 |none=>exact hl
 |some t=>
  obtain⟨m,rfl,ht,h0⟩:=ready_some hr
  have hmem:=List.mem_of_getElem? ht
  have hb:=run_gb hw hmem m st sh
  have hv:=valsT_len (hw.tb t hmem)
  refine⟨hb.h,by have:=hb.o;simp only;omega,by simp only[List.length_set];exact hl.t,hl.c,fun x hx=>?_,hl.cv⟩
  rcases List.mem_or_eq_of_mem_set hx with hx|rfl
  ·exact hl.tf x hx
  ·exact⟨fun y hy=>(by cases hy),by simp,by simp,(hl.tf t hmem).2.2.2⟩
theorem matches_c (w:Wd) (tk st:Int) (a:Af) (hg:WG w) (ha:a.si.length≤2 ^ 20):PCall Try.prog 3 [w.av,.i tk,.i st,a.av] (.bool true):=by
 have k0:=head_c
 have k1:=few_c w hg
 by_cases hf:fewW w
 case neg=>
  rw[decide_eq_false hf] at k1
  rw[Wd.av_eq,Af.av_eq] at*
  refine PCall.intro Try.func3 rfl isf3 (by simp[Try.f3]) (by simp[AV.cloL,AV.clo]) fun E Q hE hN hQ=>K_start ?_
  repeat'(first|apply nx|refine zx ?_|rw[zw]|((first|refine hK _ ?_|refine hKp _ _ ?_);clear hK hKp K Kp;try clear hanc anc)|((with_reducible refine And.intro ?_ ?_);exact zb)|((first|refine zr hE fun K Kp hK hKp=>?_|refine zd false mixed hE fun K Kp hK hKp anc hanc=>?_|(apply zm;exact zu;(first|exact k0|exact k1);exact zs;exact zl));simp only[go_sem])|(refine zg (fun hg=>?_) (fun hg=>?_)<;>simp only[go_sem,hg])|(refine zc (fun hc=>?_) (fun hc=>?_)<;>try exact zh hc)|(refine K_ret ?_;refine zt hQ ?_))
  all_goals simp[AV.snap]
 rw[decide_eq_true hf] at k1
 have hw:=hg.ws hf
 by_cases h1:a.sl.length≤8
 case neg=>
  have q1:decide ((8:Int)<(a.sl.length:Int))=true:=by simp;omega
  rw[Wd.av_eq,Af.av_eq] at*
  refine PCall.intro Try.func3 rfl isf3 (by simp[Try.f3]) (by simp[AV.cloL,AV.clo]) fun E Q hE hN hQ=>K_start ?_
  repeat'(first|apply nx|refine zx ?_|rw[zw]|((first|refine hK _ ?_|refine hKp _ _ ?_);clear hK hKp K Kp;try clear hanc anc)|((with_reducible refine And.intro ?_ ?_);exact zb)|((first|refine zr hE fun K Kp hK hKp=>?_|refine zd false mixed hE fun K Kp hK hKp anc hanc=>?_|(apply zm;exact zu;(first|exact k0|exact k1);exact zs;exact zl));simp only[go_sem,q1])|(refine zg (fun hg=>?_) (fun hg=>?_)<;>simp only[go_sem,q1,hg])|(refine zc (fun hc=>?_) (fun hc=>?_)<;>try exact zh hc)|(refine K_ret ?_;refine zt hQ ?_))
  all_goals simp[AV.snap]
 have q1:decide ((8:Int)<(a.sl.length:Int))=false:=by simp;omega
 by_cases h2:a.si.length≤8
 case neg=>
  have q2:decide ((8:Int)<(a.si.length:Int))=true:=by simp;omega
  rw[Wd.av_eq,Af.av_eq] at*
  refine PCall.intro Try.func3 rfl isf3 (by simp[Try.f3]) (by simp[AV.cloL,AV.clo]) fun E Q hE hN hQ=>K_start ?_
  repeat'(first|apply nx|refine zx ?_|rw[zw]|((first|refine hK _ ?_|refine hKp _ _ ?_);clear hK hKp K Kp;try clear hanc anc)|((with_reducible refine And.intro ?_ ?_);exact zb)|((first|refine zr hE fun K Kp hK hKp=>?_|refine zd false mixed hE fun K Kp hK hKp anc hanc=>?_|(apply zm;exact zu;(first|exact k0|exact k1);exact zs;exact zl));simp only[go_sem,q1,q2])|(refine zg (fun hg=>?_) (fun hg=>?_)<;>simp only[go_sem,q1,q2,hg])|(refine zc (fun hc=>?_) (fun hc=>?_)<;>try exact zh hc)|(refine K_ret ?_;refine zt hQ ?_))
  all_goals simp[AV.snap]
 have q2:decide ((8:Int)<(a.si.length:Int))=false:=by simp;omega
 have k2:=unwind_c w tk hw
 have k3:=runwind_c w tk hw
 have k4:=abandon_c w tk st hw
 have k5:=rabandon_c w tk st hw
 have k6:=sameS_c _ (endW w tk 2 false) (endW_wl hg hw tk 2 false)
 have k7:=sameS_c _ (endW w tk st true) (endW_wl hg hw tk st true)
 have k8:=order_c a (by omega)
 have k9:=rorder_c a (by omega)
 have k10:=ints_call (ni (orderL a)) (ni (orderL a)) (by rw[ni_len];have:=order_len a;omega)
 rw[decide_eq_true (show sameW _ _ from⟨rfl,rfl,rfl,rfl,rfl,rfl,rfl⟩)] at k6 k7
 rw[decide_eq_true rfl] at k10
 generalize endW w tk 2 false=x at*
 generalize endW w tk st true=y at*
 generalize ni (orderL a)=l at*
 simp only[Wd.av_eq,Af.av_eq] at*
 refine PCall.intro Try.func3 rfl isf3 (by simp[Try.f3]) (by simp[AV.cloL,AV.clo]) fun E Q hE hN hQ=>K_start ?_
 repeat'(first|apply nx|refine zx ?_|rw[zw]|((first|refine hK _ ?_|refine hKp _ _ ?_);clear hK hKp K Kp;try clear hanc anc)|((with_reducible refine And.intro ?_ ?_);exact zb)|((first|refine zr hE fun K Kp hK hKp=>?_|refine zd false mixed hE fun K Kp hK hKp anc hanc=>?_|(apply zm;exact zu;(first|exact k0|exact k1|exact k2|exact k3|exact k4|exact k5|exact k6|exact k7|exact k8|exact k9|exact k10);exact zs;exact zl));simp only[go_sem,q1,q2])|(refine zg (fun hg=>?_) (fun hg=>?_)<;>simp only[go_sem,q1,q2,hg])|(refine zc (fun hc=>?_) (fun hc=>?_)<;>try exact zh hc)|(refine K_ret ?_;refine zt hQ ?_))
 all_goals simp[AV.snap]
end Go.Proofs.Ytfgjjnfdcgkpoaa
