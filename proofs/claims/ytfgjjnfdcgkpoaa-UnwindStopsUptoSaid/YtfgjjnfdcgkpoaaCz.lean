/- A part of the proof: an abstract machine for the walks, and what the walked functions compute. -/
import Derived.Test.YtfgjjnfdcgkpoaaCx
set_option linter.unusedVariables false
set_option linter.unusedSimpArgs false
set_option maxHeartbeats 4000000
set_option maxRecDepth 100000
namespace Go.Proofs.Ytfgjjnfdcgkpoaa
open Go.Am Go.Proofs Go.Hv
open Classical
attribute [local irreducible] AW CallP CallB CallY
def calmD (D:List Dt):List Dt:=D.map fun d=> { d with dr:=max 0 d.dr }
theorem calm_len (D:List Dt):(calmD D).length=D.length:=by simp[calmD]
theorem calm_get (D:List Dt) (n:Nat):(drs (calmD D)).getD n 0=max 0 ((drs D).getD n 0):=by
 simp only[drs,calmD,List.map_map,List.getD_eq_getElem?_getD,List.getElem?_map]
 cases D[n]? <;>simp
theorem foldF_ext (d:List Int):∀ (l:List Int) (f:Fa),f.out <+: (l.foldl (stepF d) f).out
 | [],f=>List.prefix_refl _
 |x::l,f=>by
  rw[List.foldl_cons]
  have ih:=foldF_ext d l (stepF d f x)
  have h1:f.out <+: (stepF d f x).out:=by
   unfold stepF
   split
   ·exact List.prefix_refl _
   ·unfold Fa.add
    simp only
    split
    ·exact List.prefix_append _ _
    ·exact List.prefix_refl _
  exact h1.trans ih
theorem calm_rel (D : List Dt) : ∀ (l : List Int) (f g : Fa), f.pan = false → g.pan = false → f.out = g.out →
    (l.foldl (stepF (drs D)) f).out <+: (l.foldl (stepF (drs (calmD D))) g).out∧((l.foldl (stepF (drs D)) f).pan=false→(l.foldl (stepF (drs (calmD D))) g).out=(l.foldl (stepF (drs D)) f).out)∧(l.foldl (stepF (drs (calmD D))) g).pan=false
  | [],f,g,hf,hg,ho=>by
    simp only[List.foldl_nil]
    exact⟨by rw[ho];exact List.prefix_refl _,fun _=>ho.symm,hg⟩
  |x::l,f,g,hf,hg,ho=>by
    simp only[List.foldl_cons]
    rw[show stepF (drs D) f x=f.add ((drs D).getD x.toNat 0) from if_neg (by simp[hf]),show stepF (drs (calmD D)) g x=g.add (max 0 ((drs D).getD x.toNat 0)) by rw[← calm_get];exact if_neg (by simp[hg])]
    generalize (drs D).getD x.toNat 0=d
    have hgp:(g.add (max 0 d)).pan=false:=by simp only[Fa.add,decide_eq_false_iff_not];omega
    by_cases hd:d<0
    · have e1:(f.add d).pan=true:=by simpa [Fa.add] using hd
      have e2:(f.add d).out=f.out:=by simp only[Fa.add];rw[if_neg (by omega)]
      have e4:(g.add (max 0 d)).out=g.out:=by simp only[Fa.add];rw[if_neg (by omega)]
      rw[foldF_pan _ _ _ e1,e2]
      have a1:=foldF_ext (drs (calmD D)) l (g.add (max 0 d))
      rw[e4] at a1
      refine⟨by rw[ho];exact a1,fun hh=>(by rw[e1] at hh;cases hh),(calm_rel D l _ _ hgp hgp rfl).2.2⟩
    · have hmx:max 0 d=d:=by omega
      rw[hmx] at hgp ⊢
      exact calm_rel D l _ _ (by simpa [Fa.add] using hd) hgp (by simp only[Fa.add];rw[ho])
theorem stops_c (w:Wd) (tk:Int) (hg:WG w):PCall Try.prog 8 [w.av,.i tk] (.bool true):=by
 have k0:=head_c
 have k1:=right_c w tk hg
 by_cases hr:rightW w tk
 case neg=>
  rw[decide_eq_false hr] at k1
  rw[Wd.av_eq] at*
  refine PCall.intro Try.func8 rfl isf8 (by simp[Try.f8]) (by simp[AV.cloL,AV.clo]) fun E Q hE hN hQ=>K_start ?_
  repeat'(first|apply nx|refine zx ?_|rw[zw]|((first|refine hK _ ?_|refine hKp _ _ ?_);clear hK hKp K Kp;try clear hanc anc)|((with_reducible refine And.intro ?_ ?_);exact zb)|((first|refine zr hE fun K Kp hK hKp=>?_|refine zd false mixed hE fun K Kp hK hKp anc hanc=>?_|(apply zm;exact zu;(first|exact k0|exact k1);exact zs;exact zl));simp only[go_sem])|(refine zg (fun hg=>?_) (fun hg=>?_)<;>simp only[go_sem,hg])|(refine zc (fun hc=>?_) (fun hc=>?_)<;>try exact zh hc)|(refine K_ret ?_;refine zt hQ ?_))
  all_goals simp[AV.snap]
 rw[decide_eq_true hr] at k1
 obtain⟨m,t,o,rfl,ht,h0,hrd,ho,hx,hw⟩:=right_facts hg hr
 have hml:m<w.ts.length:=(List.getElem?_eq_some_iff.1 ht).1
 have hmem:=List.mem_of_getElem? ht
 have hwc:WS { w with D:=calmD w.D } :=⟨hw.h,hw.c,hw.t,hw.tb,hw.tv,by show(calmD w.D).length≤60;rw[calm_len];exact hw.D,hw.o,hw.d,hw.k⟩
 have k4:=unwind_c w m hw
 have k5:=unwind_c { w with D:=calmD w.D } m hwc
 have wa:=(endW_wl hg hw m 2 false).ou
 have wh:=(endW_wl hg hw m 2 false).h
 rw[endU hrd ho hx] at k4 wa wh
 rw[endU (w:= { w with D:=calmD w.D }) hrd ho (unk_len hx (calm_len _))] at k5
 obtain⟨r1,r2,r3⟩:=calm_rel w.D o.ids Fa.nil Fa.nil rfl rfl rfl
 have k6:=same_call (closedS w.h o) (closedS w.h o) wh.l wh.a (fun c hc=>by have:=wh.m c hc;omega)
 rw[decide_eq_true rfl,Hp.av_eq] at k6
 simp only[setE,edU,Wd.av_eq] at k4 k5 wa
 rw[show o.ids.foldl (stepF (drs (calmD w.D))) Fa.nil=fin (calmD w.D) o.ids from rfl] at r1 r2 r3
 rw[show o.ids.foldl (stepF (drs w.D)) Fa.nil=fin w.D o.ids from rfl] at r1 r2
 generalize fin w.D o.ids=ff at*
 generalize fin (calmD w.D) o.ids=gg at*
 obtain⟨fo,fc,fp⟩:=ff
 obtain⟨go,gc,gp⟩:=gg
 simp only at k4 k5 wa r1 r2 r3
 subst r3
 obtain⟨rest,rfl⟩:=r1
 have k7:=sameO_c (w.ou++fo.map fun p=>((m:Int),p)) (w.ou++fo.map fun p=>((m:Int),p)) wa
 rw[decide_eq_true rfl] at k7
 have hta:(w.ts.set m { t with st:=if fp=true then 3 else 2,fs:=[],ls:=[] })[m]? =some { t with st:=if fp=true then 3 else 2,fs:=[],ls:=[] } :=by rw[List.getElem?_set_self hml]
 have htl:(w.ts.set m { t with st:=if fp=true then 3 else 2,fs:=[],ls:=[] }).length=w.ts.length:=List.length_set ..
 generalize w.ts.set m { t with st:=if fp=true then 3 else 2,fs:=[],ls:=[] } =tsa at*
 have htb:(w.ts.set m { t with st:=if false=true then 3 else 2,fs:=[],ls:=[] })[m]? =some { t with st:=if false=true then 3 else 2,fs:=[],ls:=[] } :=by rw[List.getElem?_set_self hml]
 have htbl:(w.ts.set m { t with st:=if false=true then 3 else 2,fs:=[],ls:=[] }).length=w.ts.length:=List.length_set ..
 generalize w.ts.set m { t with st:=if false=true then 3 else 2,fs:=[],ls:=[] } =tsb at*
 rw[if_neg (by decide)] at htb
 have hmla:m<tsa.length:=by omega
 have hmlb:m<tsb.length:=by omega
 have q1:((tsa.length:Int) !=(w.ts.length:Int))=false:=by simp[htl]
 have q2:((tsb.length:Int) !=(w.ts.length:Int))=false:=by simp[htbl]
 rw[List.map_append, ← List.append_assoc] at k5
 generalize (w.ou++fo.map fun p=>((m:Int),p))=oa at*
 have htk:(oul (oa++rest.map fun p=>((m:Int),p))).take oa.length=oul oa:=by rw[← oul_app,List.take_append_of_le_length (by simp[oul_len]),List.take_of_length_le (by simp[oul_len])]
 have hlen:(oa++rest.map fun p=>((m:Int),p)).length=oa.length+rest.length:=by simp
 generalize (oa++rest.map fun p=>((m:Int),p))=ob at*
 have q3:decide ((ob.length:Int)<(oa.length:Int))=false:=decide_eq_false (by omega)
 generalize closedS w.h o=ch at*
 have hDl:=hw.D
 rw[Wd.av_eq] at*
 refine PCall.intro Try.func8 rfl isf8 (by simp[Try.f8]) (by simp[AV.cloL,AV.clo]) fun E Q hE hN hQ=>K_start ?_
 repeat'(first|apply nx|refine zx ?_|rw[zw]|((first|refine hK _ ?_|refine hKp _ _ ?_);clear hK hKp K Kp;try clear hanc anc)|((with_reducible refine And.intro ?_ ?_);exact zb)|((fail_if_success refine K_stop 6 ?_);(first|refine zr hE fun K Kp hK hKp=>?_|refine zd true mixed hE fun K Kp hK hKp anc hanc=>?_|refine zd false mixed hE fun K Kp hK hKp anc hanc=>?_|(apply zm;exact zu;(first|exact k0|exact k1);exact zs;exact zl));simp only[go_sem,lt_dec hml])|(refine zg (fun hg=>?_) (fun hg=>?_)<;>simp only[go_sem,lt_dec hml,hg])|(refine zc (fun hc=>?_) (fun hc=>?_)<;>try exact zh hc))
 refine AW_nilc 9437184 0 5 (by simp[go_sem];rfl) (by simp) ?_
 repeat'(first|apply nx|refine zx ?_|rw[zw]|((first|refine hK _ ?_|refine hKp _ _ ?_);clear hK hKp K Kp;try clear hanc anc)|((with_reducible refine And.intro ?_ ?_);exact zb)|((first|refine zr hE fun K Kp hK hKp=>?_|refine zd true mixed hE fun K Kp hK hKp anc hanc=>?_|refine zd false mixed hE fun K Kp hK hKp anc hanc=>?_);simp only[go_sem])|(refine zg (fun hg=>?_) (fun hg=>?_)<;>simp only[go_sem,hg])|(refine zc (fun hc=>?_) (fun hc=>?_)<;>try exact zh hc))
 refine K_loop (X:=Nat) (fun i=>i≤w.D.length) (fun i=>mkSt [(1,.i (m:Nat)),(2,.ptr 0 0),(5,.bool true),(6,.ptr 1 0),(7,.i (i:Nat))] [(0,.cells [.sl (dl w.D),.sl w.R,.i w.mn,.sl (cl w.h.cells),.sl (bl w.h.arenas),.sl (tsl w.ts),.sl (chl w.cn),.sl (oul w.ou),.i w.md,.i w.dp,.i w.cd]),(1,.cells [.rw 2,.sl w.R,.i w.mn,.sl (cl w.h.cells),.sl (bl w.h.arenas),.sl (tsl w.ts),.sl (chl w.cn),.sl (oul w.ou),.i w.md,.i w.dp,.i w.cd]),(2,.row 5 (dl (calmD (w.D.take i))))] 3) (fun i=>w.D.length - i) 0 (Nat.zero_le _) (fun i=>if i=1 then 9437184 else if i=2 then 14680064 else i) ?_ ?_
 ·refine ent_mk (by simp[go_sem]) (by simp[go_sem,calmD,dl]) (by simp) (by simp[hN])
 intro i hi
 by_cases hlt:i<w.D.length
 ·obtain⟨d,hd⟩:=get?_of hlt
  have u1:IntKind.i64.wrap ((i:Int)+1)=((i+1:Nat):Int):=by rw[wrap64 (by omega) (by omega)];omega
  have hcl:(calmD (w.D.take i)).length=i:=by simp[calmD];omega
  have hst:dl (calmD (w.D.take (i+1)))=dl (calmD (w.D.take i))++[.agg [.str d.nm,.i d.md,.i d.pr,.sl d.vs,.i (max 0 d.dr)]]:=by
   rw[List.take_add_one,hd];simp[calmD,dl,Dt.av]
  repeat'(first|apply nx|refine zx ?_|rw[zw]|((first|refine hK _ ?_|refine hKp _ _ ?_);clear hK hKp K Kp;try clear hanc anc)|((with_reducible refine And.intro ?_ ?_);exact zb)|((first|refine zr hE fun K Kp hK hKp=>?_|refine zd true mixed hE fun K Kp hK hKp anc hanc=>?_|refine zd false mixed hE fun K Kp hK hKp anc hanc=>?_);simp only[go_sem,lt_dec hlt,hd,Dt.av,u1,hcl])|(refine zg (fun hg=>?_) (fun hg=>?_)<;>simp only[go_sem,lt_dec hlt,hd,Dt.av,u1,hcl,hg])|(refine zc (fun hc=>?_) (fun hc=>?_)<;>try exact zh hc))
  refine⟨i+1,hlt,by omega,fun i=>if i=2 then 25165827 else i,?_⟩
  refine ent_mk (by simp[go_sem]) (by simp[go_sem,hst.symm]) (by simp) (by simp[hN])
 obtain rfl:i=w.D.length:=by omega
 rw[List.take_length]
 repeat'(first|apply nx|refine zx ?_|rw[zw]|((first|refine hK _ ?_|refine hKp _ _ ?_);clear hK hKp K Kp;try clear hanc anc)|((with_reducible refine And.intro ?_ ?_);exact zb)|((fail_if_success refine K_stop 12 ?_);(first|refine zr hE fun K Kp hK hKp=>?_|refine zd true mixed hE fun K Kp hK hKp anc hanc=>?_|refine zd false mixed hE fun K Kp hK hKp anc hanc=>?_);simp only[go_sem,ge_dec])|(refine zg (fun hg=>?_) (fun hg=>?_)<;>simp only[go_sem,ge_dec,hg])|(refine zc (fun hc=>?_) (fun hc=>?_)<;>try exact zh hc))
 refine AW_frzCell 1 0 2 (sz:=5) (xs:=dl (calmD w.D)) (by simp[go_sem];rfl) rfl (by simp[go_sem]) (by decide) (clo_dl _) ?_
 cases fp
 ·obtain rfl:rest=[]:=by simpa using r2 rfl
  have q4:((oa.length:Int)==(ob.length:Int))=true:=by rw[hlen];simp
  rw[if_neg (by decide)] at hta
  repeat'(first|apply nx|refine zx ?_|rw[zw]|((first|refine hK _ ?_|refine hKp _ _ ?_);clear hK hKp K Kp;try clear hanc anc)|((with_reducible refine And.intro ?_ ?_);exact zb)|((first|refine zr hE fun K Kp hK hKp=>?_|refine zd false mixed hE fun K Kp hK hKp anc hanc=>?_|(apply zm;exact zu;(first|exact k4|exact k5|exact k6|exact k7);exact zs;exact zl));simp only[go_sem,lt_dec hmla,lt_dec hmlb,q1,q2,q3,q4,hta,htb,htk,Tsk.av_eq])|(refine zg (fun hg=>?_) (fun hg=>?_)<;>simp only[go_sem,lt_dec hmla,lt_dec hmlb,q1,q2,q3,q4,hta,htb,htk,Tsk.av_eq,hg])|(refine zc (fun hc=>?_) (fun hc=>?_)<;>try exact zh hc)|(refine K_ret ?_;refine zt hQ ?_))
  all_goals simp[AV.snap]
 ·rw[if_pos rfl] at hta
  repeat'(first|apply nx|refine zx ?_|rw[zw]|((first|refine hK _ ?_|refine hKp _ _ ?_);clear hK hKp K Kp;try clear hanc anc)|((with_reducible refine And.intro ?_ ?_);exact zb)|((first|refine zr hE fun K Kp hK hKp=>?_|refine zd false mixed hE fun K Kp hK hKp anc hanc=>?_|(apply zm;exact zu;(first|exact k4|exact k5|exact k6|exact k7);exact zs;exact zl));simp only[go_sem,lt_dec hmla,lt_dec hmlb,q1,q2,q3,hta,htb,htk,Tsk.av_eq])|(refine zg (fun hg=>?_) (fun hg=>?_)<;>simp only[go_sem,lt_dec hmla,lt_dec hmlb,q1,q2,q3,hta,htb,htk,Tsk.av_eq,hg])|(refine zc (fun hc=>?_) (fun hc=>?_)<;>try exact zh hc)|(refine K_ret ?_;refine zt hQ ?_))
  all_goals simp[AV.snap]
end Go.Proofs.Ytfgjjnfdcgkpoaa
