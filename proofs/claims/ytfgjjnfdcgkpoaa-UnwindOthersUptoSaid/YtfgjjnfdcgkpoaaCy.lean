/- A part of the proof: an abstract machine for the walks, and what the walked functions compute. -/
import Derived.Test.YtfgjjnfdcgkpoaaCu
set_option linter.unusedVariables false
set_option linter.unusedSimpArgs false
set_option maxHeartbeats 4000000
set_option maxRecDepth 100000
namespace Go.Proofs.Ytfgjjnfdcgkpoaa
open Go.Am Go.Proofs Go.Hv
open Classical
attribute [local irreducible] AW CallP CallB CallY
theorem dropS_pos (D:List Dt) (h:Hp) (v:Vl):∀ p,p∈(dropS D h v).2.1.out→0<p:=by
 unfold dropS
 split
 ·simp[Fa.nil]
 ·rename_i o ho
  split
  ·simp[Fa.nil]
  ·simp only
   rw[dropAll_ids ho]
   exact foldF_pos _ _ _ (by simp[Fa.nil])
theorem stE_out (D:List Dt) (tk:Int) (e:Ed) (v:Vl):∃ ys:List (Int×Int),(stE D tk e v).ou=e.ou++ys∧∀ q,q∈ys→q.1=tk∧0<q.2:=by
 unfold stE
 split
 ·unfold stS
  split
  ·exact⟨[],by simp,by simp⟩
  ·exact⟨[],by simp,by simp⟩
 ·unfold stD
  split
  ·exact⟨[],by simp,by simp⟩
  ·refine⟨_,rfl,fun q hq=>?_⟩
   obtain⟨p,hp,rfl⟩:=List.mem_map.1 hq
   exact⟨rfl,dropS_pos D e.h v p hp⟩
theorem run_out (D:List Dt) (tk:Int):∀ (l:List Vl) (e:Ed),∃ ys:List (Int×Int),(l.foldl (stE D tk) e).ou=e.ou++ys∧∀ q,q∈ys→q.1=tk∧0<q.2
 | [],e=>⟨[],by simp,by simp⟩
 |v::l,e=>by
  obtain⟨ys,h1,h2⟩:=stE_out D tk e v
  obtain⟨zq,h3,h4⟩:=run_out D tk l (stE D tk e v)
  refine⟨ys++zq,by rw[List.foldl_cons,h3,h1,List.append_assoc],fun q hq=>?_⟩
  rcases List.mem_append.1 hq with hq|hq
  ·exact h2 q hq
  ·exact h4 q hq
theorem endS {w:Wd} {m:Nat} {st:Int} {sh:Bool} {t:Tsk} (hr:readyT w m=some t):endW w m st sh=setE w m t (runE' w m st sh t):=by
 unfold endW
 rw[hr]
 rfl
theorem others_c (w:Wd) (tk:Int) (hg:WG w):PCall Try.prog 7 [w.av,.i tk] (.bool true):=by
 have k0:=head_c
 have k1:=few_c w hg
 by_cases hf:fewW w
 case neg=>
  rw[decide_eq_false hf] at k1
  rw[Wd.av_eq] at*
  refine PCall.intro Try.func7 rfl isf7 (by simp[Try.f7]) (by simp[AV.cloL,AV.clo]) fun E Q hE hN hQ=>K_start ?_
  repeat'(first|apply nx|refine zx ?_|rw[zw]|((first|refine hK _ ?_|refine hKp _ _ ?_);clear hK hKp K Kp;try clear hanc anc)|((with_reducible refine And.intro ?_ ?_);exact zb)|((first|refine zr hE fun K Kp hK hKp=>?_|refine zd false mixed hE fun K Kp hK hKp anc hanc=>?_|(apply zm;exact zu;(first|exact k0|exact k1);exact zs;exact zl));simp only[go_sem])|(refine zg (fun hg=>?_) (fun hg=>?_)<;>simp only[go_sem,hg])|(refine zc (fun hc=>?_) (fun hc=>?_)<;>try exact zh hc)|(refine K_ret ?_;refine zt hQ ?_))
  all_goals simp[AV.snap]
 rw[decide_eq_true hf] at k1
 have hw:=hg.ws hf
 have k2:=unwind_c w tk hw
 have k3:=ready_c w tk (by have:=hw.t;omega)
 have k4:=sameS_c w w hg.wl
 rw[decide_eq_true (show sameW w w from⟨rfl,rfl,rfl,rfl,rfl,rfl,rfl⟩)] at k4
 cases hr:readyT w tk with
 |none=>
  rw[hr] at k3
  simp only[Option.isSome_none] at k3
  rw[show endW w tk 2 false=w by unfold endW;rw[hr]] at k2
  rw[Wd.av_eq] at*
  refine PCall.intro Try.func7 rfl isf7 (by simp[Try.f7]) (by simp[AV.cloL,AV.clo]) fun E Q hE hN hQ=>K_start ?_
  repeat'(first|apply nx|refine zx ?_|rw[zw]|((first|refine hK _ ?_|refine hKp _ _ ?_);clear hK hKp K Kp;try clear hanc anc)|((with_reducible refine And.intro ?_ ?_);exact zb)|((first|refine zr hE fun K Kp hK hKp=>?_|refine zd false mixed hE fun K Kp hK hKp anc hanc=>?_|(apply zm;exact zu;(first|exact k0|exact k1|exact k2|exact k3|exact k4);exact zs;exact zl));simp only[go_sem])|(refine zg (fun hg=>?_) (fun hg=>?_)<;>simp only[go_sem,hg])|(refine zc (fun hc=>?_) (fun hc=>?_)<;>try exact zh hc)|(refine K_ret ?_;refine zt hQ ?_))
  all_goals simp[AV.snap]
 |some t=>
 obtain⟨m,rfl,ht,h0⟩:=ready_some hr
 have hml:m<w.ts.length:=(List.getElem?_eq_some_iff.1 ht).1
 have hmem:=List.mem_of_getElem? ht
 rw[hr] at k3
 simp only[Option.isSome_some] at k3
 rw[endS hr] at k2
 obtain⟨ys,he,hys⟩:=run_out w.D m (valsT t) (w.ed 2 false)
 have hgb:=(run_gb hw hmem m 2 false).o
 have hvl:=valsT_len (hw.tb t hmem)
 rw[show(valsT t).foldl (stE w.D m) (w.ed 2 false)=runE' w m 2 false t from rfl] at he
 generalize runE' w m 2 false t=e at*
 obtain⟨eh,eo,ed,ec,es,esh⟩:=e
 simp only[Wd.ed] at he hgb
 subst he
 rw[List.length_append] at hgb
 simp only[setE,Wd.av_eq] at k2
 have htl:(w.ts.set m { t with st:=es,fs:=[],ls:=[] }).length=w.ts.length:=List.length_set ..
 have htm:(w.ts.set m { t with st:=es,fs:=[],ls:=[] })[m]? =some { t with st:=es,fs:=[],ls:=[] } :=by rw[List.getElem?_set_self hml]
 have hto:∀ i,i≠m→(w.ts.set m { t with st:=es,fs:=[],ls:=[] })[i]? =w.ts[i]? :=fun i hi=>List.getElem?_set_ne (Ne.symm hi)
 generalize w.ts.set m { t with st:=es,fs:=[],ls:=[] } =tsa at*
 have hmla:m<tsa.length:=by omega
 have k5:=sameO_c w.ou w.ou (by have:=hw.o;omega)
 rw[decide_eq_true rfl] at k5
 have hwt:=hw.t
 have hwo:=hw.o
 have q1:((tsa.length:Int) !=(w.ts.length:Int))=false:=by simp[htl]
 have htk:(oul (w.ou++ys)).take w.ou.length=oul w.ou:=by rw[← oul_app,List.take_append_of_le_length (by simp[oul_len]),List.take_of_length_le (by simp[oul_len])]
 have hzs:∀ i p,w.ou.length≤i→(w.ou++ys)[i]? =some p→p.1=(m:Int)∧0<p.2:=by
  intro i p hi hp
  rw[List.getElem?_append_right hi] at hp
  exact hys p (List.mem_of_getElem? hp)
 have hzl:w.ou.length≤(w.ou++ys).length:=by simp
 rw[← List.length_append] at hgb
 generalize w.ou++ys=zq at*
 have q2:decide ((zq.length:Int)<(w.ou.length:Int))=false:=by rw[decide_eq_false_iff_not];omega
 have lz:(oul zq).length=zq.length:=oul_len _
 rw[Wd.av_eq] at*
 refine PCall.intro Try.func7 rfl isf7 (by simp[Try.f7]) (by simp[AV.cloL,AV.clo]) fun E Q hE hN hQ=>K_start ?_
 repeat'(first|apply nx|refine zx ?_|rw[zw]|((first|refine hK _ ?_|refine hKp _ _ ?_);clear hK hKp K Kp;try clear hanc anc)|((with_reducible refine And.intro ?_ ?_);exact zb)|((first|refine zr hE fun K Kp hK hKp=>?_|refine zd true mixed hE fun K Kp hK hKp anc hanc=>?_|refine zd false mixed hE fun K Kp hK hKp anc hanc=>?_|(apply zm;exact zu;(first|exact k0|exact k1|exact k2|exact k3|exact k4|exact k5);exact zs;exact zl));simp only[go_sem,lt_dec hml,q1,q2,bne_self_eq_false,htk])|(refine zg (fun hg=>?_) (fun hg=>?_)<;>simp only[go_sem,lt_dec hml,q1,q2,bne_self_eq_false,htk,hg])|(refine zc (fun hc=>?_) (fun hc=>?_)<;>try exact zh hc))
 refine K_loop (X:=Nat) (fun i=>i≤w.ts.length) (fun i=>mkSt [(1,.i (m:Nat)),(2,.ptr 0 0),(5,.bool true),(6,.ptr 1 0),(7,.i (i:Nat))] [(0,.cells [.sl (dl w.D),.sl w.R,.i w.mn,.sl (cl w.h.cells),.sl (bl w.h.arenas),.sl (tsl w.ts),.sl (chl w.cn),.sl (oul w.ou),.i w.md,.i w.dp,.i w.cd]),(1,.cells [.sl (dl w.D),.sl w.R,.i w.mn,.sl (cl eh.cells),.sl (bl eh.arenas),.sl (tsl tsa),.sl (chl w.cn),.sl (oul zq),.i w.md,.i ed,.i ec])] 2) (fun i=>w.ts.length - i) 0 (Nat.zero_le _) (fun i=>if i=1 then 10485760 else i) ?_ ?_
 ·refine ent_mk (by simp[go_sem]) (by simp[go_sem]) (by simp) (by simp[hN])
 intro i hi
 by_cases hlt:i<w.ts.length
 ·obtain⟨x,hxx⟩:=get?_of hlt
  have hlta:i<tsa.length:=by omega
  have u1:IntKind.i64.wrap ((i:Int)+1)=((i+1:Nat):Int):=by rw[wrap64 (by omega) (by omega)];omega
  by_cases him:i=m
  ·have q3:((i:Int) !=(m:Int))=false:=by simp[him]
   repeat'(first|apply nx|refine zx ?_|rw[zw]|((first|refine hK _ ?_|refine hKp _ _ ?_);clear hK hKp K Kp;try clear hanc anc)|((with_reducible refine And.intro ?_ ?_);exact zb)|((first|refine zr hE fun K Kp hK hKp=>?_|refine zd true mixed hE fun K Kp hK hKp anc hanc=>?_|refine zd false mixed hE fun K Kp hK hKp anc hanc=>?_);simp only[go_sem,lt_dec hlt,lt_dec hlta,q3,u1])|(refine zg (fun hg=>?_) (fun hg=>?_)<;>simp only[go_sem,lt_dec hlt,lt_dec hlta,q3,u1,hg])|(refine zc (fun hc=>?_) (fun hc=>?_)<;>try exact zh hc))
   refine⟨i+1,hlt,by omega,fun i=>i,?_⟩
   refine ent_mk (by simp[go_sem]) (by simp[go_sem]) (by simp) (by simp[hN])
  ·have q3:((i:Int) !=(m:Int))=true:=by simp;omega
   have hxa:tsa[i]? =some x:=by rw[hto i him];exact hxx
   obtain⟨c1,c2,c3,c4⟩:=hg.wl.tf x (List.mem_of_getElem? hxx)
   have k6:=sameT_c x x c1 c2 c3 c4
   rw[decide_eq_true rfl,Tsk.av_eq] at k6
   repeat'(first|apply nx|refine zx ?_|rw[zw]|((first|refine hK _ ?_|refine hKp _ _ ?_);clear hK hKp K Kp;try clear hanc anc)|((with_reducible refine And.intro ?_ ?_);exact zb)|((first|refine zr hE fun K Kp hK hKp=>?_|refine zd true mixed hE fun K Kp hK hKp anc hanc=>?_|refine zd false mixed hE fun K Kp hK hKp anc hanc=>?_|(apply zm;exact zu;exact k6;exact zs;exact zl));simp only[go_sem,lt_dec hlt,lt_dec hlta,q3,u1,hxx,hxa,Tsk.av_eq])|(refine zg (fun hg=>?_) (fun hg=>?_)<;>simp only[go_sem,lt_dec hlt,lt_dec hlta,q3,u1,hxx,hxa,Tsk.av_eq,hg])|(refine zc (fun hc=>?_) (fun hc=>?_)<;>try exact zh hc))
   refine⟨i+1,hlt,by omega,fun i=>i,?_⟩
   refine ent_mk (by simp[go_sem]) (by simp[go_sem]) (by simp) (by simp[hN])
 obtain rfl:i=w.ts.length:=by omega
 repeat'(first|apply nx|refine zx ?_|rw[zw]|((first|refine hK _ ?_|refine hKp _ _ ?_);clear hK hKp K Kp;try clear hanc anc)|((with_reducible refine And.intro ?_ ?_);exact zb)|((first|refine zr hE fun K Kp hK hKp=>?_|refine zd true mixed hE fun K Kp hK hKp anc hanc=>?_|refine zd false mixed hE fun K Kp hK hKp anc hanc=>?_);simp only[go_sem,ge_dec])|(refine zg (fun hg=>?_) (fun hg=>?_)<;>simp only[go_sem,ge_dec,hg])|(refine zc (fun hc=>?_) (fun hc=>?_)<;>try exact zh hc))
 refine K_loop (X:=Nat) (fun i=>w.ou.length≤i∧i≤zq.length) (fun i=>mkSt [(1,.i (m:Nat)),(2,.ptr 0 0),(5,.bool true),(6,.ptr 1 0),(8,.i (i:Nat))] [(0,.cells [.sl (dl w.D),.sl w.R,.i w.mn,.sl (cl w.h.cells),.sl (bl w.h.arenas),.sl (tsl w.ts),.sl (chl w.cn),.sl (oul w.ou),.i w.md,.i w.dp,.i w.cd]),(1,.cells [.sl (dl w.D),.sl w.R,.i w.mn,.sl (cl eh.cells),.sl (bl eh.arenas),.sl (tsl tsa),.sl (chl w.cn),.sl (oul zq),.i w.md,.i ed,.i ec])] 2) (fun i=>zq.length - i) w.ou.length ⟨Nat.le_refl _,hzl⟩ (fun i=>i) ?_ ?_
 ·refine ent_mk (by simp[go_sem]) (by simp[go_sem]) (by simp) (by simp[hN])
 rintro i ⟨hi0,hi⟩
 by_cases hlt:i<zq.length
 ·obtain⟨x,hxx⟩:=get?_of hlt
  obtain⟨e1,e2⟩:=hzs i x hi0 hxx
  have q3:(x.1 !=(m:Int))=false:=by simp[e1]
  have q4:decide (x.2≤0)=false:=decide_eq_false (by omega)
  have u1:IntKind.i64.wrap ((i:Int)+1)=((i+1:Nat):Int):=by rw[wrap64 (by omega) (by omega)];omega
  repeat'(first|apply nx|refine zx ?_|rw[zw]|((first|refine hK _ ?_|refine hKp _ _ ?_);clear hK hKp K Kp;try clear hanc anc)|((with_reducible refine And.intro ?_ ?_);exact zb)|((first|refine zr hE fun K Kp hK hKp=>?_|refine zd true mixed hE fun K Kp hK hKp anc hanc=>?_|refine zd false mixed hE fun K Kp hK hKp anc hanc=>?_);simp only[go_sem,lt_dec hlt,hxx,ouv,q3,q4,u1])|(refine zg (fun hg=>?_) (fun hg=>?_)<;>simp only[go_sem,lt_dec hlt,hxx,ouv,q3,q4,u1,hg])|(refine zc (fun hc=>?_) (fun hc=>?_)<;>try exact zh hc))
  refine⟨i+1,⟨by omega,hlt⟩,by omega,fun i=>i,?_⟩
  refine ent_mk (by simp[go_sem]) (by simp[go_sem]) (by simp) (by simp[hN])
 obtain rfl:i=zq.length:=by omega
 repeat'(first|apply nx|refine zx ?_|rw[zw]|((first|refine hK _ ?_|refine hKp _ _ ?_);clear hK hKp K Kp;try clear hanc anc)|((with_reducible refine And.intro ?_ ?_);exact zb)|((first|refine zr hE fun K Kp hK hKp=>?_|refine zd false mixed hE fun K Kp hK hKp anc hanc=>?_|(apply zm;exact zu;exact k4;exact zs;exact zl));simp only[go_sem,ge_dec,lt_dec hmla,htm,Tsk.av_eq])|(refine zg (fun hg=>?_) (fun hg=>?_)<;>simp only[go_sem,ge_dec,lt_dec hmla,htm,Tsk.av_eq,hg])|(refine zc (fun hc=>?_) (fun hc=>?_)<;>try exact zh hc)|(refine K_ret ?_;refine zt hQ ?_))
 all_goals simp[AV.snap]
end Go.Proofs.Ytfgjjnfdcgkpoaa
