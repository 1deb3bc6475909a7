/- A part of the proof: an abstract machine for the walks, and what the walked functions compute. -/
import Derived.Test.YtfgjjnfdcgkpoaaCu
set_option linter.unusedVariables false
set_option linter.unusedSimpArgs false
set_option maxHeartbeats 4000000
set_option maxRecDepth 100000
namespace Go.Proofs.Ytfgjjnfdcgkpoaa
open Go.Am Go.Proofs Go.Hv
open Classical
attribute [local irreducible] AW CallP CallB CallY
def dtz (n:Int):Dt:=⟨⟨#[]⟩,0,0,[],n⟩
abbrev zdt (n:Int):AV:= .agg [.str ⟨#[]⟩,.i 0,.i 0,.nilsl,.i n]
def oneD (k n:Nat):List Dt:=(List.replicate k (dtz 0)).set n (dtz (-1))
theorem oneD_len (k n:Nat):(oneD k n).length=k:=by simp[oneD]
theorem oneD_get {k n j:Nat} (hj:j<k):(drs (oneD k n)).getD j 0=if j=n then -1 else 0:=by
 simp only[drs,oneD,List.getD_eq_getElem?_getD,List.getElem?_map,List.getElem?_set,List.length_replicate,List.getElem?_replicate]
 by_cases h:n=j
 ·subst h;simp[hj,dtz]
 ·rw[if_neg h,if_neg (Ne.symm h)];simp[hj,dtz]
theorem unk_iff {D:List Dt} {l:List Int} (h:l.any (unkB (dl D))=false):∀ x,x∈l→0≤x∧x<(D.length:Int):=by
 intro x hx
 have:=List.any_eq_false.1 h x hx
 simp only[unkB,dl_len,Bool.or_eq_true,decide_eq_true_eq,not_or] at this
 omega
theorem unk_len {D D':List Dt} {l:List Int} (h:l.any (unkB (dl D))=false) (hl:D'.length=D.length):l.any (unkB (dl D'))=false:=by
 rw[← h];congr 1;funext x;simp only[unkB,dl_len,hl]
theorem one_pan {D:List Dt} {n:Nat} {l:List Int} (h:l.any (unkB (dl D))=false):(fin (oneD D.length n) l).pan=decide ((n:Int)∈l):=by
 have h1:=foldF_panics (drs (oneD D.length n)) l Fa.nil rfl
 have h2:=unk_iff h
 unfold fin
 by_cases hn:(n:Int)∈l
 ·rw[decide_eq_true hn]
  exact h1.2 ⟨n,hn,by rw[Int.toNat_natCast,oneD_get (by have:=h2 n hn;omega),if_pos rfl];decide⟩
 ·rw[decide_eq_false hn]
  cases hp:(l.foldl (stepF (drs (oneD D.length n))) Fa.nil).pan
  ·rfl
  ·obtain⟨x,hx,hlt⟩:=h1.1 hp
   have hx2:=h2 x hx
   rw[oneD_get (by omega)] at hlt
   split at hlt
   ·rename_i e
    exact absurd (show(n:Int)∈l by rw[← e,Int.toNat_of_nonneg hx2.1];exact hx) hn
   ·omega
theorem clo_dl (l:List Dt):CloRow (dl l):=by
 intro x hx c hc
 obtain⟨p,_,rfl⟩:=List.mem_map.1 hx
 simp only[AV.cells,Dt.av,List.mem_cons,List.not_mem_nil,or_false] at hc
 rcases hc with rfl|rfl|rfl|rfl|rfl<;>rfl
theorem Wk_oneD {E:En} {fr:Nat→Option AV} {hp:Nat→Option AObj} {nx:Nat} (X:Nat) {k n:Nat} (hX:hp X=some (.row 5 ((List.replicate k (zdt 0)).set n (zdt (-1))))):Wk E ⟨fr,hp,nx⟩ ⟨fr,updo hp X (some (.row 5 (dl (oneD k n)))),nx⟩:=by
 refine Wk.snpRow X _ hX (by simp[oneD,dl]) (fun i hi=>?_)
 simp only[List.length_set,List.length_replicate] at hi
 simp only[dl,oneD,List.getD_eq_getElem?_getD,List.getElem?_map,List.getElem?_set,List.length_replicate,List.getElem?_replicate]
 by_cases h:n=i
 ·subst h
  simp only[hi,if_true,Option.map_some,Option.getD_some]
  exact .inr ⟨by simp[AV.snapOk,AV.snapOkL],rfl⟩
 ·simp only[if_neg h,hi,if_true,Option.map_some,Option.getD_some]
  exact .inr ⟨by simp[AV.snapOk,AV.snapOkL],rfl⟩
theorem uses_c (w:Wd) (hw:WS w) (l:List Vl) (n:Nat) (o:Ow) (ho:walkL w.h l=some o) (hx:o.ids.any (unkB (dl w.D))=false) (hn:n<w.D.length) (hz:∀ v,v∈l→v.sz≤2 ^ 20) (hl:l.length≤100):PCall Try.prog 26 [w.av,.sl (Vl.avL l),.i (n:Nat)] (.bool (decide ((n:Int)∈o.ids))):=by
 have hD:=hw.D
 have hDn:¬ ((w.D.length:Int)<0):=by omega
 rw[Wd.av_eq]
 refine PCall.intro Try.func26 rfl isf26 (by simp[Try.f26]) (by simp[AV.cloL,AV.clo]) fun E Q hE hN hQ=>K_start ?_
 have hgt:(List.replicate w.D.length (AV.agg [.str ⟨#[]⟩,.i 0,.i 0,.nilsl,.i 0]))[n]? =some (.agg [.str ⟨#[]⟩,.i 0,.i 0,.nilsl,.i 0]):=by simp[hn]
 repeat'(first|apply nx|refine zx ?_|rw[zw]|((first|refine hK _ ?_|refine hKp _ _ ?_);clear hK hKp K Kp;try clear hanc anc)|((with_reducible refine And.intro ?_ ?_);exact zb)|((fail_if_success refine K_stop 4 ?_);(first|refine zr hE fun K Kp hK hKp=>?_|refine zd true mixed hE fun K Kp hK hKp anc hanc=>?_|refine zd false mixed hE fun K Kp hK hKp anc hanc=>?_);simp only[go_sem,lt_dec hn,hgt])|(refine zg (fun hg=>?_) (fun hg=>?_)<;>simp only[go_sem,lt_dec hn,hgt,hg])|(refine zc (fun hc=>?_) (fun hc=>?_)<;>try exact zh hc))
 refine AW.wk (Wk_oneD 6291456 (k:=w.D.length) (n:=n) (by simp[go_sem])) ?_
 refine AW_frz1 7 6291456 (sz:=5) (xs:=dl (oneD w.D.length n)) (by simp only[go_sem]) (by simp only[go_sem]) (clo_dl _) ?_
 repeat'(first|apply nx|refine zx ?_|rw[zw]|((first|refine hK _ ?_|refine hKp _ _ ?_);clear hK hKp K Kp;try clear hanc anc)|((with_reducible refine And.intro ?_ ?_);exact zb)|((first|refine zr hE fun K Kp hK hKp=>?_|refine zd true mixed hE fun K Kp hK hKp anc hanc=>?_|refine zd false mixed hE fun K Kp hK hKp anc hanc=>?_);simp only[go_sem])|(refine zg (fun hg=>?_) (fun hg=>?_)<;>simp only[go_sem,hg])|(refine zc (fun hc=>?_) (fun hc=>?_)<;>try exact zh hc))
 refine K_loop (X:=Nat×Ow) (fun x=>x.1≤l.length∧x.2.Ok w.h∧visL w.h (visE w.h w.h.cells.length) (l.drop x.1) x.2=some o∧(n:Int)∉x.2.ids) (fun x=>mkSt [(1,.sl (Vl.avL l)),(7,.sl (dl (oneD w.D.length n))),(8,.ptr 0 0),(9,.i (x.1:Nat))] [(0,.cells [.sl (cl (closedS w.h x.2).cells),.sl (bl (closedS w.h x.2).arenas)])] 1) (fun x=>l.length - x.1) (0,Ow.nil) ⟨Nat.zero_le _,Ow.nil_ok _,ho,by simp[Ow.nil]⟩ (fun i=>if i=0 then 15728640 else i) ?_ ?_
 ·refine ent_mk (by simp[go_sem]) (by simp[go_sem,closed_nil]) (by simp) (by simp[hN])
 rintro⟨i,p⟩ ⟨hi,hok,hrun,hnp⟩
 simp only at hi hok hrun hnp
 by_cases hlt:i<l.length
 ·obtain⟨v,hv⟩:=get?_of hlt
  rw[drop_of hv,visL] at hrun
  obtain⟨p2,hp2,hrun⟩:=Option.bind_eq_some_iff.1 hrun
  obtain⟨hok2,u,hu,e2⟩:=walk_step hok hp2
  obtain⟨z,hzz⟩:=(visL_keeps (visE_keeps w.h _) _ p2 o hok2 hrun).2.ids
  have hids:o.ids=p.ids++u.ids++z:=by rw[hzz,e2]
  have hxu:u.ids.any (unkB (dl w.D))=false:=by
   rw[hids] at hx;simp only[List.any_append,Bool.or_eq_false_iff] at hx;exact hx.1.2
  have hvz:=hz v (List.mem_of_getElem? hv)
  have k1:=rdrop_call (oneD w.D.length n) (closedS w.h p) v ((hw.h.closed p).sm hvz) (by rw[oneD_len];omega)
  rw[dropS_of hu (unk_len hxu (oneD_len _ _))] at k1
  have hpan:=one_pan (n:=n) hxu
  unfold fin at hpan
  have hln:=drop_len (oneD w.D.length n) ((hw.h.closed p).sm hvz) (by simp only[closedS,clrC_len];have:=hw.c;omega)
  generalize u.ids.foldl (stepF (drs (oneD w.D.length n))) Fa.nil=f at*
  obtain⟨fo,fc,fp⟩:=f
  simp only at hpan
  rw[closed_app w.h p u (p.ids++u.ids), ← e2] at k1
  simp only[resD,Hp.av_eq,Vl.av_eq] at k1
  have u1:IntKind.i64.wrap ((i:Int)+1)=((i+1:Nat):Int):=by rw[wrap64 (by omega) (by omega)];omega
  by_cases hm:(n:Int)∈u.ids
  ·rw[decide_eq_true hm] at hpan
   subst hpan
   repeat'(first|apply nx|refine zx ?_|rw[zw]|((first|refine hK _ ?_|refine hKp _ _ ?_);clear hK hKp K Kp;try clear hanc anc)|((with_reducible refine And.intro ?_ ?_);exact zb)|((first|refine zr hE fun K Kp hK hKp=>?_|refine zd false mixed hE fun K Kp hK hKp anc hanc=>?_|(apply zm;exact zu;exact k1;exact zs;exact zl));simp only[go_sem,lt_dec hlt,hv,Vl.av_eq])|(refine zg (fun hg=>?_) (fun hg=>?_)<;>simp only[go_sem,lt_dec hlt,hv,Vl.av_eq,hg])|(refine zc (fun hc=>?_) (fun hc=>?_)<;>try exact zh hc)|(refine K_ret ?_;refine zt hQ ?_))
   simp[AV.snap,hids,hm]
  ·rw[decide_eq_false hm] at hpan
   subst hpan
   repeat'(first|apply nx|refine zx ?_|rw[zw]|((first|refine hK _ ?_|refine hKp _ _ ?_);clear hK hKp K Kp;try clear hanc anc)|((with_reducible refine And.intro ?_ ?_);exact zb)|((first|refine zr hE fun K Kp hK hKp=>?_|refine zd true mixed hE fun K Kp hK hKp anc hanc=>?_|refine zd false mixed hE fun K Kp hK hKp anc hanc=>?_|(apply zm;exact zu;exact k1;exact zs;exact zl));simp only[go_sem,lt_dec hlt,hv,Vl.av_eq,u1])|(refine zg (fun hg=>?_) (fun hg=>?_)<;>simp only[go_sem,lt_dec hlt,hv,Vl.av_eq,u1,hg])|(refine zc (fun hc=>?_) (fun hc=>?_)<;>try exact zh hc))
   refine⟨(i+1,p2),⟨hlt,hok2,hrun,by rw[e2];simp[hnp,hm]⟩,by omega,fun i=>i,?_⟩
   refine ent_mk (by simp[go_sem]) (by simp[go_sem]) (by simp) (by simp[hN])
 ·obtain rfl:i=l.length:=by omega
  rw[List.drop_length,visL] at hrun
  cases hrun
  repeat'(first|apply nx|refine zx ?_|rw[zw]|((first|refine hK _ ?_|refine hKp _ _ ?_);clear hK hKp K Kp;try clear hanc anc)|((with_reducible refine And.intro ?_ ?_);exact zb)|((first|refine zr hE fun K Kp hK hKp=>?_|refine zd false mixed hE fun K Kp hK hKp anc hanc=>?_);simp only[go_sem,ge_dec])|(refine zg (fun hg=>?_) (fun hg=>?_)<;>simp only[go_sem,ge_dec,hg])|(refine zc (fun hc=>?_) (fun hc=>?_)<;>try exact zh hc)|(refine K_ret ?_;refine zt hQ ?_))
  simp[AV.snap,hnp]
def badP (D:List Dt) (l:List Int) (i:Nat):Prop:=∃ (j:Nat) (d:Dt),j<i∧D[j]? =some d∧d.dr<0∧(j:Int)∈l
theorem badP_step {D:List Dt} {l:List Int} {i:Nat} {d:Dt} (hd:D[i]? =some d):badP D l (i+1)↔badP D l i∨(d.dr<0∧(i:Int)∈l):=by
 constructor
 ·rintro⟨j,e,h1,h2,h3,h4⟩
  by_cases hj:j=i
  ·subst hj
   rw[hd] at h2
   cases h2
   exact .inr ⟨h3,h4⟩
  ·exact .inl ⟨j,e,by omega,h2,h3,h4⟩
 ·rintro(⟨j,e,h1,h2,h3,h4⟩|⟨h3,h4⟩)
  ·exact⟨j,e,by omega,h2,h3,h4⟩
  ·exact⟨i,d,by omega,hd,h3,h4⟩
theorem badP_all {D:List Dt} {l:List Int} (hx:l.any (unkB (dl D))=false):badP D l D.length↔(fin D l).pan=true:=by
 unfold fin
 rw[foldF_panics (drs D) l Fa.nil rfl]
 have hu:=unk_iff hx
 constructor
 ·rintro⟨j,e,h1,h2,h3,h4⟩
  exact⟨j,h4,by rw[Int.toNat_natCast,drs_get h2];exact h3⟩
 ·rintro⟨x,h1,h2⟩
  have:=hu x h1
  obtain⟨d,hd⟩:=get?_of (show x.toNat<D.length by omega)
  rw[drs_get hd] at h2
  exact⟨x.toNat,d,by omega,hd,h2,by rw[Int.toNat_of_nonneg this.1];exact h1⟩
theorem accounts_c (w:Wd) (tk:Int) (hg:WG w):PCall Try.prog 6 [w.av,.i tk] (.bool true):=by
 have k0:=head_c
 have k1:=right_c w tk hg
 by_cases hr:rightW w tk
 case neg=>
  rw[decide_eq_false hr] at k1
  rw[Wd.av_eq] at*
  refine PCall.intro Try.func6 rfl isf6 (by simp[Try.f6]) (by simp[AV.cloL,AV.clo]) fun E Q hE hN hQ=>K_start ?_
  repeat'(first|apply nx|refine zx ?_|rw[zw]|((first|refine hK _ ?_|refine hKp _ _ ?_);clear hK hKp K Kp;try clear hanc anc)|((with_reducible refine And.intro ?_ ?_);exact zb)|((first|refine zr hE fun K Kp hK hKp=>?_|refine zd false mixed hE fun K Kp hK hKp anc hanc=>?_|(apply zm;exact zu;(first|exact k0|exact k1);exact zs;exact zl));simp only[go_sem])|(refine zg (fun hg=>?_) (fun hg=>?_)<;>simp only[go_sem,hg])|(refine zc (fun hc=>?_) (fun hc=>?_)<;>try exact zh hc)|(refine K_ret ?_;refine zt hQ ?_))
  all_goals simp[AV.snap]
 rw[decide_eq_true hr] at k1
 obtain⟨m,t,o,rfl,ht,h0,hrd,ho,hx,hw⟩:=right_facts hg hr
 have hml:m<w.ts.length:=(List.getElem?_eq_some_iff.1 ht).1
 have hmem:=List.mem_of_getElem? ht
 have k3:=values_c t (hw.tb t hmem)
 have hsm:=hw.sml hmem
 have hbd:=walk_bd hw hmem ho
 have k4:=unwind_c w m hw
 rw[endU hrd ho hx] at k4
 have hcd:=hw.k
 have hdp:=hw.d
 have hDl:=hw.D
 have hz:=valsT_sz (hw.tv t hmem)
 have hvl:=valsT_len (hw.tb t hmem)
 have hus:=fun n (hn:n<w.D.length)=>uses_c w hw (valsT t) n o ho hx hn hz (by omega)
 have hcnt:=foldF_cnt (drs w.D) o.ids Fa.nil rfl
 have hbad:=badP_all hx
 have hc0:Fa.nil.cnt=0:=rfl
 rw[hc0,show o.ids.foldl (stepF (drs w.D)) Fa.nil=fin w.D o.ids from rfl] at hcnt
 simp only[setE,edU,Wd.av_eq] at k4
 generalize fin w.D o.ids=ff at*
 obtain⟨fo,fc,fp⟩:=ff
 simp only at hcnt hbad k4
 have hfc:fc≤o.ids.length:=by
  cases fp
  ·have:=hcnt.1 rfl;omega
  ·have:=hcnt.2 rfl;omega
 have hta:(w.ts.set m { t with st:=if fp=true then 3 else 2,fs:=[],ls:=[] })[m]? =some { t with st:=if fp=true then 3 else 2,fs:=[],ls:=[] } :=by rw[List.getElem?_set_self hml]
 have htl:(w.ts.set m { t with st:=if fp=true then 3 else 2,fs:=[],ls:=[] }).length=w.ts.length:=List.length_set ..
 generalize w.ts.set m { t with st:=if fp=true then 3 else 2,fs:=[],ls:=[] } =tsa at*
 have hmla:m<tsa.length:=by omega
 have q1:((tsa.length:Int) !=(w.ts.length:Int))=false:=by simp[htl]
 have u1:IntKind.i64.wrap (w.dp+(fc:Int) - w.dp)=(fc:Int):=by rw[wrap64 (by omega) (by omega)];omega
 have u2:IntKind.i64.wrap ((fc:Int)+(w.cd+((o.ids.length:Int) - (fc:Int))))=w.cd+(o.ids.length:Int):=by rw[wrap64 (by omega) (by omega)];omega
 have u3:IntKind.i64.wrap (w.cd+(o.ids.length:Int) - w.cd)=(o.ids.length:Int):=by rw[wrap64 (by omega) (by omega)];omega
 have q2:decide (w.dp+(fc:Int)<w.dp)=false:=decide_eq_false (by omega)
 have q3:decide (w.cd+((o.ids.length:Int) - (fc:Int))<w.cd)=false:=decide_eq_false (by omega)
 rw[Tsk.av_eq] at k3
 rw[Wd.av_eq] at*
 refine PCall.intro Try.func6 rfl isf6 (by simp[Try.f6]) (by simp[AV.cloL,AV.clo]) fun E Q hE hN hQ=>K_start ?_
 repeat'(first|apply nx|refine zx ?_|rw[zw]|((first|refine hK _ ?_|refine hKp _ _ ?_);clear hK hKp K Kp;try clear hanc anc)|((with_reducible refine And.intro ?_ ?_);exact zb)|((first|refine zr hE fun K Kp hK hKp=>?_|refine zd true mixed hE fun K Kp hK hKp anc hanc=>?_|refine zd false mixed hE fun K Kp hK hKp anc hanc=>?_|(apply zm;exact zu;(first|exact k0|exact k1|exact k3);exact zs;exact zl));simp only[go_sem,lt_dec hml,ht,Tsk.av_eq])|(refine zg (fun hg=>?_) (fun hg=>?_)<;>simp only[go_sem,lt_dec hml,ht,Tsk.av_eq,hg])|(refine zc (fun hc=>?_) (fun hc=>?_)<;>try exact zh hc))
 refine Hold.mk (walked_use hsm 18874368 rfl fun r hpn hR b0 b1 b2 hold=>?_)
 have g0:=hold 0 (.cells [.sl (dl w.D),.sl w.R,.i w.mn,.sl (cl w.h.cells),.sl (bl w.h.arenas),.sl (tsl w.ts),.sl (chl w.cn),.sl (oul w.ou),.i w.md,.i w.dp,.i w.cd]) (by simp[go_sem])
 simp only[go_sem,putf]
 refine hK _ ?_;clear hK hKp K Kp;try clear hanc anc
 repeat(first|refine Kq_norm_code ?_|refine Kq_norm_blk ?_|refine Kq_norm_lp ?_)
 rw[ho] at hR
 obtain rfl:r=rs w.h o:=hR
 refine AW.ent (σ':=mkSt [(1,.i (m:Nat)),(2,.ptr 0 0),(5,.bool true),(6,.sl (Vl.avL (valsT t))),(7,.ptr 1 0)] [(0,.cells [.sl (dl w.D),.sl w.R,.i w.mn,.sl (cl w.h.cells),.sl (bl w.h.arenas),.sl (tsl w.ts),.sl (chl w.cn),.sl (oul w.ou),.i w.md,.i w.dp,.i w.cd]),(1,.cells [.sl (cl w.h.cells),.sl (bl w.h.arenas),.rw 2,.rw 3,.i o.ids.length,.i (mxI o.ids),.bool true]),(2,.row 1 (bl (marks w.h.cells.length o.cs))),(3,.row 1 (bl (marks w.h.arenas.length o.ags)))] 4) (fun i=>if i=0 then 0 else 18874367+i) ?_ ?_
 ·refine ent_mk (by simp[go_sem]) (by simp[go_sem,g0,b0,b1,b2,rs]) (by simp) (by simp[hN])
 clear g0 b0 b1 b2 hold
 repeat'(first|apply nx|refine zx ?_|rw[zw]|((first|refine hK _ ?_|refine hKp _ _ ?_);clear hK hKp K Kp;try clear hanc anc)|((with_reducible refine And.intro ?_ ?_);exact zb)|((first|refine zr hE fun K Kp hK hKp=>?_|refine zd true mixed hE fun K Kp hK hKp anc hanc=>?_|refine zd false mixed hE fun K Kp hK hKp anc hanc=>?_|(apply zm;exact zu;exact k4;exact zs;exact zl));simp only[go_sem,lt_dec hml,ht,Tsk.av_eq,q1,q2,q3,u1,u2,u3,bne_self_eq_false])|(refine zg (fun hg=>?_) (fun hg=>?_)<;>simp only[go_sem,lt_dec hml,ht,Tsk.av_eq,q1,q2,q3,u1,u2,u3,bne_self_eq_false,hg])|(refine zc (fun hc=>?_) (fun hc=>?_)<;>try exact zh hc))
 refine K_loop (X:=Nat) (fun i=>i≤w.D.length) (fun i=>mkSt [(1,.i (m:Nat)),(2,.ptr 0 0),(5,.bool true),(6,.sl (Vl.avL (valsT t))),(8,.ptr 1 0),(9,.bool (decide (badP w.D o.ids i))),(10,.i (i:Nat))] [(0,.cells [.sl (dl w.D),.sl w.R,.i w.mn,.sl (cl w.h.cells),.sl (bl w.h.arenas),.sl (tsl w.ts),.sl (chl w.cn),.sl (oul w.ou),.i w.md,.i w.dp,.i w.cd]),
  (1,.cells [.sl (dl w.D),.sl w.R,.i w.mn,.sl (cl (closedS w.h o).cells),.sl (bl (closedS w.h o).arenas),.sl (tsl tsa),.sl (chl w.cn),.sl (oul (w.ou++List.map (fun p=>((m:Int),p)) fo)),.i w.md,.i (w.dp+ ↑fc),.i (w.cd+(↑o.ids.length - ↑fc))])] 2) (fun i=>w.D.length - i) 0 (Nat.zero_le _) (fun i=>if i=1 then 3145732 else i) ?_ ?_
 ·have hb0:decide (badP w.D o.ids 0)=false:=decide_eq_false (by rintro⟨j,e,h,_⟩;omega)
  refine ent_mk (by simp[go_sem,hb0]) (by simp[go_sem]) (by simp) (by simp[hN])
 intro i hi
 by_cases hlt:i<w.D.length
 ·obtain⟨d,hd⟩:=get?_of hlt
  have hst:=badP_step (l:=o.ids) hd
  have k5:=hus i hlt
  have u4:IntKind.i64.wrap ((i:Int)+1)=((i+1:Nat):Int):=by rw[wrap64 (by omega) (by omega)];omega
  have hfin:∀ b,b=decide (badP w.D o.ids (i+1))→b=decide (badP w.D o.ids (i+1)):=fun _ h=>h
  by_cases hb:badP w.D o.ids i
  ·have e1:decide (badP w.D o.ids (i+1))=true:=decide_eq_true (hst.2 (.inl hb))
   have e0:decide (badP w.D o.ids i)=true:=decide_eq_true hb
   rw[e0]
   repeat'(first|apply nx|refine zx ?_|rw[zw]|((first|refine hK _ ?_|refine hKp _ _ ?_);clear hK hKp K Kp;try clear hanc anc)|((with_reducible refine And.intro ?_ ?_);exact zb)|((first|refine zr hE fun K Kp hK hKp=>?_|refine zd true mixed hE fun K Kp hK hKp anc hanc=>?_|refine zd false mixed hE fun K Kp hK hKp anc hanc=>?_|(apply zm;exact zu;exact k5;exact zs;exact zl));simp only[go_sem,lt_dec hlt,hd,Dt.av,u4])|(refine zg (fun hg=>?_) (fun hg=>?_)<;>simp only[go_sem,lt_dec hlt,hd,Dt.av,u4,hg])|(refine zc (fun hc=>?_) (fun hc=>?_)<;>try exact zh hc))
   refine⟨i+1,hlt,by omega,fun i=>i,?_⟩
   rw[e1]
   refine ent_mk (by simp[go_sem]) (by simp[go_sem]) (by simp) (by simp[hN])
  ·have e0:decide (badP w.D o.ids i)=false:=decide_eq_false hb
   rw[e0]
   by_cases h1:d.dr<0
   ·by_cases h2:(i:Int)∈o.ids
    ·have e1:decide (badP w.D o.ids (i+1))=true:=decide_eq_true (hst.2 (.inr ⟨h1,h2⟩))
     rw[decide_eq_true h2] at k5
     have q4:decide (d.dr<0)=true:=decide_eq_true h1
     repeat'(first|apply nx|refine zx ?_|rw[zw]|((first|refine hK _ ?_|refine hKp _ _ ?_);clear hK hKp K Kp;try clear hanc anc)|((with_reducible refine And.intro ?_ ?_);exact zb)|((first|refine zr hE fun K Kp hK hKp=>?_|refine zd true mixed hE fun K Kp hK hKp anc hanc=>?_|refine zd false mixed hE fun K Kp hK hKp anc hanc=>?_|(apply zm;exact zu;exact k5;exact zs;exact zl));simp only[go_sem,lt_dec hlt,hd,Dt.av,u4,q4])|(refine zg (fun hg=>?_) (fun hg=>?_)<;>simp only[go_sem,lt_dec hlt,hd,Dt.av,u4,q4,hg])|(refine zc (fun hc=>?_) (fun hc=>?_)<;>try exact zh hc))
     refine⟨i+1,hlt,by omega,fun i=>i,?_⟩
     rw[e1]
     refine ent_mk (by simp[go_sem]) (by simp[go_sem]) (by simp) (by simp[hN])
    ·have e1:decide (badP w.D o.ids (i+1))=false:=decide_eq_false (by rw[hst];rintro(h|⟨_,h⟩);exact hb h;exact h2 h)
     rw[decide_eq_false h2] at k5
     have q4:decide (d.dr<0)=true:=decide_eq_true h1
     repeat'(first|apply nx|refine zx ?_|rw[zw]|((first|refine hK _ ?_|refine hKp _ _ ?_);clear hK hKp K Kp;try clear hanc anc)|((with_reducible refine And.intro ?_ ?_);exact zb)|((first|refine zr hE fun K Kp hK hKp=>?_|refine zd true mixed hE fun K Kp hK hKp anc hanc=>?_|refine zd false mixed hE fun K Kp hK hKp anc hanc=>?_|(apply zm;exact zu;exact k5;exact zs;exact zl));simp only[go_sem,lt_dec hlt,hd,Dt.av,u4,q4])|(refine zg (fun hg=>?_) (fun hg=>?_)<;>simp only[go_sem,lt_dec hlt,hd,Dt.av,u4,q4,hg])|(refine zc (fun hc=>?_) (fun hc=>?_)<;>try exact zh hc))
     refine⟨i+1,hlt,by omega,fun i=>i,?_⟩
     rw[e1]
     refine ent_mk (by simp[go_sem]) (by simp[go_sem]) (by simp) (by simp[hN])
   ·have e1:decide (badP w.D o.ids (i+1))=false:=decide_eq_false (by rw[hst];rintro(h|⟨h,_⟩);exact hb h;exact h1 h)
    have q4:decide (d.dr<0)=false:=decide_eq_false h1
    repeat'(first|apply nx|refine zx ?_|rw[zw]|((first|refine hK _ ?_|refine hKp _ _ ?_);clear hK hKp K Kp;try clear hanc anc)|((with_reducible refine And.intro ?_ ?_);exact zb)|((first|refine zr hE fun K Kp hK hKp=>?_|refine zd true mixed hE fun K Kp hK hKp anc hanc=>?_|refine zd false mixed hE fun K Kp hK hKp anc hanc=>?_|(apply zm;exact zu;exact k5;exact zs;exact zl));simp only[go_sem,lt_dec hlt,hd,Dt.av,u4,q4])|(refine zg (fun hg=>?_) (fun hg=>?_)<;>simp only[go_sem,lt_dec hlt,hd,Dt.av,u4,q4,hg])|(refine zc (fun hc=>?_) (fun hc=>?_)<;>try exact zh hc))
    refine⟨i+1,hlt,by omega,fun i=>i,?_⟩
    rw[e1]
    refine ent_mk (by simp[go_sem]) (by simp[go_sem]) (by simp) (by simp[hN])
 obtain rfl:i=w.D.length:=by omega
 cases fp
 ·have e0:decide (badP w.D o.ids w.D.length)=false:=decide_eq_false (by rw[hbad];decide)
  have hl:=hcnt.1 rfl
  have q5:(w.cd+((o.ids.length:Int) - (fc:Int))==w.cd)=true:=by rw[beq_iff_eq];omega
  rw[if_neg (by decide)] at hta
  rw[e0]
  repeat'(first|apply nx|refine zx ?_|rw[zw]|((first|refine hK _ ?_|refine hKp _ _ ?_);clear hK hKp K Kp;try clear hanc anc)|((with_reducible refine And.intro ?_ ?_);exact zb)|((first|refine zr hE fun K Kp hK hKp=>?_|refine zd false mixed hE fun K Kp hK hKp anc hanc=>?_);simp only[go_sem,ge_dec,hta,Tsk.av_eq,lt_dec hmla,q5])|(refine zg (fun hg=>?_) (fun hg=>?_)<;>simp only[go_sem,ge_dec,hta,Tsk.av_eq,lt_dec hmla,q5,hg])|(refine zc (fun hc=>?_) (fun hc=>?_)<;>try exact zh hc)|(refine K_ret ?_;refine zt hQ ?_))
  all_goals simp[AV.snap]
 ·have e0:decide (badP w.D o.ids w.D.length)=true:=decide_eq_true (by rw[hbad])
  have hl:=hcnt.2 rfl
  have q5:decide (w.dp<w.dp+(fc:Int))=true:=decide_eq_true (by omega)
  rw[if_pos rfl] at hta
  rw[e0]
  repeat'(first|apply nx|refine zx ?_|rw[zw]|((first|refine hK _ ?_|refine hKp _ _ ?_);clear hK hKp K Kp;try clear hanc anc)|((with_reducible refine And.intro ?_ ?_);exact zb)|((first|refine zr hE fun K Kp hK hKp=>?_|refine zd false mixed hE fun K Kp hK hKp anc hanc=>?_);simp only[go_sem,ge_dec,hta,Tsk.av_eq,lt_dec hmla,q5])|(refine zg (fun hg=>?_) (fun hg=>?_)<;>simp only[go_sem,ge_dec,hta,Tsk.av_eq,lt_dec hmla,q5,hg])|(refine zc (fun hc=>?_) (fun hc=>?_)<;>try exact zh hc)|(refine K_ret ?_;refine zt hQ ?_))
  all_goals simp[AV.snap]
end Go.Proofs.Ytfgjjnfdcgkpoaa
