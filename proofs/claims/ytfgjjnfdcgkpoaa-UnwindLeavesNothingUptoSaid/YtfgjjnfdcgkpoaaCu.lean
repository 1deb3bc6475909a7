/- A part of the proof: an abstract machine for the walks, and what the walked functions compute. -/
import Derived.Test.YtfgjjnfdcgkpoaaCq
import Derived.Test.YtfgjjnfdcgkpoaaHz
import Derived.Test.YtfgjjnfdcgkpoaaCr
import Derived.Test.YtfgjjnfdcgkpoaaCk
set_option linter.unusedVariables false
set_option linter.unusedSimpArgs false
set_option maxHeartbeats 4000000
set_option maxRecDepth 100000
namespace Go.Proofs.Ytfgjjnfdcgkpoaa
open Go.Am Go.Proofs Go.Hv
open Classical
theorem closed_live {h:Hp} {o:Ow} {j:Nat} {c:Cl} (hj:(closedS h o).cells[j]? =some c) (hl:c.live=true):h.cells[j]? =some c:=by
 simp only[closedS] at hj
 rw[clrC_get] at hj
 split at hj
 ·cases hj;cases hl
 ·exact hj
theorem closed_out {h:Hp} {o:Ow} {j:Nat} (hj:j∉o.cs):(closedS h o).cells[j]? =h.cells[j]? :=by
 simp only[closedS]
 rw[clrC_get,if_neg (fun hh=>hj hh.1)]
theorem closed_outA {h:Hp} {o:Ow} {j:Nat} (hj:j∉o.ags):(closedS h o).arenas[j]? =h.arenas[j]? :=by
 simp only[closedS]
 rw[clrA_get,if_neg (fun hh=>hj hh.1)]
theorem agr_closed {h:Hp} {o:Ow} {dl dm:List Nat} {k:Nat} (hk:h.cells.length≤k) (h1:∀ j,j∈dl→j∉o.cs) (h2:∀ j,j∈dm→j∉o.ags):Agr h (closedS h o) Ow.nil k dl dm:=
 ⟨Ow.nil_ok _,by simp only[closedS,clrC_len];omega,fun j c hj hl _=>closed_live hj hl,fun j hj=>⟨closed_out (h1 j hj),by simp[Ow.nil]⟩,fun j hj=>⟨closed_outA (h2 j hj),by simp[Ow.nil]⟩⟩
theorem closed_nil (h:Hp):closedS h Ow.nil=h:=by
 cases h;rfl
theorem closed_app (h:Hp) (a b:Ow) (x:List Int):closedS (closedS h a) b=closedS h ⟨a.cs++b.cs,a.ags++b.ags,x⟩:=by
 unfold closedS
 congr 1
 ·apply List.ext_getElem?
  intro j
  simp only[clrC_get,clrC_len,List.mem_append]
  by_cases h1:j∈a.cs<;>by_cases h2:j∈b.cs<;>simp[h1,h2]<;>omega
 ·apply List.ext_getElem?
  intro j
  simp only[clrA_get,clrA_len,List.mem_append]
  by_cases h1:j∈a.ags<;>by_cases h2:j∈b.ags<;>simp[h1,h2]<;>omega
theorem walk_step {h:Hp} {v:Vl} {o o':Ow} (ho:o.Ok h) (hv:visV h (visE h h.cells.length) v o=some o'):o'.Ok h∧∃ u,walkS (closedS h o) v=some u∧o'=⟨o.cs++u.cs,o.ags++u.ags,o.ids++u.ids⟩:=by
 have hok:=(visV_keeps (visE_keeps h _) v o o' ho hv).1
 obtain⟨dl,dm,di,rfl,g⟩:=visV_other ho hv
 refine⟨hok,⟨dl,dm,di⟩,?_,rfl⟩
 have n1:=(List.nodup_append.1 hok.nd).2.2
 have n2:=(List.nodup_append.1 hok.and).2.2
 have:=g (closedS h o) h.cells.length Ow.nil (agr_closed (Nat.le_refl _) (fun j hj hh=>n1 j hh j hj rfl) (fun j hj hh=>n2 j hh j hj rfl))
 unfold walkS
 rw[show(closedS h o).cells.length=h.cells.length from by simp only[closedS,clrC_len],this]
 rfl
theorem dropS_of {D:List Dt} {h:Hp} {v:Vl} {o:Ow} (ho:walkS h v=some o) (hx:o.ids.any (unkB (dl D))=false):dropS D h v=(closedS h o,o.ids.foldl (stepF (drs D)) Fa.nil,0):=by
 unfold dropS
 rw[ho]
 simp only
 rw[if_neg (by simp[hx]),dropAll_ids ho]
theorem closeS_of {h:Hp} {v:Vl} {o:Ow} (ho:walkS h v=some o):closeS h v=(closedS h o,0):=by
 unfold closeS
 rw[ho]
theorem countS_of {h:Hp} {v:Vl} {o:Ow} (ho:walkS h v=some o):countS h v=o.ids.length:=by
 unfold countS
 rw[ho]
def Fa.pre (a f:Fa):Fa:=⟨a.out++f.out,a.cnt+f.cnt,f.pan⟩
theorem stepF_pre (d:List Int) (a f:Fa) (x:Int):stepF d (Fa.pre a f) x=Fa.pre a (stepF d f x):=by
 unfold stepF
 by_cases h:f.pan=true
 ·rw[if_pos h,if_pos (show(Fa.pre a f).pan=true from h)]
 ·rw[if_neg h,if_neg (show ¬ (Fa.pre a f).pan=true from h)]
  simp only[Fa.add,Fa.pre,Fa.mk.injEq,and_true,Nat.add_assoc]
  split<;>simp
theorem foldF_pre (d:List Int) (a:Fa):∀ (l:List Int) (f:Fa),l.foldl (stepF d) (Fa.pre a f)=Fa.pre a (l.foldl (stepF d) f)
 | [],_=>rfl
 |x::l,f=>by rw[List.foldl_cons,List.foldl_cons,stepF_pre,foldF_pre d a l]
theorem foldF_from (d:List Int) (a:Fa) (h:a.pan=false) (l:List Int):l.foldl (stepF d) a=Fa.pre a (l.foldl (stepF d) Fa.nil):=by
 rw[← foldF_pre]
 congr 1
 cases a
 simp only at h
 subst h
 simp[Fa.pre,Fa.nil]
def fin (D:List Dt) (l:List Int):Fa:=l.foldl (stepF (drs D)) Fa.nil
theorem stD_of {D : List Dt} {tk : Int} {e : Ed} {v : Vl} {o : Ow} (ho : walkS e.h v = some o) (hx : o.ids.any (unkB (dl D)) = false) :
    stD D tk e v=⟨closedS e.h o,e.ou++(fin D o.ids).out.map (fun p=>(tk,p)),e.dp+((fin D o.ids).cnt:Int),e.cd+((o.ids.length:Int) - ((fin D o.ids).cnt:Int)),if(fin D o.ids).pan then 3 else e.st,(fin D o.ids).pan⟩:=by
  unfold stD
  simp only[dropS_of ho hx,countS_of ho]
  rfl
theorem stS_of {e:Ed} {v:Vl} {o:Ow} (ho:walkS e.h v=some o):stS e v= { e with h:=closedS e.h o,cd:=e.cd+(o.ids.length:Int) } :=by
 unfold stS
 simp only[closeS_of ho,countS_of ho,if_true]
def edU (w:Wd) (tk:Int) (o:Ow):Ed:=⟨closedS w.h o,w.ou++(fin w.D o.ids).out.map (fun p=>(tk,p)),w.dp+((fin w.D o.ids).cnt:Int),w.cd+((o.ids.length:Int) - ((fin w.D o.ids).cnt:Int)),if(fin w.D o.ids).pan then 3 else 2,(fin w.D o.ids).pan⟩
def edB (w:Wd) (st:Int) (o:Ow):Ed:=⟨closedS w.h o,w.ou,w.dp,w.cd+(o.ids.length:Int),st,true⟩
theorem edU_step {w:Wd} {tk:Int} {v:Vl} {o o':Ow} (ho:o.Ok w.h) (hv:visV w.h (visE w.h w.h.cells.length) v o=some o') (hx:o'.ids.any (unkB (dl w.D))=false):stE w.D tk (edU w tk o) v=edU w tk o':=by
 obtain⟨_,u,hu,rfl⟩:=walk_step ho hv
 simp only[List.any_append,Bool.or_eq_false_iff] at hx
 have hf:fin w.D (o.ids++u.ids)=u.ids.foldl (stepF (drs w.D)) (fin w.D o.ids):=List.foldl_append ..
 unfold stE
 cases hp:(fin w.D o.ids).pan
 ·rw[if_neg (by simp[edU,hp]),stD_of (e:=edU w tk o) hu hx.2]
  replace hf:fin w.D (o.ids++u.ids)=Fa.pre (fin w.D o.ids) (fin w.D u.ids):=by rw[hf,foldF_from _ _ hp];rfl
  simp only[edU,hf,hp,Fa.pre,closed_app w.h o u (o.ids++u.ids),List.map_append,List.append_assoc,List.length_append,Ed.mk.injEq,true_and,Bool.false_eq_true,if_false,and_true]
  refine⟨by omega,by omega⟩
 ·rw[if_pos (by simp[edU,hp]),stS_of (e:=edU w tk o) hu]
  rw[foldF_pan _ _ _ hp] at hf
  simp only[edU,hf,closed_app w.h o u (o.ids++u.ids),List.length_append,Ed.mk.injEq,true_and,and_true]
  omega
theorem edB_step {w:Wd} {tk st:Int} {v:Vl} {o o':Ow} (ho:o.Ok w.h) (hv:visV w.h (visE w.h w.h.cells.length) v o=some o'):stE w.D tk (edB w st o) v=edB w st o':=by
 obtain⟨_,u,hu,rfl⟩:=walk_step ho hv
 unfold stE
 rw[if_pos (show(edB w st o).sh=true from rfl),stS_of (e:=edB w st o) hu]
 simp only[edB,closed_app w.h o u (o.ids++u.ids),List.length_append,Ed.mk.injEq,true_and,and_true]
 omega
theorem edU_run {w:Wd} {tk:Int} :∀ (l:List Vl) (o o':Ow),o.Ok w.h→visL w.h (visE w.h w.h.cells.length) l o=some o'→o'.ids.any (unkB (dl w.D))=false→l.foldl (stE w.D tk) (edU w tk o)=edU w tk o'
 | [],o,o',ho,hv,hx=>by rw[visL] at hv;cases hv;rfl
 |v::l,o,o',ho,hv,hx=>by
  rw[visL] at hv
  obtain⟨o1,h1,h2⟩:=Option.bind_eq_some_iff.1 hv
  have ok1:=(walk_step ho h1).1
  obtain⟨z,hz⟩:=(visL_keeps (visE_keeps w.h _) l o1 o' ok1 h2).2.ids
  rw[List.foldl_cons,edU_step ho h1 (by rw[hz] at hx;simp only[List.any_append,Bool.or_eq_false_iff] at hx;exact hx.1)]
  exact edU_run l o1 o' ok1 h2 hx
theorem edB_run {w:Wd} {tk st:Int} :∀ (l:List Vl) (o o':Ow),o.Ok w.h→visL w.h (visE w.h w.h.cells.length) l o=some o'→l.foldl (stE w.D tk) (edB w st o)=edB w st o'
 | [],o,o',ho,hv=>by rw[visL] at hv;cases hv;rfl
 |v::l,o,o',ho,hv=>by
  rw[visL] at hv
  obtain⟨o1,h1,h2⟩:=Option.bind_eq_some_iff.1 hv
  rw[List.foldl_cons,edB_step ho h1]
  exact edB_run l o1 o' (walk_step ho h1).1 h2
theorem runU {w:Wd} {tk:Int} {t:Tsk} {o:Ow} (ho:walkL w.h (valsT t)=some o) (hx:o.ids.any (unkB (dl w.D))=false):runE' w tk 2 false t=edU w tk o:=by
 unfold runE'
 rw[← edU_run (valsT t) Ow.nil o (Ow.nil_ok _) ho hx]
 congr 1
 simp[edU,Wd.ed,closed_nil,fin,Fa.nil,Ow.nil]
 exact(closed_nil w.h).symm
theorem runB {w:Wd} {tk st:Int} {t:Tsk} {o:Ow} (ho:walkL w.h (valsT t)=some o):runE' w tk st true t=edB w st o:=by
 unfold runE'
 rw[← edB_run (valsT t) Ow.nil o (Ow.nil_ok _) ho]
 congr 1
 simp[edB,Wd.ed,closed_nil,Ow.nil]
 exact(closed_nil w.h).symm
end Go.Proofs.Ytfgjjnfdcgkpoaa

set_option maxHeartbeats 4000000
set_option maxRecDepth 100000
namespace Go.Proofs.Ytfgjjnfdcgkpoaa
open Go.Am Go.Proofs Go.Hv
open Classical
attribute [local irreducible] AW CallP CallB CallY
theorem right_facts {w:Wd} {tk:Int} (hg:WG w) (hr:rightW w tk):∃ (m:Nat) (t:Tsk) (o:Ow),tk=m∧w.ts[m]? =some t∧t.st=0∧readyT w m=some t∧walkL w.h (valsT t)=some o∧o.ids.any (unkB (dl w.D))=false∧WS w:=by
 obtain⟨hf,o,ho,hid⟩:=hr
 unfold walkT at ho
 cases ht:readyT w tk with
 |none=>rw[ht] at ho;cases ho
 |some t=>
 rw[ht] at ho
 replace ho:walkL w.h (valsT t)=some o:=ho
 obtain⟨m,rfl,h1,h2⟩:=ready_some ht
 refine⟨m,t,o,rfl,h1,h2,ht,ho,?_,hg.ws hf⟩
 rw[← mx_any _ _ (by have:=hg.D;omega),decide_eq_false_iff_not]
 exact Int.not_lt.2 hid
def setE (w:Wd) (m:Nat) (t:Tsk) (e:Ed):Wd:= { w with h:=e.h,ts:=w.ts.set m { t with st:=e.st,fs:=[],ls:=[] },ou:=e.ou,dp:=e.dp,cd:=e.cd }
theorem endU {w:Wd} {m:Nat} {t:Tsk} {o:Ow} (hr:readyT w m=some t) (ho:walkL w.h (valsT t)=some o) (hx:o.ids.any (unkB (dl w.D))=false):endW w m 2 false=setE w m t (edU w m o):=by
 unfold endW
 rw[hr]
 simp only[runU ho hx]
 rfl
theorem endB {w:Wd} {m:Nat} {st:Int} {t:Tsk} {o:Ow} (hr:readyT w m=some t) (ho:walkL w.h (valsT t)=some o):endW w m st true=setE w m t (edB w st o):=by
 unfold endW
 rw[hr]
 simp only[runB ho]
 rfl
theorem walk_bd {w:Wd} (hw:WS w) {t:Tsk} {o:Ow} (ht:t∈w.ts) (ho:walkL w.h (valsT t)=some o):(o.ids.length:Int)≤64*2 ^ 30:=by
 have hb:=(run_gb hw ht 0 0 true).k.2
 have hv:=valsT_len (hw.tb t ht)
 rw[runB ho] at hb
 simp only[edB] at hb
 have:=(run_gb (w:= { w with cd:=2 ^ 40 }) ⟨hw.h,hw.c,hw.t,hw.tb,hw.tv,hw.D,hw.o,hw.d,⟨by show -(2 ^ 40)≤(2 ^ 40:Int);decide,by show(2 ^ 40:Int)≤2 ^ 40;decide⟩⟩ ht 0 0 true).k.2
 rw[runB (w:= { w with cd:=2 ^ 40 }) ho] at this
 simp only[edB] at this
 omega
theorem leaves_c (w:Wd) (tk st:Int) (hg:WG w):PCall Try.prog 5 [w.av,.i tk,.i st] (.bool true):=by
 have k0:=head_c
 have k1:=right_c w tk hg
 by_cases hr:rightW w tk
 case neg=>
  rw[decide_eq_false hr] at k1
  rw[Wd.av_eq] at*
  refine PCall.intro Try.func5 rfl isf5 (by simp[Try.f5]) (by simp[AV.cloL,AV.clo]) fun E Q hE hN hQ=>K_start ?_
  repeat'(first|apply nx|refine zx ?_|rw[zw]|((first|refine hK _ ?_|refine hKp _ _ ?_);clear hK hKp K Kp;try clear hanc anc)|((with_reducible refine And.intro ?_ ?_);exact zb)|((first|refine zr hE fun K Kp hK hKp=>?_|refine zd false mixed hE fun K Kp hK hKp anc hanc=>?_|(apply zm;exact zu;(first|exact k0|exact k1);exact zs;exact zl));simp only[go_sem])|(refine zg (fun hg=>?_) (fun hg=>?_)<;>simp only[go_sem,hg])|(refine zc (fun hc=>?_) (fun hc=>?_)<;>try exact zh hc)|(refine K_ret ?_;refine zt hQ ?_))
  all_goals simp[AV.snap]
 rw[decide_eq_true hr] at k1
 obtain⟨m,t,o,rfl,ht,h0,hrd,ho,hx,hw⟩:=right_facts hg hr
 have hml:m<w.ts.length:=(List.getElem?_eq_some_iff.1 ht).1
 have hmem:=List.mem_of_getElem? ht
 have k3:=values_c t (hw.tb t hmem)
 have hsm:=hw.sml hmem
 have hbd:=walk_bd hw hmem ho
 have k4:=unwind_c w m hw
 have k5:=abandon_c w m st hw
 have ea:=endU hrd ho hx
 have eb:=endB (st:=st) hrd ho
 have wa:=endW_wl hg hw m 2 false
 have wb:=endW_wl hg hw m st true
 have hcd:=hw.k
 rw[ea] at k4 wa
 rw[eb] at k5 wb
 have k6:=same_call (closedS w.h o) (closedS w.h o) wa.h.l wa.h.a (fun c hc=>by have:=wa.h.m c hc;omega)
 have k7:=sameO_c w.ou w.ou (by have:=hw.o;omega)
 rw[decide_eq_true rfl] at k6 k7
 rw[Tsk.av_eq] at k3
 rw[Hp.av_eq] at k6
 have hac:(closedS w.h o).cells.length=w.h.cells.length:=by simp only[closedS,clrC_len]
 have haa:(closedS w.h o).arenas.length=w.h.arenas.length:=by simp only[closedS,clrA_len]
 have q1:(((closedS w.h o).cells.length:Int) !=(w.h.cells.length:Int))=false:=by simp[hac]
 have q2:(((closedS w.h o).arenas.length:Int) !=(w.h.arenas.length:Int))=false:=by simp[haa]
 rw[Wd.av_eq] at*
 refine PCall.intro Try.func5 rfl isf5 (by simp[Try.f5]) (by simp[AV.cloL,AV.clo]) fun E Q hE hN hQ=>K_start ?_
 repeat'(first|apply nx|refine zx ?_|rw[zw]|((first|refine hK _ ?_|refine hKp _ _ ?_);clear hK hKp K Kp;try clear hanc anc)|((with_reducible refine And.intro ?_ ?_);exact zb)|((fail_if_success refine K_stop 4 ?_);(first|refine zr hE fun K Kp hK hKp=>?_|refine zd true mixed hE fun K Kp hK hKp anc hanc=>?_|refine zd false mixed hE fun K Kp hK hKp anc hanc=>?_|(apply zm;exact zu;(first|exact k0|exact k1);exact zs;exact zl));simp only[go_sem])|(refine zg (fun hg=>?_) (fun hg=>?_)<;>simp only[go_sem,hg])|(refine zc (fun hc=>?_) (fun hc=>?_)<;>try exact zh hc))
 refine K_inv (n:=10) (IWk w t m 19 8 16777216 8388608 [(1,.i (m:Nat)),(2,.i st),(3,.ptr 0 0),(7,.bool true)]) mixed hE ?_ ?_ (fun Kp hKp=>?_) ?_ rfl
 ·intro D D' σ h
  have:=fun j=>(h j).symm
  unfold IWk
  simp only[this]
  exact fun h=>h
 ·simp[IWk,go_sem,Wd.cs]
 ·refine⟨?_,?_,?_,?_,?_,?_,?_,?_,?_,?_,trivial⟩
  all_goals rintro D ⟨fr,hp,nx⟩ hD hr ⟨hn,fx,h0,d0,d1,d2,d3,d4,d5,d6,d7,d8,d9,d10⟩
  all_goals simp[Region.binds] at hn fx h0 d0 d1 d2 d3 d4 d5 d6 d7 d8 d9 d10 hD hr
  all_goals obtain⟨f1,f3,f2,f4⟩:=fx
  all_goals subst hn
  all_goals try clear hQ hQp
  ·simp only[go_sem,f2]
   (simp only[IWk,upd,updo];simp[f1,f2,f3,f4,h0];simp_all)
  ·simp only[go_sem,d0 hr,h0]
   (simp only[IWk,upd,updo];simp[f1,f2,f3,f4,h0];simp_all)
  ·simp only[go_sem,f2]
   (simp only[IWk,upd,updo];simp[f1,f2,f3,f4,h0];simp_all)
  ·simp only[go_sem,d2 hr,h0]
   (simp only[IWk,upd,updo];simp[f1,f2,f3,f4,h0];simp_all)
  ·simp only[go_sem,f1]
   (simp only[IWk,upd,updo];simp[f1,f2,f3,f4,h0];simp_all)
  ·simp only[go_sem,d3 hr.1,d4 hr.2,lt_dec hml,ht,Tsk.av_eq]
   refine⟨by omega,?_⟩
   (simp only[IWk,upd,updo];simp[f1,f2,f3,f4,h0];simp_all)
  ·simp only[go_sem,d5 hr]
   (simp only[IWk,upd,updo];simp[f1,f2,f3,f4,h0];simp_all)
  ·simp only[go_sem,d6 hr]
   refine CallB_mk (by simp only[go_sem,d6 hr]<;>rfl) k3 (by simp[go_sem,CloRow,AV.cells,AV.clo,d6 hr]) (by first|exact .inl rfl|exact .inr rfl|(right;simp[go_sem])) ?_
   simp only[go_sem]
   (simp only[IWk,upd,updo];simp[f1,f2,f3,f4,h0];simp_all)
  ·simp only[go_sem,d1 hr.1,d7 hr.2]
   refine Hold.mk (walked_use hsm 16777216 rfl fun r hpn hR b0 b1 b2 hold=>?_)
   have h0':=hold _ _ h0
   simp only[go_sem,putf]
   have hex:∃ r,ROk w.h (walkL w.h (valsT t)) r∧hpn 16777216=some (.cells [.sl (cl w.h.cells),.sl (bl w.h.arenas),.rw (16777216+1),.rw (16777216+2),.i r.cnt,.i r.ids,.bool r.right])∧hpn (16777216+1)=some (.row 1 (bl r.mc))∧hpn (16777216+2)=some (.row 1 (bl r.ma)):=⟨r,hR,b0,b1,b2⟩
   clear b0 b1 b2 hR d10 hold h0
   (simp only[IWk,upd,updo];simp[f1,f2,f3,f4,h0'];simp_all)
  ·simp only[go_sem,d8 hr.1]
   (simp only[IWk,upd,updo];simp[f1,f2,f3,f4,h0];simp_all)
 rintro⟨fr,hp,n1⟩ D hD ⟨hn,fx,h0,d0,d1,d2,d3,d4,d5,d6,d7,d8,d9,d10⟩
 have f1':fr 1=some (.i (m:Nat)):=fx (1,.i (m:Nat)) (by simp)
 have f2':fr 2=some (.i st):=fx (2,.i st) (by simp)
 have f3':fr 3=some (.ptr 0 0):=fx (3,.ptr 0 0) (by simp)
 have f7':fr 7=some (.bool true):=fx (7,.bool true) (by simp)
 have g5:=d9 (hD 9)
 obtain⟨r,hR,b0,b1,b2⟩:=d10 (hD 8)
 simp only at hn h0 g5 b0 b1 b2
 rw[ho] at hR
 obtain rfl:r=rs w.h o:=hR
 refine Kq_norm_code ?_
 refine AW.ent (σ':=mkSt [(1,.i (m:Nat)),(2,.i st),(3,.ptr 0 0),(7,.bool true),(8,.ptr 1 0)] [(0,.cells w.cs),(1,.cells [.sl (cl w.h.cells),.sl (bl w.h.arenas),.rw 2,.rw 3,.i o.ids.length,.i (mxI o.ids),.bool true]),(2,.row 1 (bl (marks w.h.cells.length o.cs))),(3,.row 1 (bl (marks w.h.arenas.length o.ags)))] 4) (fun i=>if i=0 then 0 else 16777215+i) ?_ ?_
 ·refine ent_mk (by simp[go_sem,f1',f2',f3',f7',g5]) (by simp[go_sem,h0,b0,b1,b2,rs,Wd.cs]) (by simp) (by simp[hN])
 clear hn fx h0 d0 d1 d2 d3 d4 d5 d6 d7 d8 d9 d10 f1' f2' f3' f7' g5 b0 b1 b2
 simp only[setE,edU,edB,Wd.av_eq] at k4 k5
 generalize w.ts.set m _=tsa at k4
 generalize w.ts.set m _=tsb at k5
 unfold Wd.cs
 generalize hch:closedS w.h o=ch at*
 generalize (fin w.D o.ids)=ff at*
 repeat'(first|apply nx|refine zx ?_|rw[zw]|((first|refine hK _ ?_|refine hKp _ _ ?_);clear hK hKp K Kp;try clear hanc anc)|((with_reducible refine And.intro ?_ ?_);exact zb)|((first|refine zr hE fun K Kp hK hKp=>?_|refine zd true mixed hE fun K Kp hK hKp anc hanc=>?_|refine zd false mixed hE fun K Kp hK hKp anc hanc=>?_|(apply zm;exact zu;(first|exact k4|exact k5);exact zs;exact zl));simp only[go_sem,q1,q2])|(refine zg (fun hg=>?_) (fun hg=>?_)<;>simp only[go_sem,q1,q2,hg])|(refine zc (fun hc=>?_) (fun hc=>?_)<;>try exact zh hc))
 have hmk:∀ i c,w.h.cells[i]? =some c→(marks w.h.cells.length o.cs)[i]? =some (decide (i∈o.cs))∧ch.cells[i]? =some (if i∈o.cs then Cl.zero else c):=by
  intro i c hc
  have hil:=(List.getElem?_eq_some_iff.1 hc).1
  refine⟨marks_get hil,?_⟩
  rw[← hch,closedS]
  simp only
  rw[clrC_get]
  by_cases h:i∈o.cs
  ·rw[if_pos ⟨h,hil⟩,if_pos h]
  ·rw[if_neg (fun hh=>h hh.1),if_neg h,hc]
 have hmka:∀ i c,w.h.arenas[i]? =some c→(marks w.h.arenas.length o.ags)[i]? =some (decide (i∈o.ags))∧ch.arenas[i]? =some (c&&!decide (i∈o.ags)):=by
  intro i c hc
  have hil:=(List.getElem?_eq_some_iff.1 hc).1
  refine⟨marks_get hil,?_⟩
  rw[← hch,closedS]
  simp only
  rw[clrA_get]
  by_cases h:i∈o.ags
  ·rw[if_pos ⟨h,hil⟩,decide_eq_true h];simp
  ·rw[if_neg (fun hh=>h hh.1),hc,decide_eq_false h];simp
 clear hch
 have hml1:(marks w.h.cells.length o.cs).length=w.h.cells.length:=marks_len ..
 have hml2:(marks w.h.arenas.length o.ags).length=w.h.arenas.length:=marks_len ..
 generalize marks w.h.cells.length o.cs=mc at*
 generalize marks w.h.arenas.length o.ags=ma at*
 have hcl:=hw.c
 have hal:=hw.h.a
 refine K_loop (X:=Nat) (fun i=>i≤w.h.cells.length) (fun i=>mkSt [(3,.ptr 0 0),(7,.bool true),(8,.ptr 1 0),(9,.ptr 4 0),(10,.ptr 5 0),(11,.i (i:Nat))] [(0,.cells [.sl (dl w.D),.sl w.R,.i w.mn,.sl (cl w.h.cells),.sl (bl w.h.arenas),.sl (tsl w.ts),.sl (chl w.cn),.sl (oul w.ou),.i w.md,.i w.dp,.i w.cd]),(1,.cells [.sl (cl w.h.cells),.sl (bl w.h.arenas),.rw 2,.rw 3,.i o.ids.length,.i (mxI o.ids),.bool true]),(2,.row 1 (bl mc)),(3,.row 1 (bl ma)),
  (4,.cells [.sl (dl w.D),.sl w.R,.i w.mn,.sl (cl ch.cells),.sl (bl ch.arenas),.sl (tsl tsa),.sl (chl w.cn),.sl (oul (w.ou++List.map (fun p=>((m:Int),p)) ff.out)),.i w.md,.i (w.dp+ ↑ff.cnt),.i (w.cd+(↑o.ids.length - ↑ff.cnt))]),(5,.cells [.sl (dl w.D),.sl w.R,.i w.mn,.sl (cl ch.cells),.sl (bl ch.arenas),.sl (tsl tsb),.sl (chl w.cn),.sl (oul w.ou),.i w.md,.i w.dp,.i (w.cd+ ↑o.ids.length)])] 6) (fun i=>w.h.cells.length - i) 0 (Nat.zero_le _) (fun i=>if i=4 then 3145732 else if i=5 then 9437188 else i) ?_ ?_
 ·refine ent_mk (by simp[go_sem]) (by simp[go_sem]) (by simp) (by simp[hN])
 intro i hi
 by_cases hlt:i<w.h.cells.length
 ·obtain⟨c,hcc⟩:=get?_of hlt
  obtain⟨g1,g2⟩:=hmk i c hcc
  have hltm:i<mc.length:=by omega
  have hltc:i<ch.cells.length:=by omega
  have u1:IntKind.i64.wrap ((i:Int)+1)=((i+1:Nat):Int):=by rw[wrap64 (by omega) (by omega)];omega
  by_cases hin:i∈o.cs
  ·rw[decide_eq_true hin] at g1
   rw[if_pos hin] at g2
   have hz:Cl.zero.live=false:=rfl
   repeat'(first|apply nx|refine zx ?_|rw[zw]|((first|refine hK _ ?_|refine hKp _ _ ?_);clear hK hKp K Kp;try clear hanc anc)|((with_reducible refine And.intro ?_ ?_);exact zb)|((first|refine zr hE fun K Kp hK hKp=>?_|refine zd true mixed hE fun K Kp hK hKp anc hanc=>?_|refine zd false mixed hE fun K Kp hK hKp anc hanc=>?_);simp only[go_sem,lt_dec hlt,lt_dec hltm,lt_dec hltc,g1,g2,hcc,Cl.av,Cl.cs_eq,hz,u1])|(refine zg (fun hg=>?_) (fun hg=>?_)<;>simp only[go_sem,lt_dec hlt,lt_dec hltm,lt_dec hltc,g1,g2,hcc,Cl.av,Cl.cs_eq,hz,u1,hg])|(refine zc (fun hc=>?_) (fun hc=>?_)<;>try exact zh hc))
   refine⟨i+1,hlt,by omega,fun i=>i,by refine ent_mk (by simp[go_sem]) (by simp[go_sem]) (by simp) (by simp[hN])⟩
  ·rw[decide_eq_false hin] at g1
   rw[if_neg hin] at g2
   have k8:=sameC_call c c (by have:=hw.h.m c (List.mem_of_getElem? hcc);omega)
   rw[decide_eq_true rfl] at k8
   repeat'(first|apply nx|refine zx ?_|rw[zw]|((first|refine hK _ ?_|refine hKp _ _ ?_);clear hK hKp K Kp;try clear hanc anc)|((with_reducible refine And.intro ?_ ?_);exact zb)|((first|refine zr hE fun K Kp hK hKp=>?_|refine zd true mixed hE fun K Kp hK hKp anc hanc=>?_|refine zd false mixed hE fun K Kp hK hKp anc hanc=>?_|(apply zm;exact zu;exact k8;exact zs;exact zl));simp only[go_sem,lt_dec hlt,lt_dec hltm,lt_dec hltc,g1,g2,hcc,Cl.av,Cl.cs_eq,u1])|(refine zg (fun hg=>?_) (fun hg=>?_)<;>simp only[go_sem,lt_dec hlt,lt_dec hltm,lt_dec hltc,g1,g2,hcc,Cl.av,Cl.cs_eq,u1,hg])|(refine zc (fun hc=>?_) (fun hc=>?_)<;>try exact zh hc))
   refine⟨i+1,hlt,by omega,fun i=>i,by refine ent_mk (by simp[go_sem]) (by simp[go_sem]) (by simp) (by simp[hN])⟩
 obtain rfl:i=w.h.cells.length:=by omega
 repeat'(first|apply nx|refine zx ?_|rw[zw]|((first|refine hK _ ?_|refine hKp _ _ ?_);clear hK hKp K Kp;try clear hanc anc)|((with_reducible refine And.intro ?_ ?_);exact zb)|((first|refine zr hE fun K Kp hK hKp=>?_|refine zd true mixed hE fun K Kp hK hKp anc hanc=>?_|refine zd false mixed hE fun K Kp hK hKp anc hanc=>?_);simp only[go_sem,ge_dec])|(refine zg (fun hg=>?_) (fun hg=>?_)<;>simp only[go_sem,ge_dec,hg])|(refine zc (fun hc=>?_) (fun hc=>?_)<;>try exact zh hc))
 refine K_loop (X:=Nat) (fun i=>i≤w.h.arenas.length) (fun i=>mkSt [(3,.ptr 0 0),(7,.bool true),(8,.ptr 1 0),(9,.ptr 4 0),(10,.ptr 5 0),(12,.i (i:Nat))] [(0,.cells [.sl (dl w.D),.sl w.R,.i w.mn,.sl (cl w.h.cells),.sl (bl w.h.arenas),.sl (tsl w.ts),.sl (chl w.cn),.sl (oul w.ou),.i w.md,.i w.dp,.i w.cd]),(1,.cells [.sl (cl w.h.cells),.sl (bl w.h.arenas),.rw 2,.rw 3,.i o.ids.length,.i (mxI o.ids),.bool true]),(2,.row 1 (bl mc)),(3,.row 1 (bl ma)),
  (4,.cells [.sl (dl w.D),.sl w.R,.i w.mn,.sl (cl ch.cells),.sl (bl ch.arenas),.sl (tsl tsa),.sl (chl w.cn),.sl (oul (w.ou++List.map (fun p=>((m:Int),p)) ff.out)),.i w.md,.i (w.dp+ ↑ff.cnt),.i (w.cd+(↑o.ids.length - ↑ff.cnt))]),(5,.cells [.sl (dl w.D),.sl w.R,.i w.mn,.sl (cl ch.cells),.sl (bl ch.arenas),.sl (tsl tsb),.sl (chl w.cn),.sl (oul w.ou),.i w.md,.i w.dp,.i (w.cd+ ↑o.ids.length)])] 6) (fun i=>w.h.arenas.length - i) 0 (Nat.zero_le _) (fun i=>i) ?_ ?_
 ·refine ent_mk (by simp[go_sem]) (by simp[go_sem]) (by simp) (by simp[hN])
 intro i hi
 by_cases hlt:i<w.h.arenas.length
 ·obtain⟨c,hcc⟩:=get?_of hlt
  obtain⟨g1,g2⟩:=hmka i c hcc
  have hltm:i<ma.length:=by omega
  have hltc:i<ch.arenas.length:=by omega
  have u1:IntKind.i64.wrap ((i:Int)+1)=((i+1:Nat):Int):=by rw[wrap64 (by omega) (by omega)];omega
  cases hin:decide (i∈o.ags)<;>cases c<;>rw[hin] at g1 g2
  all_goals simp only[Bool.not_true,Bool.not_false,Bool.and_true,Bool.and_false] at g2
  all_goals
   repeat'(first|apply nx|refine zx ?_|rw[zw]|((first|refine hK _ ?_|refine hKp _ _ ?_);clear hK hKp K Kp;try clear hanc anc)|((with_reducible refine And.intro ?_ ?_);exact zb)|((first|refine zr hE fun K Kp hK hKp=>?_|refine zd true mixed hE fun K Kp hK hKp anc hanc=>?_|refine zd false mixed hE fun K Kp hK hKp anc hanc=>?_);simp only[go_sem,lt_dec hlt,lt_dec hltm,lt_dec hltc,g1,g2,hcc,u1])|(refine zg (fun hg=>?_) (fun hg=>?_)<;>simp only[go_sem,lt_dec hlt,lt_dec hltm,lt_dec hltc,g1,g2,hcc,u1,hg])|(refine zc (fun hc=>?_) (fun hc=>?_)<;>try exact zh hc))
  all_goals refine⟨i+1,hlt,by omega,fun i=>i,by refine ent_mk (by simp[go_sem]) (by simp[go_sem]) (by simp) (by simp[hN])⟩
 obtain rfl:i=w.h.arenas.length:=by omega
 have u2:IntKind.i64.wrap (w.cd+(o.ids.length:Int))=w.cd+(o.ids.length:Int):=by rw[wrap64 (by omega) (by omega)]
 repeat'(first|apply nx|refine zx ?_|rw[zw]|((first|refine hK _ ?_|refine hKp _ _ ?_);clear hK hKp K Kp;try clear hanc anc)|((with_reducible refine And.intro ?_ ?_);exact zb)|((first|refine zr hE fun K Kp hK hKp=>?_|refine zd false mixed hE fun K Kp hK hKp anc hanc=>?_|(apply zm;exact zu;(first|exact k6|exact k7);exact zs;exact zl));simp only[go_sem,ge_dec,u2])|(refine zg (fun hg=>?_) (fun hg=>?_)<;>simp only[go_sem,ge_dec,u2,hg])|(refine zc (fun hc=>?_) (fun hc=>?_)<;>try exact zh hc)|(refine K_ret ?_;refine zt hQ ?_))
 all_goals simp[AV.snap]
end Go.Proofs.Ytfgjjnfdcgkpoaa
