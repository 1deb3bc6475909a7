/- A part of the proof: an abstract machine for the walks, and what the walked functions compute. -/
import Derived.Test.YtfgjjnfdcgkpoaaCc
import Derived.Test.YtfgjjnfdcgkpoaaHw
import Derived.Test.YtfgjjnfdcgkpoaaMo
import Derived.Test.YtfgjjnfdcgkpoaaMp
set_option linter.unusedVariables false
set_option linter.unusedSimpArgs false
set_option maxHeartbeats 4000000
set_option maxRecDepth 100000
namespace Go.Proofs.Ytfgjjnfdcgkpoaa
open Go.Am Go.Proofs Go.Hv
open Classical
attribute [local irreducible] AW CallP CallB CallY
def wrongAV:AV:= .iface 123 (.agg [])
theorem need_call (b:Bool):A0 Try.prog 67 [.bool b] (fun r=>b=true∧r= .tup []) (fun x=>b=false∧x=wrongAV):=by
 refine A0.intro Try.func67 rfl isf58 (by simp[Try.f67]) fun E Q hE hN hQ hQp=>K_start ?_
 repeat'(first|apply nx|refine zx ?_|rw[zw]|((first|refine hK _ ?_|refine hKp _ _ ?_);clear hK hKp K Kp;try clear hanc anc)|((with_reducible refine And.intro ?_ ?_);exact zb)|((first|refine zr hE fun K Kp hK hKp=>?_|refine zd true mixed hE fun K Kp hK hKp anc hanc=>?_|refine zd false mixed hE fun K Kp hK hKp anc hanc=>?_);simp only[go_sem])|(refine zg (fun hg=>?_) (fun hg=>?_)<;>simp only[go_sem,hg])|(refine zc (fun hc=>?_) (fun hc=>?_)<;>try exact zh hc))
 ·exact hQp _ _ ⟨by simpa using hc,rfl⟩ rfl
 ·refine Kq_norm_nil ?_
  exact(hQ _ ⟨.tup [],rfl,⟨by simpa using hc,rfl⟩,rfl⟩).2
def mkE (l:List Nat):List (AV×AV):=l.map fun n:Nat=>(AV.i (n:Int),AV.bool true)
theorem mkE_put (l:List Nat) (n:Nat):mkE l++[(.i n,.bool true)]=mkE (l++[n]):=by simp[mkE]
theorem findE_mkE (n:Nat):∀ l:List Nat,findE .i64 (n:Int) (mkE l)=some (if n∈l then some (.bool true) else none)
 | []=>by rw[mkE,List.map_nil,findE];simp
 |x::l=>by
  have ih:=findE_mkE n l
  unfold mkE at ih ⊢
  rw[List.map_cons,AV.i,findE,if_pos rfl,ih]
  by_cases h:n=x
  ·subst h;simp
  ·have h2:¬ ((n:Int)=(x:Int)):=by omega
   rw[if_neg h2]
   simp[h]
abbrev visF:AV:= .fn (.func 68) [] [.ptr 0 0,.ptr 1 0,.ptr 2 0,.ptr 3 0]
abbrev entF:AV:= .fn (.func 66) [] [.ptr 0 0,.ptr 1 0,.ptr 2 0]
def objW (h:Hp) (o:Ow):Nat→Option AObj:=mkHp [(0,.cells [.mp 4,.mp 5,.rw 6]),(1,.cells [visF]),(2,.cells h.cs),(3,.cells [entF]),(4,.map (mkE o.cs)),(5,.map (mkE o.ags)),(6,.row 1 (il o.ids))]
theorem objW_0 (h:Hp) (o:Ow):objW h o 0=some (.cells [.mp 4,.mp 5,.rw 6]):=rfl
theorem objW_1 (h:Hp) (o:Ow):objW h o 1=some (.cells [visF]):=rfl
theorem objW_2 (h:Hp) (o:Ow):objW h o 2=some (.cells h.cs):=rfl
theorem objW_3 (h:Hp) (o:Ow):objW h o 3=some (.cells [entF]):=rfl
theorem objW_4 (h:Hp) (o:Ow):objW h o 4=some (.map (mkE o.cs)):=rfl
theorem objW_5 (h:Hp) (o:Ow):objW h o 5=some (.map (mkE o.ags)):=rfl
theorem objW_6 (h:Hp) (o:Ow):objW h o 6=some (.row 1 (il o.ids)):=rfl
theorem objW_lt {h:Hp} {o:Ow} {id:Nat} {ob:AObj} (ho:objW h o id=some ob):id<7∧ob.ids (· <7):=by
 simp only[objW,mkHp,updo] at ho
 repeat' split at ho
 all_goals first|(cases ho;done)|skip
 all_goals cases ho;subst_vars
 all_goals refine⟨by decide,?_⟩
 all_goals first|(simp[AObj.ids,AV.ids,AV.idsL,Hp.cs,go_sem];done)|(intro p hp;obtain⟨n,_,rfl⟩:=List.mem_map.1 hp;exact⟨trivial,trivial⟩)
theorem objW_np (h:Hp) (o:Ow) (id:Nat) (hid:id<7):objW h o id≠none:=by
 have:id=0∨id=1∨id=2∨id=3∨id=4∨id=5∨id=6:=by omega
 rcases this with rfl|rfl|rfl|rfl|rfl|rfl|rfl<;>simp[objW,mkHp,updo]
def VisC (h:Hp) (v:Vl) (r:Ow→Option Ow) (o:Ow):Prop:=
 ACall Try.prog 68 [.agg v.cs,.ptr 0 0,.ptr 1 0,.ptr 2 0,.ptr 3 0] (objW h o) 7 6 (fun x hp'=>x= .tup []∧∃ o',r o=some o'∧hp'=objW h o') (fun x hp'=>x=wrongAV∧r o=none∧∃ o',hp'=objW h o')
def EntC (h:Hp) (n:Nat) (r:Ow→Option Ow) (o:Ow):Prop:=
 ACall Try.prog 66 [.i n,.ptr 0 0,.ptr 1 0,.ptr 2 0] (objW h o) 7 6 (fun x hp'=>x= .tup []∧∃ o',r o=some o'∧hp'=objW h o') (fun x hp'=>x=wrongAV∧r o=none∧∃ o',hp'=objW h o')
theorem objW_ent {h:Hp} {o:Ow} {σ:St} {np:Nat} (hnp:np≤7) (hs:∀ id ob,objW h o id=some ob→σ.hp id=some ob):Ent np (fun i=>i) σ ⟨fun _=>none,objW h o,7⟩:=
 ent_idG (fr:=[]) (by simp) (fun id ob ho=>⟨hs id ob ho,objW_lt ho⟩) hnp
theorem enter_c (h:Hp) (k n:Nat) (o:Ow) (c:Cl) (hcc:h.cells[n]? =some c) (hv:n∉o.cs→VisC h c.v (visV h (visE h k) c.v) { o with cs:=o.cs++[n] }):EntC h n (fun o=>visE h (k+1) n o) o:=by
 refine ACall.of_bodyR Try.func66 isf57 rfl (by simp[Try.f66]) fun E Q hE hN hQ hQp=>K_start ?_
 have hfe:=findE_mkE n o.cs
 by_cases hn:n∈o.cs
 ·rw[if_pos hn] at hfe
  repeat'(first|apply nx|refine zx ?_|rw[zw]|((first|refine hK _ ?_|refine hKp _ _ ?_);clear hK hKp K Kp;try clear hanc anc)|((with_reducible refine And.intro ?_ ?_);exact zb)|((first|refine zr hE fun K Kp hK hKp=>?_|refine zd true mixed hE fun K Kp hK hKp anc hanc=>?_|refine zd false mixed hE fun K Kp hK hKp anc hanc=>?_);simp only[go_sem,objW_0,objW_4,hfe,lkRes])|(refine zg (fun hg=>?_) (fun hg=>?_)<;>simp only[go_sem,objW_0,objW_4,hfe,lkRes,hg])|(refine zc (fun hc=>?_) (fun hc=>?_)<;>try exact zh hc))
  refine Hold.mk (CallB.of_A0 (need_call false) rfl (fun r hr=>absurd hr.1 (by decide)) (fun x hx=>?_))
  refine hKp _ _ (hQp _ _ ⟨x,fun i=>i,_,7,?_,?_,objW_ent (by decide) (fun id ob ho=>ho),hx.2,?_,o,rfl⟩)
  ·rw[ren_id]
  ·rw[hx.2];simp[wrongAV,AV.ids,AV.idsL]
  ·simp only;rw[visE,if_pos hn]
 ·rw[if_neg hn] at hfe
  repeat'(first|apply nx|refine zx ?_|rw[zw]|((first|refine hK _ ?_|refine hKp _ _ ?_);clear hK hKp K Kp;try clear hanc anc)|((with_reducible refine And.intro ?_ ?_);exact zb)|((first|refine zr hE fun K Kp hK hKp=>?_|refine zd true mixed hE fun K Kp hK hKp anc hanc=>?_|refine zd false mixed hE fun K Kp hK hKp anc hanc=>?_);simp only[go_sem,objW_0,objW_4,hfe,lkRes])|(refine zg (fun hg=>?_) (fun hg=>?_)<;>simp only[go_sem,objW_0,objW_4,hfe,lkRes,hg])|(refine zc (fun hc=>?_) (fun hc=>?_)<;>try exact zh hc))
  refine Hold.mk (CallB.of_A0 (need_call true) rfl (fun r hr=>?_) (fun x hx=>absurd hx.1 (by decide)))
  rw[hr.2]
  simp only[go_sem]
  refine hK _ ?_
  repeat'(first|apply nx|refine zx ?_|rw[zw]|((first|refine hK _ ?_|refine hKp _ _ ?_);clear hK hKp K Kp;try clear hanc anc)|((with_reducible refine And.intro ?_ ?_);exact zb)|((fail_if_success refine K_stop 2 ?_);(first|refine zr hE fun K Kp hK hKp=>?_|refine zd true mixed hE fun K Kp hK hKp anc hanc=>?_|refine zd false mixed hE fun K Kp hK hKp anc hanc=>?_);simp only[go_sem,objW_0,objW_4,hfe,putE])|(refine zg (fun hg=>?_) (fun hg=>?_)<;>simp only[go_sem,objW_0,objW_4,hfe,putE,hg])|(refine zc (fun hc=>?_) (fun hc=>?_)<;>try exact zh hc))
  refine AW.ent (σ':=⟨mkFr [(0,.i n),(1,.ptr 0 0),(2,.ptr 1 0),(3,.ptr 2 0)],objW h { o with cs:=o.cs++[n] },7⟩) (fun i=>i) (ent_idG (by simp[go_sem,AV.ids]) (fun id ob ho=>⟨?_,objW_lt ho⟩) (by rw[hN];decide)) ?_
  ·by_cases e:id=4
   ·subst e
    rw[objW_4] at ho
    cases ho
    simp[updo,mkE_put]
   ·simp only[updo,if_neg e]
    rw[← ho]
    simp only[objW,mkHp,updo,if_neg e]
  ·repeat'(first|apply nx|refine zx ?_|rw[zw]|((first|refine hK _ ?_|refine hKp _ _ ?_);clear hK hKp K Kp;try clear hanc anc)|((with_reducible refine And.intro ?_ ?_);exact zb)|((first|refine zr hE fun K Kp hK hKp=>?_|refine zd true mixed hE fun K Kp hK hKp anc hanc=>?_|refine zd false mixed hE fun K Kp hK hKp anc hanc=>?_);simp only[go_sem,objW_1,objW_2,Hp.cs,hcc,Cl.av,Cl.cs_eq])|(refine zg (fun hg=>?_) (fun hg=>?_)<;>simp only[go_sem,objW_1,objW_2,Hp.cs,hcc,Cl.av,Cl.cs_eq,hg])|(refine zc (fun hc=>?_) (fun hc=>?_)<;>try exact zh hc))
   have hv1:=hv hn
   unfold VisC at hv1
   rw[show c.v.cs=[.i c.v.kind,.i c.v.id,.i c.v.var,.i c.v.n,.sl (Vl.avL c.v.fs),.bool c.v.excl,.sl (il c.v.path),.sl (il c.v.loans)] from rfl] at hv1
   refine Hold.mk (CallB.use hv1 (fun i=>i) (by rw[renL_id]) (by simp[AV.ids,AV.idsL,go_sem]) (fun id ob ho=>⟨by rw[oren_id];exact ho,objW_lt ho⟩) (fun _ _ _ _ _ _ e=>e) (fun id hid=>⟨by omega,objW_np _ _ _ (by omega)⟩) ?_ ?_ ?_ ?_)
   ·rintro r hp' ⟨rfl,o',_,rfl⟩
    exact⟨trivial,fun id ob ho=>⟨by have:=(objW_lt ho).1;omega,objids_mono _ (fun j hj=>by omega) (objW_lt ho).2⟩⟩
   ·rintro r hp' ⟨rfl,_,o',rfl⟩
    exact⟨by simp[wrongAV,AV.ids,AV.idsL],fun id ob ho=>⟨by have:=(objW_lt ho).1;omega,objids_mono _ (fun j hj=>by omega) (objW_lt ho).2⟩⟩
   ·rintro r hp' fr' hpn ⟨rfl,o',hr,rfl⟩ hfr hobj _
    simp only[go_sem]
    refine hK _ ?_
    clear hK hKp
    refine Kq_norm_nil ?_
    refine(hQ _ ⟨.tup [],backM (fun i=>i) 6 (7+1048576*7),objW h o',7,rfl,trivial,?_,rfl,o',?_,rfl⟩).2
    ·exact ent_gen (fr:=[]) (by simp) (fun id ob ho=>⟨hobj id ob ho,objW_lt ho⟩) (fun _ _ _ _ _ _ e=>backM_id_inj (by omega) e) (fun id hid=>⟨backM_lt hid,by show id<7;omega⟩)
    ·simp only;rw[visE,if_neg hn,hcc];exact hr
   ·rintro x hp' hpn ⟨rfl,hr,o',rfl⟩ hobj _
    refine hKp _ _ (hQp _ _ ⟨wrongAV,backM (fun i=>i) 6 (7+1048576*7),objW h o',7,rfl,by simp[wrongAV,AV.ids,AV.idsL],?_,rfl,?_,o',rfl⟩)
    ·exact ent_gen (fr:=[]) (by simp) (fun id ob ho=>⟨hobj id ob ho,objW_lt ho⟩) (fun _ _ _ _ _ _ e=>backM_id_inj (by omega) e) (fun id hid=>⟨backM_lt hid,by show id<7;omega⟩)
    ·simp only;rw[visE,if_neg hn,hcc];exact hr

theorem mkE_ren (m:Nat→Nat) (l:List Nat):(mkE l).map (fun p=>(p.1.ren m,p.2.ren m))=mkE l:=by
 unfold mkE
 rw[List.map_map]
 rfl
theorem mkE_idm {p:Nat→Prop} {l:List Nat} {a b:AV} (h:(a,b)∈mkE l):a.ids p∧b.ids p:=by obtain⟨n,_,e⟩:=List.mem_map.1 h;cases e;exact⟨trivial,trivial⟩
theorem il_app (l:List Int) (x:Int):il l++[.i x]=il (l++[x]):=by simp[il]
theorem vis_other (h:Hp) (en:Nat→Ow→Option Ow) (v:Vl) (o:Ow) (h2:v.kind≠2) (h3:v.kind≠3) (h5:v.kind≠5):VisC h v (visV h en v) o:=by
 have hr:visV h en v o=some o:=by
  cases v
  simp only[Vl.kind] at h2 h3 h5
  rw[visV,if_neg h2,if_neg h3,if_neg h5]
 unfold VisC
 rw[show v.cs=[.i v.kind,.i v.id,.i v.var,.i v.n,.sl (Vl.avL v.fs),.bool v.excl,.sl (il v.path),.sl (il v.loans)] from rfl]
 have q2:(v.kind==2)=false:=by simpa using h2
 have q3:(v.kind==3)=false:=by simpa using h3
 have q5:(v.kind==5)=false:=by simpa using h5
 refine ACall.of_bodyR Try.func68 isf59 rfl (by simp[Try.f68]) fun E Q hE hN hQ hQp=>K_start ?_
 repeat'(first|apply nx|refine zx ?_|rw[zw]|((first|refine hK _ ?_|refine hKp _ _ ?_);clear hK hKp K Kp;try clear hanc anc)|((with_reducible refine And.intro ?_ ?_);exact zb)|((first|refine zr hE fun K Kp hK hKp=>?_|refine zd true mixed hE fun K Kp hK hKp anc hanc=>?_|refine zd false mixed hE fun K Kp hK hKp anc hanc=>?_);simp only[go_sem,q2,q3,q5])|(refine zg (fun hg=>?_) (fun hg=>?_)<;>simp only[go_sem,q2,q3,q5,hg])|(refine zc (fun hc=>?_) (fun hc=>?_)<;>try exact zh hc))
 refine Kq_norm_nil ?_
 refine(hQ _ ⟨.tup [],fun i=>i,objW h o,7,rfl,trivial,objW_ent (by decide) (fun id ob ho=>?_),rfl,o,hr,rfl⟩).2
 have:=(objW_lt ho).1
 simp only[updo]
 rw[if_neg (by omega)]
 exact ho
theorem vis_data (h : Hp) (en : Nat → Ow → Option Ow) (v : Vl) (o : Ow) (hk : v.kind = 2) (hl : v.fs.length ≤ 2 ^ 30) (hid : o.ids.length ≤ 2 ^ 43) (P : Nat → Ow → Prop) (hP : P 0 { o with ids := o.ids ++ [v.id] })
    (hf:∀ i x o,v.fs[i]? =some x→P i o→VisC h x (visV h en x) o) (hs:∀ i x o o',v.fs[i]? =some x→P i o→visV h en x o=some o'→P (i+1) o'):VisC h v (visV h en v) o:=by
  have hr:visV h en v o=visL h en v.fs { o with ids:=o.ids++[v.id] } :=by
    cases v
    simp only[Vl.kind] at hk
    rw[visV,if_pos hk];rfl
  unfold VisC
  rw[show v.cs=[.i v.kind,.i v.id,.i v.var,.i v.n,.sl (Vl.avL v.fs),.bool v.excl,.sl (il v.path),.sl (il v.loans)] from rfl]
  have q2:(v.kind==2)=true:=by simpa using hk
  refine ACall.of_bodyR Try.func68 isf59 rfl (by simp[Try.f68]) fun E Q hE hN hQ hQp=>K_start ?_
  simp only[hr] at hQ hQp
  repeat'(first|apply nx|refine zx ?_|rw[zw]|((first|refine hK _ ?_|refine hKp _ _ ?_);clear hK hKp K Kp;try clear hanc anc)|((with_reducible refine And.intro ?_ ?_);exact zb)|((first|refine zr hE fun K Kp hK hKp=>?_|refine zd true mixed hE fun K Kp hK hKp anc hanc=>?_|refine zd false mixed hE fun K Kp hK hKp anc hanc=>?_);simp only[go_sem,q2,objW_0,objW_6])|(refine zg (fun hg=>?_) (fun hg=>?_)<;>simp only[go_sem,q2,objW_0,objW_6,hg])|(refine zc (fun hc=>?_) (fun hc=>?_)<;>try exact zh hc))
  refine K_loop (X:=Nat×Ow) (fun x=>x.1≤v.fs.length∧visL h en v.fs { o with ids:=o.ids++[v.id] } =visL h en (v.fs.drop x.1) x.2∧P x.1 x.2) (fun x=>⟨mkFr [(1,.ptr 0 0),(2,.ptr 1 0),(3,.ptr 2 0),(4,.ptr 3 0),(22,.sl (Vl.avL v.fs)),(23,.i v.fs.length),(24,.i x.1)],objW h x.2,7⟩) (fun x=>v.fs.length - x.1) (0,{ o with ids:=o.ids++[v.id] }) ⟨Nat.zero_le _,by simp,hP⟩ (fun i=>if i=6 then 10485767 else i) ?_ ?_
  · show Ent _ _ _ (mkSt [(1,.ptr 0 0),(2,.ptr 1 0),(3,.ptr 2 0),(4,.ptr 3 0),(22,.sl (Vl.avL v.fs)),(23,.i v.fs.length),(24,.i ((0:Nat):Int))] [(0,.cells [.mp 4,.mp 5,.rw 6]),(1,.cells [visF]),(2,.cells h.cs),(3,.cells [entF]),(4,.map (mkE o.cs)),(5,.map (mkE o.ags)),(6,.row 1 (il (o.ids++[v.id])))] 7)
    refine ent_mk (by simp[go_sem,AV.ids]) (by simp[go_sem,AV.ids,AV.idsL,objW_1,objW_2,objW_3,objW_4,objW_5,Hp.cs,mkE_ren,il_app];exact⟨fun _ _=>mkE_idm,fun _ _=>mkE_idm⟩) (by simp) (fun id hid=>?_)
    rw[hN] at hid
    exact⟨if_neg (by omega),by omega⟩
  rintro⟨i,o⟩ ⟨hi,ht,hPi⟩
  simp only at hi ht hPi
  by_cases hlt:i<v.fs.length
  · obtain⟨x,hx⟩:=get?_of hlt
    rw[drop_of hx,visL] at ht
    have hv1:=hf i x o hx hPi
    unfold VisC at hv1
    rw[show x.cs=[.i x.kind,.i x.id,.i x.var,.i x.n,.sl (Vl.avL x.fs),.bool x.excl,.sl (il x.path),.sl (il x.loans)] from rfl] at hv1
    repeat'(first|apply nx|refine zx ?_|rw[zw]|((first|refine hK _ ?_|refine hKp _ _ ?_);clear hK hKp K Kp;try clear hanc anc)|((with_reducible refine And.intro ?_ ?_);exact zb)|((first|refine zr hE fun K Kp hK hKp=>?_|refine zd true mixed hE fun K Kp hK hKp anc hanc=>?_|refine zd false mixed hE fun K Kp hK hKp anc hanc=>?_);simp only[go_sem,lt_dec hlt,hx,Vl.av_eq,objW_1])|(refine zg (fun hg=>?_) (fun hg=>?_)<;>simp only[go_sem,lt_dec hlt,hx,Vl.av_eq,objW_1,hg])|(refine zc (fun hc=>?_) (fun hc=>?_)<;>try exact zh hc))
    refine Hold.mk (CallB.use hv1 (fun i=>i) (by rw[renL_id]) (by simp[AV.ids,AV.idsL,go_sem]) (fun id ob ho=>⟨?_,objW_lt ho⟩) (fun _ _ _ _ _ _ e=>e) (fun id hid=>⟨by omega,objW_np _ _ _ (by omega)⟩) ?_ ?_ ?_ ?_)
    · rw[oren_id]
      have:=(objW_lt ho).1
      simp only[updo]
      rw[if_neg (by omega)]
      first|exact ho|(rw[if_neg (by omega)];exact ho)
    · rintro r hp' ⟨rfl,o',_,rfl⟩
      exact⟨trivial,fun id ob ho=>⟨by have:=(objW_lt ho).1;omega,objids_mono _ (fun j hj=>by omega) (objW_lt ho).2⟩⟩
    · rintro r hp' ⟨rfl,_,o',rfl⟩
      exact⟨by simp[wrongAV,AV.ids,AV.idsL],fun id ob ho=>⟨by have:=(objW_lt ho).1;omega,objids_mono _ (fun j hj=>by omega) (objW_lt ho).2⟩⟩
    · rintro r hp' fr' hpn ⟨rfl,o',hr1,rfl⟩ hfr hobj _
      simp only[St.put,AV.ren,putf,AV.renL] at hfr
      clear hQ hQp
      subst hfr
      simp only[go_sem]
      refine hK _ ?_
      repeat'(first|apply nx|refine zx ?_|rw[zw]|((first|refine hK _ ?_|refine hKp _ _ ?_);clear hK hKp K Kp;try clear hanc anc)|((with_reducible refine And.intro ?_ ?_);exact zb)|((first|refine zr hE fun K Kp hK hKp=>?_|refine zd true mixed hE fun K Kp hK hKp anc hanc=>?_|refine zd false mixed hE fun K Kp hK hKp anc hanc=>?_);simp only[go_sem])|(refine zg (fun hg=>?_) (fun hg=>?_)<;>simp only[go_sem,hg])|(refine zc (fun hc=>?_) (fun hc=>?_)<;>try exact zh hc))
      have hb:∀ i,i<6→backM (fun i=>i) 6 7340039 i=i:=fun i hi=>backM_lt hi
      refine⟨(i+1,o'),⟨by simp only;omega,by simp only;rw[ht,hr1];rfl,hs i x o o' hx hPi hr1⟩,by simp only;omega,backM (fun i=>i) 6 7340039,ent_gen (m:=backM (fun i=>i) 6 7340039) (by simp[go_sem,AV.ids,AV.idsL];exact⟨(hb 0 (by decide)).symm,(hb 1 (by decide)).symm,(hb 2 (by decide)).symm,(hb 3 (by decide)).symm⟩) (fun id ob ho=>⟨hobj id ob ho,objW_lt ho⟩) (fun _ _ _ _ _ _ e=>backM_id_inj (by omega) e) (fun id hid=>⟨backM_lt (by omega),by omega⟩)⟩
    · rintro x' hp' hpn ⟨rfl,hr1,o',rfl⟩ hobj _
      refine hKp _ _ (hQp _ _ ⟨wrongAV,_,objW h o',7,rfl,by simp[wrongAV,AV.ids,AV.idsL],ent_gen (fr:=[]) (by simp) (fun id ob ho=>⟨hobj id ob ho,objW_lt ho⟩) (fun _ _ _ _ _ _ e=>backM_id_inj (by omega) e) (fun id hid=>⟨backM_lt hid,by show id<7;omega⟩),rfl,?_,o',rfl⟩)
      rw[ht,hr1];rfl
  · obtain rfl:i=v.fs.length:=by omega
    rw[List.drop_length,visL] at ht
    repeat'(first|apply nx|refine zx ?_|rw[zw]|((first|refine hK _ ?_|refine hKp _ _ ?_);clear hK hKp K Kp;try clear hanc anc)|((with_reducible refine And.intro ?_ ?_);exact zb)|((first|refine zr hE fun K Kp hK hKp=>?_|refine zd true mixed hE fun K Kp hK hKp anc hanc=>?_|refine zd false mixed hE fun K Kp hK hKp anc hanc=>?_);simp only[go_sem,ge_dec])|(refine zg (fun hg=>?_) (fun hg=>?_)<;>simp only[go_sem,ge_dec,hg])|(refine zc (fun hc=>?_) (fun hc=>?_)<;>try exact zh hc))
    refine Kq_norm_nil ?_
    refine(hQ _ ⟨.tup [],fun i=>i,objW h o,7,rfl,trivial,objW_ent (by decide) (fun id ob ho=>ho),rfl,o,ht,rfl⟩).2

theorem vis_box (h:Hp) (en:Nat→Ow→Option Ow) (v:Vl) (o:Ow) (hk:v.kind=3) (hl:h.cells.length≤2 ^ 20) (hen:∀ m c,h.cells[m]? =some c→c.live=true→EntC h m (en m) o):VisC h v (visV h en v) o:=by
 have hr:visV h en v o=if boxOk h v.n then en v.n.toNat o else none:=by
  cases v
  simp only[Vl.kind] at hk
  rw[visV,if_neg (by omega),if_pos hk];rfl
 unfold VisC
 rw[show v.cs=[.i v.kind,.i v.id,.i v.var,.i v.n,.sl (Vl.avL v.fs),.bool v.excl,.sl (il v.path),.sl (il v.loans)] from rfl]
 have q2:(v.kind==2)=false:=by simp[hk]
 have q3:(v.kind==3)=true:=by simp[hk]
 by_cases h1:0≤v.n
 case neg=>
  have q4:decide (0≤v.n)=false:=by simpa using h1
  rw[if_neg (by simp[boxOk,q4])] at hr
  refine ACall.of_bodyR Try.func68 isf59 rfl (by simp[Try.f68]) fun E Q hE hN hQ hQp=>K_start ?_
  repeat'(first|apply nx|refine zx ?_|rw[zw]|((first|refine hK _ ?_|refine hKp _ _ ?_);clear hK hKp K Kp;try clear hanc anc)|((with_reducible refine And.intro ?_ ?_);exact zb)|((first|refine zr hE fun K Kp hK hKp=>?_|refine zd true mixed hE fun K Kp hK hKp anc hanc=>?_|refine zd false mixed hE fun K Kp hK hKp anc hanc=>?_);simp only[go_sem,q2,q3,objW_2,Hp.cs,q4])|(refine zg (fun hg=>?_) (fun hg=>?_)<;>simp only[go_sem,q2,q3,objW_2,Hp.cs,q4,hg])|(refine zc (fun hc=>?_) (fun hc=>?_)<;>try exact zh hc))
  refine Hold.mk (CallB.of_A0 (need_call false) rfl (fun r hr=>absurd hr.1 (by decide)) (fun x hx=>?_))
  refine hKp _ _ (hQp _ _ ⟨x,fun i=>i,_,7,?_,?_,objW_ent (by decide) (fun id ob ho=>?_),hx.2,hr,o,rfl⟩)
  ·rw[ren_id]
  ·rw[hx.2];simp[wrongAV,AV.ids,AV.idsL]
  ·have:=(objW_lt ho).1
   simp only[updo]
   rw[if_neg (by omega)]
   exact ho
 obtain⟨m,hm⟩:=Int.eq_ofNat_of_zero_le h1
 have q4:decide (0≤(m:Int))=true:=by simp
 by_cases h2:m<h.cells.length
 case neg=>
  have q5:decide ((m:Int)<(h.cells.length:Int))=false:=by simp;omega
  rw[if_neg (by simp[boxOk,hm,List.getElem?_eq_none (show h.cells.length≤m by omega)])] at hr
  refine ACall.of_bodyR Try.func68 isf59 rfl (by simp[Try.f68]) fun E Q hE hN hQ hQp=>K_start ?_
  repeat'(first|apply nx|refine zx ?_|rw[zw]|((first|refine hK _ ?_|refine hKp _ _ ?_);clear hK hKp K Kp;try clear hanc anc)|((with_reducible refine And.intro ?_ ?_);exact zb)|((first|refine zr hE fun K Kp hK hKp=>?_|refine zd true mixed hE fun K Kp hK hKp anc hanc=>?_|refine zd false mixed hE fun K Kp hK hKp anc hanc=>?_);simp only[go_sem,q2,q3,objW_2,Hp.cs,hm,q4,q5])|(refine zg (fun hg=>?_) (fun hg=>?_)<;>simp only[go_sem,q2,q3,objW_2,Hp.cs,hm,q4,q5,hg])|(refine zc (fun hc=>?_) (fun hc=>?_)<;>try exact zh hc))
  refine Hold.mk (CallB.of_A0 (need_call false) rfl (fun r hr=>absurd hr.1 (by decide)) (fun x hx=>?_))
  refine hKp _ _ (hQp _ _ ⟨x,fun i=>i,_,7,?_,?_,objW_ent (by decide) (fun id ob ho=>?_),hx.2,hr,o,rfl⟩)
  ·rw[ren_id]
  ·rw[hx.2];simp[wrongAV,AV.ids,AV.idsL]
  ·have:=(objW_lt ho).1
   simp only[updo]
   rw[if_neg (by omega)]
   exact ho
 obtain⟨c,hcc⟩:=get?_of h2
 cases hv:c.live
 ·rw[if_neg (by simp[boxOk,hm,hcc,hv])] at hr
  refine ACall.of_bodyR Try.func68 isf59 rfl (by simp[Try.f68]) fun E Q hE hN hQ hQp=>K_start ?_
  repeat'(first|apply nx|refine zx ?_|rw[zw]|((first|refine hK _ ?_|refine hKp _ _ ?_);clear hK hKp K Kp;try clear hanc anc)|((with_reducible refine And.intro ?_ ?_);exact zb)|((first|refine zr hE fun K Kp hK hKp=>?_|refine zd true mixed hE fun K Kp hK hKp anc hanc=>?_|refine zd false mixed hE fun K Kp hK hKp anc hanc=>?_);simp only[go_sem,q2,q3,objW_2,Hp.cs,hm,q4,lt_dec h2,hcc,Cl.av,Cl.cs_eq,hv])|(refine zg (fun hg=>?_) (fun hg=>?_)<;>simp only[go_sem,q2,q3,objW_2,Hp.cs,hm,q4,lt_dec h2,hcc,Cl.av,Cl.cs_eq,hv,hg])|(refine zc (fun hc=>?_) (fun hc=>?_)<;>try exact zh hc))
  refine Hold.mk (CallB.of_A0 (need_call false) rfl (fun r hr=>absurd hr.1 (by decide)) (fun x hx=>?_))
  refine hKp _ _ (hQp _ _ ⟨x,fun i=>i,_,7,?_,?_,objW_ent (by decide) (fun id ob ho=>?_),hx.2,hr,o,rfl⟩)
  ·rw[ren_id]
  ·rw[hx.2];simp[wrongAV,AV.ids,AV.idsL]
  ·have:=(objW_lt ho).1
   simp only[updo]
   rw[if_neg (by omega)]
   exact ho
 by_cases h3:c.arena= -1
 case neg=>
  have q6:(c.arena== -1)=false:=by simpa using h3
  rw[if_neg (by simp[boxOk,hm,hcc,hv,h3])] at hr
  refine ACall.of_bodyR Try.func68 isf59 rfl (by simp[Try.f68]) fun E Q hE hN hQ hQp=>K_start ?_
  repeat'(first|apply nx|refine zx ?_|rw[zw]|((first|refine hK _ ?_|refine hKp _ _ ?_);clear hK hKp K Kp;try clear hanc anc)|((with_reducible refine And.intro ?_ ?_);exact zb)|((first|refine zr hE fun K Kp hK hKp=>?_|refine zd true mixed hE fun K Kp hK hKp anc hanc=>?_|refine zd false mixed hE fun K Kp hK hKp anc hanc=>?_);simp only[go_sem,q2,q3,objW_2,Hp.cs,hm,q4,lt_dec h2,hcc,Cl.av,Cl.cs_eq,hv,q6])|(refine zg (fun hg=>?_) (fun hg=>?_)<;>simp only[go_sem,q2,q3,objW_2,Hp.cs,hm,q4,lt_dec h2,hcc,Cl.av,Cl.cs_eq,hv,q6,hg])|(refine zc (fun hc=>?_) (fun hc=>?_)<;>try exact zh hc))
  refine Hold.mk (CallB.of_A0 (need_call false) rfl (fun r hr=>absurd hr.1 (by decide)) (fun x hx=>?_))
  refine hKp _ _ (hQp _ _ ⟨x,fun i=>i,_,7,?_,?_,objW_ent (by decide) (fun id ob ho=>?_),hx.2,hr,o,rfl⟩)
  ·rw[ren_id]
  ·rw[hx.2];simp[wrongAV,AV.ids,AV.idsL]
  ·have:=(objW_lt ho).1
   simp only[updo]
   rw[if_neg (by omega)]
   exact ho
 have q6:(c.arena== -1)=true:=by simpa using h3
 rw[if_pos (by simp[boxOk,hm,hcc,hv,h3]),hm,Int.toNat_natCast] at hr
 have hr0:=hr
 have he1:=hen m c hcc hv
 unfold EntC at he1
 refine ACall.of_bodyR Try.func68 isf59 rfl (by simp[Try.f68]) fun E Q hE hN hQ hQp=>K_start ?_
 repeat'(first|apply nx|refine zx ?_|rw[zw]|((first|refine hK _ ?_|refine hKp _ _ ?_);clear hK hKp K Kp;try clear hanc anc)|((with_reducible refine And.intro ?_ ?_);exact zb)|((first|refine zr hE fun K Kp hK hKp=>?_|refine zd true mixed hE fun K Kp hK hKp anc hanc=>?_|refine zd false mixed hE fun K Kp hK hKp anc hanc=>?_);simp only[go_sem,q2,q3,objW_2,Hp.cs,hm,q4,lt_dec h2,hcc,Cl.av,Cl.cs_eq,hv,q6])|(refine zg (fun hg=>?_) (fun hg=>?_)<;>simp only[go_sem,q2,q3,objW_2,Hp.cs,hm,q4,lt_dec h2,hcc,Cl.av,Cl.cs_eq,hv,q6,hg])|(refine zc (fun hc=>?_) (fun hc=>?_)<;>try exact zh hc))
 refine Hold.mk (CallB.of_A0 (need_call true) rfl (fun r hr=>?_) (fun x hx=>absurd hx.1 (by decide)))
 rw[hr.2]
 simp only[go_sem]
 refine hK _ ?_
 clear hK hKp
 repeat'(first|apply nx|refine zx ?_|rw[zw]|((first|refine hK _ ?_|refine hKp _ _ ?_);clear hK hKp K Kp;try clear hanc anc)|((with_reducible refine And.intro ?_ ?_);exact zb)|((first|refine zr hE fun K Kp hK hKp=>?_|refine zd true mixed hE fun K Kp hK hKp anc hanc=>?_|refine zd false mixed hE fun K Kp hK hKp anc hanc=>?_);simp only[go_sem,objW_3])|(refine zg (fun hg=>?_) (fun hg=>?_)<;>simp only[go_sem,objW_3,hg])|(refine zc (fun hc=>?_) (fun hc=>?_)<;>try exact zh hc))
 clear hr
 refine Hold.mk (CallB.use he1 (fun i=>i) (by rw[renL_id]) (by simp[AV.ids,AV.idsL,go_sem]) (fun id ob ho=>⟨?_,objW_lt ho⟩) (fun _ _ _ _ _ _ e=>e) (fun id hid=>⟨by omega,objW_np _ _ _ (by omega)⟩) ?_ ?_ ?_ ?_)
 ·rw[oren_id]
  have:=(objW_lt ho).1
  simp only[updo]
  rw[if_neg (by omega)]
  exact ho
 ·rintro r hp' ⟨rfl,o',_,rfl⟩
  exact⟨trivial,fun id ob ho=>⟨by have:=(objW_lt ho).1;omega,objids_mono _ (fun j hj=>by omega) (objW_lt ho).2⟩⟩
 ·rintro r hp' ⟨rfl,_,o',rfl⟩
  exact⟨by simp[wrongAV,AV.ids,AV.idsL],fun id ob ho=>⟨by have:=(objW_lt ho).1;omega,objids_mono _ (fun j hj=>by omega) (objW_lt ho).2⟩⟩
 ·rintro r hp' fr' hpn ⟨rfl,o',hr1,rfl⟩ hfr hobj _
  simp only[go_sem]
  refine hK _ ?_
  clear hK hKp
  repeat(first|refine Kq_norm_blk ?_|refine Kq_norm_nil ?_)
  refine(hQ _ ⟨.tup [],_,objW h o',7,rfl,trivial,ent_gen (fr:=[]) (by simp) (fun id ob ho=>⟨hobj id ob ho,objW_lt ho⟩) (fun _ _ _ _ _ _ e=>backM_id_inj (by omega) e) (fun id hid=>⟨backM_lt hid,by show id<7;omega⟩),rfl,o',by rw[hr0];exact hr1,rfl⟩).2
 ·rintro x hp' hpn ⟨rfl,hr1,o',rfl⟩ hobj _
  refine hKp _ _ (hQp _ _ ⟨wrongAV,_,objW h o',7,rfl,by simp[wrongAV,AV.ids,AV.idsL],ent_gen (fr:=[]) (by simp) (fun id ob ho=>⟨hobj id ob ho,objW_lt ho⟩) (fun _ _ _ _ _ _ e=>backM_id_inj (by omega) e) (fun id hid=>⟨backM_lt hid,by show id<7;omega⟩),rfl,by rw[hr0];exact hr1,o',rfl⟩)

def inPred (l:List Cl) (n:Int) (i:Nat):Bool:=match l[i]? with|some c=>c.live&&(c.arena==n)|none=>false
def arFrom (l:List Cl) (n:Int) (i:Nat):List Nat:=(List.range' i (l.length - i)).filter (inPred l n)
theorem arFrom_zero (l:List Cl) (n:Int):inArena l n=arFrom l n 0:=by
 unfold inArena arFrom
 rw[List.range_eq_range']
 rfl
theorem arFrom_end (l:List Cl) (n:Int):arFrom l n l.length=[]:=by simp[arFrom]
theorem arFrom_step {l:List Cl} {n:Int} {i:Nat} {c:Cl} (h:l[i]? =some c):arFrom l n i=if c.live&&(c.arena==n) then i::arFrom l n (i+1) else arFrom l n (i+1):=by
 have hlt:=(List.getElem?_eq_some_iff.1 h).1
 unfold arFrom
 rw[show l.length - i=(l.length - (i+1))+1 by omega,List.range'_succ,List.filter_cons]
 have:inPred l n i=(c.live&&(c.arena==n)):=by simp[inPred,h]
 rw[this]
def objA (h:Hp) (v:Vl) (o:Ow):Nat→Option AObj:=mkHp [(0,.cells [.mp 4,.mp 5,.rw 9]),(1,.cells [visF]),(2,.cells h.cs),(3,.cells [entF]),(4,.map (mkE o.cs)),(5,.map (mkE o.ags)),(6,.cells v.cs),(7,.cells h.cs),(9,.row 1 (il o.ids))]
theorem objA_lt {h:Hp} {v:Vl} {o:Ow} {id:Nat} {ob:AObj} (ho:objA h v o id=some ob):(id<1000000∧id≠8)∧ob.ids (fun j=>j<1000000∧j≠8):=by
 simp only[objA,mkHp,updo] at ho
 repeat' split at ho
 all_goals first|(cases ho;done)|skip
 all_goals cases ho;subst_vars
 all_goals refine⟨by decide,?_⟩
 all_goals first|(simp[AObj.ids,AV.ids,AV.idsL,Hp.cs,go_sem];done)|(intro p hp;obtain⟨n,_,rfl⟩:=List.mem_map.1 hp;exact⟨trivial,trivial⟩)
theorem objA_np (h:Hp) (v:Vl) (o:Ow) (id:Nat) (hid:id<8):objA h v o id≠none:=by
 have:id=0∨id=1∨id=2∨id=3∨id=4∨id=5∨id=6∨id=7:=by omega
 rcases this with rfl|rfl|rfl|rfl|rfl|rfl|rfl|rfl<;>simp[objA,mkHp,updo]
abbrev frA:List (Nat×AV):=[(1,.ptr 0 0),(2,.ptr 1 0),(3,.ptr 2 0),(4,.ptr 3 0),(5,.ptr 6 0),(104,.fn (.func 86) [] [.ptr 7 0])]
theorem ent_objA {h : Hp} {v : Vl} {o' : Ow} {hpn : Nat → Option AObj} {fr' : Nat → Option AV} {n' : Nat} {q : Lp} (hobj : ∀ j ob, objW h o' j = some ob → hpn (backM (fun i => if i = 6 then 9 else i) 6 11485760 j) = some (ob.ren (backM (fun i => if i = 6 then 9 else i) 6 11485760)))
    (h6:hpn 6=some (.cells v.cs)) (h7:hpn 7=some (.cells h.cs)) (h8:hpn 8=some (.lp q [.ptr 3 0,.ptr 6 0])):
    Ent (8+1) (fun i=>if i=9 then 11485760 else i) ⟨fr',hpn,n'⟩ ⟨mkFr [],updo (objA h v o') 8 (some (.lp q [.ptr 3 0,.ptr 6 0])),1000000⟩:=by
  have hb:∀ j,j<6→backM (fun i=>if i=6 then 9 else i) 6 11485760 j=j:=fun j hj=>by rw[backM_lt hj];exact if_neg (by omega)
  have hb6:backM (fun i=>if i=6 then 9 else i) 6 11485760 6=11485760:=by rw[backM_ge (by decide)]
  have b0:=hb 0 (by decide)
  have b1:=hb 1 (by decide)
  have b2:=hb 2 (by decide)
  have b3:=hb 3 (by decide)
  have b4:=hb 4 (by decide)
  have b5:=hb 5 (by decide)
  have k0:=hobj 0 _ rfl
  have k1:=hobj 1 _ rfl
  have k2:=hobj 2 _ rfl
  have k3:=hobj 3 _ rfl
  have k4:=hobj 4 _ rfl
  have k5:=hobj 5 _ rfl
  have k6:=hobj 6 _ rfl
  simp only[b0,b1,b2,b3,b4,b5,hb6,AObj.ren,AV.ren,AV.renL,Hp.cs,mkE_ren] at k0 k1 k2 k3 k4 k5 k6
  rw[cloL_renL (il_clo _)] at k6
  show Ent _ _ _ (mkSt [] [(8,.lp q [.ptr 3 0,.ptr 6 0]),(0,.cells [.mp 4,.mp 5,.rw 9]),(1,.cells [visF]),(2,.cells h.cs),(3,.cells [entF]),(4,.map (mkE o'.cs)),(5,.map (mkE o'.ags)),(6,.cells v.cs),(7,.cells h.cs),(9,.row 1 (il o'.ids))] 1000000)
  refine ent_mk (by simp) (by simp[go_sem,AV.ids,AV.idsL,k0,k1,k2,k3,k4,k5,k6,h6,h7,h8,Hp.cs,mkE_ren];exact⟨fun _ _=>mkE_idm,fun _ _=>mkE_idm⟩) (by simp) (fun id hid=>⟨if_neg (by omega),by omega⟩)
theorem ent_back {h:Hp} {v:Vl} {s':Ow} {m':Nat→Nat} {σ:St} {fr:List (Nat×AV)} (he:Ent 6 m' σ ⟨mkFr fr,objA h v s',1000000⟩):∃ m'',Ent 6 m'' σ ⟨fun _=>none,objW h s',7⟩:=by
 obtain⟨_,e2,e3,e4⟩:=he
 have b:∀ i,i<6→m' i=i:=fun i hi=>(e4 i hi).1
 have k0:=(e2 0 _ rfl).1
 have k1:=(e2 1 _ rfl).1
 have k2:=(e2 2 _ rfl).1
 have k3:=(e2 3 _ rfl).1
 have k4:=(e2 4 _ rfl).1
 have k5:=(e2 5 _ rfl).1
 have k9:=(e2 9 _ rfl).1
 have n9:∀ i,i<6→¬ m' 9=i:=by
  intro i hi hh
  have hne:=objA_np h v s' i (by omega)
  obtain⟨ob,hob⟩:=Option.ne_none_iff_exists'.1 hne
  have:=e3 9 i _ ob rfl hob (by rw[b i hi];exact hh)
  omega
 simp only[b 0 (by decide),b 1 (by decide),b 2 (by decide),b 3 (by decide),b 4 (by decide),b 5 (by decide),AObj.ren,AV.ren,AV.renL,Hp.cs,mkE_ren] at k0 k1 k2 k3 k4 k5 k9
 rw[cloL_renL (il_clo _)] at k9
 have n0:=n9 0 (by decide)
 have n1:=n9 1 (by decide)
 have n2:=n9 2 (by decide)
 have n3:=n9 3 (by decide)
 have n4:=n9 4 (by decide)
 have n5:=n9 5 (by decide)
 refine⟨fun i=>if i=6 then m' 9 else i,?_⟩
 show Ent _ _ _ (mkSt [] [(0,.cells [.mp 4,.mp 5,.rw 6]),(1,.cells [visF]),(2,.cells h.cs),(3,.cells [entF]),(4,.map (mkE s'.cs)),(5,.map (mkE s'.ags)),(6,.row 1 (il s'.ids))] 7)
 refine ent_mk (by simp) (by simp[go_sem,AV.ids,AV.idsL,k0,k1,k2,k3,k4,k5,k9,Hp.cs,mkE_ren];exact⟨fun _ _=>mkE_idm,fun _ _=>mkE_idm⟩) (by simp[n0,n1,n2,n3,n4,n5,Ne.symm n0,Ne.symm n1,Ne.symm n2,Ne.symm n3,Ne.symm n4,Ne.symm n5]) (fun id hid=>⟨if_neg (by omega),by omega⟩)
theorem vis_arena (h : Hp) (en : Nat → Ow → Option Ow) (v : Vl) (o : Ow) (hk : v.kind = 5) (hl : h.cells.length ≤ 2 ^ 20) (hal : h.arenas.length ≤ 2 ^ 20) (P : Ow → Prop) (hP : ∀ m, m ∉ o.ags → h.arenas[m]? = some true → P { o with ags := o.ags ++ [m] })
    (hen:∀ m c o,P o→h.cells[m]? =some c→c.live=true→EntC h m (en m) o) (hs:∀ m c o o',P o→h.cells[m]? =some c→c.live=true→en m o=some o'→P o'):VisC h v (visV h en v) o:=by
  have hlf:=liveF_nc h
  rw[Hp.av_eq] at hlf
  have hr:visV h en v o=if arenaOk h v.n&&!decide (v.n.toNat∈o.ags) then enL en (inArena h.cells v.n) { o with ags:=o.ags++[v.n.toNat] } else none:=by
    cases v
    simp only[Vl.kind] at hk
    rw[visV,if_neg (by omega),if_neg (by omega),if_pos hk];rfl
  unfold VisC
  rw[show v.cs=[.i v.kind,.i v.id,.i v.var,.i v.n,.sl (Vl.avL v.fs),.bool v.excl,.sl (il v.path),.sl (il v.loans)] from rfl]
  have q2:(v.kind==2)=false:=by simp[hk]
  have q3:(v.kind==3)=false:=by simp[hk]
  have q5:(v.kind==5)=true:=by simp[hk]
  by_cases hok:(arenaOk h v.n&&!decide (v.n.toNat∈o.ags))=true
  case neg=>
    rw[if_neg hok] at hr
    by_cases h1:0≤v.n
    case neg=>
      have q4:decide (0≤v.n)=false:=by simpa using h1
      refine ACall.of_bodyR Try.func68 isf59 rfl (by simp[Try.f68]) fun E Q hE hN hQ hQp=>K_start ?_
      repeat'(first|apply nx|refine zx ?_|rw[zw]|((first|refine hK _ ?_|refine hKp _ _ ?_);clear hK hKp K Kp;try clear hanc anc)|((with_reducible refine And.intro ?_ ?_);exact zb)|((first|refine zr hE fun K Kp hK hKp=>?_|refine zd true mixed hE fun K Kp hK hKp anc hanc=>?_|refine zd false mixed hE fun K Kp hK hKp anc hanc=>?_);simp only[go_sem,q2,q3,q5,objW_0,objW_2,objW_5,Hp.cs,lkRes,q4])|(refine zg (fun hg=>?_) (fun hg=>?_)<;>simp only[go_sem,q2,q3,q5,objW_0,objW_2,objW_5,Hp.cs,lkRes,q4,hg])|(refine zc (fun hc=>?_) (fun hc=>?_)<;>try exact zh hc))
      refine Hold.mk (CallB.of_A0 (need_call false) rfl (fun r hr=>absurd hr.1 (by decide)) (fun x hx=>?_))
      refine hKp _ _ (hQp _ _ ⟨x,fun i=>i,_,7,?_,?_,objW_ent (by decide) (fun id ob ho=>?_),hx.2,hr,o,rfl⟩)
      · rw[ren_id]
      · rw[hx.2];simp[wrongAV,AV.ids,AV.idsL]
      · have:=(objW_lt ho).1
        simp only[updo]
        rw[if_neg (by omega)]
        exact ho
    obtain⟨m,hm⟩:=Int.eq_ofNat_of_zero_le h1
    have q4:decide (0≤(m:Int))=true:=by simp
    by_cases h2:m<h.arenas.length
    case neg=>
      have q6:decide ((m:Int)<(h.arenas.length:Int))=false:=by simp;omega
      refine ACall.of_bodyR Try.func68 isf59 rfl (by simp[Try.f68]) fun E Q hE hN hQ hQp=>K_start ?_
      repeat'(first|apply nx|refine zx ?_|rw[zw]|((first|refine hK _ ?_|refine hKp _ _ ?_);clear hK hKp K Kp;try clear hanc anc)|((with_reducible refine And.intro ?_ ?_);exact zb)|((first|refine zr hE fun K Kp hK hKp=>?_|refine zd true mixed hE fun K Kp hK hKp anc hanc=>?_|refine zd false mixed hE fun K Kp hK hKp anc hanc=>?_);simp only[go_sem,q2,q3,q5,objW_0,objW_2,objW_5,Hp.cs,lkRes,hm,q4,q6])|(refine zg (fun hg=>?_) (fun hg=>?_)<;>simp only[go_sem,q2,q3,q5,objW_0,objW_2,objW_5,Hp.cs,lkRes,hm,q4,q6,hg])|(refine zc (fun hc=>?_) (fun hc=>?_)<;>try exact zh hc))
      refine Hold.mk (CallB.of_A0 (need_call false) rfl (fun r hr=>absurd hr.1 (by decide)) (fun x hx=>?_))
      refine hKp _ _ (hQp _ _ ⟨x,fun i=>i,_,7,?_,?_,objW_ent (by decide) (fun id ob ho=>?_),hx.2,hr,o,rfl⟩)
      · rw[ren_id]
      · rw[hx.2];simp[wrongAV,AV.ids,AV.idsL]
      · have:=(objW_lt ho).1
        simp only[updo]
        rw[if_neg (by omega)]
        exact ho
    obtain⟨b,hb⟩:=get?_of h2
    cases b
    · skip
      refine ACall.of_bodyR Try.func68 isf59 rfl (by simp[Try.f68]) fun E Q hE hN hQ hQp=>K_start ?_
      repeat'(first|apply nx|refine zx ?_|rw[zw]|((first|refine hK _ ?_|refine hKp _ _ ?_);clear hK hKp K Kp;try clear hanc anc)|((with_reducible refine And.intro ?_ ?_);exact zb)|((first|refine zr hE fun K Kp hK hKp=>?_|refine zd true mixed hE fun K Kp hK hKp anc hanc=>?_|refine zd false mixed hE fun K Kp hK hKp anc hanc=>?_);simp only[go_sem,q2,q3,q5,objW_0,objW_2,objW_5,Hp.cs,lkRes,hm,q4,lt_dec h2,hb])|(refine zg (fun hg=>?_) (fun hg=>?_)<;>simp only[go_sem,q2,q3,q5,objW_0,objW_2,objW_5,Hp.cs,lkRes,hm,q4,lt_dec h2,hb,hg])|(refine zc (fun hc=>?_) (fun hc=>?_)<;>try exact zh hc))
      refine Hold.mk (CallB.of_A0 (need_call false) rfl (fun r hr=>absurd hr.1 (by decide)) (fun x hx=>?_))
      refine hKp _ _ (hQp _ _ ⟨x,fun i=>i,_,7,?_,?_,objW_ent (by decide) (fun id ob ho=>?_),hx.2,hr,o,rfl⟩)
      · rw[ren_id]
      · rw[hx.2];simp[wrongAV,AV.ids,AV.idsL]
      · have:=(objW_lt ho).1
        simp only[updo]
        rw[if_neg (by omega)]
        exact ho
    have hin:m∈o.ags:=by
      have ha:arenaOk h v.n=true:=by simp[arenaOk,hm,hb]
      rw[ha,Bool.true_and,hm] at hok
      simpa using hok
    have hfe:=findE_mkE m o.ags
    rw[if_pos hin] at hfe
    refine ACall.of_bodyR Try.func68 isf59 rfl (by simp[Try.f68]) fun E Q hE hN hQ hQp=>K_start ?_
    repeat'(first|apply nx|refine zx ?_|rw[zw]|((first|refine hK _ ?_|refine hKp _ _ ?_);clear hK hKp K Kp;try clear hanc anc)|((with_reducible refine And.intro ?_ ?_);exact zb)|((first|refine zr hE fun K Kp hK hKp=>?_|refine zd true mixed hE fun K Kp hK hKp anc hanc=>?_|refine zd false mixed hE fun K Kp hK hKp anc hanc=>?_);simp only[go_sem,q2,q3,q5,objW_0,objW_2,objW_5,Hp.cs,lkRes,hm,q4,lt_dec h2,hb,hfe])|(refine zg (fun hg=>?_) (fun hg=>?_)<;>simp only[go_sem,q2,q3,q5,objW_0,objW_2,objW_5,Hp.cs,lkRes,hm,q4,lt_dec h2,hb,hfe,hg])|(refine zc (fun hc=>?_) (fun hc=>?_)<;>try exact zh hc))
    refine Hold.mk (CallB.of_A0 (need_call false) rfl (fun r hr=>absurd hr.1 (by decide)) (fun x hx=>?_))
    refine hKp _ _ (hQp _ _ ⟨x,fun i=>i,_,7,?_,?_,objW_ent (by decide) (fun id ob ho=>?_),hx.2,hr,o,rfl⟩)
    · rw[ren_id]
    · rw[hx.2];simp[wrongAV,AV.ids,AV.idsL]
    · have:=(objW_lt ho).1
      simp only[updo]
      rw[if_neg (by omega)]
      exact ho
  simp only[Bool.and_eq_true,Bool.not_eq_true',decide_eq_false_iff_not] at hok
  obtain⟨m,hm,hma⟩:=arenaOk_spec hok.1
  have hmn:m∉o.ags:=by have:=hok.2;rw[hm] at this;simpa using this
  have hfe:=findE_mkE m o.ags
  rw[if_neg hmn] at hfe
  have hr0:visV h en v o=enL en (arFrom h.cells m 0) { o with ags:=o.ags++[m] } :=by
    rw[hr,if_pos (by rw[hm] at hok ⊢;simpa using hok),hm,Int.toNat_natCast,arFrom_zero]
  have hlm:m<h.arenas.length:=(List.getElem?_eq_some_iff.1 hma).1
  refine ACall.of_bodyRM Try.func68 isf59 rfl (by simp[Try.f68]) fun E Q hE hN hM hQ hQp=>K_start ?_
  repeat'(first|apply nx|refine zx ?_|rw[zw]|((first|refine hK _ ?_|refine hKp _ _ ?_);clear hK hKp K Kp;try clear hanc anc)|((with_reducible refine And.intro ?_ ?_);exact zb)|((first|refine zr hE fun K Kp hK hKp=>?_|refine zd true mixed hE fun K Kp hK hKp anc hanc=>?_|refine zd false mixed hE fun K Kp hK hKp anc hanc=>?_);simp only[go_sem,q2,q3,q5,objW_2,Hp.cs,hm,lt_dec hlm,hma,objW_0,objW_5,hfe,lkRes,show decide ((0:Int)≤(m:Int))=true by simp])|(refine zg (fun hg=>?_) (fun hg=>?_)<;>simp only[go_sem,q2,q3,q5,objW_2,Hp.cs,hm,lt_dec hlm,hma,objW_0,objW_5,hfe,lkRes,show decide ((0:Int)≤(m:Int))=true by simp,hg])|(refine zc (fun hc=>?_) (fun hc=>?_)<;>try exact zh hc))
  refine Hold.mk (CallB.of_A0 (need_call true) rfl (fun r hr=>?_) (fun x hx=>absurd hx.1 (by decide)))
  rw[hr.2]
  simp only[go_sem]
  refine hK _ ?_
  clear hK hKp
  repeat'(first|apply nx|refine zx ?_|rw[zw]|((first|refine hK _ ?_|refine hKp _ _ ?_);clear hK hKp K Kp;try clear hanc anc)|((with_reducible refine And.intro ?_ ?_);exact zb)|((first|refine zr hE fun K Kp hK hKp=>?_|refine zd true mixed hE fun K Kp hK hKp anc hanc=>?_|refine zd false mixed hE fun K Kp hK hKp anc hanc=>?_);simp only[go_sem,objW_0,objW_5,objW_2,Hp.cs,hfe,putE,hm])|(refine zg (fun hg=>?_) (fun hg=>?_)<;>simp only[go_sem,objW_0,objW_5,objW_2,Hp.cs,hfe,putE,hm,hg])|(refine zc (fun hc=>?_) (fun hc=>?_)<;>try exact zh hc))
  refine Hold.mk (CallB.newP hlf (by simp[AV.cloL,AV.clo]) (by simp[AV.ids,AV.idsL]) (by intro p hp;simp only[List.mem_cons,List.not_mem_nil,or_false] at hp;subst hp;exact⟨by show 0<1048576;decide,by simp[AObj.ids,Hp.cs,AV.ids,AV.idsL,go_sem]⟩) ?_)
  simp only[go_sem,AObj.ren,Hp.cs]
  refine hK _ ?_
  clear hK hKp
  repeat'(first|apply nx|refine zx ?_|rw[zw]|((first|refine hK _ ?_|refine hKp _ _ ?_);clear hK hKp K Kp;try clear hanc anc)|((with_reducible refine And.intro ?_ ?_);exact zb)|((first|refine zr hE fun K Kp hK hKp=>?_|refine zd true mixed hE fun K Kp hK hKp anc hanc=>?_|refine zd false mixed hE fun K Kp hK hKp anc hanc=>?_);simp only[go_sem])|(refine zg (fun hg=>?_) (fun hg=>?_)<;>simp only[go_sem,hg])|(refine zc (fun hc=>?_) (fun hc=>?_)<;>try exact zh hc))
  refine AW.ent (σ':=⟨mkFr frA,objA h v { o with ags:=o.ags++[m] },1000000⟩) (fun i=>if i=6 then 7 else if i=7 then 45088775 else if i=9 then 6 else i) (by
    show Ent _ _ _ (mkSt frA [(0,.cells [.mp 4,.mp 5,.rw 9]),(1,.cells [visF]),(2,.cells h.cs),(3,.cells [entF]),(4,.map (mkE o.cs)),(5,.map (mkE (o.ags++[m]))),(6,.cells v.cs),(7,.cells h.cs),(9,.row 1 (il o.ids))] 1000000)
    refine ent_mk (by simp[go_sem,AV.ids,AV.idsL]) (by simp[go_sem,AV.ids,AV.idsL,objW_0,objW_1,objW_2,objW_3,objW_4,objW_6,Hp.cs,Vl.cs,hm,mkE_ren,mkE_put];exact⟨fun _ _=>mkE_idm,fun _ _=>mkE_idm⟩) (by simp) (fun id hid=>?_)
    rw[hN] at hid
    exact⟨by rw[if_neg (by omega),if_neg (by omega),if_neg (by omega)],by omega⟩) ?_
  clear hfe
  refine AW_live hM h hl (objA h v) 8 7 (by decide) (by decide) (by rw[hN];decide) (fun s=>rfl) (fun s id o ho=>objA_lt ho) (fun s id hid=>objA_np _ _ _ _ hid) frA (by simp[AV.ids,AV.idsL]) (by simp[go_sem]) (by simp[go_sem]) [4,5] [.ptr 3 0,.ptr 6 0] (by intro i hi;match i,hi with|0,_=>rfl|1,_=>rfl) (by simp[AV.ids,AV.idsL]) rfl (by rw[hE];simp[Try.f68])
    (fun i s=>enL en (arFrom h.cells m 0) { o with ags:=o.ags++[m] } =enL en (arFrom h.cells m i) s∧P s) (fun x s=>x=wrongAV∧enL en (arFrom h.cells m 0) { o with ags:=o.ags++[m] } =none) (fun x s hx=>by rw[hx.1];rfl) ?_ (fun i c s hi hc hv=>⟨by rw[hi.1,arFrom_step hc,hv];rfl,hi.2⟩) _ ⟨rfl,hP m hmn hma⟩ ?_ ?_
  · intro l fnn i c s E' Q' ⟨hi,hPs⟩ hcc hv hE' hN' hnorm hpan
    have hi20:i<h.cells.length:=(List.getElem?_eq_some_iff.1 hcc).1
    rw[arFrom_step hcc,hv,Bool.true_and] at hi
    unfold RoundGoal
    refine K_start ?_
    show AW Try.prog E' _ _ ⟨upd (upd (mkFr [(4,.ptr 3 0),(5,.ptr 6 0)]) 105 (.i i)) 106 (.agg c.cs),updo (objA h v s) 8 _,1000000⟩
    rw[hE] at hE'
    replace hE:=hE'
    repeat'(first|apply nx|refine zx ?_|rw[zw]|((first|refine hK _ ?_|refine hKp _ _ ?_);clear hK hKp K Kp;try clear hanc anc)|((with_reducible refine And.intro ?_ ?_);exact zb)|((first|refine zr hE fun K Kp hK hKp=>?_|refine zd true mixed hE fun K Kp hK hKp anc hanc=>?_|refine zd false mixed hE fun K Kp hK hKp anc hanc=>?_);simp only[go_sem,Cl.cs_eq])|(refine zg (fun hg=>?_) (fun hg=>?_)<;>simp only[go_sem,Cl.cs_eq,hg])|(refine zc (fun hc=>?_) (fun hc=>?_)<;>try exact zh hc))
    refine Kq_norm_nil ?_
    refine⟨[.ptr 3 0,.ptr 6 0],by simp[updo],K_start ?_⟩
    show AW Try.prog E' _ _ ⟨_,_,4145728⟩
    have ho3:objA h v s 3=some (.cells [entF]):=rfl
    have ho6:objA h v s 6=some (.cells v.cs):=rfl
    by_cases hcm:c.arena=m
    · have q7:(c.arena==(m:Int))=true:=by simpa using hcm
      rw[if_pos q7,enL] at hi
      have he1:=hen i c s hPs hcc hv
      unfold EntC at he1
      repeat'(first|apply nx|refine zx ?_|rw[zw]|((first|refine hK _ ?_|refine hKp _ _ ?_);clear hK hKp K Kp;try clear hanc anc)|((with_reducible refine And.intro ?_ ?_);exact zb)|((first|refine zr hE fun K Kp hK hKp=>?_|refine zd true mixed hE fun K Kp hK hKp anc hanc=>?_|refine zd false mixed hE fun K Kp hK hKp anc hanc=>?_);simp only[go_sem,ho3,ho6,Vl.cs,hm,q7])|(refine zg (fun hg=>?_) (fun hg=>?_)<;>simp only[go_sem,ho3,ho6,Vl.cs,hm,q7,hg])|(refine zc (fun hc=>?_) (fun hc=>?_)<;>try exact zh hc))
      have hb:∀ j,j<6→backM (fun i=>if i=6 then 9 else i) 6 11485760 j=j:=fun j hj=>by rw[backM_lt hj];exact if_neg (by omega)
      have hb6:backM (fun i=>if i=6 then 9 else i) 6 11485760 6=11485760:=by rw[backM_ge (by decide)]
      have hm2:∀ j,objW h s j≠none→(if j=6 then 9 else j)<8∨(if j=6 then 9 else j)=9:=by
        intro j hj
        obtain⟨ob,hob⟩:=Option.ne_none_iff_exists'.1 hj
        have:=(objW_lt hob).1
        split<;>omega
      have hm3:∀ id,id=6∨id=7∨id=8→∀ j,objW h s j≠none→(if j=6 then 9 else j)≠id:=by
        intro id hid j hj
        obtain⟨ob,hob⟩:=Option.ne_none_iff_exists'.1 hj
        have:=(objW_lt hob).1
        split<;>omega
      refine Hold.mk (CallB.use he1 (fun i=>if i=6 then 9 else i) (by simp[AV.renL,AV.ren]) (by simp[AV.ids,AV.idsL,go_sem]) (fun id ob ho=>⟨?_,objW_lt ho⟩) (fun id id' _ _ h1 h2 e=>?_) (fun id hid=>⟨by omega,objW_np _ _ _ (by omega)⟩) ?_ ?_ ?_ ?_)
      · simp only[objW,mkHp,updo] at ho
        repeat' split at ho
        all_goals first|(cases ho;done)|skip
        all_goals cases ho;subst_vars
        all_goals simp[updo,objA,mkHp,AObj.ren,AV.ren,AV.renL,Hp.cs,mkE_ren,go_sem]
      · have g1:=(objW_lt h1).1
        have g2:=(objW_lt h2).1
        have e':(if id=6 then 9 else id)=(if id'=6 then 9 else id'):=e
        split at e'<;>split at e'<;>omega
      · rintro r hp' ⟨rfl,o',_,rfl⟩
        exact⟨trivial,fun id ob ho=>⟨by have:=(objW_lt ho).1;omega,objids_mono _ (fun j hj=>by omega) (objW_lt ho).2⟩⟩
      · rintro r hp' ⟨rfl,_,o',rfl⟩
        exact⟨by simp[wrongAV,AV.ids,AV.idsL],fun id ob ho=>⟨by have:=(objW_lt ho).1;omega,objids_mono _ (fun j hj=>by omega) (objW_lt ho).2⟩⟩
      · rintro r hp' fr' hpn ⟨rfl,o',hr1,rfl⟩ hfr hobj hold
        simp only[go_sem]
        refine hK _ ?_
        clear hK hKp
        repeat(first|refine Kq_norm_blk ?_|refine Kq_norm_nil ?_)
        refine hnorm _ o' (fun i=>if i=9 then 11485760 else i) ⟨by rw[hi,hr1];rfl,hs i c s o' hPs hcc hv hr1⟩ ?_
        refine ent_objA hobj ?_ ?_ ?_
        · exact hold 6 _ (by simp[updo,objA,mkHp]) (hm3 6 (.inl rfl))
        · exact hold 7 _ (by simp[updo,objA,mkHp]) (hm3 7 (.inr (.inl rfl)))
        · exact hold 8 _ (by simp[updo]) (hm3 8 (.inr (.inr rfl)))
      · rintro x hp' hpn ⟨rfl,hr1,o',rfl⟩ hobj hold
        refine hKp _ _ (hpan _ _ o' (fun i=>if i=9 then 11485760 else i) ⟨rfl,by rw[hi,hr1];rfl⟩ ?_)
        refine ent_objA hobj ?_ ?_ ?_
        · exact hold 6 _ (by simp[updo,objA,mkHp]) (hm3 6 (.inl rfl))
        · exact hold 7 _ (by simp[updo,objA,mkHp]) (hm3 7 (.inr (.inl rfl)))
        · exact hold 8 _ (by simp[updo]) (hm3 8 (.inr (.inr rfl)))
    · have q7:(c.arena==(m:Int))=false:=by simpa using hcm
      rw[if_neg (by simp[q7])] at hi
      repeat'(first|apply nx|refine zx ?_|rw[zw]|((first|refine hK _ ?_|refine hKp _ _ ?_);clear hK hKp K Kp;try clear hanc anc)|((with_reducible refine And.intro ?_ ?_);exact zb)|((first|refine zr hE fun K Kp hK hKp=>?_|refine zd true mixed hE fun K Kp hK hKp anc hanc=>?_|refine zd false mixed hE fun K Kp hK hKp anc hanc=>?_);simp only[go_sem,ho3,ho6,Vl.cs,hm,q7])|(refine zg (fun hg=>?_) (fun hg=>?_)<;>simp only[go_sem,ho3,ho6,Vl.cs,hm,q7,hg])|(refine zc (fun hc=>?_) (fun hc=>?_)<;>try exact zh hc))
      refine Kq_norm_nil (hnorm _ s (fun i=>i) ⟨hi,hPs⟩ (ent_idG (fr:=[]) (by simp) (fun id ob ho=>?_) (by decide)))
      by_cases e:id=8
      · subst e
        simp only[updo,if_true] at ho
        cases ho
        exact⟨by simp[updo],by decide,by simp[AObj.ids,AV.ids,AV.idsL]⟩
      · simp only[updo,if_neg e] at ho
        have g:=objA_lt ho
        refine⟨?_,g.1.1,objids_mono _ (fun j hj=>hj.1) g.2⟩
        simp only[updo,if_neg e]
        repeat rw[if_neg (by omega)]
        exact ho
  · intro σ s' m' ⟨hi,_⟩ he
    rw[arFrom_end,enL] at hi
    rw[hN] at he
    obtain⟨m'',he2⟩:=ent_back he
    refine Kq_norm_blk ?_
    refine Kq_norm_blk ?_
    refine Kq_norm_nil ?_
    exact(hQ _ ⟨.tup [],m'',objW h s',7,rfl,trivial,he2,rfl,s',by rw[hr0];exact hi,rfl⟩).2
  · intro x σ s' m' ⟨hx,hi⟩ he
    rw[hN] at he
    obtain⟨m'',he2⟩:=ent_back he
    subst hx
    refine Kq_pan ?_
    exact hQp _ _ ⟨wrongAV,m'',objW h s',7,rfl,by simp[wrongAV,AV.ids,AV.idsL],he2,rfl,by rw[hr0];exact hi,s',rfl⟩
end Go.Proofs.Ytfgjjnfdcgkpoaa

set_option maxHeartbeats 4000000
set_option maxRecDepth 100000
namespace Go.Proofs.Ytfgjjnfdcgkpoaa
open Go.Am Go.Proofs Go.Hv
open Classical
theorem Ow.Le.len {o o':Ow} (h:o.Le o'):o.cs.length≤o'.cs.length:=by
 obtain⟨l,e⟩:=h.cs
 rw[e,List.length_append];omega
def EntAll (h:Hp) (k:Nat):Prop:=∀ n c o,h.cells[n]? =some c→c.live=true→o.Ok h→h.cells.length≤k+o.cs.length→bud (2 ^ 20) h o≤2 ^ 42→EntC h n (visE h k n) o
theorem vis_all {h:Hp} (hl:h.cells.length≤2 ^ 20) (hal:h.arenas.length≤2 ^ 20) (hM:∀ c,c∈h.cells→c.v.sz≤2 ^ 20) {k:Nat} (hE:EntAll h k):∀ (N:Nat) (v:Vl) (o:Ow),v.sz<N→v.sz≤2 ^ 20→o.Ok h→h.cells.length≤k+o.cs.length→bud (2 ^ 20) h o+v.sz≤2 ^ 42→VisC h v (visV h (visE h k) v) o:=by
 intro N
 induction N with
 |zero=>intro v o h0;omega
 |succ N ih=>
 intro v o hN hv20 ho hlen hbud
 have hsz:=v.sz_eq
 have hfl:=Vl.len_le v.fs
 have hids:o.ids.length≤bud (2 ^ 20) h o:=Nat.le_add_right _ _
 by_cases h2:v.kind=2
 ·refine vis_data h _ v o h2 (by omega) (by omega) (fun i o=>o.Ok h∧h.cells.length≤k+o.cs.length∧bud (2 ^ 20) h o+Vl.szL (v.fs.drop i)≤2 ^ 42) ⟨⟨ho.nd,ho.lt,ho.and,ho.alt⟩,hlen,?_⟩ ?_ ?_
  ·have e:bud (2 ^ 20) h { o with ids:=o.ids++[v.id] } =bud (2 ^ 20) h o+1:=by simp only[bud,List.length_append,List.length_singleton];omega
   rw[e,List.drop_zero]
   omega
  ·rintro i x o1 hx ⟨g1,g2,g3⟩
   rw[drop_of hx,Vl.szL] at g3
   have:=Vl.sz_mem (List.mem_of_getElem? hx)
   exact ih x o1 (by omega) (by omega) g1 g2 (by omega)
  ·rintro i x o1 o2 hx ⟨g1,g2,g3⟩ he
   rw[drop_of hx,Vl.szL] at g3
   have k1:=visV_keeps (visE_keeps h k) x o1 o2 g1 he
   have k2:=visV_bud (visE_keeps h k) (visE_bud hM k) x o1 o2 g1 he
   have k3:=Ow.Le.len k1.2
   exact⟨k1.1,by omega,by omega⟩
 by_cases h3:v.kind=3
 ·exact vis_box h _ v o h3 hl (fun m c hc hv=>hE m c o hc hv ho hlen (by omega))
 by_cases h5:v.kind=5
 ·refine vis_arena h _ v o h5 hl hal (fun o=>o.Ok h∧h.cells.length≤k+o.cs.length∧bud (2 ^ 20) h o≤2 ^ 42) (fun m hm1 hm2=>⟨ho.arena hm1 hm2,hlen,?_⟩) (fun m c o1 g hc hv=>hE m c o1 hc hv g.1 g.2.1 g.2.2) (fun m c o1 o2 g hc hv he=>?_)
  ·have e:bud (2 ^ 20) h (Ow.mk o.cs (o.ags++[m]) o.ids)=bud (2 ^ 20) h o:=rfl
   show bud (2 ^ 20) h (Ow.mk o.cs (o.ags++[m]) o.ids)≤2 ^ 42
   rw[e]
   omega
  ·have k1:=visE_keeps h k m o1 o2 g.1 ⟨c,hc,hv⟩ he
   have k2:=visE_bud hM k m o1 o2 g.1 ⟨c,hc,hv⟩ he
   have k3:=Ow.Le.len k1.2
   exact⟨k1.1,by omega,by omega⟩
 exact vis_other h _ v o h2 h3 h5
theorem EntC.congr {h:Hp} {n:Nat} {r r':Ow→Option Ow} {o:Ow} (hr:r o=r' o) (he:EntC h n r o):EntC h n r' o:=by
 unfold EntC at he ⊢
 rw[← hr]
 exact he
theorem ent_all {h:Hp} (hl:h.cells.length≤2 ^ 20) (hal:h.arenas.length≤2 ^ 20) (hM:∀ c,c∈h.cells→c.v.sz≤2 ^ 20):∀ k,EntAll h k
 |0=>fun n c o hc hv ho hlen hbud=>by
  have hin:n∈o.cs:=Classical.byContradiction fun hn=>by
   have:=ho.len_lt hn (List.getElem?_eq_some_iff.1 hc).1
   omega
  refine EntC.congr (r:=fun o=>visE h (0+1) n o) ?_ (enter_c h 0 n o c hc fun hn=>absurd hin hn)
  have e1:visE h (0+1) n o=none:=by rw[visE,if_pos hin]
  have e0:visE h 0 n o=none:=by rw[visE]
  show visE h (0+1) n o=visE h 0 n o
  rw[e1,e0]
 |k+1=>fun n c o hc hv ho hlen hbud=>by
  refine enter_c h k n o c hc fun hn=>?_
  have g1:=ho.len_lt hn (List.getElem?_eq_some_iff.1 hc).1
  have g2:=hM c (List.mem_of_getElem? hc)
  refine vis_all hl hal hM (ent_all hl hal hM k) (c.v.sz+1) c.v _ (by omega) g2 (ho.enter hn hc hv) ?_ ?_
  ·simp only[List.length_append,List.length_singleton];omega
  ·have e:bud (2 ^ 20) h { o with cs:=o.cs++[n] } +2 ^ 20=bud (2 ^ 20) h o:=by
    unfold bud
    simp only[List.length_append,List.length_singleton]
    have:h.cells.length - o.cs.length=(h.cells.length - (o.cs.length+1))+1:=by omega
    rw[this,Nat.add_mul]
    omega
   omega
theorem bud_nil (M:Nat) (h:Hp):bud M h Ow.nil=h.cells.length*M:=by simp[bud,Ow.nil]
theorem visit_c {h:Hp} (hl:h.cells.length≤2 ^ 20) (hal:h.arenas.length≤2 ^ 20) (hM:∀ c,c∈h.cells→c.v.sz≤2 ^ 20) (v:Vl) (hv:v.sz≤2 ^ 20):VisC h v (visV h (visE h h.cells.length) v) Ow.nil:=
 vis_all hl hal hM (ent_all hl hal hM _) (v.sz+1) v _ (by omega) hv (Ow.nil_ok h) (by omega) (by
  rw[bud_nil]
  omega)
end Go.Proofs.Ytfgjjnfdcgkpoaa

set_option maxHeartbeats 4000000
set_option maxRecDepth 100000
namespace Go.Proofs.Ytfgjjnfdcgkpoaa
open Go.Am Go.Proofs Go.Hv
open Classical
attribute [local irreducible] AW CallP CallB CallY
def objD (D:List AV):Nat→Option AObj:=mkHp [(0,.cells [.sl D])]
theorem objD_lt {D:List AV} {id:Nat} {ob:AObj} (ho:objD D id=some ob):id<1∧ob.ids (· <1):=by
 simp only[objD,mkHp,updo] at ho
 split at ho
 ·cases ho;subst_vars;exact⟨by decide,by simp[AObj.ids,AV.ids,AV.idsL]⟩
 ·cases ho
theorem objD_np (D:List AV) (id:Nat) (hid:id<1):objD D id≠none:=by
 obtain rfl:id=0:=by omega
 simp[objD,mkHp,updo]
def unkB (D:List AV) (n:Int):Bool:=decide (n<0)||decide ((D.length:Int)≤n)
theorem unk_c (D:List AV) (n:Int):ACall Try.prog 72 [.i n,.ptr 0 0] (objD D) 1 1 (fun r hp'=>r= .bool (unkB D n)∧hp'=objD D) (fun _ _=>False):=by
 have h0:objD D 0=some (.cells [.sl D]):=rfl
 refine ACall.of_bodyR Try.func72 isf45 rfl (by simp[Try.f72]) fun E Q hE hN hQ hQp=>K_start ?_
 have hfin:∀ (fr:Nat→Option AV) (nx:Nat),Ent 1 (fun i=>i) ⟨fr,objD D,nx⟩ ⟨fun _=>none,objD D,1⟩:=fun fr nx=>ent_idG (fr:=[]) (by simp) (fun id ob ho=>⟨ho,objD_lt ho⟩) (by decide)
 unfold unkB at hQ
 cases q1:decide (n<0)
 ·rw[q1] at hQ
  repeat'(first|apply nx|refine zx ?_|rw[zw]|((first|refine hK _ ?_|refine hKp _ _ ?_);clear hK hKp K Kp;try clear hanc anc)|((with_reducible refine And.intro ?_ ?_);exact zb)|((first|refine zr hE fun K Kp hK hKp=>?_|refine zd true mixed hE fun K Kp hK hKp anc hanc=>?_|refine zd false mixed hE fun K Kp hK hKp anc hanc=>?_);simp only[go_sem,q1,h0])|(refine zg (fun hg=>?_) (fun hg=>?_)<;>simp only[go_sem,q1,h0,hg])|(refine zc (fun hc=>?_) (fun hc=>?_)<;>try exact zh hc))
  refine K_ret (hQ _ ⟨.bool (decide ((D.length:Int)≤n)),fun i=>i,_,1,resA_tmp (by simp only[go_sem]),trivial,hfin _ _,by simp,rfl⟩).1
 ·rw[q1] at hQ
  repeat'(first|apply nx|refine zx ?_|rw[zw]|((first|refine hK _ ?_|refine hKp _ _ ?_);clear hK hKp K Kp;try clear hanc anc)|((with_reducible refine And.intro ?_ ?_);exact zb)|((first|refine zr hE fun K Kp hK hKp=>?_|refine zd true mixed hE fun K Kp hK hKp anc hanc=>?_|refine zd false mixed hE fun K Kp hK hKp anc hanc=>?_);simp only[go_sem,q1,h0])|(refine zg (fun hg=>?_) (fun hg=>?_)<;>simp only[go_sem,q1,h0,hg])|(refine zc (fun hc=>?_) (fun hc=>?_)<;>try exact zh hc))
  refine K_ret (hQ _ ⟨.bool true,fun i=>i,_,1,resA_tmp (by simp only[go_sem]),trivial,hfin _ _,by simp,rfl⟩).1
def unkI (D:List AV):List Int→Nat
 | []=>0
 |n::l=>if unkB D n then 0 else 1+unkI D l
theorem idxU_c (D:List AV) (l:List Int) (hl:l.length≤2 ^ 43):ACall Try.prog 88 [.sl (il l),.fn (.func 72) [] [.ptr 0 0]] (objD D) 1 1 (fun r hp'=>r= .i (if unkI D l<l.length then(unkI D l:Int) else -1)∧hp'=objD D) (fun _ _=>False):=by
 refine ACall.of_bodyR Try.func88 isf60 rfl (by simp[Try.f88]) fun E Q hE hN hQ hQp=>K_start ?_
 have hfin:∀ (fr:Nat→Option AV) (nx:Nat),Ent 1 (fun i=>i) ⟨fr,objD D,nx⟩ ⟨fun _=>none,objD D,1⟩:=fun fr nx=>ent_idG (fr:=[]) (by simp) (fun id ob ho=>⟨ho,objD_lt ho⟩) (by decide)
 repeat'(first|apply nx|refine zx ?_|rw[zw]|((first|refine hK _ ?_|refine hKp _ _ ?_);clear hK hKp K Kp;try clear hanc anc)|((with_reducible refine And.intro ?_ ?_);exact zb)|((first|refine zr hE fun K Kp hK hKp=>?_|refine zd true mixed hE fun K Kp hK hKp anc hanc=>?_|refine zd false mixed hE fun K Kp hK hKp anc hanc=>?_);simp only[go_sem])|(refine zg (fun hg=>?_) (fun hg=>?_)<;>simp only[go_sem,hg])|(refine zc (fun hc=>?_) (fun hc=>?_)<;>try exact zh hc))
 refine K_loop (X:=Nat) (fun i=>i≤l.length∧unkI D l=i+unkI D (l.drop i)) (fun i=>⟨mkFr [(0,.sl (il l)),(1,.fn (.func 72) [] [.ptr 0 0]),(7,.i l.length),(8,AV.i i)],objD D,1⟩) (fun i=>l.length - i) 0 ⟨Nat.zero_le _,by simp⟩ (fun i=>i) ?_ ?_
 ·exact ent_idG (by simp[go_sem,AV.ids,AV.idsL]) (fun id ob ho=>⟨ho,objD_lt ho⟩) (by rw[hN];decide)
 rintro i ⟨hi,ht⟩
 by_cases hlt:i<l.length
 ·obtain⟨x,hx⟩:=get?_of hlt
  rw[drop_of hx,unkI] at ht
  have hu:=unk_c D x
  repeat'(first|apply nx|refine zx ?_|rw[zw]|((first|refine hK _ ?_|refine hKp _ _ ?_);clear hK hKp K Kp;try clear hanc anc)|((with_reducible refine And.intro ?_ ?_);exact zb)|((first|refine zr hE fun K Kp hK hKp=>?_|refine zd true mixed hE fun K Kp hK hKp anc hanc=>?_|refine zd false mixed hE fun K Kp hK hKp anc hanc=>?_);simp only[go_sem,lt_dec hlt,hx])|(refine zg (fun hg=>?_) (fun hg=>?_)<;>simp only[go_sem,lt_dec hlt,hx,hg])|(refine zc (fun hc=>?_) (fun hc=>?_)<;>try exact zh hc))
  refine Hold.mk (CallB.use hu (fun i=>i) (by rw[renL_id]) (by simp[AV.ids,AV.idsL]) (fun id ob ho=>⟨by rw[oren_id];exact ho,objD_lt ho⟩) (fun _ _ _ _ _ _ e=>e) (fun id hid=>⟨hid,objD_np D id hid⟩) ?_ (fun r hp' h=>h.elim) ?_ (fun x hp' hpn h=>h.elim))
  ·rintro r hp' ⟨rfl,rfl⟩
   exact⟨trivial,fun id ob ho=>⟨by have:=(objD_lt ho).1;omega,objids_mono _ (fun j hj=>by omega) (objD_lt ho).2⟩⟩
  ·rintro r hp' fr' hpn ⟨rfl,rfl⟩ hfr hobj _
   have hhp:∀ id ob,objD D id=some ob→hpn id=some ob:=by
    intro id ob ho
    have:=(objD_lt ho).1
    obtain rfl:id=0:=by omega
    have e2:=hobj 0 ob ho
    rw[backM_lt (by decide)] at e2
    have e3:ob= .cells [.sl D]:=(Option.some.inj ho).symm
    subst e3
    simpa [AObj.ren,AV.renL,AV.ren] using e2
   clear hobj
   simp only[St.put,AV.ren,putf] at hfr
   subst hfr
   cases hub:unkB D x
   ·rw[hub] at ht
    simp only[go_sem,hub]
    refine hK _ ?_
    clear hK hKp
    repeat'(first|apply nx|refine zx ?_|rw[zw]|((first|refine hK _ ?_|refine hKp _ _ ?_);clear hK hKp K Kp;try clear hanc anc)|((with_reducible refine And.intro ?_ ?_);exact zb)|((first|refine zr hE fun K Kp hK hKp=>?_|refine zd true mixed hE fun K Kp hK hKp anc hanc=>?_|refine zd false mixed hE fun K Kp hK hKp anc hanc=>?_);simp only[go_sem])|(refine zg (fun hg=>?_) (fun hg=>?_)<;>simp only[go_sem,hg])|(refine zc (fun hc=>?_) (fun hc=>?_)<;>try exact zh hc))
    refine⟨i+1,⟨by omega,by simp at ht;omega⟩,by omega,fun i=>i,ent_idG (by simp[go_sem,AV.ids,AV.idsL]) (fun id ob ho=>⟨hhp id ob ho,objD_lt ho⟩) (by rw[hN];decide)⟩
   ·rw[hub] at ht
    have hf:unkI D l=i:=by simpa using ht
    simp only[go_sem,hub]
    refine hK _ ?_
    clear hK hKp
    repeat'(first|apply nx|refine zx ?_|rw[zw]|((first|refine hK _ ?_|refine hKp _ _ ?_);clear hK hKp K Kp;try clear hanc anc)|((with_reducible refine And.intro ?_ ?_);exact zb)|((first|refine zr hE fun K Kp hK hKp=>?_|refine zd true mixed hE fun K Kp hK hKp anc hanc=>?_|refine zd false mixed hE fun K Kp hK hKp anc hanc=>?_);simp only[go_sem])|(refine zg (fun hg=>?_) (fun hg=>?_)<;>simp only[go_sem,hg])|(refine zc (fun hc=>?_) (fun hc=>?_)<;>try exact zh hc))
    refine K_ret (hQ _ ⟨.i i,fun i=>i,_,1,resA_tmp (by simp only[go_sem]),trivial,ent_idG (fr:=[]) (by simp) (fun id ob ho=>⟨hhp id ob ho,objD_lt ho⟩) (by decide),by simp[hf,hlt],rfl⟩).1
 ·obtain rfl:i=l.length:=by omega
  rw[List.drop_length,unkI] at ht
  repeat'(first|apply nx|refine zx ?_|rw[zw]|((first|refine hK _ ?_|refine hKp _ _ ?_);clear hK hKp K Kp;try clear hanc anc)|((with_reducible refine And.intro ?_ ?_);exact zb)|((first|refine zr hE fun K Kp hK hKp=>?_|refine zd true mixed hE fun K Kp hK hKp anc hanc=>?_|refine zd false mixed hE fun K Kp hK hKp anc hanc=>?_);simp only[go_sem,ge_dec])|(refine zg (fun hg=>?_) (fun hg=>?_)<;>simp only[go_sem,ge_dec,hg])|(refine zc (fun hc=>?_) (fun hc=>?_)<;>try exact zh hc))
  refine K_ret (hQ _ ⟨.i (-1),fun i=>i,_,1,resA_tmp (by simp only[go_sem]),trivial,hfin _ _,by simp[ht],rfl⟩).1
theorem anyU_c (D:List AV) (l:List Int) (hl:l.length≤2 ^ 43):ACall Try.prog 73 [.sl (il l),.fn (.func 72) [] [.ptr 0 0]] (objD D) 1 1 (fun r hp'=>r= .bool (decide (unkI D l<l.length))∧hp'=objD D) (fun _ _=>False):=by
 have hu:=idxU_c D l hl
 refine ACall.of_bodyR Try.func73 isf46 rfl (by simp[Try.f73]) fun E Q hE hN hQ hQp=>K_start ?_
 repeat'(first|apply nx|refine zx ?_|rw[zw]|((first|refine hK _ ?_|refine hKp _ _ ?_);clear hK hKp K Kp;try clear hanc anc)|((with_reducible refine And.intro ?_ ?_);exact zb)|((first|refine zr hE fun K Kp hK hKp=>?_|refine zd true mixed hE fun K Kp hK hKp anc hanc=>?_|refine zd false mixed hE fun K Kp hK hKp anc hanc=>?_);simp only[go_sem])|(refine zg (fun hg=>?_) (fun hg=>?_)<;>simp only[go_sem,hg])|(refine zc (fun hc=>?_) (fun hc=>?_)<;>try exact zh hc))
 refine Hold.mk (CallB.use hu (fun i=>i) (by rw[renL_id]) (by simp[AV.ids,AV.idsL]) (fun id ob ho=>⟨by rw[oren_id];exact ho,objD_lt ho⟩) (fun _ _ _ _ _ _ e=>e) (fun id hid=>⟨hid,objD_np D id hid⟩) ?_ (fun r hp' h=>h.elim) ?_ (fun x hp' hpn h=>h.elim))
 ·rintro r hp' ⟨rfl,rfl⟩
  exact⟨trivial,fun id ob ho=>⟨by have:=(objD_lt ho).1;omega,objids_mono _ (fun j hj=>by omega) (objD_lt ho).2⟩⟩
 ·rintro r hp' fr' hpn ⟨rfl,rfl⟩ hfr hobj _
  have hhp:∀ id ob,objD D id=some ob→hpn id=some ob:=by
   intro id ob ho
   have:=(objD_lt ho).1
   obtain rfl:id=0:=by omega
   have e2:=hobj 0 ob ho
   rw[backM_lt (by decide)] at e2
   have e3:ob= .cells [.sl D]:=(Option.some.inj ho).symm
   subst e3
   simpa [AObj.ren,AV.renL,AV.ren] using e2
  clear hobj
  simp only[St.put,AV.ren,putf] at hfr
  subst hfr
  have q:decide ((0:Int)≤(if unkI D l<l.length then(unkI D l:Int) else -1))=decide (unkI D l<l.length):=by
   by_cases h:unkI D l<l.length
   ·simp[h]
   ·simp[h]
  generalize hz:(if unkI D l<l.length then(unkI D l:Int) else -1)=z at q
  simp only[go_sem]
  refine hK _ ?_
  clear hK hKp
  have q':decide (z≥0)=decide (unkI D l<l.length):=q
  repeat'(first|apply nx|refine zx ?_|rw[zw]|((first|refine hK _ ?_|refine hKp _ _ ?_);clear hK hKp K Kp;try clear hanc anc)|((with_reducible refine And.intro ?_ ?_);exact zb)|((first|refine zr hE fun K Kp hK hKp=>?_|refine zd true mixed hE fun K Kp hK hKp anc hanc=>?_|refine zd false mixed hE fun K Kp hK hKp anc hanc=>?_);simp only[go_sem,q,q'])|(refine zg (fun hg=>?_) (fun hg=>?_)<;>simp only[go_sem,q,q',hg])|(refine zc (fun hc=>?_) (fun hc=>?_)<;>try exact zh hc))
  refine K_ret (hQ _ ⟨.bool (decide (unkI D l<l.length)),fun i=>i,_,1,resA_tmp (by simp only[go_sem,q,q']),trivial,ent_idG (fr:=[]) (by simp) (fun id ob ho=>⟨hhp id ob ho,objD_lt ho⟩) (by decide),rfl,rfl⟩).1

theorem rec_none (hp:Nat→Option AObj):DCall Try.prog 65 (ptrs 2) hp 8 2 none (fun hp'=>hp'=hp):=by
 refine DCall.of_body Try.func65 isf56 rfl (by decide) (by decide) rfl (by decide) fun E Q hE hN hQ=>K_start ?_
 have ep:ptrs 2=[.ptr 0 0,.ptr 1 0]:=rfl
 rw[ep]
 repeat'(first|apply nx|refine zx ?_|rw[zw]|((first|refine hK _ ?_|refine hKp _ _ ?_);clear hK hKp K Kp;try clear hanc anc)|((with_reducible refine And.intro ?_ ?_);exact zb)|((first|refine zr hE fun K Kp hK hKp=>?_|refine zd true mixed hE fun K Kp hK hKp anc hanc=>?_|refine zd false mixed hE fun K Kp hK hKp anc hanc=>?_);simp only[go_sem,recX])|(refine zg (fun hg=>?_) (fun hg=>?_)<;>simp only[go_sem,recX,hg])|(refine zc (fun hc=>?_) (fun hc=>?_)<;>try exact zh hc))
 refine Kq_norm_nil ?_
 exact(hQ _ rfl).2
theorem rec_some {hp:Nat→Option AObj} {a b c d:AV} (h0:hp 0=some (.cells [a,b,c])) (h1:hp 1=some (.cells [d])):DCall Try.prog 65 (ptrs 2) hp 8 2 (some wrongAV) (fun hp'=>hp' 0=some (.cells [.nilmap,.nilmap,.nilsl])∧hp' 1=some (.cells [.bool false])):=by
 refine DCall.of_body Try.func65 isf56 rfl (by decide) (by decide) rfl (by decide) fun E Q hE hN hQ=>K_start ?_
 have ep:ptrs 2=[.ptr 0 0,.ptr 1 0]:=rfl
 rw[ep]
 unfold wrongAV
 repeat'(first|apply nx|refine zx ?_|rw[zw]|((first|refine hK _ ?_|refine hKp _ _ ?_);clear hK hKp K Kp;try clear hanc anc)|((with_reducible refine And.intro ?_ ?_);exact zb)|((first|refine zr hE fun K Kp hK hKp=>?_|refine zd true mixed hE fun K Kp hK hKp anc hanc=>?_|refine zd false mixed hE fun K Kp hK hKp anc hanc=>?_);simp only[go_sem,recX,h0,h1])|(refine zg (fun hg=>?_) (fun hg=>?_)<;>simp only[go_sem,recX,h0,h1,hg])|(refine zc (fun hc=>?_) (fun hc=>?_)<;>try exact zh hc))
 refine Kq_norm_nil ?_
 refine(hQ _ ?_).2
 simp[go_sem]

def walkR (x:Option Ow) (r:AV) (hp':Nat→Option AObj):Prop:=
 match x with
 |some o=>r= .tup [.agg [.mp 2,.mp 3,.sl (il o.ids)],.bool true]∧hp'=mkHp [(2,.map (mkE o.cs)),(3,.map (mkE o.ags))]
 |none=>r= .tup [.agg [.nilmap,.nilmap,.nilsl],.bool false]∧hp'=mkHp []
def mW (i:Nat):Nat:=if i=1 then 7 else if i=2 then 4 else if i=3 then 8 else if i=4 then 2 else if i=5 then 3 else i
theorem mW_inj {i j:Nat} (hi:i<7) (hj:j<7) (e:mW i=mW j):i=j:=by
 unfold mW at e
 repeat' split at e
 all_goals omega
theorem mW_ne1 (h:Hp) (o:Ow) {j:Nat} (hj:objW h o j≠none):mW j≠1:=by
 unfold mW
 repeat' split
 all_goals omega
theorem walkT_call {h:Hp} (hl:h.cells.length≤2 ^ 20) (hal:h.arenas.length≤2 ^ 20) (hM:∀ c,c∈h.cells→c.v.sz≤2 ^ 20) (v:Vl) (hv:v.sz≤2 ^ 20):ACall Try.prog 50 [h.av,v.av] (mkHp []) 0 0 (walkR (walkS h v)) (fun _ _=>False):=by
 have hvc:=visit_c hl hal hM v hv
 unfold VisC at hvc
 rw[Hp.av_eq,Vl.av_eq]
 refine ACall.of_defer (k:=2) Try.func50 isf44 rfl (by simp[Try.f50]) (by simp[Try.f50]) (mkSt [(2,.ptr 4 0),(3,.ptr 5 0),(4,.ptr 0 0),(5,.ptr 1 0)] [(0,.cells [.mp 2,.mp 3,.nilsl]),(1,.cells [.bool false]),(2,.map []),(3,.map []),(4,.cells h.cs),(5,.cells v.cs)] 6) ?_ rfl ?_ ?_
 ·intro i hi
  have:i=0∨i=1:=by omega
  rcases this with rfl|rfl<;>exact⟨_,rfl⟩
 ·intro E Q hE hN hQ
  refine K_two ?_
  repeat'(first|apply nx|refine zx ?_|rw[zw]|((first|refine hK _ ?_|refine hKp _ _ ?_);clear hK hKp K Kp;try clear hanc anc)|((with_reducible refine And.intro ?_ ?_);exact zb)|((first|refine zr hE fun K Kp hK hKp=>?_|refine zd true mixed hE fun K Kp hK hKp anc hanc=>?_|refine zd false mixed hE fun K Kp hK hKp anc hanc=>?_);simp only[go_sem])|(refine zg (fun hg=>?_) (fun hg=>?_)<;>simp only[go_sem,hg])|(refine zc (fun hc=>?_) (fun hc=>?_)<;>try exact zh hc))
  refine Kq_norm_nil ?_
  refine hQ _ (fun i=>if i=0 then 2097152 else if i=1 then 3145728 else if i=2 then 4194304 else if i=3 then 5242880 else if i=4 then 0 else if i=5 then 1048576 else i) ?_
  refine ent_mk (by simp[go_sem,Hp.cs,Vl.cs]) (by simp[go_sem,Hp.cs,Vl.cs]) (by simp) (by simp[hN])
 ·intro E Q hE hN hQ hQp
  refine K_start ?_
  have ep:ptrs 2=[.ptr 0 0,.ptr 1 0]:=rfl
  rw[ep]
  simp only[go_sem]
  refine AW_nilc 0 2 1 (by simp only[mkSt,mkHp,updo,if_true];rfl) rfl ?_
  simp only[go_sem]
  repeat'(first|apply nx|refine zx ?_|rw[zw]|((first|refine hK _ ?_|refine hKp _ _ ?_);clear hK hKp K Kp;try clear hanc anc)|((with_reducible refine And.intro ?_ ?_);exact zb)|((fail_if_success refine K_stop 6 ?_);(first|refine zr hE fun K Kp hK hKp=>?_|refine zd true mixed hE fun K Kp hK hKp anc hanc=>?_|refine zd false mixed hE fun K Kp hK hKp anc hanc=>?_);simp only[go_sem])|(refine zg (fun hg=>?_) (fun hg=>?_)<;>simp only[go_sem,hg])|(refine zc (fun hc=>?_) (fun hc=>?_)<;>try exact zh hc))
  refine AW.ent (σ':=mkSt [(3,.ptr 5 0),(4,.ptr 0 0),(5,.ptr 1 0),(6,.ptr 7 0)] [(0,.cells [.mp 2,.mp 3,.rw 6]),(1,.cells [.bool false]),(2,.map []),(3,.map []),(4,.cells h.cs),(5,.cells v.cs),(6,.row 1 []),(7,.cells [.fn (.func 68) [] [.ptr 0 0,.ptr 7 0,.ptr 4 0,.ptr 8 0]]),(8,.cells [.fn (.func 66) [] [.ptr 0 0,.ptr 7 0,.ptr 4 0]])] 9) (fun i=>if i=8 then 2097159 else i) ?_ ?_
  ·refine ent_mk (by simp[go_sem]) (by simp[go_sem]) (by simp) (fun id hid=>?_)
   rw[hN] at hid
   exact⟨if_neg (by omega),by omega⟩
  repeat'(first|apply nx|refine zx ?_|rw[zw]|((first|refine hK _ ?_|refine hKp _ _ ?_);clear hK hKp K Kp;try clear hanc anc)|((with_reducible refine And.intro ?_ ?_);exact zb)|((first|refine zr hE fun K Kp hK hKp=>?_|refine zd true mixed hE fun K Kp hK hKp anc hanc=>?_|refine zd false mixed hE fun K Kp hK hKp anc hanc=>?_);simp only[go_sem,Vl.cs])|(refine zg (fun hg=>?_) (fun hg=>?_)<;>simp only[go_sem,Vl.cs,hg])|(refine zc (fun hc=>?_) (fun hc=>?_)<;>try exact zh hc))
  have hvc2:=hvc
  rw[show v.cs=[.i v.kind,.i v.id,.i v.var,.i v.n,.sl (Vl.avL v.fs),.bool v.excl,.sl (il v.path),.sl (il v.loans)] from rfl] at hvc2
  refine Hold.mk (CallB.use hvc2 mW rfl (by simp[AV.ids,AV.idsL,go_sem]) (fun id ob ho=>⟨?_,objW_lt ho⟩) (fun id id' ob ob' ho ho' e=>mW_inj (objW_lt ho).1 (objW_lt ho').1 e) (fun id hid=>⟨by omega,objW_np _ _ _ (by omega)⟩) ?_ ?_ ?_ ?_)
  ·simp only[objW,mkHp,updo] at ho
   repeat' split at ho
   all_goals first|(cases ho;done)|skip
   all_goals cases ho;subst_vars
   all_goals simp[go_sem,mW,Hp.cs,mkE,Ow.nil,il]
  ·rintro r hp' ⟨rfl,o',_,rfl⟩
   exact⟨trivial,fun id ob ho=>⟨by have:=(objW_lt ho).1;omega,objids_mono _ (fun j hj=>by omega) (objW_lt ho).2⟩⟩
  ·rintro r hp' ⟨rfl,_,o',rfl⟩
   exact⟨by simp[wrongAV,AV.ids,AV.idsL],fun id ob ho=>⟨by have:=(objW_lt ho).1;omega,objids_mono _ (fun j hj=>by omega) (objW_lt ho).2⟩⟩
  ·rintro r hp' fr' hpn ⟨rfl,o',hr,rfl⟩ hfr hobj hold
   simp only[St.put,AV.ren,putf] at hfr
   subst hfr
   have e0:hpn 0=some (.cells [.mp 2,.mp 3,.rw 2097161]):=hobj 0 _ (objW_0 h o')
   have e4:hpn 2=some (.map (mkE o'.cs)):=by
    have:=hobj 4 _ (objW_4 h o')
    simpa [AObj.ren,mkE_ren,backM,mW] using this
   have e5:hpn 3=some (.map (mkE o'.ags)):=by
    have:=hobj 5 _ (objW_5 h o')
    simpa [AObj.ren,mkE_ren,backM,mW] using this
   have e6:hpn 2097161=some (.row 1 (il o'.ids)):=by
    have:=hobj 6 _ (objW_6 h o')
    simpa [AObj.ren,go_sem,backM,mW] using this
   have e1:=hold 1 (.cells [.bool false]) (by simp[go_sem]) (fun j hj=>mW_ne1 h _ hj)
   clear hobj hold hvc hvc2
   have hr:walkS h v=some o':=hr
   repeat'(first|apply nx|refine zx ?_|rw[zw]|((first|refine hK _ ?_|refine hKp _ _ ?_);clear hK hKp K Kp;try clear hanc anc)|((with_reducible refine And.intro ?_ ?_);exact zb)|((fail_if_success refine K_stop 7 ?_);(first|refine zr hE fun K Kp hK hKp=>?_|refine zd true mixed hE fun K Kp hK hKp anc hanc=>?_|refine zd false mixed hE fun K Kp hK hKp anc hanc=>?_);simp only[go_sem,e0,e1])|(refine zg (fun hg=>?_) (fun hg=>?_)<;>simp only[go_sem,e0,e1,hg])|(refine zc (fun hc=>?_) (fun hc=>?_)<;>try exact zh hc))
   refine AW_frzC 0 2 2097161 e0 rfl e6 (by decide) (clo_il _) ?_
   repeat'(first|apply nx|refine zx ?_|rw[zw]|((first|refine hK _ ?_|refine hKp _ _ ?_);clear hK hKp K Kp;try clear hanc anc)|((with_reducible refine And.intro ?_ ?_);exact zb)|((first|refine zr hE fun K Kp hK hKp=>?_|refine zd true mixed hE fun K Kp hK hKp anc hanc=>?_|refine zd false mixed hE fun K Kp hK hKp anc hanc=>?_);simp only[go_sem,e0,e1])|(refine zg (fun hg=>?_) (fun hg=>?_)<;>simp only[go_sem,e0,e1,hg])|(refine zc (fun hc=>?_) (fun hc=>?_)<;>try exact zh hc))
   refine K_ret (hQ _ (fun i=>i) ⟨mkFr [(4,.ptr 0 0),(5,.ptr 1 0)],mkHp [(0,.cells [.mp 2,.mp 3,.sl (il o'.ids)]),(1,.cells [.bool true]),(2,.map (mkE o'.cs)),(3,.map (mkE o'.ags))],8⟩ ?_ ⟨show 2≤8 by decide,fun y hy=>(by cases hy),?_,?_,_,rec_none _,?_⟩).1
   ·show Ent _ _ _ (mkSt _ _ _)
    refine ent_mk (by simp[go_sem]) (by simp[go_sem,e4,e5,e6,mkE_ren];exact⟨fun _ _=>mkE_idm,fun _ _=>mkE_idm⟩) (by simp) (fun id hid=>⟨rfl,by omega⟩)
   ·intro t y hy
    have:=mkFr_mem' hy
    simp only[List.mem_cons,List.not_mem_nil,or_false,Prod.mk.injEq] at this
    rcases this with ⟨_,rfl⟩|⟨_,rfl⟩
    ·exact⟨0,by decide,rfl⟩
    ·exact⟨1,by decide,rfl⟩
   ·intro id ob ho
    show id<8∧ob.ids (· <8)
    simp only[mkHp,updo] at ho
    repeat' split at ho
    all_goals first|(cases ho;done)|skip
    all_goals cases ho;subst_vars
    all_goals refine⟨by decide,?_⟩
    all_goals first|(simp[AObj.ids,AV.ids,AV.idsL,go_sem];done)|exact fun p hp=>mkE_idm hp
   ·rintro hp' rfl
    refine⟨.tup [.agg [.mp 2,.mp 3,.sl (il o'.ids)],.bool true],mkHp [(2,.map (mkE o'.cs)),(3,.map (mkE o'.ags))],rfl,?_,?_⟩
    ·intro id ob ho
     simp only[mkHp,updo] at ho ⊢
     repeat' split at ho
     all_goals first|(cases ho;done)|skip
     all_goals cases ho;subst_vars
     all_goals rfl
    ·rw[hr];exact⟨rfl,rfl⟩
  ·rintro x hp' hpn ⟨rfl,hr,o',rfl⟩ hobj hold
   have e0:hpn 0=some (.cells [.mp 2,.mp 3,.rw 2097161]):=hobj 0 _ (objW_0 h o')
   have e1:=hold 1 (.cells [.bool false]) (by simp[go_sem]) (fun j hj=>mW_ne1 h _ hj)
   clear hobj hold hvc hvc2
   have hr:walkS h v=none:=hr
   refine hKp _ _ (hQp _ _ (fun i=>if i=4 then 2097161 else i) ⟨mkFr [(4,.ptr 0 0),(5,.ptr 1 0)],mkHp [(0,.cells [.mp 2,.mp 3,.rw 4]),(1,.cells [.bool false])],8⟩ ?_ ⟨show 2≤8 by decide,fun y hy=>(by cases hy;rfl),?_,?_,_,rec_some rfl rfl,?_⟩)
   ·show Ent _ _ _ (mkSt _ _ _)
    refine ent_mk (by simp[go_sem]) (by simp[go_sem,e0,e1]) (by simp) (fun id hid=>⟨if_neg (by omega),by omega⟩)
   ·intro t y hy
    have:=mkFr_mem' hy
    simp only[List.mem_cons,List.not_mem_nil,or_false,Prod.mk.injEq] at this
    rcases this with ⟨_,rfl⟩|⟨_,rfl⟩
    ·exact⟨0,by decide,rfl⟩
    ·exact⟨1,by decide,rfl⟩
   ·intro id ob ho
    show id<8∧ob.ids (· <8)
    simp only[mkHp,updo] at ho
    repeat' split at ho
    all_goals first|(cases ho;done)|skip
    all_goals cases ho;subst_vars
    all_goals exact⟨by decide,by simp[AObj.ids,AV.ids,AV.idsL,go_sem]⟩
   ·rintro hp' ⟨k0,k1⟩
    refine⟨.tup [.agg [.nilmap,.nilmap,.nilsl],.bool false],mkHp [],?_,fun id ob ho=>(by cases ho),?_⟩
    ·simp[resA,rvA,Try.f50,go_sem,k0,k1]
     rfl
    ·rw[hr];exact⟨rfl,rfl⟩
end Go.Proofs.Ytfgjjnfdcgkpoaa
