/- A part of the proof: an abstract machine for the walks, and what the walked functions compute. -/
import Derived.Test.YtfpcjabbcpgbjaaDoorRd
import Derived.Test.YtfpcjabbcpgbjaaDoorHw
import Derived.Test.YtfpcjabbcpgbjaaDoorMo
import Derived.Test.YtfpcjabbcpgbjaaDoorMp
import Derived.Test.YtfpcjabbcpgbjaaDoorRc
set_option linter.unusedVariables false
set_option linter.unusedSimpArgs false
set_option maxHeartbeats 4000000
set_option maxRecDepth 100000
namespace Go.Proofs.YtfpcjabbcpgbjaaDoor
open Go.Am Go.Proofs Go.Hv
open Classical
attribute [local irreducible] AW CallP CallB CallY
theorem vis_box (h:Hp) (en:Nat→Ow→Option Ow) (v:Vl) (o:Ow) (hk:v.kind=3) (hl:h.cells.length≤2 ^ 20) (hen:∀ m c,h.cells[m]? =some c→c.live=true→EntC h m (en m) o):VisC h v (visV h en v) o:=by
 have hr:visV h en v o=if boxOk h v.n then en v.n.toNat o else none:=by
  cases v
  simp only[Vl.kind] at hk
  rw[visV,if_neg (by omega),if_pos hk];rfl
 unfold VisC
 rw[show v.cs=[.i v.kind,.i v.id,.i v.var,.i v.n,.sl (Vl.avL v.fs),.bool v.excl,.sl (il v.path),.sl (il v.loans)] from rfl]
 have q2:(v.kind==2)=false:=by simp[hk]
 have q3:(v.kind==3)=true:=by simp[hk]
 by_cases h1:0≤v.n
 case neg=>
  have q4:decide (0≤v.n)=false:=by simpa using h1
  rw[if_neg (by simp[boxOk,q4])] at hr
  refine ACall.of_bodyR Tryd.func66 isf59 rfl (by simp[Tryd.f66]) fun E Q hE hN hQ hQp=>K_start ?_
  repeat'(first|apply nx|refine zx ?_|rw[zw]|((first|refine hK _ ?_|refine hKp _ _ ?_);clear hK hKp K Kp;try clear hanc anc)|((with_reducible refine And.intro ?_ ?_);exact zb)|((first|refine zr hE fun K Kp hK hKp=>?_|refine zd true mixed hE fun K Kp hK hKp anc hanc=>?_|refine zd false mixed hE fun K Kp hK hKp anc hanc=>?_);simp only[go_sem,q2,q3,objW_2,Hp.cs,q4])|(refine zg (fun hg=>?_) (fun hg=>?_)<;>simp only[go_sem,q2,q3,objW_2,Hp.cs,q4,hg])|(refine zc (fun hc=>?_) (fun hc=>?_)<;>try exact zh hc))
  refine Hold.mk (CallB.of_A0 (need_call false) rfl (fun r hr=>absurd hr.1 (by decide)) (fun x hx=>?_))
  refine hKp _ _ (hQp _ _ ⟨x,fun i=>i,_,7,?_,?_,objW_ent (by decide) (fun id ob ho=>?_),hx.2,hr,o,rfl⟩)
  ·rw[ren_id]
  ·rw[hx.2];simp[wrongAV,AV.ids,AV.idsL]
  ·have:=(objW_lt ho).1
   simp only[updo]
   rw[if_neg (by omega)]
   exact ho
 obtain⟨m,hm⟩:=Int.eq_ofNat_of_zero_le h1
 have q4:decide (0≤(m:Int))=true:=by simp
 by_cases h2:m<h.cells.length
 case neg=>
  have q5:decide ((m:Int)<(h.cells.length:Int))=false:=by simp;omega
  rw[if_neg (by simp[boxOk,hm,List.getElem?_eq_none (show h.cells.length≤m by omega)])] at hr
  refine ACall.of_bodyR Tryd.func66 isf59 rfl (by simp[Tryd.f66]) fun E Q hE hN hQ hQp=>K_start ?_
  repeat'(first|apply nx|refine zx ?_|rw[zw]|((first|refine hK _ ?_|refine hKp _ _ ?_);clear hK hKp K Kp;try clear hanc anc)|((with_reducible refine And.intro ?_ ?_);exact zb)|((first|refine zr hE fun K Kp hK hKp=>?_|refine zd true mixed hE fun K Kp hK hKp anc hanc=>?_|refine zd false mixed hE fun K Kp hK hKp anc hanc=>?_);simp only[go_sem,q2,q3,objW_2,Hp.cs,hm,q4,q5])|(refine zg (fun hg=>?_) (fun hg=>?_)<;>simp only[go_sem,q2,q3,objW_2,Hp.cs,hm,q4,q5,hg])|(refine zc (fun hc=>?_) (fun hc=>?_)<;>try exact zh hc))
  refine Hold.mk (CallB.of_A0 (need_call false) rfl (fun r hr=>absurd hr.1 (by decide)) (fun x hx=>?_))
  refine hKp _ _ (hQp _ _ ⟨x,fun i=>i,_,7,?_,?_,objW_ent (by decide) (fun id ob ho=>?_),hx.2,hr,o,rfl⟩)
  ·rw[ren_id]
  ·rw[hx.2];simp[wrongAV,AV.ids,AV.idsL]
  ·have:=(objW_lt ho).1
   simp only[updo]
   rw[if_neg (by omega)]
   exact ho
 obtain⟨c,hcc⟩:=get?_of h2
 cases hv:c.live
 ·rw[if_neg (by simp[boxOk,hm,hcc,hv])] at hr
  refine ACall.of_bodyR Tryd.func66 isf59 rfl (by simp[Tryd.f66]) fun E Q hE hN hQ hQp=>K_start ?_
  repeat'(first|apply nx|refine zx ?_|rw[zw]|((first|refine hK _ ?_|refine hKp _ _ ?_);clear hK hKp K Kp;try clear hanc anc)|((with_reducible refine And.intro ?_ ?_);exact zb)|((first|refine zr hE fun K Kp hK hKp=>?_|refine zd true mixed hE fun K Kp hK hKp anc hanc=>?_|refine zd false mixed hE fun K Kp hK hKp anc hanc=>?_);simp only[go_sem,q2,q3,objW_2,Hp.cs,hm,q4,lt_dec h2,hcc,Cl.av,Cl.cs_eq,hv])|(refine zg (fun hg=>?_) (fun hg=>?_)<;>simp only[go_sem,q2,q3,objW_2,Hp.cs,hm,q4,lt_dec h2,hcc,Cl.av,Cl.cs_eq,hv,hg])|(refine zc (fun hc=>?_) (fun hc=>?_)<;>try exact zh hc))
  refine Hold.mk (CallB.of_A0 (need_call false) rfl (fun r hr=>absurd hr.1 (by decide)) (fun x hx=>?_))
  refine hKp _ _ (hQp _ _ ⟨x,fun i=>i,_,7,?_,?_,objW_ent (by decide) (fun id ob ho=>?_),hx.2,hr,o,rfl⟩)
  ·rw[ren_id]
  ·rw[hx.2];simp[wrongAV,AV.ids,AV.idsL]
  ·have:=(objW_lt ho).1
   simp only[updo]
   rw[if_neg (by omega)]
   exact ho
 by_cases h3:c.arena= -1
 case neg=>
  have q6:(c.arena== -1)=false:=by simpa using h3
  rw[if_neg (by simp[boxOk,hm,hcc,hv,h3])] at hr
  refine ACall.of_bodyR Tryd.func66 isf59 rfl (by simp[Tryd.f66]) fun E Q hE hN hQ hQp=>K_start ?_
  repeat'(first|apply nx|refine zx ?_|rw[zw]|((first|refine hK _ ?_|refine hKp _ _ ?_);clear hK hKp K Kp;try clear hanc anc)|((with_reducible refine And.intro ?_ ?_);exact zb)|((first|refine zr hE fun K Kp hK hKp=>?_|refine zd true mixed hE fun K Kp hK hKp anc hanc=>?_|refine zd false mixed hE fun K Kp hK hKp anc hanc=>?_);simp only[go_sem,q2,q3,objW_2,Hp.cs,hm,q4,lt_dec h2,hcc,Cl.av,Cl.cs_eq,hv,q6])|(refine zg (fun hg=>?_) (fun hg=>?_)<;>simp only[go_sem,q2,q3,objW_2,Hp.cs,hm,q4,lt_dec h2,hcc,Cl.av,Cl.cs_eq,hv,q6,hg])|(refine zc (fun hc=>?_) (fun hc=>?_)<;>try exact zh hc))
  refine Hold.mk (CallB.of_A0 (need_call false) rfl (fun r hr=>absurd hr.1 (by decide)) (fun x hx=>?_))
  refine hKp _ _ (hQp _ _ ⟨x,fun i=>i,_,7,?_,?_,objW_ent (by decide) (fun id ob ho=>?_),hx.2,hr,o,rfl⟩)
  ·rw[ren_id]
  ·rw[hx.2];simp[wrongAV,AV.ids,AV.idsL]
  ·have:=(objW_lt ho).1
   simp only[updo]
   rw[if_neg (by omega)]
   exact ho
 have q6:(c.arena== -1)=true:=by simpa using h3
 rw[if_pos (by simp[boxOk,hm,hcc,hv,h3]),hm,Int.toNat_natCast] at hr
 have hr0:=hr
 have he1:=hen m c hcc hv
 unfold EntC at he1
 refine ACall.of_bodyR Tryd.func66 isf59 rfl (by simp[Tryd.f66]) fun E Q hE hN hQ hQp=>K_start ?_
 repeat'(first|apply nx|refine zx ?_|rw[zw]|((first|refine hK _ ?_|refine hKp _ _ ?_);clear hK hKp K Kp;try clear hanc anc)|((with_reducible refine And.intro ?_ ?_);exact zb)|((first|refine zr hE fun K Kp hK hKp=>?_|refine zd true mixed hE fun K Kp hK hKp anc hanc=>?_|refine zd false mixed hE fun K Kp hK hKp anc hanc=>?_);simp only[go_sem,q2,q3,objW_2,Hp.cs,hm,q4,lt_dec h2,hcc,Cl.av,Cl.cs_eq,hv,q6])|(refine zg (fun hg=>?_) (fun hg=>?_)<;>simp only[go_sem,q2,q3,objW_2,Hp.cs,hm,q4,lt_dec h2,hcc,Cl.av,Cl.cs_eq,hv,q6,hg])|(refine zc (fun hc=>?_) (fun hc=>?_)<;>try exact zh hc))
 refine Hold.mk (CallB.of_A0 (need_call true) rfl (fun r hr=>?_) (fun x hx=>absurd hx.1 (by decide)))
 rw[hr.2]
 simp only[go_sem]
 refine hK _ ?_
 clear hK hKp
 repeat'(first|apply nx|refine zx ?_|rw[zw]|((first|refine hK _ ?_|refine hKp _ _ ?_);clear hK hKp K Kp;try clear hanc anc)|((with_reducible refine And.intro ?_ ?_);exact zb)|((first|refine zr hE fun K Kp hK hKp=>?_|refine zd true mixed hE fun K Kp hK hKp anc hanc=>?_|refine zd false mixed hE fun K Kp hK hKp anc hanc=>?_);simp only[go_sem,objW_3])|(refine zg (fun hg=>?_) (fun hg=>?_)<;>simp only[go_sem,objW_3,hg])|(refine zc (fun hc=>?_) (fun hc=>?_)<;>try exact zh hc))
 clear hr
 refine Hold.mk (CallB.use he1 (fun i=>i) (by rw[renL_id]) (by simp[AV.ids,AV.idsL,go_sem]) (fun id ob ho=>⟨?_,objW_lt ho⟩) (fun _ _ _ _ _ _ e=>e) (fun id hid=>⟨by omega,objW_np _ _ _ (by omega)⟩) ?_ ?_ ?_ ?_)
 ·rw[oren_id]
  have:=(objW_lt ho).1
  simp only[updo]
  rw[if_neg (by omega)]
  exact ho
 ·rintro r hp' ⟨rfl,o',_,rfl⟩
  exact⟨trivial,fun id ob ho=>⟨by have:=(objW_lt ho).1;omega,objids_mono _ (fun j hj=>by omega) (objW_lt ho).2⟩⟩
 ·rintro r hp' ⟨rfl,_,o',rfl⟩
  exact⟨by simp[wrongAV,AV.ids,AV.idsL],fun id ob ho=>⟨by have:=(objW_lt ho).1;omega,objids_mono _ (fun j hj=>by omega) (objW_lt ho).2⟩⟩
 ·rintro r hp' fr' hpn ⟨rfl,o',hr1,rfl⟩ hfr hobj _
  simp only[go_sem]
  refine hK _ ?_
  clear hK hKp
  repeat(first|refine Kq_norm_blk ?_|refine Kq_norm_nil ?_)
  refine(hQ _ ⟨.tup [],_,objW h o',7,rfl,trivial,ent_gen (fr:=[]) (by simp) (fun id ob ho=>⟨hobj id ob ho,objW_lt ho⟩) (fun _ _ _ _ _ _ e=>backM_id_inj (by omega) e) (fun id hid=>⟨backM_lt hid,by show id<7;omega⟩),rfl,o',by rw[hr0];exact hr1,rfl⟩).2
 ·rintro x hp' hpn ⟨rfl,hr1,o',rfl⟩ hobj _
  refine hKp _ _ (hQp _ _ ⟨wrongAV,_,objW h o',7,rfl,by simp[wrongAV,AV.ids,AV.idsL],ent_gen (fr:=[]) (by simp) (fun id ob ho=>⟨hobj id ob ho,objW_lt ho⟩) (fun _ _ _ _ _ _ e=>backM_id_inj (by omega) e) (fun id hid=>⟨backM_lt hid,by show id<7;omega⟩),rfl,by rw[hr0];exact hr1,o',rfl⟩)

def inPred (l:List Cl) (n:Int) (i:Nat):Bool:=match l[i]? with|some c=>c.live&&(c.arena==n)|none=>false
def arFrom (l:List Cl) (n:Int) (i:Nat):List Nat:=(List.range' i (l.length - i)).filter (inPred l n)
theorem arFrom_zero (l:List Cl) (n:Int):inArena l n=arFrom l n 0:=by
 unfold inArena arFrom
 rw[List.range_eq_range']
 rfl
theorem arFrom_end (l:List Cl) (n:Int):arFrom l n l.length=[]:=by simp[arFrom]
theorem arFrom_step {l:List Cl} {n:Int} {i:Nat} {c:Cl} (h:l[i]? =some c):arFrom l n i=if c.live&&(c.arena==n) then i::arFrom l n (i+1) else arFrom l n (i+1):=by
 have hlt:=(List.getElem?_eq_some_iff.1 h).1
 unfold arFrom
 rw[show l.length - i=(l.length - (i+1))+1 by omega,List.range'_succ,List.filter_cons]
 have:inPred l n i=(c.live&&(c.arena==n)):=by simp[inPred,h]
 rw[this]
def objA8 (h:Hp) (v:Vl) (o:Ow):Nat→Option AObj:=mkHp [(0,.cells [.mp 4,.mp 5,.rw 9]),(1,.cells [visF]),(2,.cells h.cs),(3,.cells [entF]),(4,.map (mkE o.cs)),(5,.map (mkE o.ags)),(6,.cells v.cs),(7,.cells h.cs),(9,.row 1 (il o.ids))]
theorem objA8_lt {h:Hp} {v:Vl} {o:Ow} {id:Nat} {ob:AObj} (ho:objA8 h v o id=some ob):(id<1000000∧id≠8)∧ob.ids (fun j=>j<1000000∧j≠8):=by
 simp only[objA8,mkHp,updo] at ho
 repeat' split at ho
 all_goals first|(cases ho;done)|skip
 all_goals cases ho;subst_vars
 all_goals refine⟨by decide,?_⟩
 all_goals first|(simp[AObj.ids,AV.ids,AV.idsL,Hp.cs,go_sem];done)|(intro p hp;obtain⟨n,_,rfl⟩:=List.mem_map.1 hp;exact⟨trivial,trivial⟩)
theorem objA8_np (h:Hp) (v:Vl) (o:Ow) (id:Nat) (hid:id<8):objA8 h v o id≠none:=by
 have:id=0∨id=1∨id=2∨id=3∨id=4∨id=5∨id=6∨id=7:=by omega
 rcases this with rfl|rfl|rfl|rfl|rfl|rfl|rfl|rfl<;>simp[objA8,mkHp,updo]
abbrev frA:List (Nat×AV):=[(1,.ptr 0 0),(2,.ptr 1 0),(3,.ptr 2 0),(4,.ptr 3 0),(5,.ptr 6 0),(104,.fn (.func 68) [] [.ptr 7 0])]
theorem ent_objA {h : Hp} {v : Vl} {o' : Ow} {hpn : Nat → Option AObj} {fr' : Nat → Option AV} {n' : Nat} {q : Lp} (hobj : ∀ j ob, objW h o' j = some ob → hpn (backM (fun i => if i = 6 then 9 else i) 6 11485760 j) = some (ob.ren (backM (fun i => if i = 6 then 9 else i) 6 11485760)))
    (h6:hpn 6=some (.cells v.cs)) (h7:hpn 7=some (.cells h.cs)) (h8:hpn 8=some (.lp q [.ptr 3 0,.ptr 6 0])):
    Ent (8+1) (fun i=>if i=9 then 11485760 else i) ⟨fr',hpn,n'⟩ ⟨mkFr [],updo (objA8 h v o') 8 (some (.lp q [.ptr 3 0,.ptr 6 0])),1000000⟩:=by
  have hb:∀ j,j<6→backM (fun i=>if i=6 then 9 else i) 6 11485760 j=j:=fun j hj=>by rw[backM_lt hj];exact if_neg (by omega)
  have hb6:backM (fun i=>if i=6 then 9 else i) 6 11485760 6=11485760:=by rw[backM_ge (by decide)]
  have b0:=hb 0 (by decide)
  have b1:=hb 1 (by decide)
  have b2:=hb 2 (by decide)
  have b3:=hb 3 (by decide)
  have b4:=hb 4 (by decide)
  have b5:=hb 5 (by decide)
  have k0:=hobj 0 _ rfl
  have k1:=hobj 1 _ rfl
  have k2:=hobj 2 _ rfl
  have k3:=hobj 3 _ rfl
  have k4:=hobj 4 _ rfl
  have k5:=hobj 5 _ rfl
  have k6:=hobj 6 _ rfl
  simp only[b0,b1,b2,b3,b4,b5,hb6,AObj.ren,AV.ren,AV.renL,Hp.cs,mkE_ren] at k0 k1 k2 k3 k4 k5 k6
  rw[cloL_renL (il_clo _)] at k6
  show Ent _ _ _ (mkSt [] [(8,.lp q [.ptr 3 0,.ptr 6 0]),(0,.cells [.mp 4,.mp 5,.rw 9]),(1,.cells [visF]),(2,.cells h.cs),(3,.cells [entF]),(4,.map (mkE o'.cs)),(5,.map (mkE o'.ags)),(6,.cells v.cs),(7,.cells h.cs),(9,.row 1 (il o'.ids))] 1000000)
  refine ent_mk (by simp) (by simp[go_sem,AV.ids,AV.idsL,k0,k1,k2,k3,k4,k5,k6,h6,h7,h8,Hp.cs,mkE_ren];exact⟨fun _ _=>mkE_idm,fun _ _=>mkE_idm⟩) (by simp) (fun id hid=>⟨if_neg (by omega),by omega⟩)
theorem ent_back {h:Hp} {v:Vl} {s':Ow} {m':Nat→Nat} {σ:St} {fr:List (Nat×AV)} (he:Ent 6 m' σ ⟨mkFr fr,objA8 h v s',1000000⟩):∃ m'',Ent 6 m'' σ ⟨fun _=>none,objW h s',7⟩:=by
 obtain⟨_,e2,e3,e4⟩:=he
 have b:∀ i,i<6→m' i=i:=fun i hi=>(e4 i hi).1
 have k0:=(e2 0 _ rfl).1
 have k1:=(e2 1 _ rfl).1
 have k2:=(e2 2 _ rfl).1
 have k3:=(e2 3 _ rfl).1
 have k4:=(e2 4 _ rfl).1
 have k5:=(e2 5 _ rfl).1
 have k9:=(e2 9 _ rfl).1
 have n9:∀ i,i<6→¬ m' 9=i:=by
  intro i hi hh
  have hne:=objA8_np h v s' i (by omega)
  obtain⟨ob,hob⟩:=Option.ne_none_iff_exists'.1 hne
  have:=e3 9 i _ ob rfl hob (by rw[b i hi];exact hh)
  omega
 simp only[b 0 (by decide),b 1 (by decide),b 2 (by decide),b 3 (by decide),b 4 (by decide),b 5 (by decide),AObj.ren,AV.ren,AV.renL,Hp.cs,mkE_ren] at k0 k1 k2 k3 k4 k5 k9
 rw[cloL_renL (il_clo _)] at k9
 have n0:=n9 0 (by decide)
 have n1:=n9 1 (by decide)
 have n2:=n9 2 (by decide)
 have n3:=n9 3 (by decide)
 have n4:=n9 4 (by decide)
 have n5:=n9 5 (by decide)
 refine⟨fun i=>if i=6 then m' 9 else i,?_⟩
 show Ent _ _ _ (mkSt [] [(0,.cells [.mp 4,.mp 5,.rw 6]),(1,.cells [visF]),(2,.cells h.cs),(3,.cells [entF]),(4,.map (mkE s'.cs)),(5,.map (mkE s'.ags)),(6,.row 1 (il s'.ids))] 7)
 refine ent_mk (by simp) (by simp[go_sem,AV.ids,AV.idsL,k0,k1,k2,k3,k4,k5,k9,Hp.cs,mkE_ren];exact⟨fun _ _=>mkE_idm,fun _ _=>mkE_idm⟩) (by simp[n0,n1,n2,n3,n4,n5,Ne.symm n0,Ne.symm n1,Ne.symm n2,Ne.symm n3,Ne.symm n4,Ne.symm n5]) (fun id hid=>⟨if_neg (by omega),by omega⟩)
theorem vis_arena (h : Hp) (en : Nat → Ow → Option Ow) (v : Vl) (o : Ow) (hk : v.kind = 5) (hl : h.cells.length ≤ 2 ^ 20) (hal : h.arenas.length ≤ 2 ^ 20) (P : Ow → Prop) (hP : ∀ m, m ∉ o.ags → h.arenas[m]? = some true → P { o with ags := o.ags ++ [m] })
    (hen:∀ m c o,P o→h.cells[m]? =some c→c.live=true→EntC h m (en m) o) (hs:∀ m c o o',P o→h.cells[m]? =some c→c.live=true→en m o=some o'→P o'):VisC h v (visV h en v) o:=by
  have hlf:=liveF_nc h
  rw[Hp.av_eq] at hlf
  have hr:visV h en v o=if arenaOk h v.n&&!decide (v.n.toNat∈o.ags) then enL en (inArena h.cells v.n) { o with ags:=o.ags++[v.n.toNat] } else none:=by
    cases v
    simp only[Vl.kind] at hk
    rw[visV,if_neg (by omega),if_neg (by omega),if_pos hk];rfl
  unfold VisC
  rw[show v.cs=[.i v.kind,.i v.id,.i v.var,.i v.n,.sl (Vl.avL v.fs),.bool v.excl,.sl (il v.path),.sl (il v.loans)] from rfl]
  have q2:(v.kind==2)=false:=by simp[hk]
  have q3:(v.kind==3)=false:=by simp[hk]
  have q5:(v.kind==5)=true:=by simp[hk]
  by_cases hok:(arenaOk h v.n&&!decide (v.n.toNat∈o.ags))=true
  case neg=>
    rw[if_neg hok] at hr
    by_cases h1:0≤v.n
    case neg=>
      have q4:decide (0≤v.n)=false:=by simpa using h1
      refine ACall.of_bodyR Tryd.func66 isf59 rfl (by simp[Tryd.f66]) fun E Q hE hN hQ hQp=>K_start ?_
      repeat'(first|apply nx|refine zx ?_|rw[zw]|((first|refine hK _ ?_|refine hKp _ _ ?_);clear hK hKp K Kp;try clear hanc anc)|((with_reducible refine And.intro ?_ ?_);exact zb)|((first|refine zr hE fun K Kp hK hKp=>?_|refine zd true mixed hE fun K Kp hK hKp anc hanc=>?_|refine zd false mixed hE fun K Kp hK hKp anc hanc=>?_);simp only[go_sem,q2,q3,q5,objW_0,objW_2,objW_5,Hp.cs,lkRes,q4])|(refine zg (fun hg=>?_) (fun hg=>?_)<;>simp only[go_sem,q2,q3,q5,objW_0,objW_2,objW_5,Hp.cs,lkRes,q4,hg])|(refine zc (fun hc=>?_) (fun hc=>?_)<;>try exact zh hc))
      refine Hold.mk (CallB.of_A0 (need_call false) rfl (fun r hr=>absurd hr.1 (by decide)) (fun x hx=>?_))
      refine hKp _ _ (hQp _ _ ⟨x,fun i=>i,_,7,?_,?_,objW_ent (by decide) (fun id ob ho=>?_),hx.2,hr,o,rfl⟩)
      · rw[ren_id]
      · rw[hx.2];simp[wrongAV,AV.ids,AV.idsL]
      · have:=(objW_lt ho).1
        simp only[updo]
        rw[if_neg (by omega)]
        exact ho
    obtain⟨m,hm⟩:=Int.eq_ofNat_of_zero_le h1
    have q4:decide (0≤(m:Int))=true:=by simp
    by_cases h2:m<h.arenas.length
    case neg=>
      have q6:decide ((m:Int)<(h.arenas.length:Int))=false:=by simp;omega
      refine ACall.of_bodyR Tryd.func66 isf59 rfl (by simp[Tryd.f66]) fun E Q hE hN hQ hQp=>K_start ?_
      repeat'(first|apply nx|refine zx ?_|rw[zw]|((first|refine hK _ ?_|refine hKp _ _ ?_);clear hK hKp K Kp;try clear hanc anc)|((with_reducible refine And.intro ?_ ?_);exact zb)|((first|refine zr hE fun K Kp hK hKp=>?_|refine zd true mixed hE fun K Kp hK hKp anc hanc=>?_|refine zd false mixed hE fun K Kp hK hKp anc hanc=>?_);simp only[go_sem,q2,q3,q5,objW_0,objW_2,objW_5,Hp.cs,lkRes,hm,q4,q6])|(refine zg (fun hg=>?_) (fun hg=>?_)<;>simp only[go_sem,q2,q3,q5,objW_0,objW_2,objW_5,Hp.cs,lkRes,hm,q4,q6,hg])|(refine zc (fun hc=>?_) (fun hc=>?_)<;>try exact zh hc))
      refine Hold.mk (CallB.of_A0 (need_call false) rfl (fun r hr=>absurd hr.1 (by decide)) (fun x hx=>?_))
      refine hKp _ _ (hQp _ _ ⟨x,fun i=>i,_,7,?_,?_,objW_ent (by decide) (fun id ob ho=>?_),hx.2,hr,o,rfl⟩)
      · rw[ren_id]
      · rw[hx.2];simp[wrongAV,AV.ids,AV.idsL]
      · have:=(objW_lt ho).1
        simp only[updo]
        rw[if_neg (by omega)]
        exact ho
    obtain⟨b,hb⟩:=get?_of h2
    cases b
    · skip
      refine ACall.of_bodyR Tryd.func66 isf59 rfl (by simp[Tryd.f66]) fun E Q hE hN hQ hQp=>K_start ?_
      repeat'(first|apply nx|refine zx ?_|rw[zw]|((first|refine hK _ ?_|refine hKp _ _ ?_);clear hK hKp K Kp;try clear hanc anc)|((with_reducible refine And.intro ?_ ?_);exact zb)|((first|refine zr hE fun K Kp hK hKp=>?_|refine zd true mixed hE fun K Kp hK hKp anc hanc=>?_|refine zd false mixed hE fun K Kp hK hKp anc hanc=>?_);simp only[go_sem,q2,q3,q5,objW_0,objW_2,objW_5,Hp.cs,lkRes,hm,q4,lt_dec h2,hb])|(refine zg (fun hg=>?_) (fun hg=>?_)<;>simp only[go_sem,q2,q3,q5,objW_0,objW_2,objW_5,Hp.cs,lkRes,hm,q4,lt_dec h2,hb,hg])|(refine zc (fun hc=>?_) (fun hc=>?_)<;>try exact zh hc))
      refine Hold.mk (CallB.of_A0 (need_call false) rfl (fun r hr=>absurd hr.1 (by decide)) (fun x hx=>?_))
      refine hKp _ _ (hQp _ _ ⟨x,fun i=>i,_,7,?_,?_,objW_ent (by decide) (fun id ob ho=>?_),hx.2,hr,o,rfl⟩)
      · rw[ren_id]
      · rw[hx.2];simp[wrongAV,AV.ids,AV.idsL]
      · have:=(objW_lt ho).1
        simp only[updo]
        rw[if_neg (by omega)]
        exact ho
    have hin:m∈o.ags:=by
      have ha:arenaOk h v.n=true:=by simp[arenaOk,hm,hb]
      rw[ha,Bool.true_and,hm] at hok
      simpa using hok
    have hfe:=findE_mkE m o.ags
    rw[if_pos hin] at hfe
    refine ACall.of_bodyR Tryd.func66 isf59 rfl (by simp[Tryd.f66]) fun E Q hE hN hQ hQp=>K_start ?_
    repeat'(first|apply nx|refine zx ?_|rw[zw]|((first|refine hK _ ?_|refine hKp _ _ ?_);clear hK hKp K Kp;try clear hanc anc)|((with_reducible refine And.intro ?_ ?_);exact zb)|((first|refine zr hE fun K Kp hK hKp=>?_|refine zd true mixed hE fun K Kp hK hKp anc hanc=>?_|refine zd false mixed hE fun K Kp hK hKp anc hanc=>?_);simp only[go_sem,q2,q3,q5,objW_0,objW_2,objW_5,Hp.cs,lkRes,hm,q4,lt_dec h2,hb,hfe])|(refine zg (fun hg=>?_) (fun hg=>?_)<;>simp only[go_sem,q2,q3,q5,objW_0,objW_2,objW_5,Hp.cs,lkRes,hm,q4,lt_dec h2,hb,hfe,hg])|(refine zc (fun hc=>?_) (fun hc=>?_)<;>try exact zh hc))
    refine Hold.mk (CallB.of_A0 (need_call false) rfl (fun r hr=>absurd hr.1 (by decide)) (fun x hx=>?_))
    refine hKp _ _ (hQp _ _ ⟨x,fun i=>i,_,7,?_,?_,objW_ent (by decide) (fun id ob ho=>?_),hx.2,hr,o,rfl⟩)
    · rw[ren_id]
    · rw[hx.2];simp[wrongAV,AV.ids,AV.idsL]
    · have:=(objW_lt ho).1
      simp only[updo]
      rw[if_neg (by omega)]
      exact ho
  simp only[Bool.and_eq_true,Bool.not_eq_true',decide_eq_false_iff_not] at hok
  obtain⟨m,hm,hma⟩:=arenaOk_spec hok.1
  have hmn:m∉o.ags:=by have:=hok.2;rw[hm] at this;simpa using this
  have hfe:=findE_mkE m o.ags
  rw[if_neg hmn] at hfe
  have hr0:visV h en v o=enL en (arFrom h.cells m 0) { o with ags:=o.ags++[m] } :=by
    rw[hr,if_pos (by rw[hm] at hok ⊢;simpa using hok),hm,Int.toNat_natCast,arFrom_zero]
  have hlm:m<h.arenas.length:=(List.getElem?_eq_some_iff.1 hma).1
  refine ACall.of_bodyRM Tryd.func66 isf59 rfl (by simp[Tryd.f66]) fun E Q hE hN hM hQ hQp=>K_start ?_
  repeat'(first|apply nx|refine zx ?_|rw[zw]|((first|refine hK _ ?_|refine hKp _ _ ?_);clear hK hKp K Kp;try clear hanc anc)|((with_reducible refine And.intro ?_ ?_);exact zb)|((first|refine zr hE fun K Kp hK hKp=>?_|refine zd true mixed hE fun K Kp hK hKp anc hanc=>?_|refine zd false mixed hE fun K Kp hK hKp anc hanc=>?_);simp only[go_sem,q2,q3,q5,objW_2,Hp.cs,hm,lt_dec hlm,hma,objW_0,objW_5,hfe,lkRes,show decide ((0:Int)≤(m:Int))=true by simp])|(refine zg (fun hg=>?_) (fun hg=>?_)<;>simp only[go_sem,q2,q3,q5,objW_2,Hp.cs,hm,lt_dec hlm,hma,objW_0,objW_5,hfe,lkRes,show decide ((0:Int)≤(m:Int))=true by simp,hg])|(refine zc (fun hc=>?_) (fun hc=>?_)<;>try exact zh hc))
  refine Hold.mk (CallB.of_A0 (need_call true) rfl (fun r hr=>?_) (fun x hx=>absurd hx.1 (by decide)))
  rw[hr.2]
  simp only[go_sem]
  refine hK _ ?_
  clear hK hKp
  repeat'(first|apply nx|refine zx ?_|rw[zw]|((first|refine hK _ ?_|refine hKp _ _ ?_);clear hK hKp K Kp;try clear hanc anc)|((with_reducible refine And.intro ?_ ?_);exact zb)|((first|refine zr hE fun K Kp hK hKp=>?_|refine zd true mixed hE fun K Kp hK hKp anc hanc=>?_|refine zd false mixed hE fun K Kp hK hKp anc hanc=>?_);simp only[go_sem,objW_0,objW_5,objW_2,Hp.cs,hfe,putE,hm])|(refine zg (fun hg=>?_) (fun hg=>?_)<;>simp only[go_sem,objW_0,objW_5,objW_2,Hp.cs,hfe,putE,hm,hg])|(refine zc (fun hc=>?_) (fun hc=>?_)<;>try exact zh hc))
  refine Hold.mk (CallB.newP hlf (by simp[AV.cloL,AV.clo]) (by simp[AV.ids,AV.idsL]) (by intro p hp;simp only[List.mem_cons,List.not_mem_nil,or_false] at hp;subst hp;exact⟨by show 0<1048576;decide,by simp[AObj.ids,Hp.cs,AV.ids,AV.idsL,go_sem]⟩) ?_)
  simp only[go_sem,AObj.ren,Hp.cs]
  refine hK _ ?_
  clear hK hKp
  repeat'(first|apply nx|refine zx ?_|rw[zw]|((first|refine hK _ ?_|refine hKp _ _ ?_);clear hK hKp K Kp;try clear hanc anc)|((with_reducible refine And.intro ?_ ?_);exact zb)|((first|refine zr hE fun K Kp hK hKp=>?_|refine zd true mixed hE fun K Kp hK hKp anc hanc=>?_|refine zd false mixed hE fun K Kp hK hKp anc hanc=>?_);simp only[go_sem])|(refine zg (fun hg=>?_) (fun hg=>?_)<;>simp only[go_sem,hg])|(refine zc (fun hc=>?_) (fun hc=>?_)<;>try exact zh hc))
  refine AW.ent (σ':=⟨mkFr frA,objA8 h v { o with ags:=o.ags++[m] },1000000⟩) (fun i=>if i=6 then 7 else if i=7 then 45088775 else if i=9 then 6 else i) (by
    show Ent _ _ _ (mkSt frA [(0,.cells [.mp 4,.mp 5,.rw 9]),(1,.cells [visF]),(2,.cells h.cs),(3,.cells [entF]),(4,.map (mkE o.cs)),(5,.map (mkE (o.ags++[m]))),(6,.cells v.cs),(7,.cells h.cs),(9,.row 1 (il o.ids))] 1000000)
    refine ent_mk (by simp[go_sem,AV.ids,AV.idsL]) (by simp[go_sem,AV.ids,AV.idsL,objW_0,objW_1,objW_2,objW_3,objW_4,objW_6,Hp.cs,Vl.cs,hm,mkE_ren,mkE_put];exact⟨fun _ _=>mkE_idm,fun _ _=>mkE_idm⟩) (by simp) (fun id hid=>?_)
    rw[hN] at hid
    exact⟨by rw[if_neg (by omega),if_neg (by omega),if_neg (by omega)],by omega⟩) ?_
  clear hfe
  refine AW_live hM h hl (objA8 h v) 8 7 (by decide) (by decide) (by rw[hN];decide) (fun s=>rfl) (fun s id o ho=>objA8_lt ho) (fun s id hid=>objA8_np _ _ _ _ hid) frA (by simp[AV.ids,AV.idsL]) (by simp[go_sem]) (by simp[go_sem]) [4,5] [.ptr 3 0,.ptr 6 0] (by intro i hi;match i,hi with|0,_=>rfl|1,_=>rfl) (by simp[AV.ids,AV.idsL]) rfl (by rw[hE];simp[Tryd.f66])
    (fun i s=>enL en (arFrom h.cells m 0) { o with ags:=o.ags++[m] } =enL en (arFrom h.cells m i) s∧P s) (fun x s=>x=wrongAV∧enL en (arFrom h.cells m 0) { o with ags:=o.ags++[m] } =none) (fun x s hx=>by rw[hx.1];rfl) ?_ (fun i c s hi hc hv=>⟨by rw[hi.1,arFrom_step hc,hv];rfl,hi.2⟩) _ ⟨rfl,hP m hmn hma⟩ ?_ ?_
  · intro l fnn i c s E' Q' ⟨hi,hPs⟩ hcc hv hE' hN' hnorm hpan
    have hi20:i<h.cells.length:=(List.getElem?_eq_some_iff.1 hcc).1
    rw[arFrom_step hcc,hv,Bool.true_and] at hi
    unfold RoundGoal
    refine K_start ?_
    show AW Tryd.prog E' _ _ ⟨upd (upd (mkFr [(4,.ptr 3 0),(5,.ptr 6 0)]) 105 (.i i)) 106 (.agg c.cs),updo (objA8 h v s) 8 _,1000000⟩
    rw[hE] at hE'
    replace hE:=hE'
    repeat'(first|apply nx|refine zx ?_|rw[zw]|((first|refine hK _ ?_|refine hKp _ _ ?_);clear hK hKp K Kp;try clear hanc anc)|((with_reducible refine And.intro ?_ ?_);exact zb)|((first|refine zr hE fun K Kp hK hKp=>?_|refine zd true mixed hE fun K Kp hK hKp anc hanc=>?_|refine zd false mixed hE fun K Kp hK hKp anc hanc=>?_);simp only[go_sem,Cl.cs_eq])|(refine zg (fun hg=>?_) (fun hg=>?_)<;>simp only[go_sem,Cl.cs_eq,hg])|(refine zc (fun hc=>?_) (fun hc=>?_)<;>try exact zh hc))
    refine Kq_norm_nil ?_
    refine⟨[.ptr 3 0,.ptr 6 0],by simp[updo],K_start ?_⟩
    show AW Tryd.prog E' _ _ ⟨_,_,4145728⟩
    have ho3:objA8 h v s 3=some (.cells [entF]):=rfl
    have ho6:objA8 h v s 6=some (.cells v.cs):=rfl
    by_cases hcm:c.arena=m
    · have q7:(c.arena==(m:Int))=true:=by simpa using hcm
      rw[if_pos q7,enL] at hi
      have he1:=hen i c s hPs hcc hv
      unfold EntC at he1
      repeat'(first|apply nx|refine zx ?_|rw[zw]|((first|refine hK _ ?_|refine hKp _ _ ?_);clear hK hKp K Kp;try clear hanc anc)|((with_reducible refine And.intro ?_ ?_);exact zb)|((first|refine zr hE fun K Kp hK hKp=>?_|refine zd true mixed hE fun K Kp hK hKp anc hanc=>?_|refine zd false mixed hE fun K Kp hK hKp anc hanc=>?_);simp only[go_sem,ho3,ho6,Vl.cs,hm,q7])|(refine zg (fun hg=>?_) (fun hg=>?_)<;>simp only[go_sem,ho3,ho6,Vl.cs,hm,q7,hg])|(refine zc (fun hc=>?_) (fun hc=>?_)<;>try exact zh hc))
      have hb:∀ j,j<6→backM (fun i=>if i=6 then 9 else i) 6 11485760 j=j:=fun j hj=>by rw[backM_lt hj];exact if_neg (by omega)
      have hb6:backM (fun i=>if i=6 then 9 else i) 6 11485760 6=11485760:=by rw[backM_ge (by decide)]
      have hm2:∀ j,objW h s j≠none→(if j=6 then 9 else j)<8∨(if j=6 then 9 else j)=9:=by
        intro j hj
        obtain⟨ob,hob⟩:=Option.ne_none_iff_exists'.1 hj
        have:=(objW_lt hob).1
        split<;>omega
      have hm3:∀ id,id=6∨id=7∨id=8→∀ j,objW h s j≠none→(if j=6 then 9 else j)≠id:=by
        intro id hid j hj
        obtain⟨ob,hob⟩:=Option.ne_none_iff_exists'.1 hj
        have:=(objW_lt hob).1
        split<;>omega
      refine Hold.mk (CallB.use he1 (fun i=>if i=6 then 9 else i) (by simp[AV.renL,AV.ren]) (by simp[AV.ids,AV.idsL,go_sem]) (fun id ob ho=>⟨?_,objW_lt ho⟩) (fun id id' _ _ h1 h2 e=>?_) (fun id hid=>⟨by omega,objW_np _ _ _ (by omega)⟩) ?_ ?_ ?_ ?_)
      · simp only[objW,mkHp,updo] at ho
        repeat' split at ho
        all_goals first|(cases ho;done)|skip
        all_goals cases ho;subst_vars
        all_goals simp[updo,objA8,mkHp,AObj.ren,AV.ren,AV.renL,Hp.cs,mkE_ren,go_sem]
      · have g1:=(objW_lt h1).1
        have g2:=(objW_lt h2).1
        have e':(if id=6 then 9 else id)=(if id'=6 then 9 else id'):=e
        split at e'<;>split at e'<;>omega
      · rintro r hp' ⟨rfl,o',_,rfl⟩
        exact⟨trivial,fun id ob ho=>⟨by have:=(objW_lt ho).1;omega,objids_mono _ (fun j hj=>by omega) (objW_lt ho).2⟩⟩
      · rintro r hp' ⟨rfl,_,o',rfl⟩
        exact⟨by simp[wrongAV,AV.ids,AV.idsL],fun id ob ho=>⟨by have:=(objW_lt ho).1;omega,objids_mono _ (fun j hj=>by omega) (objW_lt ho).2⟩⟩
      · rintro r hp' fr' hpn ⟨rfl,o',hr1,rfl⟩ hfr hobj hold
        simp only[go_sem]
        refine hK _ ?_
        clear hK hKp
        repeat(first|refine Kq_norm_blk ?_|refine Kq_norm_nil ?_)
        refine hnorm _ o' (fun i=>if i=9 then 11485760 else i) ⟨by rw[hi,hr1];rfl,hs i c s o' hPs hcc hv hr1⟩ ?_
        refine ent_objA hobj ?_ ?_ ?_
        · exact hold 6 _ (by simp[updo,objA8,mkHp]) (hm3 6 (.inl rfl))
        · exact hold 7 _ (by simp[updo,objA8,mkHp]) (hm3 7 (.inr (.inl rfl)))
        · exact hold 8 _ (by simp[updo]) (hm3 8 (.inr (.inr rfl)))
      · rintro x hp' hpn ⟨rfl,hr1,o',rfl⟩ hobj hold
        refine hKp _ _ (hpan _ _ o' (fun i=>if i=9 then 11485760 else i) ⟨rfl,by rw[hi,hr1];rfl⟩ ?_)
        refine ent_objA hobj ?_ ?_ ?_
        · exact hold 6 _ (by simp[updo,objA8,mkHp]) (hm3 6 (.inl rfl))
        · exact hold 7 _ (by simp[updo,objA8,mkHp]) (hm3 7 (.inr (.inl rfl)))
        · exact hold 8 _ (by simp[updo]) (hm3 8 (.inr (.inr rfl)))
    · have q7:(c.arena==(m:Int))=false:=by simpa using hcm
      rw[if_neg (by simp[q7])] at hi
      repeat'(first|apply nx|refine zx ?_|rw[zw]|((first|refine hK _ ?_|refine hKp _ _ ?_);clear hK hKp K Kp;try clear hanc anc)|((with_reducible refine And.intro ?_ ?_);exact zb)|((first|refine zr hE fun K Kp hK hKp=>?_|refine zd true mixed hE fun K Kp hK hKp anc hanc=>?_|refine zd false mixed hE fun K Kp hK hKp anc hanc=>?_);simp only[go_sem,ho3,ho6,Vl.cs,hm,q7])|(refine zg (fun hg=>?_) (fun hg=>?_)<;>simp only[go_sem,ho3,ho6,Vl.cs,hm,q7,hg])|(refine zc (fun hc=>?_) (fun hc=>?_)<;>try exact zh hc))
      refine Kq_norm_nil (hnorm _ s (fun i=>i) ⟨hi,hPs⟩ (ent_idG (fr:=[]) (by simp) (fun id ob ho=>?_) (by decide)))
      by_cases e:id=8
      · subst e
        simp only[updo,if_true] at ho
        cases ho
        exact⟨by simp[updo],by decide,by simp[AObj.ids,AV.ids,AV.idsL]⟩
      · simp only[updo,if_neg e] at ho
        have g:=objA8_lt ho
        refine⟨?_,g.1.1,objids_mono _ (fun j hj=>hj.1) g.2⟩
        simp only[updo,if_neg e]
        repeat rw[if_neg (by omega)]
        exact ho
  · intro σ s' m' ⟨hi,_⟩ he
    rw[arFrom_end,enL] at hi
    rw[hN] at he
    obtain⟨m'',he2⟩:=ent_back he
    refine Kq_norm_blk ?_
    refine Kq_norm_blk ?_
    refine Kq_norm_nil ?_
    exact(hQ _ ⟨.tup [],m'',objW h s',7,rfl,trivial,he2,rfl,s',by rw[hr0];exact hi,rfl⟩).2
  · intro x σ s' m' ⟨hx,hi⟩ he
    rw[hN] at he
    obtain⟨m'',he2⟩:=ent_back he
    subst hx
    refine Kq_pan ?_
    exact hQp _ _ ⟨wrongAV,m'',objW h s',7,rfl,by simp[wrongAV,AV.ids,AV.idsL],he2,rfl,by rw[hr0];exact hi,s',rfl⟩
end Go.Proofs.YtfpcjabbcpgbjaaDoor

set_option maxHeartbeats 4000000
set_option maxRecDepth 100000
namespace Go.Proofs.YtfpcjabbcpgbjaaDoor
open Go.Am Go.Proofs Go.Hv
open Classical
theorem Ow.Le.len {o o':Ow} (h:o.Le o'):o.cs.length≤o'.cs.length:=by
 obtain⟨l,e⟩:=h.cs
 rw[e,List.length_append];omega
def EntAll (h:Hp) (k:Nat):Prop:=∀ n c o,h.cells[n]? =some c→c.live=true→o.Ok h→h.cells.length≤k+o.cs.length→bud (2 ^ 20) h o≤2 ^ 42→EntC h n (visE h k n) o
theorem vis_all {h:Hp} (hl:h.cells.length≤2 ^ 20) (hal:h.arenas.length≤2 ^ 20) (hM:∀ c,c∈h.cells→c.v.sz≤2 ^ 20) {k:Nat} (hE:EntAll h k):∀ (N:Nat) (v:Vl) (o:Ow),v.sz<N→v.sz≤2 ^ 20→o.Ok h→h.cells.length≤k+o.cs.length→bud (2 ^ 20) h o+v.sz≤2 ^ 42→VisC h v (visV h (visE h k) v) o:=by
 intro N
 induction N with
 |zero=>intro v o h0;omega
 |succ N ih=>
 intro v o hN hv20 ho hlen hbud
 have hsz:=v.sz_eq
 have hfl:=Vl.len_le v.fs
 have hids:o.ids.length≤bud (2 ^ 20) h o:=Nat.le_add_right _ _
 by_cases h2:v.kind=2
 ·refine vis_data h _ v o h2 (by omega) (by omega) (fun i o=>o.Ok h∧h.cells.length≤k+o.cs.length∧bud (2 ^ 20) h o+Vl.szL (v.fs.drop i)≤2 ^ 42) ⟨⟨ho.nd,ho.lt,ho.and,ho.alt⟩,hlen,?_⟩ ?_ ?_
  ·have e:bud (2 ^ 20) h { o with ids:=o.ids++[v.id] } =bud (2 ^ 20) h o+1:=by simp only[bud,List.length_append,List.length_singleton];omega
   rw[e,List.drop_zero]
   omega
  ·rintro i x o1 hx ⟨g1,g2,g3⟩
   rw[drop_of hx,Vl.szL] at g3
   have:=Vl.sz_mem (List.mem_of_getElem? hx)
   exact ih x o1 (by omega) (by omega) g1 g2 (by omega)
  ·rintro i x o1 o2 hx ⟨g1,g2,g3⟩ he
   rw[drop_of hx,Vl.szL] at g3
   have k1:=visV_keeps (visE_keeps h k) x o1 o2 g1 he
   have k2:=visV_bud (visE_keeps h k) (visE_bud hM k) x o1 o2 g1 he
   have k3:=Ow.Le.len k1.2
   exact⟨k1.1,by omega,by omega⟩
 by_cases h3:v.kind=3
 ·exact vis_box h _ v o h3 hl (fun m c hc hv=>hE m c o hc hv ho hlen (by omega))
 by_cases h5:v.kind=5
 ·refine vis_arena h _ v o h5 hl hal (fun o=>o.Ok h∧h.cells.length≤k+o.cs.length∧bud (2 ^ 20) h o≤2 ^ 42) (fun m hm1 hm2=>⟨ho.arena hm1 hm2,hlen,?_⟩) (fun m c o1 g hc hv=>hE m c o1 hc hv g.1 g.2.1 g.2.2) (fun m c o1 o2 g hc hv he=>?_)
  ·have e:bud (2 ^ 20) h (Ow.mk o.cs (o.ags++[m]) o.ids)=bud (2 ^ 20) h o:=rfl
   show bud (2 ^ 20) h (Ow.mk o.cs (o.ags++[m]) o.ids)≤2 ^ 42
   rw[e]
   omega
  ·have k1:=visE_keeps h k m o1 o2 g.1 ⟨c,hc,hv⟩ he
   have k2:=visE_bud hM k m o1 o2 g.1 ⟨c,hc,hv⟩ he
   have k3:=Ow.Le.len k1.2
   exact⟨k1.1,by omega,by omega⟩
 exact vis_other h _ v o h2 h3 h5
theorem EntC.congr {h:Hp} {n:Nat} {r r':Ow→Option Ow} {o:Ow} (hr:r o=r' o) (he:EntC h n r o):EntC h n r' o:=by
 unfold EntC at he ⊢
 rw[← hr]
 exact he
theorem ent_all {h:Hp} (hl:h.cells.length≤2 ^ 20) (hal:h.arenas.length≤2 ^ 20) (hM:∀ c,c∈h.cells→c.v.sz≤2 ^ 20):∀ k,EntAll h k
 |0=>fun n c o hc hv ho hlen hbud=>by
  have hin:n∈o.cs:=Classical.byContradiction fun hn=>by
   have:=ho.len_lt hn (List.getElem?_eq_some_iff.1 hc).1
   omega
  refine EntC.congr (r:=fun o=>visE h (0+1) n o) ?_ (enter_c h 0 n o c hc fun hn=>absurd hin hn)
  have e1:visE h (0+1) n o=none:=by rw[visE,if_pos hin]
  have e0:visE h 0 n o=none:=by rw[visE]
  show visE h (0+1) n o=visE h 0 n o
  rw[e1,e0]
 |k+1=>fun n c o hc hv ho hlen hbud=>by
  refine enter_c h k n o c hc fun hn=>?_
  have g1:=ho.len_lt hn (List.getElem?_eq_some_iff.1 hc).1
  have g2:=hM c (List.mem_of_getElem? hc)
  refine vis_all hl hal hM (ent_all hl hal hM k) (c.v.sz+1) c.v _ (by omega) g2 (ho.enter hn hc hv) ?_ ?_
  ·simp only[List.length_append,List.length_singleton];omega
  ·have e:bud (2 ^ 20) h { o with cs:=o.cs++[n] } +2 ^ 20=bud (2 ^ 20) h o:=by
    unfold bud
    simp only[List.length_append,List.length_singleton]
    have:h.cells.length - o.cs.length=(h.cells.length - (o.cs.length+1))+1:=by omega
    rw[this,Nat.add_mul]
    omega
   omega
theorem bud_nil (M:Nat) (h:Hp):bud M h Ow.nil=h.cells.length*M:=by simp[bud,Ow.nil]
theorem visit_c {h:Hp} (hl:h.cells.length≤2 ^ 20) (hal:h.arenas.length≤2 ^ 20) (hM:∀ c,c∈h.cells→c.v.sz≤2 ^ 20) (v:Vl) (hv:v.sz≤2 ^ 20):VisC h v (visV h (visE h h.cells.length) v) Ow.nil:=
 vis_all hl hal hM (ent_all hl hal hM _) (v.sz+1) v _ (by omega) hv (Ow.nil_ok h) (by omega) (by
  rw[bud_nil]
  omega)
end Go.Proofs.YtfpcjabbcpgbjaaDoor

set_option maxHeartbeats 4000000
set_option maxRecDepth 100000
namespace Go.Proofs.YtfpcjabbcpgbjaaDoor
open Go.Am Go.Proofs Go.Hv
open Classical
attribute [local irreducible] AW CallP CallB CallY

theorem rec_none (hp:Nat→Option AObj):DCall Tryd.prog 63 (ptrs 2) hp 8 2 none (fun hp'=>hp'=hp):=by
 refine DCall.of_body Tryd.func63 isf56 rfl (by decide) (by decide) rfl (by decide) fun E Q hE hN hQ=>K_start ?_
 have ep:ptrs 2=[.ptr 0 0,.ptr 1 0]:=rfl
 rw[ep]
 repeat'(first|apply nx|refine zx ?_|rw[zw]|((first|refine hK _ ?_|refine hKp _ _ ?_);clear hK hKp K Kp;try clear hanc anc)|((with_reducible refine And.intro ?_ ?_);exact zb)|((first|refine zr hE fun K Kp hK hKp=>?_|refine zd true mixed hE fun K Kp hK hKp anc hanc=>?_|refine zd false mixed hE fun K Kp hK hKp anc hanc=>?_);simp only[go_sem,recX])|(refine zg (fun hg=>?_) (fun hg=>?_)<;>simp only[go_sem,recX,hg])|(refine zc (fun hc=>?_) (fun hc=>?_)<;>try exact zh hc))
 refine Kq_norm_nil ?_
 exact(hQ _ rfl).2
theorem rec_some {hp:Nat→Option AObj} {a b c d:AV} (h0:hp 0=some (.cells [a,b,c])) (h1:hp 1=some (.cells [d])):DCall Tryd.prog 63 (ptrs 2) hp 8 2 (some wrongAV) (fun hp'=>hp' 0=some (.cells [.nilmap,.nilmap,.nilsl])∧hp' 1=some (.cells [.bool false])):=by
 refine DCall.of_body Tryd.func63 isf56 rfl (by decide) (by decide) rfl (by decide) fun E Q hE hN hQ=>K_start ?_
 have ep:ptrs 2=[.ptr 0 0,.ptr 1 0]:=rfl
 rw[ep]
 unfold wrongAV
 repeat'(first|apply nx|refine zx ?_|rw[zw]|((first|refine hK _ ?_|refine hKp _ _ ?_);clear hK hKp K Kp;try clear hanc anc)|((with_reducible refine And.intro ?_ ?_);exact zb)|((first|refine zr hE fun K Kp hK hKp=>?_|refine zd true mixed hE fun K Kp hK hKp anc hanc=>?_|refine zd false mixed hE fun K Kp hK hKp anc hanc=>?_);simp only[go_sem,recX,h0,h1])|(refine zg (fun hg=>?_) (fun hg=>?_)<;>simp only[go_sem,recX,h0,h1,hg])|(refine zc (fun hc=>?_) (fun hc=>?_)<;>try exact zh hc))
 refine Kq_norm_nil ?_
 refine(hQ _ ?_).2
 simp[go_sem]

def walkR (x:Option Ow) (r:AV) (hp':Nat→Option AObj):Prop:=
 match x with
 |some o=>r= .tup [.agg [.mp 2,.mp 3,.sl (il o.ids)],.bool true]∧hp'=mkHp [(2,.map (mkE o.cs)),(3,.map (mkE o.ags))]
 |none=>r= .tup [.agg [.nilmap,.nilmap,.nilsl],.bool false]∧hp'=mkHp []
def mW (i:Nat):Nat:=if i=1 then 7 else if i=2 then 4 else if i=3 then 8 else if i=4 then 2 else if i=5 then 3 else i
theorem mW_inj {i j:Nat} (hi:i<7) (hj:j<7) (e:mW i=mW j):i=j:=by
 unfold mW at e
 repeat' split at e
 all_goals omega
theorem mW_ne1 (h:Hp) (o:Ow) {j:Nat} (hj:objW h o j≠none):mW j≠1:=by
 unfold mW
 repeat' split
 all_goals omega
theorem walkT_call {h:Hp} (hl:h.cells.length≤2 ^ 20) (hal:h.arenas.length≤2 ^ 20) (hM:∀ c,c∈h.cells→c.v.sz≤2 ^ 20) (v:Vl) (hv:v.sz≤2 ^ 20):ACall Tryd.prog 39 [h.av,v.av] (mkHp []) 0 0 (walkR (walkS h v)) (fun _ _=>False):=by
 have hvc:=visit_c hl hal hM v hv
 unfold VisC at hvc
 rw[Hp.av_eq,Vl.av_eq]
 refine ACall.of_defer (k:=2) Tryd.func39 isf44 rfl (by simp[Tryd.f39]) (by simp[Tryd.f39]) (mkSt [(2,.ptr 4 0),(3,.ptr 5 0),(4,.ptr 0 0),(5,.ptr 1 0)] [(0,.cells [.mp 2,.mp 3,.nilsl]),(1,.cells [.bool false]),(2,.map []),(3,.map []),(4,.cells h.cs),(5,.cells v.cs)] 6) ?_ rfl ?_ ?_
 ·intro i hi
  have:i=0∨i=1:=by omega
  rcases this with rfl|rfl<;>exact⟨_,rfl⟩
 ·intro E Q hE hN hQ
  refine K_two ?_
  repeat'(first|apply nx|refine zx ?_|rw[zw]|((first|refine hK _ ?_|refine hKp _ _ ?_);clear hK hKp K Kp;try clear hanc anc)|((with_reducible refine And.intro ?_ ?_);exact zb)|((first|refine zr hE fun K Kp hK hKp=>?_|refine zd true mixed hE fun K Kp hK hKp anc hanc=>?_|refine zd false mixed hE fun K Kp hK hKp anc hanc=>?_);simp only[go_sem])|(refine zg (fun hg=>?_) (fun hg=>?_)<;>simp only[go_sem,hg])|(refine zc (fun hc=>?_) (fun hc=>?_)<;>try exact zh hc))
  refine Kq_norm_nil ?_
  refine hQ _ (fun i=>if i=0 then 2097152 else if i=1 then 3145728 else if i=2 then 4194304 else if i=3 then 5242880 else if i=4 then 0 else if i=5 then 1048576 else i) ?_
  refine ent_mk (by simp[go_sem,Hp.cs,Vl.cs]) (by simp[go_sem,Hp.cs,Vl.cs]) (by simp) (by simp[hN])
 ·intro E Q hE hN hQ hQp
  refine K_start ?_
  have ep:ptrs 2=[.ptr 0 0,.ptr 1 0]:=rfl
  rw[ep]
  simp only[go_sem]
  refine AW_nilc 0 2 1 (by simp only[mkSt,mkHp,updo,if_true];rfl) rfl ?_
  simp only[go_sem]
  repeat'(first|apply nx|refine zx ?_|rw[zw]|((first|refine hK _ ?_|refine hKp _ _ ?_);clear hK hKp K Kp;try clear hanc anc)|((with_reducible refine And.intro ?_ ?_);exact zb)|((fail_if_success refine K_stop 6 ?_);(first|refine zr hE fun K Kp hK hKp=>?_|refine zd true mixed hE fun K Kp hK hKp anc hanc=>?_|refine zd false mixed hE fun K Kp hK hKp anc hanc=>?_);simp only[go_sem])|(refine zg (fun hg=>?_) (fun hg=>?_)<;>simp only[go_sem,hg])|(refine zc (fun hc=>?_) (fun hc=>?_)<;>try exact zh hc))
  refine AW.ent (σ':=mkSt [(3,.ptr 5 0),(4,.ptr 0 0),(5,.ptr 1 0),(6,.ptr 7 0)] [(0,.cells [.mp 2,.mp 3,.rw 6]),(1,.cells [.bool false]),(2,.map []),(3,.map []),(4,.cells h.cs),(5,.cells v.cs),(6,.row 1 []),(7,.cells [.fn (.func 66) [] [.ptr 0 0,.ptr 7 0,.ptr 4 0,.ptr 8 0]]),(8,.cells [.fn (.func 64) [] [.ptr 0 0,.ptr 7 0,.ptr 4 0]])] 9) (fun i=>if i=8 then 2097159 else i) ?_ ?_
  ·refine ent_mk (by simp[go_sem]) (by simp[go_sem]) (by simp) (fun id hid=>?_)
   rw[hN] at hid
   exact⟨if_neg (by omega),by omega⟩
  repeat'(first|apply nx|refine zx ?_|rw[zw]|((first|refine hK _ ?_|refine hKp _ _ ?_);clear hK hKp K Kp;try clear hanc anc)|((with_reducible refine And.intro ?_ ?_);exact zb)|((first|refine zr hE fun K Kp hK hKp=>?_|refine zd true mixed hE fun K Kp hK hKp anc hanc=>?_|refine zd false mixed hE fun K Kp hK hKp anc hanc=>?_);simp only[go_sem,Vl.cs])|(refine zg (fun hg=>?_) (fun hg=>?_)<;>simp only[go_sem,Vl.cs,hg])|(refine zc (fun hc=>?_) (fun hc=>?_)<;>try exact zh hc))
  have hvc2:=hvc
  rw[show v.cs=[.i v.kind,.i v.id,.i v.var,.i v.n,.sl (Vl.avL v.fs),.bool v.excl,.sl (il v.path),.sl (il v.loans)] from rfl] at hvc2
  refine Hold.mk (CallB.use hvc2 mW rfl (by simp[AV.ids,AV.idsL,go_sem]) (fun id ob ho=>⟨?_,objW_lt ho⟩) (fun id id' ob ob' ho ho' e=>mW_inj (objW_lt ho).1 (objW_lt ho').1 e) (fun id hid=>⟨by omega,objW_np _ _ _ (by omega)⟩) ?_ ?_ ?_ ?_)
  ·simp only[objW,mkHp,updo] at ho
   repeat' split at ho
   all_goals first|(cases ho;done)|skip
   all_goals cases ho;subst_vars
   all_goals simp[go_sem,mW,Hp.cs,mkE,Ow.nil,il]
  ·rintro r hp' ⟨rfl,o',_,rfl⟩
   exact⟨trivial,fun id ob ho=>⟨by have:=(objW_lt ho).1;omega,objids_mono _ (fun j hj=>by omega) (objW_lt ho).2⟩⟩
  ·rintro r hp' ⟨rfl,_,o',rfl⟩
   exact⟨by simp[wrongAV,AV.ids,AV.idsL],fun id ob ho=>⟨by have:=(objW_lt ho).1;omega,objids_mono _ (fun j hj=>by omega) (objW_lt ho).2⟩⟩
  ·rintro r hp' fr' hpn ⟨rfl,o',hr,rfl⟩ hfr hobj hold
   simp only[St.put,AV.ren,putf] at hfr
   subst hfr
   have e0:hpn 0=some (.cells [.mp 2,.mp 3,.rw 2097161]):=hobj 0 _ (objW_0 h o')
   have e4:hpn 2=some (.map (mkE o'.cs)):=by
    have:=hobj 4 _ (objW_4 h o')
    simpa [AObj.ren,mkE_ren,backM,mW] using this
   have e5:hpn 3=some (.map (mkE o'.ags)):=by
    have:=hobj 5 _ (objW_5 h o')
    simpa [AObj.ren,mkE_ren,backM,mW] using this
   have e6:hpn 2097161=some (.row 1 (il o'.ids)):=by
    have:=hobj 6 _ (objW_6 h o')
    simpa [AObj.ren,go_sem,backM,mW] using this
   have e1:=hold 1 (.cells [.bool false]) (by simp[go_sem]) (fun j hj=>mW_ne1 h _ hj)
   clear hobj hold hvc hvc2
   have hr:walkS h v=some o':=hr
   repeat'(first|apply nx|refine zx ?_|rw[zw]|((first|refine hK _ ?_|refine hKp _ _ ?_);clear hK hKp K Kp;try clear hanc anc)|((with_reducible refine And.intro ?_ ?_);exact zb)|((fail_if_success refine K_stop 7 ?_);(first|refine zr hE fun K Kp hK hKp=>?_|refine zd true mixed hE fun K Kp hK hKp anc hanc=>?_|refine zd false mixed hE fun K Kp hK hKp anc hanc=>?_);simp only[go_sem,e0,e1])|(refine zg (fun hg=>?_) (fun hg=>?_)<;>simp only[go_sem,e0,e1,hg])|(refine zc (fun hc=>?_) (fun hc=>?_)<;>try exact zh hc))
   refine AW_frzC 0 2 2097161 e0 rfl e6 (by decide) (clo_il _) ?_
   repeat'(first|apply nx|refine zx ?_|rw[zw]|((first|refine hK _ ?_|refine hKp _ _ ?_);clear hK hKp K Kp;try clear hanc anc)|((with_reducible refine And.intro ?_ ?_);exact zb)|((first|refine zr hE fun K Kp hK hKp=>?_|refine zd true mixed hE fun K Kp hK hKp anc hanc=>?_|refine zd false mixed hE fun K Kp hK hKp anc hanc=>?_);simp only[go_sem,e0,e1])|(refine zg (fun hg=>?_) (fun hg=>?_)<;>simp only[go_sem,e0,e1,hg])|(refine zc (fun hc=>?_) (fun hc=>?_)<;>try exact zh hc))
   refine K_ret (hQ _ (fun i=>i) ⟨mkFr [(4,.ptr 0 0),(5,.ptr 1 0)],mkHp [(0,.cells [.mp 2,.mp 3,.sl (il o'.ids)]),(1,.cells [.bool true]),(2,.map (mkE o'.cs)),(3,.map (mkE o'.ags))],8⟩ ?_ ⟨show 2≤8 by decide,fun y hy=>(by cases hy),?_,?_,_,rec_none _,?_⟩).1
   ·show Ent _ _ _ (mkSt _ _ _)
    refine ent_mk (by simp[go_sem]) (by simp[go_sem,e4,e5,e6,mkE_ren];exact⟨fun _ _=>mkE_idm,fun _ _=>mkE_idm⟩) (by simp) (fun id hid=>⟨rfl,by omega⟩)
   ·intro t y hy
    have:=mkFr_mem' hy
    simp only[List.mem_cons,List.not_mem_nil,or_false,Prod.mk.injEq] at this
    rcases this with ⟨_,rfl⟩|⟨_,rfl⟩
    ·exact⟨0,by decide,rfl⟩
    ·exact⟨1,by decide,rfl⟩
   ·intro id ob ho
    show id<8∧ob.ids (· <8)
    simp only[mkHp,updo] at ho
    repeat' split at ho
    all_goals first|(cases ho;done)|skip
    all_goals cases ho;subst_vars
    all_goals refine⟨by decide,?_⟩
    all_goals first|(simp[AObj.ids,AV.ids,AV.idsL,go_sem];done)|exact fun p hp=>mkE_idm hp
   ·rintro hp' rfl
    refine⟨.tup [.agg [.mp 2,.mp 3,.sl (il o'.ids)],.bool true],mkHp [(2,.map (mkE o'.cs)),(3,.map (mkE o'.ags))],rfl,?_,?_⟩
    ·intro id ob ho
     simp only[mkHp,updo] at ho ⊢
     repeat' split at ho
     all_goals first|(cases ho;done)|skip
     all_goals cases ho;subst_vars
     all_goals rfl
    ·rw[hr];exact⟨rfl,rfl⟩
  ·rintro x hp' hpn ⟨rfl,hr,o',rfl⟩ hobj hold
   have e0:hpn 0=some (.cells [.mp 2,.mp 3,.rw 2097161]):=hobj 0 _ (objW_0 h o')
   have e1:=hold 1 (.cells [.bool false]) (by simp[go_sem]) (fun j hj=>mW_ne1 h _ hj)
   clear hobj hold hvc hvc2
   have hr:walkS h v=none:=hr
   refine hKp _ _ (hQp _ _ (fun i=>if i=4 then 2097161 else i) ⟨mkFr [(4,.ptr 0 0),(5,.ptr 1 0)],mkHp [(0,.cells [.mp 2,.mp 3,.rw 4]),(1,.cells [.bool false])],8⟩ ?_ ⟨show 2≤8 by decide,fun y hy=>(by cases hy;rfl),?_,?_,_,rec_some rfl rfl,?_⟩)
   ·show Ent _ _ _ (mkSt _ _ _)
    refine ent_mk (by simp[go_sem]) (by simp[go_sem,e0,e1]) (by simp) (fun id hid=>⟨if_neg (by omega),by omega⟩)
   ·intro t y hy
    have:=mkFr_mem' hy
    simp only[List.mem_cons,List.not_mem_nil,or_false,Prod.mk.injEq] at this
    rcases this with ⟨_,rfl⟩|⟨_,rfl⟩
    ·exact⟨0,by decide,rfl⟩
    ·exact⟨1,by decide,rfl⟩
   ·intro id ob ho
    show id<8∧ob.ids (· <8)
    simp only[mkHp,updo] at ho
    repeat' split at ho
    all_goals first|(cases ho;done)|skip
    all_goals cases ho;subst_vars
    all_goals exact⟨by decide,by simp[AObj.ids,AV.ids,AV.idsL,go_sem]⟩
   ·rintro hp' ⟨k0,k1⟩
    refine⟨.tup [.agg [.nilmap,.nilmap,.nilsl],.bool false],mkHp [],?_,fun id ob ho=>(by cases ho),?_⟩
    ·simp[resA,rvA,Tryd.f39,go_sem,k0,k1]
     rfl
    ·rw[hr];exact⟨rfl,rfl⟩

def pick (l:List Nat) (done:List Nat):List Nat:=done.map fun j=>l.getD j 0

structure Sm (h:Hp) (v:Vl):Prop where
 l:h.cells.length≤2 ^ 20
 a:h.arenas.length≤2 ^ 20
 m:∀ c,c∈h.cells→c.v.sz≤2 ^ 20
 v:v.sz≤2 ^ 20
theorem walk_none {h:Hp} {v:Vl} (hm:Sm h v) (hw:walkS h v=none):ACall Tryd.prog 39 [h.av,v.av] (fun _=>none) 0 0 (fun r hp'=>r= .tup [.agg [.nilmap,.nilmap,.nilsl],.bool false]∧hp'=mkHp []) (fun _ _=>False):=by
 have:=walkT_call hm.l hm.a hm.m v hm.v
 rw[hw] at this
 exact this
theorem walk_some {h:Hp} {v:Vl} (hm:Sm h v) {o:Ow} (hw:walkS h v=some o):ACall Tryd.prog 39 [h.av,v.av] (fun _=>none) 0 0 (fun r hp'=>r= .tup [.agg [.mp 2,.mp 3,.sl (il o.ids)],.bool true]∧hp'=mkHp [(2,.map (mkE o.cs)),(3,.map (mkE o.ags))]) (fun _ _=>False):=by
 have:=walkT_call hm.l hm.a hm.m v hm.v
 rw[hw] at this
 exact this
theorem walk_ids (o:Ow):∀ p,p∈ [(2,AObj.map (mkE o.cs)),(3,.map (mkE o.ags))]→p.1<1048576∧p.2.ids (· <1048576):=by
 intro p hp
 simp only[List.mem_cons,List.not_mem_nil,or_false] at hp
 rcases hp with rfl|rfl
 ·exact⟨(by simp only;omega),fun p hp=>mkE_idm hp⟩
 ·exact⟨(by simp only;omega),fun p hp=>mkE_idm hp⟩

def countS (h:Hp) (v:Vl):Int:=match walkS h v with|some o=>o.ids.length|none=>0
theorem count_call (h:Hp) (v:Vl) (hm:Sm h v):PCall Tryd.prog 25 [h.av,v.av] (.i (countS h v)):=by
 unfold countS
 cases hs:walkS h v with
 |none=>
  have hw:=walk_none hm hs
  rw[Hp.av_eq,Vl.av_eq] at hw ⊢
  refine PCall.intro Tryd.func25 rfl isf25 (by simp[Tryd.f25]) (by simp[AV.cloL,AV.clo]) fun E Q hE hN hQ=>K_start ?_
  repeat'(first|apply nx|refine zx ?_|rw[zw]|((first|refine hK _ ?_|refine hKp _ _ ?_);clear hK hKp K Kp;try clear hanc anc)|((with_reducible refine And.intro ?_ ?_);exact zb)|((first|refine zr hE fun K Kp hK hKp=>?_|refine zd true mixed hE fun K Kp hK hKp anc hanc=>?_|refine zd false mixed hE fun K Kp hK hKp anc hanc=>?_);simp only[go_sem])|(refine zg (fun hg=>?_) (fun hg=>?_)<;>simp only[go_sem,hg])|(refine zc (fun hc=>?_) (fun hc=>?_)<;>try exact zh hc))
  refine Hold.mk (CallB.newP hw (by simp[AV.cloL,AV.clo]) (by simp[AV.ids,AV.idsL]) (by simp) ?_)
  simp only[go_sem]
  repeat'(first|apply nx|refine zx ?_|rw[zw]|((first|refine hK _ ?_|refine hKp _ _ ?_);clear hK hKp K Kp;try clear hanc anc)|((with_reducible refine And.intro ?_ ?_);exact zb)|((first|refine zr hE fun K Kp hK hKp=>?_|refine zd false mixed hE fun K Kp hK hKp anc hanc=>?_);simp only[go_sem])|(refine zg (fun hg=>?_) (fun hg=>?_)<;>simp only[go_sem,hg])|(refine zc (fun hc=>?_) (fun hc=>?_)<;>try exact zh hc)|(refine K_ret ?_;refine zt hQ ?_))
  simp[AV.snap,go_sem]
 |some o=>
  have hw:=walk_some hm hs
  rw[Hp.av_eq,Vl.av_eq] at hw ⊢
  refine PCall.intro Tryd.func25 rfl isf25 (by simp[Tryd.f25]) (by simp[AV.cloL,AV.clo]) fun E Q hE hN hQ=>K_start ?_
  repeat'(first|apply nx|refine zx ?_|rw[zw]|((first|refine hK _ ?_|refine hKp _ _ ?_);clear hK hKp K Kp;try clear hanc anc)|((with_reducible refine And.intro ?_ ?_);exact zb)|((first|refine zr hE fun K Kp hK hKp=>?_|refine zd true mixed hE fun K Kp hK hKp anc hanc=>?_|refine zd false mixed hE fun K Kp hK hKp anc hanc=>?_);simp only[go_sem])|(refine zg (fun hg=>?_) (fun hg=>?_)<;>simp only[go_sem,hg])|(refine zc (fun hc=>?_) (fun hc=>?_)<;>try exact zh hc))
  refine Hold.mk (CallB.newP hw (by simp[AV.cloL,AV.clo]) (by simp[AV.ids,AV.idsL]) (walk_ids o) ?_)
  simp only[go_sem,mkE_ren]
  repeat'(first|apply nx|refine zx ?_|rw[zw]|((first|refine hK _ ?_|refine hKp _ _ ?_);clear hK hKp K Kp;try clear hanc anc)|((with_reducible refine And.intro ?_ ?_);exact zb)|((first|refine zr hE fun K Kp hK hKp=>?_|refine zd false mixed hE fun K Kp hK hKp anc hanc=>?_);simp only[go_sem])|(refine zg (fun hg=>?_) (fun hg=>?_)<;>simp only[go_sem,hg])|(refine zc (fun hc=>?_) (fun hc=>?_)<;>try exact zh hc)|(refine K_ret ?_;refine zt hQ ?_))
  simp[AV.snap,go_sem]
end Go.Proofs.YtfpcjabbcpgbjaaDoor

set_option maxHeartbeats 4000000
set_option maxRecDepth 100000
namespace Go.Proofs.YtfpcjabbcpgbjaaDoor
open Go.Am Go.Proofs Go.Hv Go.Gl
open Classical
attribute [local irreducible] AW CallP CallB CallY
theorem sm_call (a b:Ty) (r:Bool) (h:smB exD a b=r) (ha:a.sz≤2 ^ 30) (hb:b.sz≤2 ^ 30) (hu:(uni exD [a,b]).length≤2 ^ 30) {x y:AV} (hx:a.av=x) (hy:b.av=y):PCall Tryd.prog 10 [.sl (ddl exD),x,y] (.bool r):=by
 subst hx hy
 rw[← h]
 exact same_c dbEx drEx ha hb hu
theorem in_call {a b:List Int} (ha:a.length≤2 ^ 40) (h:a=b) {x:List AV} (hx:il b=x):PCall Tryd.prog 11 [.sl (il a),.sl x] (.bool true):=by
 subst hx h
 have:=ints_c a a ha
 rwa [decide_eq_true rfl] at this
theorem sp_call (t:Ty) (l:List Int) (hp:plB exD t 8=true) (h:shpL exD t=l) (ht:t.sz≤2 ^ 30) (hu:(uni exD [t]).length≤2 ^ 21) {x:AV} (hx:t.av=x):PCall Tryd.prog 9 [.sl (ddl exD),x] (.sl (il l)):=by
 subst hx
 have:=shape_c dbEx drEx dsEx ht hu
 rw[show shp exD t=l from by simp[shp,ex_dtF,hp,h]] at this
 exact this
theorem clo_fxl (l:List Fx):CloRow (fxl l):=by
 intro x hx c hc
 obtain⟨p,_,rfl⟩:=List.mem_map.1 hx
 simp only[AV.cells,Fx.av,Fx.cs,List.mem_cons,List.not_mem_nil,or_false] at hc
 rcases hc with rfl|rfl|rfl|rfl|rfl|rfl|rfl|rfl|rfl|rfl|rfl<;>rfl
theorem smE:Sm hp0 (.mk 1 0 0 0 [] false [] []):=⟨by decide,by decide,fun c hc=>(by cases hc),by decide⟩
theorem head_c:PCall Tryd.prog 7 [] (.bool true):=by
 have c0:=lst_c 0 0
 have c1:=lst_c 3 2
 have c2:=number_c
 rw[Dd.av_eq] at c0 c1
 refine PCall.intro Tryd.func7 rfl isf7 (by simp[Tryd.f7]) (by simp[AV.cloL,AV.clo]) fun E Q hE hN hQ=>K_start ?_
 repeat'(first|apply nx|refine zx ?_|rw[zw]|((first|refine hK _ ?_|refine hKp _ _ ?_);clear hK hKp K Kp;try clear hanc anc)|((with_reducible refine And.intro ?_ ?_);exact zb)|((fail_if_success refine K_stop 2 ?_);(first|refine zr hE fun K Kp hK hKp=>?_|refine zd true mixed hE fun K Kp hK hKp anc hanc=>?_|refine zd false mixed hE fun K Kp hK hKp anc hanc=>?_|(apply zm;exact zu;(first|exact c0|exact c1|exact c2);exact zs;exact zl));simp only[go_sem,List.mem_cons,List.not_mem_nil,or_false])|(refine zg (fun hg=>?_) (fun hg=>?_)<;>simp only[go_sem,List.mem_cons,List.not_mem_nil,or_false,hg])|(refine zc (fun hc=>?_) (fun hc=>?_)<;>try exact zh hc))
 refine AW.dfrL [5242880,7340032,9437184] 8 [(0,.bool false),(1,.sl (ddl exD))] ?_ ?_
 ·intro p hp
  simp only[List.mem_cons,List.not_mem_nil,or_false] at hp
  rcases hp with rfl|rfl
  ·exact⟨.bool false,by simp only[go_sem],trivial,rfl⟩
  ·exact⟨.rw 9437184,by simp only[go_sem,List.mem_cons,List.not_mem_nil,or_false],by simp[go_sem,AV.cells,AV.clo],by simp[go_sem];rfl⟩
 refine AW.ent (σ':=mkSt [(0,.bool false),(1,.sl (ddl exD))] [] 0) (fun i=>i) (by refine ent_mk (by simp[go_sem]) (by simp[go_sem]) (by simp) (by simp[hN])) ?_
 have d0:PCall Tryd.prog 22 [.i 0] (.agg [.i 2,.i 0,.sl []]):=data1_c 0
 have d1:PCall Tryd.prog 22 [.i 1] (.agg [.i 2,.i 1,.sl []]):=data1_c 1
 have d2:PCall Tryd.prog 22 [.i 2] (.agg [.i 2,.i 2,.sl []]):=data1_c 2
 have d3:PCall Tryd.prog 22 [.i 3] (.agg [.i 2,.i 3,.sl []]):=data1_c 3
 have d9:PCall Tryd.prog 22 [.i 9] (.agg [.i 2,.i 9,.sl []]):=data1_c 9
 have bx:PCall Tryd.prog 21 [.agg [.i 1,.i 0,.sl []]] (.agg [.i 3,.i 0,.sl [.agg [.i 1,.i 0,.sl []]]]):=box1_c 1 0 [] rfl
 have s1:=sm_call (dtT 0) (dtT 1) true ex_01 (by decide) (by decide) (by decide) (x:= .agg [.i 2,.i 0,.sl []]) (y:= .agg [.i 2,.i 1,.sl []]) rfl rfl
 have s2:=sm_call (dtT 0) (dtT 2) false ex_02 (by decide) (by decide) (by decide) (x:= .agg [.i 2,.i 0,.sl []]) (y:= .agg [.i 2,.i 2,.sl []]) rfl rfl
 have s3:=sm_call intT (chT intT) false ex_ic (by decide) (by decide) (by decide) (x:= .agg [.i 1,.i 0,.sl []]) (y:= .agg [.i 4,.i 0,.sl [.agg [.i 1,.i 0,.sl []]]]) rfl rfl
 have s4:=sm_call (chT (bxT intT)) (chT intT) true ex_bc (by decide) (by decide) (by decide) (x:= .agg [.i 4,.i 0,.sl [.agg [.i 3,.i 0,.sl [.agg [.i 1,.i 0,.sl []]]]]]) (y:= .agg [.i 4,.i 0,.sl [.agg [.i 1,.i 0,.sl []]]]) rfl rfl
 have s5:=sm_call (dtT 0) (dtT 9) false ex_09 (by decide) (by decide) (by decide) (x:= .agg [.i 2,.i 0,.sl []]) (y:= .agg [.i 2,.i 9,.sl []]) rfl rfl
 have p0:=sp_call (dtT 0) _ ex_pl0 ex_sh0 (by decide) (by decide) (x:= .agg [.i 2,.i 0,.sl []]) rfl
 have p3:=sp_call (dtT 3) _ ex_pl3 ex_sh3 (by decide) (by decide) (x:= .agg [.i 2,.i 3,.sl []]) rfl
 have cc:PCall Tryd.prog 12 [.sl (ddl exD),.sl [.agg [.i 2,.i 2,.sl []],.agg [.i 2,.i 0,.sl []],.agg [.i 1,.i 0,.sl []],.agg [.i 2,.i 1,.sl []],.agg [.i 1,.i 0,.sl []]]] (.sl (il [0,1,2,1,2])):=by
  have:=classes_c dbEx drEx (l:=[dtT 2,dtT 0,intT,dtT 1,intT]) (by decide) (by decide) (fun x t hx ht=>by simp only[List.mem_cons,List.not_mem_nil,or_false] at hx ht;rcases hx with rfl|rfl|rfl|rfl|rfl<;>rcases ht with rfl|rfl|rfl|rfl|rfl<;>decide)
  rw[ex_cls] at this
  exact this
 have i1:=in_call (a:=[2,0,2,0,2,1,2,1,3,0]) (by decide) rfl rfl
 have i2:=in_call (a:=[2,0,1,1,1,1]) (by decide) rfl rfl
 have i3:=in_call (a:=[0,1,2,1,2]) (by decide) rfl rfl
 have i4:=in_call (a:=[0,1,0]) (by decide) rfl rfl
 simp only[il,List.map_cons,List.map_nil] at i1 i2 i3 i4 p0 p3 cc
 repeat'(first|apply nx|refine zx ?_|rw[zw]|((first|refine hK _ ?_|refine hKp _ _ ?_);clear hK hKp K Kp;try clear hanc anc)|((with_reducible refine And.intro ?_ ?_);exact zb)|((fail_if_success refine K_stop 3 ?_);(first|refine zr hE fun K Kp hK hKp=>?_|refine zd true mixed hE fun K Kp hK hKp anc hanc=>?_|refine zd false mixed hE fun K Kp hK hKp anc hanc=>?_|(apply zm;exact zu;exact c2;exact zs;exact zl));simp only[go_sem])|(refine zg (fun hg=>?_) (fun hg=>?_)<;>simp only[go_sem,hg])|(refine zc (fun hc=>?_) (fun hc=>?_)<;>try exact zh hc))
 refine AW.ent (σ':=mkSt [(0,.bool false),(1,.sl (ddl exD)),(2,.ptr 0 0)] [(0,.cells [.i 4,.i 0,.rw 1]),(1,.row 3 [.agg [.i 1,.i 0,.sl []]])] 2) (fun i=>if i=0 then 3145728 else 1048576) (by refine ent_mk (by simp[go_sem]) (by simp[go_sem]) (by simp) (by simp[hN])) ?_
 refine AW_frzCell 0 2 1 (sz:=3) (l:=[.i 4,.i 0,.rw 1]) (xs:=[.agg [.i 1,.i 0,.sl []]]) (by simp only[go_sem]) rfl (by simp only[go_sem]) (by decide) (by simp[CloRow,AV.cells,AV.clo]) ?_
 repeat'(first|apply nx|refine zx ?_|rw[zw]|((first|refine hK _ ?_|refine hKp _ _ ?_);clear hK hKp K Kp;try clear hanc anc)|((with_reducible refine And.intro ?_ ?_);exact zb)|((fail_if_success refine K_stop 4 ?_);(first|refine zr hE fun K Kp hK hKp=>?_|refine zd true mixed hE fun K Kp hK hKp anc hanc=>?_|refine zd false mixed hE fun K Kp hK hKp anc hanc=>?_|(apply zm;exact zu;(first|exact c2|exact bx);exact zs;exact zl));simp only[go_sem])|(refine zg (fun hg=>?_) (fun hg=>?_)<;>simp only[go_sem,hg])|(refine zc (fun hc=>?_) (fun hc=>?_)<;>try exact zh hc))
 refine AW.ent (σ':=mkSt [(0,.bool false),(1,.sl (ddl exD)),(2,.ptr 0 0),(3,.ptr 1 0)] [(0,.cells [.i 4,.i 0,.sl [.agg [.i 1,.i 0,.sl []]]]),(1,.cells [.i 4,.i 0,.rw 2]),(2,.row 3 [.agg [.i 3,.i 0,.sl [.agg [.i 1,.i 0,.sl []]]]])] 3) (fun i=>if i=1 then 4194306 else if i=2 then 2097154 else i) (by refine ent_mk (by simp[go_sem]) (by simp[go_sem]) (by simp) (by simp[hN])) ?_
 refine AW_frzCell 1 2 2 (sz:=3) (l:=[.i 4,.i 0,.rw 2]) (xs:=[.agg [.i 3,.i 0,.sl [.agg [.i 1,.i 0,.sl []]]]]) (by simp only[go_sem]) rfl (by simp only[go_sem]) (by decide) (by simp[CloRow,AV.cells,AV.clo]) ?_
 repeat'(first|apply nx|refine zx ?_|rw[zw]|((first|refine hK _ ?_|refine hKp _ _ ?_);clear hK hKp K Kp;try clear hanc anc)|((with_reducible refine And.intro ?_ ?_);exact zb)|((fail_if_success refine K_stop 5 ?_);(first|refine zr hE fun K Kp hK hKp=>?_|refine zd true mixed hE fun K Kp hK hKp anc hanc=>?_|refine zd false mixed hE fun K Kp hK hKp anc hanc=>?_|(apply zm;exact zu;(first|exact c2|exact bx|exact d0|exact d1|exact d2|exact d9|exact s1|exact s2|exact s3|exact s4|exact s5);exact zs;exact zl));simp only[go_sem])|(refine zg (fun hg=>?_) (fun hg=>?_)<;>simp only[go_sem,hg])|(refine zc (fun hc=>?_) (fun hc=>?_)<;>try exact zh hc))
 refine AW.ent (σ':=mkSt [(0,.bool false),(1,.sl (ddl exD)),(4,.bool true)] [] 0) (fun i=>i) (by refine ent_mk (by simp[go_sem]) (by simp[go_sem]) (by simp) (by simp[hN])) ?_
 repeat'(first|apply nx|refine zx ?_|rw[zw]|((first|refine hK _ ?_|refine hKp _ _ ?_);clear hK hKp K Kp;try clear hanc anc)|((with_reducible refine And.intro ?_ ?_);exact zb)|((fail_if_success refine K_stop 6 ?_);(first|refine zr hE fun K Kp hK hKp=>?_|refine zd true mixed hE fun K Kp hK hKp anc hanc=>?_|refine zd false mixed hE fun K Kp hK hKp anc hanc=>?_|(apply zm;exact zu;(first|exact c2|exact d0|exact d1|exact d2|exact d3|exact p0|exact p3|exact i1|exact i2|exact i3);exact zs;exact zl));simp only[go_sem])|(refine zg (fun hg=>?_) (fun hg=>?_)<;>simp only[go_sem,hg])|(refine zc (fun hc=>?_) (fun hc=>?_)<;>try exact zh hc))
 refine Hold.mk (CallB.dpure [19922944] 8 cc (by simp only[go_sem,List.mem_cons,List.not_mem_nil,or_false]) (by simp[go_sem,AV.cells,AV.clo]) (fun _=>rfl) (fun _=>by simp[AV.snapOkL,AV.snapOk]) rfl ?_)
 simp only[go_sem]
 repeat'(first|apply nx|refine zx ?_|rw[zw]|((first|refine hK _ ?_|refine hKp _ _ ?_);clear hK hKp K Kp;try clear hanc anc)|((with_reducible refine And.intro ?_ ?_);exact zb)|((fail_if_success refine K_stop 6 ?_);(first|refine zr hE fun K Kp hK hKp=>?_|refine zd true mixed hE fun K Kp hK hKp anc hanc=>?_|refine zd false mixed hE fun K Kp hK hKp anc hanc=>?_|(apply zm;exact zu;exact i3;exact zs;exact zl));simp only[go_sem])|(refine zg (fun hg=>?_) (fun hg=>?_)<;>simp only[go_sem,hg])|(refine zc (fun hc=>?_) (fun hc=>?_)<;>try exact zh hc))
 refine AW.ent (σ':=mkSt [(0,.bool false),(1,.sl (ddl exD)),(4,.bool true),(5,.bool true)] [] 0) (fun i=>i) (by refine ent_mk (by simp[go_sem]) (by simp[go_sem]) (by simp) (by simp[hN])) ?_
 repeat'(first|apply nx|refine zx ?_|rw[zw]|((first|refine hK _ ?_|refine hKp _ _ ?_);clear hK hKp K Kp;try clear hanc anc)|((with_reducible refine And.intro ?_ ?_);exact zb)|((fail_if_success refine K_stop 7 ?_);(first|refine zr hE fun K Kp hK hKp=>?_|refine zd true mixed hE fun K Kp hK hKp anc hanc=>?_|refine zd false mixed hE fun K Kp hK hKp anc hanc=>?_|(apply zm;exact zu;(first|exact c2|exact d0|exact d1|exact d2);exact zs;exact zl));simp only[go_sem])|(refine zg (fun hg=>?_) (fun hg=>?_)<;>simp only[go_sem,hg])|(refine zc (fun hc=>?_) (fun hc=>?_)<;>try exact zh hc))
 refine AW.ent (σ':=mkSt [(0,.bool false),(1,.sl (ddl exD)),(4,.bool true),(5,.bool true),(6,.ptr 0 0)] [(0,.cells [.str ⟨#[]⟩,.i 0,.i 0,.nilsl,.i 0,.i 1,.i 0,.sl [],.rw 1,.nilsl,.nilsl]),(1,.row 3 [(.agg [.i 2,.i 0,.sl []]),(.agg [.i 1,.i 0,.sl []])])] 2) (fun i=>if i=0 then 5242880 else if i=1 then 3145728 else i) (by refine ent_mk (by simp[go_sem]) (by simp[go_sem]) (by simp) (by simp[hN])) ?_
 refine AW_frzCell 0 8 1 (sz:=3) (l:=[.str ⟨#[]⟩,.i 0,.i 0,.nilsl,.i 0,.i 1,.i 0,.sl [],.rw 1,.nilsl,.nilsl]) (xs:=[(.agg [.i 2,.i 0,.sl []]),(.agg [.i 1,.i 0,.sl []])]) (by simp only[go_sem]) rfl (by simp only[go_sem]) (by decide) (by simp[CloRow,AV.cells,AV.clo]) ?_
 repeat'(first|apply nx|refine zx ?_|rw[zw]|((first|refine hK _ ?_|refine hKp _ _ ?_);clear hK hKp K Kp;try clear hanc anc)|((with_reducible refine And.intro ?_ ?_);exact zb)|((fail_if_success refine K_stop 8 ?_);(first|refine zr hE fun K Kp hK hKp=>?_|refine zd true mixed hE fun K Kp hK hKp anc hanc=>?_|refine zd false mixed hE fun K Kp hK hKp anc hanc=>?_|(apply zm;exact zu;(first|exact c2|exact d0|exact d1|exact d2);exact zs;exact zl));simp only[go_sem])|(refine zg (fun hg=>?_) (fun hg=>?_)<;>simp only[go_sem,hg])|(refine zc (fun hc=>?_) (fun hc=>?_)<;>try exact zh hc))
 refine AW.ent (σ':=mkSt [(0,.bool false),(1,.sl (ddl exD)),(4,.bool true),(5,.bool true),(6,.ptr 0 0),(7,.ptr 1 0)] [(0,.cells [.str ⟨#[]⟩,.i 0,.i 0,.nilsl,.i 0,.i 1,.i 0,.sl [],.sl [(.agg [.i 2,.i 0,.sl []]),(.agg [.i 1,.i 0,.sl []])],.nilsl,.nilsl]),(1,.cells [.str ⟨#[]⟩,.i 0,.i 0,.nilsl,.i 0,.i 1,.i 0,.sl [],.rw 2,.nilsl,.nilsl]),(2,.row 3 [(.agg [.i 2,.i 1,.sl []]),(.agg [.i 1,.i 0,.sl []])])] 3) (fun i=>if i=1 then 5242882 else if i=2 then 3145730 else i) (by refine ent_mk (by simp[go_sem]) (by simp[go_sem]) (by simp) (by simp[hN])) ?_
 refine AW_frzCell 1 8 2 (sz:=3) (l:=[.str ⟨#[]⟩,.i 0,.i 0,.nilsl,.i 0,.i 1,.i 0,.sl [],.rw 2,.nilsl,.nilsl]) (xs:=[(.agg [.i 2,.i 1,.sl []]),(.agg [.i 1,.i 0,.sl []])]) (by simp only[go_sem]) rfl (by simp only[go_sem]) (by decide) (by simp[CloRow,AV.cells,AV.clo]) ?_
 repeat'(first|apply nx|refine zx ?_|rw[zw]|((first|refine hK _ ?_|refine hKp _ _ ?_);clear hK hKp K Kp;try clear hanc anc)|((with_reducible refine And.intro ?_ ?_);exact zb)|((fail_if_success refine K_stop 9 ?_);(first|refine zr hE fun K Kp hK hKp=>?_|refine zd true mixed hE fun K Kp hK hKp anc hanc=>?_|refine zd false mixed hE fun K Kp hK hKp anc hanc=>?_|(apply zm;exact zu;(first|exact c2|exact d0|exact d1|exact d2);exact zs;exact zl));simp only[go_sem])|(refine zg (fun hg=>?_) (fun hg=>?_)<;>simp only[go_sem,hg])|(refine zc (fun hc=>?_) (fun hc=>?_)<;>try exact zh hc))
 refine AW.ent (σ':=mkSt [(0,.bool false),(1,.sl (ddl exD)),(4,.bool true),(5,.bool true),(6,.ptr 0 0),(7,.ptr 1 0),(8,.ptr 2 0)] [(0,.cells [.str ⟨#[]⟩,.i 0,.i 0,.nilsl,.i 0,.i 1,.i 0,.sl [],.sl [(.agg [.i 2,.i 0,.sl []]),(.agg [.i 1,.i 0,.sl []])],.nilsl,.nilsl]),(1,.cells [.str ⟨#[]⟩,.i 0,.i 0,.nilsl,.i 0,.i 1,.i 0,.sl [],.sl [(.agg [.i 2,.i 1,.sl []]),(.agg [.i 1,.i 0,.sl []])],.nilsl,.nilsl]),(2,.cells [.str ⟨#[]⟩,.i 0,.i 0,.nilsl,.i 0,.i 1,.i 0,.sl [],.rw 3,.nilsl,.nilsl]),(3,.row 3 [(.agg [.i 2,.i 2,.sl []]),(.agg [.i 1,.i 0,.sl []])])] 4) (fun i=>if i=2 then 5242883 else if i=3 then 3145731 else i) (by refine ent_mk (by simp[go_sem]) (by simp[go_sem]) (by simp) (by simp[hN])) ?_
 refine AW_frzCell 2 8 3 (sz:=3) (l:=[.str ⟨#[]⟩,.i 0,.i 0,.nilsl,.i 0,.i 1,.i 0,.sl [],.rw 3,.nilsl,.nilsl]) (xs:=[(.agg [.i 2,.i 2,.sl []]),(.agg [.i 1,.i 0,.sl []])]) (by simp only[go_sem]) rfl (by simp only[go_sem]) (by decide) (by simp[CloRow,AV.cells,AV.clo]) ?_
 repeat'(first|apply nx|refine zx ?_|rw[zw]|((first|refine hK _ ?_|refine hKp _ _ ?_);clear hK hKp K Kp;try clear hanc anc)|((with_reducible refine And.intro ?_ ?_);exact zb)|((fail_if_success refine K_stop 10 ?_);(first|refine zr hE fun K Kp hK hKp=>?_|refine zd true mixed hE fun K Kp hK hKp anc hanc=>?_|refine zd false mixed hE fun K Kp hK hKp anc hanc=>?_);simp only[go_sem])|(refine zg (fun hg=>?_) (fun hg=>?_)<;>simp only[go_sem,hg])|(refine zc (fun hc=>?_) (fun hc=>?_)<;>try exact zh hc))
 refine AW.ent (σ':=mkSt [(0,.bool false),(1,.sl (ddl exD)),(4,.bool true),(5,.bool true),(9,.ptr 0 0)] [(0,.cells [.nilsl,.nilsl,.sl (ddl exD),.nilsl,.nilsl,.nilsl,.rw 1,.i 0]),(1,.row 11 [.agg [.str ⟨#[]⟩,.i 0,.i 0,.nilsl,.i 0,.i 1,.i 0,.sl [],.sl [(.agg [.i 2,.i 0,.sl []]),(.agg [.i 1,.i 0,.sl []])],.nilsl,.nilsl],.agg [.str ⟨#[]⟩,.i 0,.i 0,.nilsl,.i 0,.i 1,.i 0,.sl [],.sl [(.agg [.i 2,.i 2,.sl []]),(.agg [.i 1,.i 0,.sl []])],.nilsl,.nilsl],.agg [.str ⟨#[]⟩,.i 0,.i 0,.nilsl,.i 0,.i 1,.i 0,.sl [],.sl [(.agg [.i 2,.i 1,.sl []]),(.agg [.i 1,.i 0,.sl []])],.nilsl,.nilsl]])] 2) (fun i=>if i=0 then 6291460 else if i=1 then 4194308 else i) (by refine ent_mk (by simp[go_sem]) (by simp[go_sem]) (by simp) (by simp[hN])) ?_
 refine AW_snpRow (sz:=11) (l:=[.agg [.str ⟨#[]⟩,.i 0,.i 0,.nilsl,.i 0,.i 1,.i 0,.sl [],.sl [(.agg [.i 2,.i 0,.sl []]),(.agg [.i 1,.i 0,.sl []])],.nilsl,.nilsl],.agg [.str ⟨#[]⟩,.i 0,.i 0,.nilsl,.i 0,.i 1,.i 0,.sl [],.sl [(.agg [.i 2,.i 2,.sl []]),(.agg [.i 1,.i 0,.sl []])],.nilsl,.nilsl],.agg [.str ⟨#[]⟩,.i 0,.i 0,.nilsl,.i 0,.i 1,.i 0,.sl [],.sl [(.agg [.i 2,.i 1,.sl []]),(.agg [.i 1,.i 0,.sl []])],.nilsl,.nilsl]]) (l':=fxl [exF0,exF1,exF2]) 1 (by simp only[go_sem]) (fun y hy=>?_) rfl ?_
 ·simp only[List.mem_cons,List.not_mem_nil,or_false] at hy
  rcases hy with rfl|rfl|rfl<;>simp[AV.snapOk,AV.snapOkL]
 refine AW_frzCell 0 6 1 (sz:=11) (l:=[.nilsl,.nilsl,.sl (ddl exD),.nilsl,.nilsl,.nilsl,.rw 1,.i 0]) (xs:=fxl [exF0,exF1,exF2]) (by simp only[go_sem]) rfl (by simp only[go_sem]) (by decide) (clo_fxl _) ?_
 have em:PCall Tryd.prog 23 [.agg [.sl [],.sl [],.sl (ddl exD),.sl [],.sl [],.sl [],.sl (fxl [exF0,exF1,exF2]),.i 0]] (.sl [.i 0,.i 1,.i 0]):=ex_merge
 have ec:PCall Tryd.prog 24 [.agg [.i 1,.i 0,.sl []]] (.bool true):=copyable_c
 have en:PCall Tryd.prog 26 [] (.agg [.sl [],.sl []]):=new_call
 have eq:PCall Tryd.prog 25 [.agg [.sl [],.sl []],.agg [.i 1,.i 0,.i 0,.i 0,.sl [],.bool false,.sl [],.sl []]] (.i 0):=by
  have:=count_call hp0 (.mk 1 0 0 0 [] false [] []) smE
  exact this
 repeat'(first|apply nx|refine zx ?_|rw[zw]|((first|refine hK _ ?_|refine hKp _ _ ?_);clear hK hKp K Kp;try clear hanc anc)|((with_reducible refine And.intro ?_ ?_);exact zb)|((first|refine zr hE fun K Kp hK hKp=>?_|refine zd false mixed hE fun K Kp hK hKp anc hanc=>?_|(apply zm;exact zu;(first|exact c2|exact em|exact i4|exact ec|exact en|exact eq);exact zs;exact zl));simp only[go_sem])|(refine zg (fun hg=>?_) (fun hg=>?_)<;>simp only[go_sem,hg])|(refine zc (fun hc=>?_) (fun hc=>?_)<;>try exact zh hc)|(refine K_ret ?_;refine zt hQ ?_))
 simp[AV.snap]
end Go.Proofs.YtfpcjabbcpgbjaaDoor

namespace Go.Gl
open Go Go.Am Go.Hv Go.Proofs.YtfpcjabbcpgbjaaDoor
mutual
theorem ptT_pos:∀ (t:Ty) (n:Int),0<ptT t n→ptT t n=n - t.sz
 | .mk k i a,n,h=>by
  rw[ptT] at h ⊢
  rw[ptL_pos a (n - 1) h,Ty.sz];omega
theorem ptL_pos:∀ (l:List Ty) (n:Int),0<ptL l n→ptL l n=n - Ty.szL l
 | [],n,h=>by rw[ptL,Ty.szL];omega
 |t::l,n,h=>by
  rw[ptL] at h ⊢
  rw[Ty.szL]
  split at h
  ·rename_i hn
   rw[if_pos hn]
   have h1:=ptL_pos l _ h
   have h2:=ptL_le l (ptT t n)
   have h3:=ptT_pos t n (by omega)
   omega
  ·omega
end
theorem pt_sz {t:Ty} (h:0<ptT t 10):t.sz≤9:=by have:=ptT_pos t 10 h;omega
mutual
theorem ksub_len:∀ t:Ty,(kSub (ky t)).length≤t.sz+1
 | .mk k i a=>by
  rw[ky,Ty.sz]
  split
  ·simp[kSub]
  ·split
   ·rw[kSub,List.length_cons];have:=ksubL_len a;omega
   ·simp[kSub]
theorem ksubL_len:∀ l:List Ty,(kSub (kyL l)).length≤Ty.szL l+1
 | []=>by simp[kyL,kSub]
 |t::l=>by rw[kyL,Ty.szL];have:=ksub_len t;omega
end
theorem flat_len (l:List Ty):(l.flatMap fun t=>kSub (ky t)).length≤2*Ty.szL l:=by
 induction l with
 |nil=>simp
 |cons t l ih=>
  rw[List.flatMap_cons,List.length_append,Ty.szL]
  have:=ksub_len t
  have:1≤t.sz:=by rw[Ty.sz_eq];omega
  omega
theorem szL_app (a b:List Ty):Ty.szL (a++b)=Ty.szL a+Ty.szL b:=by simp[Ty.szL_eq]
theorem uni_len (D:List Dd) (l:List Ty):(uni D l).length≤2*(Ty.szL l+Ty.szL (allF D)):=by
 have:=flat_len (l++allF D)
 rw[szL_app] at this
 exact this
def dSz (D:List Dd):Nat:=(D.map fun x=>1+(x.vs.map Dv.sz).sum).sum
theorem sumN_mem {α:Type} (f:α→Nat):∀ {l:List α} {x:α},x∈l→f x≤(l.map f).sum
 |y::l,x,h=>by
  rw[List.map_cons,List.sum_cons]
  rcases List.mem_cons.1 h with rfl|h
  ·omega
  ·have:=sumN_mem f h;omega
theorem lenN_sum {α:Type} (f:α→Nat) (h:∀ x,1≤f x):∀ l:List α,l.length≤(l.map f).sum
 | []=>Nat.zero_le _
 |y::l=>by rw[List.map_cons,List.sum_cons,List.length_cons];have:=lenN_sum f h l;have:=h y;omega
theorem flat_sz (l:List Dv):Ty.szL (l.flatMap Dv.fs)≤(l.map Dv.sz).sum:=by
 induction l with
 |nil=>simp[Ty.szL]
 |cons v l ih=>rw[List.flatMap_cons,szL_app,List.map_cons,List.sum_cons,Dv.sz];omega
theorem allF_sz (D:List Dd):Ty.szL (allF D)≤dSz D:=by
 induction D with
 |nil=>simp[allF,Ty.szL,dSz]
 |cons x D ih=>
  have e:allF (x::D)=x.vs.flatMap Dv.fs++allF D:=by simp[allF]
  have:=flat_sz x.vs
  rw[e,szL_app]
  simp only[dSz,List.map_cons,List.sum_cons] at ih ⊢
  omega
theorem db_of {D:List Dd} (h:dSz D≤2 ^ 20):DB D:=by
 have h0:=lenN_sum (fun x:Dd=>1+(x.vs.map Dv.sz).sum) (fun x=>by omega) D
 have h1:∀ x,x∈D→(x.vs.map Dv.sz).sum≤2 ^ 20:=fun x hx=>by
  have:=sumN_mem (fun x:Dd=>1+(x.vs.map Dv.sz).sum) hx
  simp only[dSz] at h;omega
 have h2:∀ x,x∈D→∀ v,v∈x.vs→Ty.szL v.fs≤2 ^ 20:=fun x hx v hv=>by
  have:=sumN_mem Dv.sz hv
  have:=h1 x hx
  simp only[Dv.sz] at*;omega
 refine⟨by simp only[dSz] at h;omega,fun x hx=>?_,fun x hx v hv=>?_,fun x hx v hv t ht=>?_,fun x hx=>?_⟩
 ·have:=lenN_sum Dv.sz (fun v=>by rw[Dv.sz];omega) x.vs;have:=h1 x hx;omega
 ·have:=Ty.len_le v.fs;have:=h2 x hx v hv;omega
 ·have:=Ty.sz_mem ht;have:=h2 x hx v hv;omega
 ·have:=Ty.len_le (x.vs.flatMap Dv.fs);have:=flat_sz x.vs;have:=h1 x hx;omega
theorem ds_of {D:List Dd} (h:dSz D≤2 ^ 20):DS D:=by
 have h1:∀ x,x∈D→(x.vs.map Dv.sz).sum≤2 ^ 20:=fun x hx=>by
  have:=sumN_mem (fun x:Dd=>1+(x.vs.map Dv.sz).sum) hx
  simp only[dSz] at h;omega
 intro x hx
 have:=h1 x hx
 exact⟨by have:=lenN_sum Dv.sz (fun v=>by rw[Dv.sz];omega) x.vs;omega,by have:=Ty.len_le (x.vs.flatMap Dv.fs);have:=flat_sz x.vs;omega⟩
theorem sum_le {α:Type} (f:α→Nat) (c:Nat):∀ (l:List α),(∀ x,x∈l→f x≤c)→(l.map f).sum≤l.length*c
 | [],_=>by simp
 |x::l,h=>by
  rw[List.map_cons,List.sum_cons,List.length_cons,Nat.add_mul,Nat.one_mul]
  have h1:=sum_le f c l (fun y hy=>h y (List.mem_cons_of_mem _ hy))
  have h2:=h x (by simp)
  omega
theorem mul_le {a b c:Nat} (h:a≤b):a*c≤b*c:=Nat.mul_le_mul_right _ h
theorem few_dSz {D:List Dd} {l:List Ty} (h:fewD D l):dSz D≤4000:=by
 obtain⟨h1,_,_,h4⟩:=h
 have h5:∀ x,x∈D→1+(x.vs.map Dv.sz).sum≤331:=fun x hx=>by
  obtain⟨g1,g2⟩:=h4 x hx
  have h6:∀ v,v∈x.vs→v.sz≤55:=fun v hv=>by
   obtain⟨g3,g4⟩:=g2 v hv
   have h7:=sum_le Ty.sz 9 v.fs (fun t ht=>pt_sz (g4 t ht))
   have h8:=mul_le (c:=9) g3
   rw[Dv.sz,Ty.szL_eq];omega
  have h7:=sum_le Dv.sz 55 x.vs h6
  have h8:=mul_le (c:=55) g1
  omega
 have h7:=sum_le (fun x:Dd=>1+(x.vs.map Dv.sz).sum) 331 D h5
 have h8:=mul_le (c:=331) h1
 simp only[dSz];omega
theorem few_uni {D:List Dd} {l l':List Ty} (h:fewD D l) (hs:∀ t,t∈l'→t.sz≤9) (hl:l'.length≤20):(uni D l').length≤8360:=by
 have h1:=uni_len D l'
 have h2:=few_dSz h
 have h3:=allF_sz D
 have h4:=sum_le Ty.sz 9 l' hs
 have h5:=mul_le (c:=9) hl
 rw[← Ty.szL_eq] at h4
 omega
theorem shp_len {D:List Dd} (hS:DS D) {t:Ty} {n:Nat} (hn:(uni D [t]).length≤n):(shp D t).length≤n*4194304:=by
 unfold shp
 split
 ·rename_i h
  simp only[Bool.and_eq_true] at h
  have hdt:dtB D=true:=by have:=h.1;simp only[dtF,Bool.and_eq_true] at this;exact this.2
  obtain⟨hG,m,hm,_⟩:=nds_ok hdt ⟨8,h.2⟩
  have hr:=(List.getElem?_eq_some_iff.1 hm).1
  have h1:=out_len hS hG (clC D (nds D t)) hr (nds D t).length
  obtain⟨_,_,hsub⟩:=addA_ok hdt (l:=[t]) (f:=(uni D [t]).length+1) (fun u hu=>by simp at hu;subst hu;exact⟨8,h.2⟩) (Nat.lt_succ_self _)
  have h2:=nodes_len hG.nd hsub
  exact Nat.le_trans h1 (mul_le (by unfold nds at*;omega))
 ·simp

mutual
def revT (n:Nat):Ty→Ty
 | .mk k i a=> .mk k (if k=2 then(n:Int) - 1 - i else i) (revL n a)
def revL (n:Nat):List Ty→List Ty
 | []=>[]
 |t::l=>revT n t::revL n l
end
theorem revL_eq (n:Nat):∀ l:List Ty,revL n l=l.map (revT n)
 | []=>by rw[revL];rfl
 |t::l=>by rw[revL,revL_eq n l];rfl
theorem revT_kind (n:Nat) (t:Ty):(revT n t).kind=t.kind:=by cases t;rw[revT];rfl
theorem revT_args (n:Nat) (t:Ty):(revT n t).args=t.args.map (revT n):=by cases t;rw[revT,revL_eq];rfl
theorem revT_id (n:Nat) (t:Ty):(revT n t).id=if t.kind=2 then(n:Int) - 1 - t.id else t.id:=by cases t;rw[revT];rfl
mutual
theorem revT_sz (n:Nat):∀ t:Ty,(revT n t).sz=t.sz
 | .mk k i a=>by rw[revT,Ty.sz,Ty.sz,revL_sz n a]
theorem revL_sz (n:Nat):∀ l:List Ty,Ty.szL (revL n l)=Ty.szL l
 | []=>by rw[revL]
 |t::l=>by rw[revL,Ty.szL,Ty.szL,revT_sz n t,revL_sz n l]
end
mutual
theorem revT_pt (n:Nat):∀ (t:Ty) (m:Int),ptT (revT n t) m=ptT t m
 | .mk k i a,m=>by rw[revT,ptT,ptT,revL_pt n a]
theorem revL_pt (n:Nat):∀ (l:List Ty) (m:Int),ptL (revL n l) m=ptL l m
 | [],m=>by rw[revL]
 |t::l,m=>by rw[revL,ptL,ptL,revT_pt n t,revL_pt n l]
end
def vrev (n:Nat) (nm:ByteArray) (v:Dv):Dv:=⟨nm,v.fs.map (revT n)⟩
def drev (n:Nat) (nm:ByteArray) (i:Nat) (x:Dd):Dd:=⟨nm,(i:Nat),x.pr,x.vs.map (vrev n nm),x.dr⟩
def oth (D:List Dd) (nm:ByteArray) (k:Nat):List Dd:=(List.range k).flatMap fun j=>match D[D.length - 1 - j]? with|some x=>[drev D.length nm (D.length - 1 - j) x]|none=>[]
theorem oth_succ {D:List Dd} {nm:ByteArray} {k:Nat} {x:Dd} (h:D[D.length - 1 - k]? =some x):oth D nm (k+1)=oth D nm k++[drev D.length nm (D.length - 1 - k) x]:=by
 simp[oth,List.range_succ,h]
theorem oth_len {D:List Dd} {nm:ByteArray} :∀ {k:Nat},k≤D.length→(oth D nm k).length=k
 |0,_=>by simp[oth]
 |k+1,h=>by
  obtain⟨x,hx⟩:=get?_of (show D.length - 1 - k<D.length by omega)
  rw[oth_succ hx,List.length_append,oth_len (by omega)];rfl
theorem oth_get {D:List Dd} {nm:ByteArray} :∀ {k j:Nat},k≤D.length→j<k→∃ x,D[D.length - 1 - j]? =some x∧(oth D nm k)[j]? =some (drev D.length nm (D.length - 1 - j) x)
 |0,j,_,hj=>absurd hj (Nat.not_lt_zero _)
 |k+1,j,h,hj=>by
  obtain⟨x,hx⟩:=get?_of (show D.length - 1 - k<D.length by omega)
  rw[oth_succ hx]
  by_cases e:j=k
  ·subst e
   refine⟨x,hx,?_⟩
   rw[List.getElem?_append_right (by rw[oth_len (by omega)];omega),oth_len (by omega),Nat.sub_self]
   rfl
  ·obtain⟨y,h1,h2⟩:=oth_get (nm:=nm) (show k≤D.length by omega) (show j<k by omega)
   exact⟨y,h1,by rw[List.getElem?_append_left (by rw[oth_len (by omega)];omega)];exact h2⟩
theorem oth_mem {D:List Dd} {nm:ByteArray} {k:Nat} {y:Dd} (h:y∈oth D nm k):∃ x i,x∈D∧y=drev D.length nm i x:=by
 obtain⟨j,_,hj⟩:=List.mem_flatMap.1 h
 split at hj
 ·rename_i x hx
  obtain rfl:=List.mem_singleton.1 hj
  exact⟨x,_,List.mem_of_getElem? hx,rfl⟩
 ·cases hj
theorem oth_at {D:List Dd} {nm:ByteArray} {i:Int} {x:Dd} (h0:0≤i) (hx:D[i.toNat]? =some x):0≤(D.length:Int) - 1 - i∧(oth D nm D.length)[((D.length:Int) - 1 - i).toNat]? =some (drev D.length nm i.toNat x):=by
 have hl:=(List.getElem?_eq_some_iff.1 hx).1
 obtain⟨y,h1,h2⟩:=oth_get (nm:=nm) (Nat.le_refl D.length) (show((D.length:Int) - 1 - i).toNat<D.length by omega)
 have e:D.length - 1 - ((D.length:Int) - 1 - i).toNat=i.toNat:=by omega
 rw[e] at h1 h2
 rw[hx] at h1
 cases h1
 exact⟨by omega,h2⟩
mutual
theorem rev_pl (D:List Dd) (nm:ByteArray):∀ (t:Ty) (d:Int),plB D t d=true→plB (oth D nm D.length) (revT D.length t) d=true
 | .mk k i a,d,h=>by
  rw[revT]
  rw[plB] at h ⊢
  split at h
  ·cases h
  rename_i hd
  rw[if_neg hd]
  split at h
  ·rename_i hk
   rw[if_pos hk,revL_eq]
   simpa using h
  rename_i hk
  rw[if_neg hk]
  split at h
  ·rename_i hk2
   rw[if_pos hk2,if_pos hk2]
   simp only[Bool.and_eq_true,decide_eq_true_eq] at h
   obtain⟨h1,h2,h3⟩:=h
   cases hx:D[i.toNat]? with
   |none=>rw[hx] at h3;cases h3
   |some x=>
    rw[hx] at h3
    obtain⟨g1,g2⟩:=oth_at (nm:=nm) h2 hx
    rw[g2,revL_eq]
    simp only[drev,Bool.and_eq_true,decide_eq_true_eq]
    exact⟨by simpa using h1,g1,h3⟩
  rename_i hk2
  rw[if_neg hk2]
  split at h
  ·rename_i hk3
   rw[if_pos hk3]
   simp only[Bool.and_eq_true] at h ⊢
   exact⟨by rw[revL_eq,List.length_map];exact h.1,rev_plL D nm a (d - 1) h.2⟩
  ·cases h
theorem rev_plL (D:List Dd) (nm:ByteArray):∀ (l:List Ty) (d:Int),plL D l d=true→plL (oth D nm D.length) (revL D.length l) d=true
 | [],d,_=>by rw[revL,plL]
 |t::l,d,h=>by
  rw[plL,Bool.and_eq_true] at h
  rw[revL,plL,Bool.and_eq_true]
  exact⟨rev_pl D nm t d h.1,rev_plL D nm l d h.2⟩
end
theorem rev_dt {D:List Dd} (nm:ByteArray) (h:dtB D=true):dtB (oth D nm D.length)=true:=by
 unfold dtB at h ⊢
 simp only[List.all_eq_true] at h ⊢
 intro y hy v hv f hf
 obtain⟨x,i,hx,rfl⟩:=oth_mem hy
 obtain⟨v0,hv0,rfl⟩:=List.mem_map.1 hv
 obtain⟨f0,hf0,rfl⟩:=List.mem_map.1 hf
 exact rev_pl D nm f0 8 (h x hx v0 hv0 f0 hf0)
theorem rev_few {D:List Dd} (nm:ByteArray) {l:List Ty} (h:fewD D l):fewD (oth D nm D.length) (l.map (revT D.length)):=by
 obtain⟨h1,h2,h3,h4⟩:=h
 refine⟨by rw[oth_len (Nat.le_refl _)];exact h1,by rw[List.length_map];exact h2,fun t ht=>?_,fun y hy=>?_⟩
 ·obtain⟨t0,ht0,rfl⟩:=List.mem_map.1 ht
  rw[revT_pt];exact h3 t0 ht0
 ·obtain⟨x,i,hx,rfl⟩:=oth_mem hy
  obtain⟨g1,g2⟩:=h4 x hx
  refine⟨by simp only[drev,List.length_map];exact g1,fun v hv=>?_⟩
  obtain⟨v0,hv0,rfl⟩:=List.mem_map.1 hv
  obtain⟨g3,g4⟩:=g2 v0 hv0
  refine⟨by simp only[vrev,List.length_map];exact g3,fun f hf=>?_⟩
  obtain⟨f0,hf0,rfl⟩:=List.mem_map.1 hf
  rw[revT_pt];exact g4 f0 hf0
theorem rev_vsO {D:List Dd} (nm:ByteArray) {t:Ty} (ht:Pl D t):vsO (oth D nm D.length) (revT D.length t)=(vsO D t).map (drev D.length nm t.id.toNat):=by
 unfold vsO
 rw[revT_kind,revT_id]
 by_cases h:t.kind=2
 ·obtain⟨h0,h1⟩:=pl_id ht h
  obtain⟨x,hx⟩:=get?_of (show t.id.toNat<D.length by omega)
  rw[if_pos h,if_pos h,if_pos h,hx,(oth_at (nm:=nm) h0 hx).2];rfl
 ·rw[if_neg h,if_neg h];rfl
theorem rev_kids {D:List Dd} (nm:ByteArray) {t:Ty} (ht:Pl D t):kids (oth D nm D.length) (revT D.length t)=(kids D t).map (revT D.length):=by
 unfold kids
 rw[rev_vsO nm ht]
 cases h:vsO D t with
 |some x=>
  simp only[Option.map_some,drev]
  induction x.vs with
  |nil=>rfl
  |cons v l ih=>simp only[List.map_cons,List.flatMap_cons,List.map_append,ih];rfl
 |none=>
  simp only[Option.map_none]
  rw[revT_kind]
  split
  ·exact revT_args _ t
  ·rfl
theorem rev_lab {D:List Dd} (nm:ByteArray) {t:Ty} (ht:Pl D t):lab D t=lab (oth D nm D.length) (revT D.length t):=by
 unfold lab
 rw[rev_vsO nm ht,revT_kind]
 cases h:vsO D t with
 |some x=>simp[drev,vrev,Function.comp_def]
 |none=>rfl
theorem rev_bis {D:List Dd} (hdt:dtB D=true) (nm:ByteArray) {t:Ty} (ht:Pl D t):bis D (oth D nm D.length) t (revT D.length t):=by
 intro n
 induction n generalizing t with
 |zero=>trivial
 |succ n ih=>
  refine⟨rev_lab nm ht,by rw[rev_kids nm ht,List.length_map],fun j a b ha hb=>?_⟩
  rw[rev_kids nm ht,List.getElem?_map,ha] at hb
  cases hb
  exact ih (kids_pl hdt ht (List.mem_of_getElem? ha))
theorem rev_shp {D:List Dd} (nm:ByteArray) {t:Ty} (h:plainL D [t]):shp (oth D nm D.length) (revT D.length t)=shp D t:=by
 obtain⟨h1,h2,h3,h4⟩:=h
 have hp:=h1 t (by simp)
 have hd:dtF D=true:=by simp[dtF,h3,h4]
 have hE:=rev_dt nm h3
 have hdE:dtF (oth D nm D.length)=true:=by simp[dtF,hE,oth_len (Nat.le_refl D.length),h4]
 have hpE:=rev_pl D nm t 8 hp
 have e1:shp D t=shpL D t:=by simp[shp,hd,hp]
 have e2:shp (oth D nm D.length) (revT D.length t)=shpL (oth D nm D.length) (revT D.length t):=by simp[shp,hdE,hpE]
 rw[e1,e2]
 exact((shpL_iff h3 hE ⟨8,hp⟩ ⟨8,hpE⟩).2 (rev_bis h3 nm ⟨8,hp⟩)).symm
end Go.Gl

set_option maxHeartbeats 4000000
set_option maxRecDepth 100000
namespace Go.Proofs.YtfpcjabbcpgbjaaDoor
open Go.Am Go.Proofs Go.Hv Go.Gl
open Classical
attribute [local irreducible] AW CallP CallB CallY
theorem rev_i {D:List Dd} {n:Nat} (hn:n=D.length) {k i d:Int} {a:List Ty} (h:plB D (.mk k i a) d=true) (hk:k=2):0≤i∧i<(n:Int):=by
 subst hn
 exact pl_id ⟨d,h⟩ hk
theorem rev_args {D:List Dd} {k i d:Int} {a:List Ty} (h:plB D (.mk k i a) d=true) {t:Ty} (ht:t∈a):plB D t (d - 1)=true:=by
 have hL:∀ (l:List Ty) (d:Int),plL D l d=true→∀ t,t∈l→plB D t d=true:=by
  intro l
  induction l with
  |nil=>intro d _ t ht;cases ht
  |cons x l ih=>
   intro d h t ht
   rw[plL,Bool.and_eq_true] at h
   rcases List.mem_cons.1 ht with rfl|ht
   ·exact h.1
   ·exact ih d h.2 t ht
 rw[plB] at h
 split at h
 ·cases h
 split at h
 ·have:a=[]:=by simpa using h
  subst this;cases ht
 split at h
 ·simp only[Bool.and_eq_true] at h
  have:a=[]:=by simpa using h.1
  subst this;cases ht
 split at h
 ·simp only[Bool.and_eq_true] at h
  exact hL a _ h.2 t ht
 ·cases h
theorem reversed_c {D:List Dd} {n:Nat} (hn:n=D.length) (hD:D.length≤2 ^ 30):∀ (N:Nat) (t:Ty) (d:Int),t.sz≤N→N≤2 ^ 30→plB D t d=true→PCall Tryd.prog 13 [t.av,.i (n:Nat)] (revT n t).av
 |0,t,d,hs,_,_=>by rw[Ty.sz_eq] at hs;omega
 |N+1,.mk k i a,d,hs,hN2,hp=>by
  rw[Ty.sz] at hs
  have hal:=Ty.len_le a
  have hkk:k=2∨k≠2:=by omega
  rw[Ty.av_eq,revT,Ty.av_eq]
  simp only[Ty.kind,Ty.id,Ty.args]
  have q2:(k==2)=decide (k=2):=by rw[Bool.eq_iff_iff];simp
  obtain⟨jd,hjd⟩:∃ jd,jd=if k=2 then(n:Int) - 1 - i else i:=⟨_,rfl⟩
  rw[← hjd]
  refine PCall.intro Tryd.func13 rfl isf13 (by simp[Tryd.f13]) (by simp[AV.cloL,AV.clo]) fun E Q hE hN hQ=>K_start ?_
  by_cases hk:k=2
  ·obtain⟨h0,h1⟩:=rev_i hn hp hk
   have u0:IntKind.i64.wrap ((n:Int) - 1)=(n:Int) - 1:=by rw[wrap64 (by omega) (by omega)]
   have u1:IntKind.i64.wrap ((n:Int) - 1 - i)=(n:Int) - 1 - i:=by rw[wrap64 (by omega) (by omega)]
   rw[decide_eq_true hk] at q2
   rw[if_pos hk] at hjd
   repeat'(first|apply nx|refine zx ?_|rw[zw]|((first|refine hK _ ?_|refine hKp _ _ ?_);clear hK hKp K Kp;try clear hanc anc)|((with_reducible refine And.intro ?_ ?_);exact zb)|((first|refine zr hE fun K Kp hK hKp=>?_|refine zd true mixed hE fun K Kp hK hKp anc hanc=>?_|refine zd false mixed hE fun K Kp hK hKp anc hanc=>?_);simp only[go_sem,q2,u0,u1])|(refine zg (fun hg=>?_) (fun hg=>?_)<;>simp only[go_sem,q2,u0,u1,hg])|(refine zc (fun hc=>?_) (fun hc=>?_)<;>try exact zh hc))
   refine AW.ent (σ':=mkSt [(1,.i (n:Nat)),(2,.ptr 0 0),(4,.ptr 1 0),(5,.ptr 2 0),(6,.i 0)] [(0,.cells [.i k,.i i,.sl (Ty.avL a)]),(1,.cells [.i 0,.i 0,.nilsl]),(2,.cells [.i k,.i jd,.nilsl])] 3) (fun i=>if i=1 then 1048576 else if i=2 then 7340032 else i) ?_ ?_
   ·rw[hjd]
    refine ent_mk (by simp[go_sem]) (by simp[go_sem]) (by simp) (by simp[hN])
   clear q2 hjd
   refine AW_nilc 2 2 3 (l:=[.i k,.i jd,.nilsl]) (by simp only[go_sem]) rfl ?_
   try dsimp only
   try simp only[Nat.reduceAdd]
   refine K_loop (X:=Nat) (fun j=>j≤a.length) (fun j=>mkSt [(1,.i (n:Nat)),(2,.ptr 0 0),(4,.ptr 1 0),(5,.ptr 2 0),(6,.i (j:Nat))] [(0,.cells [.i k,.i i,.sl (Ty.avL a)]),(1,.cells [.i 0,.i 0,.nilsl]),(2,.cells [.i k,.i jd,.rw 3]),(3,.row 3 (Ty.avL (revL n (a.take j))))] 4) (fun j=>a.length - j) 0 (Nat.zero_le _) (fun i=>i) ?_ ?_
   ·refine ent_mk (by simp[go_sem]) (by simp[go_sem,revL,Ty.avL]) (by simp) (by simp[hN])
   intro j hj
   by_cases hlt:j<a.length
   ·obtain⟨t,ht⟩:=get?_of hlt
    have htm:=List.mem_of_getElem? ht
    have hts:=Ty.sz_mem htm
    have c1:=reversed_c hn hD N t (d - 1) (by omega) (by omega) (rev_args hp htm)
    have e1:Ty.avL (revL n (a.take j))++[(revT n t).av]=Ty.avL (revL n (a.take (j+1))):=by
     rw[List.take_add_one,ht,revL_eq,revL_eq];simp[Ty.avL_eq]
    have u2:=inc_u hlt (by omega)
    have hF:Fits ((revL n (a.take j)).length+1) 40:=⟨by rw[revL_eq];simp;omega,by rw[revL_eq];simp;omega⟩
    rw[Ty.av_eq] at c1
    rw[Ty.av_eq (revT n t)] at c1 e1
    repeat'(first|apply nx|refine zx ?_|rw[zw]|((first|refine hK _ ?_|refine hKp _ _ ?_);clear hK hKp K Kp;try clear hanc anc)|((with_reducible refine And.intro ?_ ?_);exact zb)|((first|refine zr hE fun K Kp hK hKp=>?_|refine zd true mixed hE fun K Kp hK hKp anc hanc=>?_|refine zd false mixed hE fun K Kp hK hKp anc hanc=>?_|(apply zm;exact zu;exact c1;exact zs;exact zl));simp only[go_sem,lt_dec hlt,ht,Ty.av_eq,u2])|(refine zg (fun hg=>?_) (fun hg=>?_)<;>simp only[go_sem,lt_dec hlt,ht,Ty.av_eq,u2,hg])|(refine zc (fun hc=>?_) (fun hc=>?_)<;>try exact zh hc))
    refine⟨j+1,by omega,by omega,fun i=>if i=3 then 15728644 else i,ent_mk (by simp[go_sem]) ?_ (by simp) (by simp[hN])⟩
    rw[e1]
    simp[go_sem]
   ·obtain rfl:j=a.length:=by omega
    rw[List.take_length]
    repeat'(first|apply nx|refine zx ?_|rw[zw]|((first|refine hK _ ?_|refine hKp _ _ ?_);clear hK hKp K Kp;try clear hanc anc)|((with_reducible refine And.intro ?_ ?_);exact zb)|((first|refine zr hE fun K Kp hK hKp=>?_|refine zd true mixed hE fun K Kp hK hKp anc hanc=>?_|refine zd false mixed hE fun K Kp hK hKp anc hanc=>?_);simp only[go_sem,ge_dec])|(refine zg (fun hg=>?_) (fun hg=>?_)<;>simp only[go_sem,ge_dec,hg])|(refine zc (fun hc=>?_) (fun hc=>?_)<;>try exact zh hc))
    refine K_ret (hQ _ ⟨.agg [.i k,.i jd,.rw 3],resA_cell (id:=1) (off:=0) (by simp only[go_sem]) ti25 (by simp only[go_sem];rfl) rfl,?_,?_,rfl⟩).1
    ·simp[AV.snapOk,AV.snapOkL,updo,Ty.clo_avLT]
    ·simp[AV.snap,AV.snapL,updo,revT_kind,Ty.kind,Ty.id,Ty.args]
  ·rw[decide_eq_false hk] at q2
   rw[if_neg hk] at hjd
   repeat'(first|apply nx|refine zx ?_|rw[zw]|((first|refine hK _ ?_|refine hKp _ _ ?_);clear hK hKp K Kp;try clear hanc anc)|((with_reducible refine And.intro ?_ ?_);exact zb)|((first|refine zr hE fun K Kp hK hKp=>?_|refine zd true mixed hE fun K Kp hK hKp anc hanc=>?_|refine zd false mixed hE fun K Kp hK hKp anc hanc=>?_);simp only[go_sem,q2])|(refine zg (fun hg=>?_) (fun hg=>?_)<;>simp only[go_sem,q2,hg])|(refine zc (fun hc=>?_) (fun hc=>?_)<;>try exact zh hc))
   refine AW.ent (σ':=mkSt [(1,.i (n:Nat)),(2,.ptr 0 0),(4,.ptr 1 0),(5,.ptr 2 0),(6,.i 0)] [(0,.cells [.i k,.i i,.sl (Ty.avL a)]),(1,.cells [.i 0,.i 0,.nilsl]),(2,.cells [.i k,.i jd,.nilsl])] 3) (fun i=>if i=1 then 1048576 else if i=2 then 7340032 else i) ?_ ?_
   ·rw[hjd]
    refine ent_mk (by simp[go_sem]) (by simp[go_sem]) (by simp) (by simp[hN])
   clear q2 hjd
   refine AW_nilc 2 2 3 (l:=[.i k,.i jd,.nilsl]) (by simp only[go_sem]) rfl ?_
   try dsimp only
   try simp only[Nat.reduceAdd]
   refine K_loop (X:=Nat) (fun j=>j≤a.length) (fun j=>mkSt [(1,.i (n:Nat)),(2,.ptr 0 0),(4,.ptr 1 0),(5,.ptr 2 0),(6,.i (j:Nat))] [(0,.cells [.i k,.i i,.sl (Ty.avL a)]),(1,.cells [.i 0,.i 0,.nilsl]),(2,.cells [.i k,.i jd,.rw 3]),(3,.row 3 (Ty.avL (revL n (a.take j))))] 4) (fun j=>a.length - j) 0 (Nat.zero_le _) (fun i=>i) ?_ ?_
   ·refine ent_mk (by simp[go_sem]) (by simp[go_sem,revL,Ty.avL]) (by simp) (by simp[hN])
   intro j hj
   by_cases hlt:j<a.length
   ·obtain⟨t,ht⟩:=get?_of hlt
    have htm:=List.mem_of_getElem? ht
    have hts:=Ty.sz_mem htm
    have c1:=reversed_c hn hD N t (d - 1) (by omega) (by omega) (rev_args hp htm)
    have e1:Ty.avL (revL n (a.take j))++[(revT n t).av]=Ty.avL (revL n (a.take (j+1))):=by
     rw[List.take_add_one,ht,revL_eq,revL_eq];simp[Ty.avL_eq]
    have u2:=inc_u hlt (by omega)
    have hF:Fits ((revL n (a.take j)).length+1) 40:=⟨by rw[revL_eq];simp;omega,by rw[revL_eq];simp;omega⟩
    rw[Ty.av_eq] at c1
    rw[Ty.av_eq (revT n t)] at c1 e1
    repeat'(first|apply nx|refine zx ?_|rw[zw]|((first|refine hK _ ?_|refine hKp _ _ ?_);clear hK hKp K Kp;try clear hanc anc)|((with_reducible refine And.intro ?_ ?_);exact zb)|((first|refine zr hE fun K Kp hK hKp=>?_|refine zd true mixed hE fun K Kp hK hKp anc hanc=>?_|refine zd false mixed hE fun K Kp hK hKp anc hanc=>?_|(apply zm;exact zu;exact c1;exact zs;exact zl));simp only[go_sem,lt_dec hlt,ht,Ty.av_eq,u2])|(refine zg (fun hg=>?_) (fun hg=>?_)<;>simp only[go_sem,lt_dec hlt,ht,Ty.av_eq,u2,hg])|(refine zc (fun hc=>?_) (fun hc=>?_)<;>try exact zh hc))
    refine⟨j+1,by omega,by omega,fun i=>if i=3 then 15728644 else i,ent_mk (by simp[go_sem]) ?_ (by simp) (by simp[hN])⟩
    rw[e1]
    simp[go_sem]
   ·obtain rfl:j=a.length:=by omega
    rw[List.take_length]
    repeat'(first|apply nx|refine zx ?_|rw[zw]|((first|refine hK _ ?_|refine hKp _ _ ?_);clear hK hKp K Kp;try clear hanc anc)|((with_reducible refine And.intro ?_ ?_);exact zb)|((first|refine zr hE fun K Kp hK hKp=>?_|refine zd true mixed hE fun K Kp hK hKp anc hanc=>?_|refine zd false mixed hE fun K Kp hK hKp anc hanc=>?_);simp only[go_sem,ge_dec])|(refine zg (fun hg=>?_) (fun hg=>?_)<;>simp only[go_sem,ge_dec,hg])|(refine zc (fun hc=>?_) (fun hc=>?_)<;>try exact zh hc))
    refine K_ret (hQ _ ⟨.agg [.i k,.i jd,.rw 3],resA_cell (id:=1) (off:=0) (by simp only[go_sem]) ti25 (by simp only[go_sem];rfl) rfl,?_,?_,rfl⟩).1
    ·simp[AV.snapOk,AV.snapOkL,updo,Ty.clo_avLT]
    ·simp[AV.snap,AV.snapL,updo,revT_kind,Ty.kind,Ty.id,Ty.args]

theorem names_c {D:List Dd} (hD:DB D) (hR:DR D) (hS:DS D) {t:Ty} (hts:t.sz≤2 ^ 30) (nm:ByteArray):PCall Tryd.prog 5 [.sl (ddl D),t.av,.str nm] (.bool true):=by
 have hh:=head_c
 have c1:=plainL_c (l:=[t]) hD (by simp) (fun u hu=>by simp at hu;subst hu;exact hts)
 have havl:Ty.avL [t]=[t.av]:=by simp[Ty.avL]
 rw[havl] at c1
 by_cases hp:plainL D [t]
 case neg=>
  rw[decide_eq_false hp,Ty.av_eq] at c1
  rw[Ty.av_eq]
  refine PCall.intro Tryd.func5 rfl isf5 (by simp[Tryd.f5]) (by simp[AV.cloL,AV.clo]) fun E Q hE hN hQ=>K_start ?_
  repeat'(first|apply nx|refine zx ?_|rw[zw]|((first|refine hK _ ?_|refine hKp _ _ ?_);clear hK hKp K Kp;try clear hanc anc)|((with_reducible refine And.intro ?_ ?_);exact zb)|((first|refine zr hE fun K Kp hK hKp=>?_|refine zd false mixed hE fun K Kp hK hKp anc hanc=>?_|(apply zm;exact zu;(first|exact hh|exact c1);exact zs;exact zl));simp only[go_sem])|(refine zg (fun hg=>?_) (fun hg=>?_)<;>simp only[go_sem,hg])|(refine zc (fun hc=>?_) (fun hc=>?_)<;>try exact zh hc)|(refine K_ret ?_;refine zt hQ ?_))
  simp[AV.snap]
 rw[decide_eq_true hp,Ty.av_eq] at c1
 by_cases hn60:60<nm.size
 ·have q60:decide ((60:Int)<(nm.size:Int))=true:=decide_eq_true (by omega)
  rw[Ty.av_eq]
  refine PCall.intro Tryd.func5 rfl isf5 (by simp[Tryd.f5]) (by simp[AV.cloL,AV.clo]) fun E Q hE hN hQ=>K_start ?_
  repeat'(first|apply nx|refine zx ?_|rw[zw]|((first|refine hK _ ?_|refine hKp _ _ ?_);clear hK hKp K Kp;try clear hanc anc)|((with_reducible refine And.intro ?_ ?_);exact zb)|((first|refine zr hE fun K Kp hK hKp=>?_|refine zd false mixed hE fun K Kp hK hKp anc hanc=>?_|(apply zm;exact zu;(first|exact hh|exact c1);exact zs;exact zl));simp only[go_sem,q60])|(refine zg (fun hg=>?_) (fun hg=>?_)<;>simp only[go_sem,q60,hg])|(refine zc (fun hc=>?_) (fun hc=>?_)<;>try exact zh hc)|(refine K_ret ?_;refine zt hQ ?_))
  simp[AV.snap]
 have q60:decide ((60:Int)<(nm.size:Int))=false:=decide_eq_false (by omega)
 have hf:=hp.2.1
 have hl12:=hf.1
 have u0:IntKind.i64.wrap ((D.length:Int) - 1)=(D.length:Int) - 1:=by rw[wrap64 (by omega) (by omega)]
 rw[Ty.av_eq]
 refine PCall.intro Tryd.func5 rfl isf5 (by simp[Tryd.f5]) (by simp[AV.cloL,AV.clo]) fun E Q hE hN hQ=>K_start ?_
 repeat'(first|apply nx|refine zx ?_|rw[zw]|((first|refine hK _ ?_|refine hKp _ _ ?_);clear hK hKp K Kp;try clear hanc anc)|((with_reducible refine And.intro ?_ ?_);exact zb)|((first|refine zr hE fun K Kp hK hKp=>?_|refine zd true mixed hE fun K Kp hK hKp anc hanc=>?_|refine zd false mixed hE fun K Kp hK hKp anc hanc=>?_|(apply zm;exact zu;(first|exact hh|exact c1);exact zs;exact zl));simp only[go_sem,q60,u0])|(refine zg (fun hg=>?_) (fun hg=>?_)<;>simp only[go_sem,q60,u0,hg])|(refine zc (fun hc=>?_) (fun hc=>?_)<;>try exact zh hc))
 refine AW_nil 8 5 (by rw[hE];decide) (by simp only[go_sem]) ?_
 try dsimp only
 try simp only[Nat.reduceAdd]
 refine K_loop (X:=Nat) (fun k=>k≤D.length) (fun k=>mkSt [(0,.sl (ddl D)),(2,.str nm),(4,.ptr 0 0),(7,.bool true),(8,.rw 1),(9,.i ((D.length:Int) - 1 - (k:Nat)))] [(0,.cells [.i t.kind,.i t.id,.sl (Ty.avL t.args)]),(1,.row 5 (ddl (oth D nm k)))] 2) (fun k=>D.length - k) 0 (Nat.zero_le _) (fun i=>if i=1 then 19922944 else i) ?_ ?_
 ·refine ent_mk (by simp[go_sem]) (by simp[go_sem,oth,ddl]) (by simp) (by simp[hN])
 intro k hk
 by_cases hlt:k<D.length
 ·obtain⟨i,hi⟩:∃ i,i=D.length - 1 - k:=⟨_,rfl⟩
  have hil:i<D.length:=by omega
  have hci:(D.length:Int) - 1 - (k:Nat)=((i:Nat):Int):=by omega
  obtain⟨x,hx⟩:=get?_of hil
  have q0:decide (((i:Nat):Int)≥0)=true:=decide_eq_true (by omega)
  rw[hci]
  repeat'(first|apply nx|refine zx ?_|rw[zw]|((first|refine hK _ ?_|refine hKp _ _ ?_);clear hK hKp K Kp;try clear hanc anc)|((with_reducible refine And.intro ?_ ?_);exact zb)|((first|refine zr hE fun K Kp hK hKp=>?_|refine zd true mixed hE fun K Kp hK hKp anc hanc=>?_|refine zd false mixed hE fun K Kp hK hKp anc hanc=>?_);simp only[go_sem,q0,lt_dec hil,hx,Dd.av_eq])|(refine zg (fun hg=>?_) (fun hg=>?_)<;>simp only[go_sem,q0,lt_dec hil,hx,Dd.av_eq,hg])|(refine zc (fun hc=>?_) (fun hc=>?_)<;>try exact zh hc))
  refine AW_nilc 6291458 3 2 (l:=[.str nm,.i (i:Nat),.i x.pr,.nilsl,.i x.dr]) (by simp only[go_sem]) rfl ?_
  try dsimp only
  try simp only[Nat.reduceAdd]
  have hxm:=List.mem_of_getElem? hx
  obtain⟨f1,f2⟩:=hf.2.2.2 x hxm
  refine K_loop (X:=Nat) (fun v=>v≤x.vs.length) (fun v=>mkSt [(0,.sl (ddl D)),(2,.str nm),(4,.ptr 0 0),(7,.bool true),(8,.rw 1),(9,.i (i:Nat)),(10,.ptr 2 0),(11,.i (v:Nat))] [(0,.cells [.i t.kind,.i t.id,.sl (Ty.avL t.args)]),(1,.row 5 (ddl (oth D nm k))),(2,.cells [.str nm,.i (i:Nat),.i x.pr,.rw 3,.i x.dr]),(3,.row 2 (dvl ((x.vs.take v).map (vrev D.length nm))))] 4) (fun v=>x.vs.length - v) 0 (Nat.zero_le _) (fun i=>if i=2 then 6291458 else if i=3 then 17825794 else i) ?_ ?_
  ·refine ent_mk (by simp[go_sem]) (by simp[go_sem,dvl]) (by simp) (by simp[hN])
  intro v hv
  by_cases hvl:v<x.vs.length
  ·obtain⟨y,hy⟩:=get?_of hvl
   obtain⟨f3,f4⟩:=f2 y (List.mem_of_getElem? hy)
   repeat'(first|apply nx|refine zx ?_|rw[zw]|((first|refine hK _ ?_|refine hKp _ _ ?_);clear hK hKp K Kp;try clear hanc anc)|((with_reducible refine And.intro ?_ ?_);exact zb)|((first|refine zr hE fun K Kp hK hKp=>?_|refine zd true mixed hE fun K Kp hK hKp anc hanc=>?_|refine zd false mixed hE fun K Kp hK hKp anc hanc=>?_);simp only[go_sem,lt_dec hil,hx,Dd.av_eq,lt_dec hvl])|(refine zg (fun hg=>?_) (fun hg=>?_)<;>simp only[go_sem,lt_dec hil,hx,Dd.av_eq,lt_dec hvl,hg])|(refine zc (fun hc=>?_) (fun hc=>?_)<;>try exact zh hc))
   refine AW_nilc 10485764 1 3 (l:=[.str nm,.nilsl]) (by simp only[go_sem]) rfl ?_
   try dsimp only
   try simp only[Nat.reduceAdd]
   refine K_loop (X:=Nat) (fun m=>m≤y.fs.length) (fun m=>mkSt [(0,.sl (ddl D)),(2,.str nm),(4,.ptr 0 0),(7,.bool true),(8,.rw 1),(9,.i (i:Nat)),(10,.ptr 2 0),(11,.i (v:Nat)),(12,.ptr 4 0),(13,.i (m:Nat))] [(0,.cells [.i t.kind,.i t.id,.sl (Ty.avL t.args)]),(1,.row 5 (ddl (oth D nm k))),(2,.cells [.str nm,.i (i:Nat),.i x.pr,.rw 3,.i x.dr]),(3,.row 2 (dvl ((x.vs.take v).map (vrev D.length nm)))),(4,.cells [.str nm,.rw 5]),(5,.row 3 (Ty.avL ((y.fs.take m).map (revT D.length))))] 6) (fun m=>y.fs.length - m) 0 (Nat.zero_le _) (fun i=>if i=4 then 10485764 else if i=5 then 13631492 else i) ?_ ?_
   ·refine ent_mk (by simp[go_sem]) (by simp[go_sem,Ty.avL]) (by simp) (by simp[hN])
   intro m hm
   by_cases hml:m<y.fs.length
   ·obtain⟨f,hff⟩:=get?_of hml
    have hfm:=List.mem_of_getElem? hff
    have hfs:=pt_sz (f4 f hfm)
    have hfp:plB D f 8=true:=by
     have hdt:=hp.2.2.1
     unfold dtB at hdt
     simp only[List.all_eq_true] at hdt
     exact hdt x hxm y (List.mem_of_getElem? hy) f hfm
    have c2:=reversed_c (n:=D.length) rfl hD.l 9 f 8 hfs (by decide) hfp
    have e1:Ty.avL ((y.fs.take m).map (revT D.length))++[(revT D.length f).av]=Ty.avL ((y.fs.take (m+1)).map (revT D.length)):=by
     rw[List.take_add_one,hff];simp[Ty.avL_eq]
    have u2:=inc_u hml (by omega)
    have hF:Fits ((y.fs.take m).length+1) 40:=⟨by simp;omega,by simp;omega⟩
    rw[Ty.av_eq] at c2
    rw[Ty.av_eq (revT D.length f)] at c2 e1
    repeat'(first|apply nx|refine zx ?_|rw[zw]|((first|refine hK _ ?_|refine hKp _ _ ?_);clear hK hKp K Kp;try clear hanc anc)|((with_reducible refine And.intro ?_ ?_);exact zb)|((first|refine zr hE fun K Kp hK hKp=>?_|refine zd true mixed hE fun K Kp hK hKp anc hanc=>?_|refine zd false mixed hE fun K Kp hK hKp anc hanc=>?_|(apply zm;exact zu;exact c2;exact zs;exact zl));simp only[go_sem,lt_dec hil,hx,Dd.av_eq,lt_dec hvl,hy,Dv.av_eq,lt_dec hml,hff,Ty.av_eq,u2])|(refine zg (fun hg=>?_) (fun hg=>?_)<;>simp only[go_sem,lt_dec hil,hx,Dd.av_eq,lt_dec hvl,hy,Dv.av_eq,lt_dec hml,hff,Ty.av_eq,u2,hg])|(refine zc (fun hc=>?_) (fun hc=>?_)<;>try exact zh hc))
    refine⟨m+1,by omega,by omega,fun i=>if i=5 then 31457286 else i,ent_mk (by simp[go_sem]) ?_ (by simp) (by simp[hN])⟩
    rw[e1]
    simp[go_sem]
   ·obtain rfl:m=y.fs.length:=by omega
    rw[List.take_length]
    repeat'(first|apply nx|refine zx ?_|rw[zw]|((first|refine hK _ ?_|refine hKp _ _ ?_);clear hK hKp K Kp;try clear hanc anc)|((with_reducible refine And.intro ?_ ?_);exact zb)|((fail_if_success refine K_stop 20 ?_);(first|refine zr hE fun K Kp hK hKp=>?_|refine zd true mixed hE fun K Kp hK hKp anc hanc=>?_|refine zd false mixed hE fun K Kp hK hKp anc hanc=>?_);simp only[go_sem,lt_dec hil,hx,Dd.av_eq,lt_dec hvl,hy,Dv.av_eq,ge_dec])|(refine zg (fun hg=>?_) (fun hg=>?_)<;>simp only[go_sem,lt_dec hil,hx,Dd.av_eq,lt_dec hvl,hy,Dv.av_eq,ge_dec,hg])|(refine zc (fun hc=>?_) (fun hc=>?_)<;>try exact zh hc))
    refine AW_frzCell 4 1 5 (sz:=3) (l:=[.str nm,.rw 5]) (xs:=Ty.avL (y.fs.map (revT D.length))) (by simp only[go_sem]) rfl (by simp only[go_sem]) (by decide) (Ty.clo_avL _) ?_
    have u2:=inc_u hvl (by omega)
    have e2:dvl ((x.vs.take v).map (vrev D.length nm))++[(vrev D.length nm y).av]=dvl ((x.vs.take (v+1)).map (vrev D.length nm)):=by
     rw[List.take_add_one,hy];simp[dvl]
    have hF:Fits ((x.vs.take v).length+1) 40:=⟨by simp;omega,by simp;omega⟩
    rw[Dv.av_eq] at e2
    simp only[vrev] at e2
    repeat'(first|apply nx|refine zx ?_|rw[zw]|((first|refine hK _ ?_|refine hKp _ _ ?_);clear hK hKp K Kp;try clear hanc anc)|((with_reducible refine And.intro ?_ ?_);exact zb)|((first|refine zr hE fun K Kp hK hKp=>?_|refine zd true mixed hE fun K Kp hK hKp anc hanc=>?_|refine zd false mixed hE fun K Kp hK hKp anc hanc=>?_);simp only[go_sem,u2])|(refine zg (fun hg=>?_) (fun hg=>?_)<;>simp only[go_sem,u2,hg])|(refine zc (fun hc=>?_) (fun hc=>?_)<;>try exact zh hc))
    refine⟨v+1,by omega,by omega,fun i=>if i=3 then 16777222 else i,ent_mk (by simp[go_sem]) ?_ (by simp) (by simp[hN])⟩
    rw[e2]
    simp[go_sem]
  ·obtain rfl:v=x.vs.length:=by omega
   rw[List.take_length]
   repeat'(first|apply nx|refine zx ?_|rw[zw]|((first|refine hK _ ?_|refine hKp _ _ ?_);clear hK hKp K Kp;try clear hanc anc)|((with_reducible refine And.intro ?_ ?_);exact zb)|((fail_if_success refine K_stop 21 ?_);(first|refine zr hE fun K Kp hK hKp=>?_|refine zd true mixed hE fun K Kp hK hKp anc hanc=>?_|refine zd false mixed hE fun K Kp hK hKp anc hanc=>?_);simp only[go_sem,lt_dec hil,hx,Dd.av_eq,ge_dec])|(refine zg (fun hg=>?_) (fun hg=>?_)<;>simp only[go_sem,lt_dec hil,hx,Dd.av_eq,ge_dec,hg])|(refine zc (fun hc=>?_) (fun hc=>?_)<;>try exact zh hc))
   refine AW_frzCell 2 3 3 (sz:=2) (l:=[.str nm,.i (i:Nat),.i x.pr,.rw 3,.i x.dr]) (xs:=dvl (x.vs.map (vrev D.length nm))) (by simp only[go_sem]) rfl (by simp only[go_sem]) (by decide) (clo_dvl _) ?_
   have uw:IntKind.i64.wrap ((i:Int) - 1)=(D.length:Int) - 1 - ((k+1:Nat):Int):=by rw[wrap64 (by omega) (by omega)];omega
   have e3:ddl (oth D nm k)++[(drev D.length nm i x).av]=ddl (oth D nm (k+1)):=by
    rw[oth_succ (by rw[← hi];exact hx), ← hi];simp[ddl]
   have hF:Fits ((oth D nm k).length+1) 64:=⟨by rw[oth_len (by omega)];omega,by rw[oth_len (by omega)];omega⟩
   rw[Dd.av_eq] at e3
   simp only[drev] at e3
   repeat'(first|apply nx|refine zx ?_|rw[zw]|((first|refine hK _ ?_|refine hKp _ _ ?_);clear hK hKp K Kp;try clear hanc anc)|((with_reducible refine And.intro ?_ ?_);exact zb)|((first|refine zr hE fun K Kp hK hKp=>?_|refine zd true mixed hE fun K Kp hK hKp anc hanc=>?_|refine zd false mixed hE fun K Kp hK hKp anc hanc=>?_);simp only[go_sem,uw])|(refine zg (fun hg=>?_) (fun hg=>?_)<;>simp only[go_sem,uw,hg])|(refine zc (fun hc=>?_) (fun hc=>?_)<;>try exact zh hc))
   refine⟨k+1,by omega,by omega,fun i=>if i=1 then 11534340 else i,ent_mk (by simp[go_sem]) ?_ (by simp) (by simp[hN])⟩
   rw[e3]
   simp[go_sem]
 ·obtain rfl:k=D.length:=by omega
  have q0:decide ((D.length:Int) - 1 - (D.length:Nat)≥0)=false:=decide_eq_false (by omega)
  repeat'(first|apply nx|refine zx ?_|rw[zw]|((first|refine hK _ ?_|refine hKp _ _ ?_);clear hK hKp K Kp;try clear hanc anc)|((with_reducible refine And.intro ?_ ?_);exact zb)|((fail_if_success refine K_stop 22 ?_);(first|refine zr hE fun K Kp hK hKp=>?_|refine zd true mixed hE fun K Kp hK hKp anc hanc=>?_|refine zd false mixed hE fun K Kp hK hKp anc hanc=>?_);simp only[go_sem,q0])|(refine zg (fun hg=>?_) (fun hg=>?_)<;>simp only[go_sem,q0,hg])|(refine zc (fun hc=>?_) (fun hc=>?_)<;>try exact zh hc))
  refine AW_frz1 8 1 (sz:=5) (xs:=ddl (oth D nm D.length)) (by simp only[go_sem]) (by simp only[go_sem]) (clo_ddl _) ?_
  try dsimp only
  have hdE:=rev_few nm hf
  simp only[List.map_cons,List.map_nil] at hdE
  have hz:=few_dSz hdE
  have ht9:=pt_sz (hf.2.2.1 t (by simp))
  have hU:=few_uni hf (l':=[t]) (fun u hu=>by obtain rfl:=List.mem_singleton.1 hu;exact ht9) (by simp)
  have hUE:=few_uni hdE (l':=[revT D.length t]) (fun u hu=>by obtain rfl:=List.mem_singleton.1 hu;rw[revT_sz];exact ht9) (by simp)
  have hRE:DR (oth D nm D.length):=fun y hy=>by
   obtain⟨x,i,hx,rfl⟩:=oth_mem hy
   exact hR x hx
  have cA:=shape_c hD hR hS hts (by omega)
  have cB:=reversed_c (n:=D.length) rfl hD.l 9 t 8 ht9 (by decide) (hp.1 t (by simp))
  have cC:=shape_c (db_of (by omega)) hRE (ds_of (by omega)) (t:=revT D.length t) (by rw[revT_sz];omega) (by omega)
  have cD:=ints_c (shp D t) (shp D t) (by have:=shp_len hS hU;omega)
  rw[rev_shp nm hp] at cC
  rw[decide_eq_true rfl] at cD
  rw[Ty.av_eq] at cA cB cC
  rw[Ty.av_eq] at cB
  repeat'(first|apply nx|refine zx ?_|rw[zw]|((first|refine hK _ ?_|refine hKp _ _ ?_);clear hK hKp K Kp;try clear hanc anc)|((with_reducible refine And.intro ?_ ?_);exact zb)|((first|refine zr hE fun K Kp hK hKp=>?_|refine zd false mixed hE fun K Kp hK hKp anc hanc=>?_|(apply zm;exact zu;(first|exact cA|exact cB|exact cC|exact cD);exact zs;exact zl));simp only[go_sem])|(refine zg (fun hg=>?_) (fun hg=>?_)<;>simp only[go_sem,hg])|(refine zc (fun hc=>?_) (fun hc=>?_)<;>try exact zh hc)|(refine K_ret ?_;refine zt hQ ?_))
  simp[AV.snap]
end Go.Proofs.YtfpcjabbcpgbjaaDoor
