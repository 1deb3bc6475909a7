/- A part of the proof: an abstract machine for the walks, and what the walked functions compute. -/
import Derived.Test.YtfpcjabbcpgbjaaDoorRd
import Derived.Test.YtfpcjabbcpgbjaaDoorHw
import Derived.Test.YtfpcjabbcpgbjaaDoorMo
import Derived.Test.YtfpcjabbcpgbjaaDoorMp
import Derived.Test.YtfpcjabbcpgbjaaDoorRc
set_option linter.unusedVariables false
set_option linter.unusedSimpArgs false
set_option maxHeartbeats 4000000
set_option maxRecDepth 100000
namespace Go.Proofs.YtfpcjabbcpgbjaaDoor
open Go.Am Go.Proofs Go.Hv
open Classical
attribute [local irreducible] AW jA CallB CallY
theorem jfD (h:Hp) (en:Nat->Ow->Option Ow) (v:Vl) (o:Ow) (hk:v.kind=3) (hl:h.cells.length<=2 ^ 20) (hen:∀ m c,h.cells[m]? =some c->c.live=true->EntC h m (en m) o):Gz h v (jP h en v) o:=by
 have hr:jP h en v o=if yg h v.n then en v.n.toNat o else none:=by
  cases v
  simp only[Vl.kind] at hk
  rw[jP,if_neg (by omega),if_pos hk];rfl
 unfold Gz
 rw[show v.cs=[.i v.kind,.i v.id,.i v.var,.i v.n,.sl (Vl.avL v.fs),.bool v.excl,.sl (il v.path),.sl (il v.loans)] from rfl]
 have q2:(v.kind==2)=false:=by simp[hk]
 have q3:(v.kind==3)=true:=by simp[hk]
 by_cases h1:0<=v.n
 case neg=>
  have q4:decide (0<=v.n)=false:=by simpa using h1
  rw[if_neg (by simp[yg,q4])] at hr
  refine ACall.of_bodyR Tryd.func66 YS rfl (by simp[Tryd.f66]) fun E Q hE hN hQ hQp=>jg ?_
  repeat'(first|apply nx|refine zx ?_|rw[zw]|refine zk ?_|refine zp ?_|(apply zA;exact zb)|((first|refine zR hE @fun K Kp hK hKp hg=>?_|refine zT hE @fun K Kp hK hKp anc hanc hg=>?_|refine zF hE @fun K Kp hK hKp anc hanc hg=>?_|refine zg (fun hg=>?_) fun hg=>?_)<;>simp only[go_sem,q2,q3,yr,Hp.cs,q4,hg])|(refine zc (fun hc=>?_) (fun hc=>?_)<;>try exact zh hc))
  refine Hold.mk (CallB.of_A0 (Jt false) rfl (fun r hr=>absurd hr.1 (by decide)) (fun x hx=>?_))
  refine hKp.h _ _ (hQp _ _ ⟨x,fun i=>i,_,7,?_,?_,J2 (by decide) (fun id ob ho=>?_),hx.2,hr,o,rfl⟩)
  ·rw[JH]
  ·rw[hx.2];simp[jW,AV.ids,AV.idsL]
  ·have:=(jr ho).1
   simp only[jb]
   rw[if_neg (by omega)]
   exact ho
 obtain⟨m,hm⟩:=Int.eq_ofNat_of_zero_le h1
 have q4:decide (0<=(m:Int))=true:=by simp
 by_cases h2:m<h.cells.length
 case neg=>
  have q5:decide ((m:Int)<(h.cells.length:Int))=false:=by simp;omega
  rw[if_neg (by simp[yg,hm,List.getElem?_eq_none (show h.cells.length<=m by omega)])] at hr
  refine ACall.of_bodyR Tryd.func66 YS rfl (by simp[Tryd.f66]) fun E Q hE hN hQ hQp=>jg ?_
  repeat'(first|apply nx|refine zx ?_|rw[zw]|refine zk ?_|refine zp ?_|(apply zA;exact zb)|((first|refine zR hE @fun K Kp hK hKp hg=>?_|refine zT hE @fun K Kp hK hKp anc hanc hg=>?_|refine zF hE @fun K Kp hK hKp anc hanc hg=>?_|refine zg (fun hg=>?_) fun hg=>?_)<;>simp only[go_sem,q2,q3,yr,Hp.cs,hm,q4,q5,hg])|(refine zc (fun hc=>?_) (fun hc=>?_)<;>try exact zh hc))
  refine Hold.mk (CallB.of_A0 (Jt false) rfl (fun r hr=>absurd hr.1 (by decide)) (fun x hx=>?_))
  refine hKp.h _ _ (hQp _ _ ⟨x,fun i=>i,_,7,?_,?_,J2 (by decide) (fun id ob ho=>?_),hx.2,hr,o,rfl⟩)
  ·rw[JH]
  ·rw[hx.2];simp[jW,AV.ids,AV.idsL]
  ·have:=(jr ho).1
   simp only[jb]
   rw[if_neg (by omega)]
   exact ho
 obtain⟨c,hcc⟩:=get?_of h2
 cases hv:c.live
 ·rw[if_neg (by simp[yg,hm,hcc,hv])] at hr
  refine ACall.of_bodyR Tryd.func66 YS rfl (by simp[Tryd.f66]) fun E Q hE hN hQ hQp=>jg ?_
  repeat'(first|apply nx|refine zx ?_|rw[zw]|refine zk ?_|refine zp ?_|(apply zA;exact zb)|((first|refine zR hE @fun K Kp hK hKp hg=>?_|refine zT hE @fun K Kp hK hKp anc hanc hg=>?_|refine zF hE @fun K Kp hK hKp anc hanc hg=>?_|refine zg (fun hg=>?_) fun hg=>?_)<;>simp only[go_sem,q2,q3,yr,Hp.cs,hm,q4,ja h2,hcc,Cl.av,Cl.cs_eq,hv,hg])|(refine zc (fun hc=>?_) (fun hc=>?_)<;>try exact zh hc))
  refine Hold.mk (CallB.of_A0 (Jt false) rfl (fun r hr=>absurd hr.1 (by decide)) (fun x hx=>?_))
  refine hKp.h _ _ (hQp _ _ ⟨x,fun i=>i,_,7,?_,?_,J2 (by decide) (fun id ob ho=>?_),hx.2,hr,o,rfl⟩)
  ·rw[JH]
  ·rw[hx.2];simp[jW,AV.ids,AV.idsL]
  ·have:=(jr ho).1
   simp only[jb]
   rw[if_neg (by omega)]
   exact ho
 by_cases h3:c.arena= -1
 case neg=>
  have q6:(c.arena== -1)=false:=by simpa using h3
  rw[if_neg (by simp[yg,hm,hcc,hv,h3])] at hr
  refine ACall.of_bodyR Tryd.func66 YS rfl (by simp[Tryd.f66]) fun E Q hE hN hQ hQp=>jg ?_
  repeat'(first|apply nx|refine zx ?_|rw[zw]|refine zk ?_|refine zp ?_|(apply zA;exact zb)|((first|refine zR hE @fun K Kp hK hKp hg=>?_|refine zT hE @fun K Kp hK hKp anc hanc hg=>?_|refine zF hE @fun K Kp hK hKp anc hanc hg=>?_|refine zg (fun hg=>?_) fun hg=>?_)<;>simp only[go_sem,q2,q3,yr,Hp.cs,hm,q4,ja h2,hcc,Cl.av,Cl.cs_eq,hv,q6,hg])|(refine zc (fun hc=>?_) (fun hc=>?_)<;>try exact zh hc))
  refine Hold.mk (CallB.of_A0 (Jt false) rfl (fun r hr=>absurd hr.1 (by decide)) (fun x hx=>?_))
  refine hKp.h _ _ (hQp _ _ ⟨x,fun i=>i,_,7,?_,?_,J2 (by decide) (fun id ob ho=>?_),hx.2,hr,o,rfl⟩)
  ·rw[JH]
  ·rw[hx.2];simp[jW,AV.ids,AV.idsL]
  ·have:=(jr ho).1
   simp only[jb]
   rw[if_neg (by omega)]
   exact ho
 have q6:(c.arena== -1)=true:=by simpa using h3
 rw[if_pos (by simp[yg,hm,hcc,hv,h3]),hm,Int.toNat_natCast] at hr
 have hr0:=hr
 have he1:=hen m c hcc hv
 unfold EntC at he1
 refine ACall.of_bodyR Tryd.func66 YS rfl (by simp[Tryd.f66]) fun E Q hE hN hQ hQp=>jg ?_
 repeat'(first|apply nx|refine zx ?_|rw[zw]|refine zk ?_|refine zp ?_|(apply zA;exact zb)|((first|refine zR hE @fun K Kp hK hKp hg=>?_|refine zT hE @fun K Kp hK hKp anc hanc hg=>?_|refine zF hE @fun K Kp hK hKp anc hanc hg=>?_|refine zg (fun hg=>?_) fun hg=>?_)<;>simp only[go_sem,q2,q3,yr,Hp.cs,hm,q4,ja h2,hcc,Cl.av,Cl.cs_eq,hv,q6,hg])|(refine zc (fun hc=>?_) (fun hc=>?_)<;>try exact zh hc))
 refine Hold.mk (CallB.of_A0 (Jt true) rfl (fun r hr=>?_) (fun x hx=>absurd hx.1 (by decide)))
 rw[hr.2]
 simp only[go_sem]
 refine hK.h _ ?_
 clear hK hKp
 repeat'(first|apply nx|refine zx ?_|rw[zw]|refine zk ?_|refine zp ?_|(apply zA;exact zb)|((first|refine zR hE @fun K Kp hK hKp hg=>?_|refine zT hE @fun K Kp hK hKp anc hanc hg=>?_|refine zF hE @fun K Kp hK hKp anc hanc hg=>?_|refine zg (fun hg=>?_) fun hg=>?_)<;>simp only[go_sem,x8,hg])|(refine zc (fun hc=>?_) (fun hc=>?_)<;>try exact zh hc))
 clear hr
 refine Hold.mk (CallB.use he1 (fun i=>i) (by rw[jv]) (by simp[AV.ids,AV.idsL,go_sem]) (fun id ob ho=>⟨?_,jr ho⟩) (fun _ _ _ _ _ _ e=>e) (fun id hid=>⟨by omega,qh _ _ _ (by omega)⟩) ?_ ?_ ?_ ?_)
 ·rw[jw]
  have:=(jr ho).1
  simp only[jb]
  rw[if_neg (by omega)]
  exact ho
 ·rintro r hp' ⟨rfl,o',_,rfl⟩
  exact⟨trivial,fun id ob ho=>⟨by have:=(jr ho).1;omega,jf _ (fun j hj=>by omega) (jr ho).2⟩⟩
 ·rintro r hp' ⟨rfl,_,o',rfl⟩
  exact⟨by simp[jW,AV.ids,AV.idsL],fun id ob ho=>⟨by have:=(jr ho).1;omega,jf _ (fun j hj=>by omega) (jr ho).2⟩⟩
 ·rintro r hp' fr' hpn ⟨rfl,o',hr1,rfl⟩ hfr hobj _
  simp only[go_sem]
  refine hK.h _ ?_
  clear hK hKp
  repeat(first|refine jj ?_|refine jl ?_)
  refine(hQ _ ⟨.tup [],_,JL h o',7,rfl,trivial,Jl (fr:=[]) (by simp) (fun id ob ho=>⟨hobj id ob ho,jr ho⟩) (fun _ _ _ _ _ _ e=>jQ (by omega) e) (fun id hid=>⟨jz hid,by show id<7;omega⟩),rfl,o',by rw[hr0];exact hr1,rfl⟩).2
 ·rintro x hp' hpn ⟨rfl,hr1,o',rfl⟩ hobj _
  refine hKp.h _ _ (hQp _ _ ⟨jW,_,JL h o',7,rfl,by simp[jW,AV.ids,AV.idsL],Jl (fr:=[]) (by simp) (fun id ob ho=>⟨hobj id ob ho,jr ho⟩) (fun _ _ _ _ _ _ e=>jQ (by omega) e) (fun id hid=>⟨jz hid,by show id<7;omega⟩),rfl,by rw[hr0];exact hr1,o',rfl⟩)

def uq (l:List Cl) (n:Int) (i:Nat):Bool:=match l[i]? with|some c=>c.live&&(c.arena==n)|none=>false
def JF (l:List Cl) (n:Int) (i:Nat):List Nat:=(List.range' i (l.length - i)).filter (uq l n)
theorem YD (l:List Cl) (n:Int):Js l n=JF l n 0:=by
 unfold Js JF
 rw[List.range_eq_range']
 rfl
theorem GA (l:List Cl) (n:Int):JF l n l.length=[]:=by simp[JF]
theorem JD {l:List Cl} {n:Int} {i:Nat} {c:Cl} (h:l[i]? =some c):JF l n i=if c.live&&(c.arena==n) then i::JF l n (i+1) else JF l n (i+1):=by
 have hlt:=(List.getElem?_eq_some_iff.1 h).1
 unfold JF
 rw[show l.length - i=(l.length - (i+1))+1 by omega,List.range'_succ,List.filter_cons]
 have:uq l n i=(c.live&&(c.arena==n)):=by simp[uq,h]
 rw[this]
def Yd (h:Hp) (v:Vl) (o:Ow):Nat->Option AObj:=jp [(0,.cells [.mp 4,.mp 5,.rw 9]),(1,.cells [Xw]),(2,.cells h.cs),(3,.cells [Ur]),(4,.map (mkE o.cs)),(5,.map (mkE o.ags)),(6,.cells v.cs),(7,.cells h.cs),(9,.row 1 (il o.ids))]
theorem UO {h:Hp} {v:Vl} {o:Ow} {id:Nat} {ob:AObj} (ho:Yd h v o id=some ob):(id<1000000/\id≠8)/\ob.ids (fun j=>j<1000000/\j≠8):=by
 simp only[Yd,jp,jb] at ho
 repeat' split at ho
 all_goals first|(cases ho;done)|skip
 all_goals cases ho;subst_vars
 all_goals refine⟨by decide,?_⟩
 all_goals first|(simp[AObj.ids,AV.ids,AV.idsL,Hp.cs,go_sem];done)|(intro p hp;obtain⟨n,_,rfl⟩:=List.mem_map.1 hp;exact⟨trivial,trivial⟩)
theorem UP (h:Hp) (v:Vl) (o:Ow) (id:Nat) (hid:id<8):Yd h v o id≠none:=by
 have:id=0\/id=1\/id=2\/id=3\/id=4\/id=5\/id=6\/id=7:=by omega
 rcases this with rfl|rfl|rfl|rfl|rfl|rfl|rfl|rfl<;>simp[Yd,jp,jb]
abbrev frA:List (Nat×AV):=[(1,.ptr 0 0),(2,.ptr 1 0),(3,.ptr 2 0),(4,.ptr 3 0),(5,.ptr 6 0),(104,.fn (.func 68) [] [.ptr 7 0])]
theorem Ut {h : Hp} {v : Vl} {o' : Ow} {hpn : Nat -> Option AObj} {fr' : Nat -> Option AV} {n' : Nat} {q : Lp} (hobj : ∀ j ob, JL h o' j = some ob -> hpn (jn (fun i => if i = 6 then 9 else i) 6 11485760 j) = some (ob.ren (jn (fun i => if i = 6 then 9 else i) 6 11485760)))
    (h6:hpn 6=some (.cells v.cs)) (h7:hpn 7=some (.cells h.cs)) (h8:hpn 8=some (.lp q [.ptr 3 0,.ptr 6 0])):
    Ent (8+1) (fun i=>if i=9 then 11485760 else i) ⟨fr',hpn,n'⟩ ⟨jL [],jb (Yd h v o') 8 (some (.lp q [.ptr 3 0,.ptr 6 0])),1000000⟩:=by
  have hb:∀ j,j<6->jn (fun i=>if i=6 then 9 else i) 6 11485760 j=j:=fun j hj=>by rw[jz hj];exact if_neg (by omega)
  have hb6:jn (fun i=>if i=6 then 9 else i) 6 11485760 6=11485760:=by rw[Jq (by decide)]
  have b0:=hb 0 (by decide)
  have b1:=hb 1 (by decide)
  have b2:=hb 2 (by decide)
  have b3:=hb 3 (by decide)
  have b4:=hb 4 (by decide)
  have b5:=hb 5 (by decide)
  have k0:=hobj 0 _ rfl
  have k1:=hobj 1 _ rfl
  have k2:=hobj 2 _ rfl
  have k3:=hobj 3 _ rfl
  have k4:=hobj 4 _ rfl
  have k5:=hobj 5 _ rfl
  have k6:=hobj 6 _ rfl
  simp only[b0,b1,b2,b3,b4,b5,hb6,AObj.ren,AV.ren,AV.renL,Hp.cs,Ji] at k0 k1 k2 k3 k4 k5 k6
  rw[js (qG _)] at k6
  show Ent _ _ _ (jx [] [(8,.lp q [.ptr 3 0,.ptr 6 0]),(0,.cells [.mp 4,.mp 5,.rw 9]),(1,.cells [Xw]),(2,.cells h.cs),(3,.cells [Ur]),(4,.map (mkE o'.cs)),(5,.map (mkE o'.ags)),(6,.cells v.cs),(7,.cells h.cs),(9,.row 1 (il o'.ids))] 1000000)
  refine jc (by simp) (by simp[go_sem,AV.ids,AV.idsL,k0,k1,k2,k3,k4,k5,k6,h6,h7,h8,Hp.cs,Ji];exact⟨fun _ _=>jZ,fun _ _=>jZ⟩) (by simp) (fun id hid=>⟨if_neg (by omega),by omega⟩)
theorem Us {h:Hp} {v:Vl} {s':Ow} {m':Nat->Nat} {O:St} {fr:List (Nat×AV)} (he:Ent 6 m' O ⟨jL fr,Yd h v s',1000000⟩):∃ m'',Ent 6 m'' O ⟨fun _=>none,JL h s',7⟩:=by
 obtain⟨_,e2,e3,e4⟩:=he
 have b:∀ i,i<6->m' i=i:=fun i hi=>(e4 i hi).1
 have k0:=(e2 0 _ rfl).1
 have k1:=(e2 1 _ rfl).1
 have k2:=(e2 2 _ rfl).1
 have k3:=(e2 3 _ rfl).1
 have k4:=(e2 4 _ rfl).1
 have k5:=(e2 5 _ rfl).1
 have k9:=(e2 9 _ rfl).1
 have n9:∀ i,i<6->¬ m' 9=i:=by
  intro i hi hh
  have hne:=UP h v s' i (by omega)
  obtain⟨ob,hob⟩:=Option.ne_none_iff_exists'.1 hne
  have:=e3 9 i _ ob rfl hob (by rw[b i hi];exact hh)
  omega
 simp only[b 0 (by decide),b 1 (by decide),b 2 (by decide),b 3 (by decide),b 4 (by decide),b 5 (by decide),AObj.ren,AV.ren,AV.renL,Hp.cs,Ji] at k0 k1 k2 k3 k4 k5 k9
 rw[js (qG _)] at k9
 have n0:=n9 0 (by decide)
 have n1:=n9 1 (by decide)
 have n2:=n9 2 (by decide)
 have n3:=n9 3 (by decide)
 have n4:=n9 4 (by decide)
 have n5:=n9 5 (by decide)
 refine⟨fun i=>if i=6 then m' 9 else i,?_⟩
 show Ent _ _ _ (jx [] [(0,.cells [.mp 4,.mp 5,.rw 6]),(1,.cells [Xw]),(2,.cells h.cs),(3,.cells [Ur]),(4,.map (mkE s'.cs)),(5,.map (mkE s'.ags)),(6,.row 1 (il s'.ids))] 7)
 refine jc (by simp) (by simp[go_sem,AV.ids,AV.idsL,k0,k1,k2,k3,k4,k5,k9,Hp.cs,Ji];exact⟨fun _ _=>jZ,fun _ _=>jZ⟩) (by simp[n0,n1,n2,n3,n4,n5,Ne.symm n0,Ne.symm n1,Ne.symm n2,Ne.symm n3,Ne.symm n4,Ne.symm n5]) (fun id hid=>⟨if_neg (by omega),by omega⟩)
theorem jbs (h : Hp) (en : Nat -> Ow -> Option Ow) (v : Vl) (o : Ow) (hk : v.kind = 5) (hl : h.cells.length <= 2 ^ 20) (hal : h.arenas.length <= 2 ^ 20) (P : Ow -> Prop) (hP : ∀ m, m ∉ o.ags -> h.arenas[m]? = some true -> P { o with ags := o.ags ++ [m] })
    (hen:∀ m c o,P o->h.cells[m]? =some c->c.live=true->EntC h m (en m) o) (hs:∀ m c o o',P o->h.cells[m]? =some c->c.live=true->en m o=some o'->P o'):Gz h v (jP h en v) o:=by
  have hlf:=UK h
  rw[Hp.av_eq] at hlf
  have hr:jP h en v o=if JG h v.n&&!decide (v.n.toNat∈o.ags) then enL en (Js h.cells v.n) { o with ags:=o.ags++[v.n.toNat] } else none:=by
    cases v
    simp only[Vl.kind] at hk
    rw[jP,if_neg (by omega),if_neg (by omega),if_pos hk];rfl
  unfold Gz
  rw[show v.cs=[.i v.kind,.i v.id,.i v.var,.i v.n,.sl (Vl.avL v.fs),.bool v.excl,.sl (il v.path),.sl (il v.loans)] from rfl]
  have q2:(v.kind==2)=false:=by simp[hk]
  have q3:(v.kind==3)=false:=by simp[hk]
  have q5:(v.kind==5)=true:=by simp[hk]
  by_cases hok:(JG h v.n&&!decide (v.n.toNat∈o.ags))=true
  case neg=>
    rw[if_neg hok] at hr
    by_cases h1:0<=v.n
    case neg=>
      have q4:decide (0<=v.n)=false:=by simpa using h1
      refine ACall.of_bodyR Tryd.func66 YS rfl (by simp[Tryd.f66]) fun E Q hE hN hQ hQp=>jg ?_
      repeat'(first|apply nx|refine zx ?_|rw[zw]|refine zk ?_|refine zp ?_|(apply zA;exact zb)|((first|refine zR hE @fun K Kp hK hKp hg=>?_|refine zT hE @fun K Kp hK hKp anc hanc hg=>?_|refine zF hE @fun K Kp hK hKp anc hanc hg=>?_|refine zg (fun hg=>?_) fun hg=>?_)<;>simp only[go_sem,q2,q3,q5,yG,yr,gN,Hp.cs,Yc,q4,hg])|(refine zc (fun hc=>?_) (fun hc=>?_)<;>try exact zh hc))
      refine Hold.mk (CallB.of_A0 (Jt false) rfl (fun r hr=>absurd hr.1 (by decide)) (fun x hx=>?_))
      refine hKp.h _ _ (hQp _ _ ⟨x,fun i=>i,_,7,?_,?_,J2 (by decide) (fun id ob ho=>?_),hx.2,hr,o,rfl⟩)
      · rw[JH]
      · rw[hx.2];simp[jW,AV.ids,AV.idsL]
      · have:=(jr ho).1
        simp only[jb]
        rw[if_neg (by omega)]
        exact ho
    obtain⟨m,hm⟩:=Int.eq_ofNat_of_zero_le h1
    have q4:decide (0<=(m:Int))=true:=by simp
    by_cases h2:m<h.arenas.length
    case neg=>
      have q6:decide ((m:Int)<(h.arenas.length:Int))=false:=by simp;omega
      refine ACall.of_bodyR Tryd.func66 YS rfl (by simp[Tryd.f66]) fun E Q hE hN hQ hQp=>jg ?_
      repeat'(first|apply nx|refine zx ?_|rw[zw]|refine zk ?_|refine zp ?_|(apply zA;exact zb)|((first|refine zR hE @fun K Kp hK hKp hg=>?_|refine zT hE @fun K Kp hK hKp anc hanc hg=>?_|refine zF hE @fun K Kp hK hKp anc hanc hg=>?_|refine zg (fun hg=>?_) fun hg=>?_)<;>simp only[go_sem,q2,q3,q5,yG,yr,gN,Hp.cs,Yc,hm,q4,q6,hg])|(refine zc (fun hc=>?_) (fun hc=>?_)<;>try exact zh hc))
      refine Hold.mk (CallB.of_A0 (Jt false) rfl (fun r hr=>absurd hr.1 (by decide)) (fun x hx=>?_))
      refine hKp.h _ _ (hQp _ _ ⟨x,fun i=>i,_,7,?_,?_,J2 (by decide) (fun id ob ho=>?_),hx.2,hr,o,rfl⟩)
      · rw[JH]
      · rw[hx.2];simp[jW,AV.ids,AV.idsL]
      · have:=(jr ho).1
        simp only[jb]
        rw[if_neg (by omega)]
        exact ho
    obtain⟨b,hb⟩:=get?_of h2
    cases b
    · skip
      refine ACall.of_bodyR Tryd.func66 YS rfl (by simp[Tryd.f66]) fun E Q hE hN hQ hQp=>jg ?_
      repeat'(first|apply nx|refine zx ?_|rw[zw]|refine zk ?_|refine zp ?_|(apply zA;exact zb)|((first|refine zR hE @fun K Kp hK hKp hg=>?_|refine zT hE @fun K Kp hK hKp anc hanc hg=>?_|refine zF hE @fun K Kp hK hKp anc hanc hg=>?_|refine zg (fun hg=>?_) fun hg=>?_)<;>simp only[go_sem,q2,q3,q5,yG,yr,gN,Hp.cs,Yc,hm,q4,ja h2,hb,hg])|(refine zc (fun hc=>?_) (fun hc=>?_)<;>try exact zh hc))
      refine Hold.mk (CallB.of_A0 (Jt false) rfl (fun r hr=>absurd hr.1 (by decide)) (fun x hx=>?_))
      refine hKp.h _ _ (hQp _ _ ⟨x,fun i=>i,_,7,?_,?_,J2 (by decide) (fun id ob ho=>?_),hx.2,hr,o,rfl⟩)
      · rw[JH]
      · rw[hx.2];simp[jW,AV.ids,AV.idsL]
      · have:=(jr ho).1
        simp only[jb]
        rw[if_neg (by omega)]
        exact ho
    have hin:m∈o.ags:=by
      have ha:JG h v.n=true:=by simp[JG,hm,hb]
      rw[ha,Bool.true_and,hm] at hok
      simpa using hok
    have hfe:=Gd m o.ags
    rw[if_pos hin] at hfe
    refine ACall.of_bodyR Tryd.func66 YS rfl (by simp[Tryd.f66]) fun E Q hE hN hQ hQp=>jg ?_
    repeat'(first|apply nx|refine zx ?_|rw[zw]|refine zk ?_|refine zp ?_|(apply zA;exact zb)|((first|refine zR hE @fun K Kp hK hKp hg=>?_|refine zT hE @fun K Kp hK hKp anc hanc hg=>?_|refine zF hE @fun K Kp hK hKp anc hanc hg=>?_|refine zg (fun hg=>?_) fun hg=>?_)<;>simp only[go_sem,q2,q3,q5,yG,yr,gN,Hp.cs,Yc,hm,q4,ja h2,hb,hfe,hg])|(refine zc (fun hc=>?_) (fun hc=>?_)<;>try exact zh hc))
    refine Hold.mk (CallB.of_A0 (Jt false) rfl (fun r hr=>absurd hr.1 (by decide)) (fun x hx=>?_))
    refine hKp.h _ _ (hQp _ _ ⟨x,fun i=>i,_,7,?_,?_,J2 (by decide) (fun id ob ho=>?_),hx.2,hr,o,rfl⟩)
    · rw[JH]
    · rw[hx.2];simp[jW,AV.ids,AV.idsL]
    · have:=(jr ho).1
      simp only[jb]
      rw[if_neg (by omega)]
      exact ho
  simp only[Bool.and_eq_true,Bool.not_eq_true',decide_eq_false_iff_not] at hok
  obtain⟨m,hm,hma⟩:=J6 hok.1
  have hmn:m∉o.ags:=by have:=hok.2;rw[hm] at this;simpa using this
  have hfe:=Gd m o.ags
  rw[if_neg hmn] at hfe
  have hr0:jP h en v o=enL en (JF h.cells m 0) { o with ags:=o.ags++[m] } :=by
    rw[hr,if_pos (by rw[hm] at hok ⊢;simpa using hok),hm,Int.toNat_natCast,YD]
  have hlm:m<h.arenas.length:=(List.getElem?_eq_some_iff.1 hma).1
  refine ACall.of_bodyRM Tryd.func66 YS rfl (by simp[Tryd.f66]) fun E Q hE hN hM hQ hQp=>jg ?_
  repeat'(first|apply nx|refine zx ?_|rw[zw]|refine zk ?_|refine zp ?_|(apply zA;exact zb)|((first|refine zR hE @fun K Kp hK hKp hg=>?_|refine zT hE @fun K Kp hK hKp anc hanc hg=>?_|refine zF hE @fun K Kp hK hKp anc hanc hg=>?_|refine zg (fun hg=>?_) fun hg=>?_)<;>simp only[go_sem,q2,q3,q5,yr,Hp.cs,hm,ja hlm,hma,yG,gN,hfe,Yc,show decide ((0:Int)<=(m:Int))=true by simp,hg])|(refine zc (fun hc=>?_) (fun hc=>?_)<;>try exact zh hc))
  refine Hold.mk (CallB.of_A0 (Jt true) rfl (fun r hr=>?_) (fun x hx=>absurd hx.1 (by decide)))
  rw[hr.2]
  simp only[go_sem]
  refine hK.h _ ?_
  clear hK hKp
  repeat'(first|apply nx|refine zx ?_|rw[zw]|refine zk ?_|refine zp ?_|(apply zA;exact zb)|((first|refine zR hE @fun K Kp hK hKp hg=>?_|refine zT hE @fun K Kp hK hKp anc hanc hg=>?_|refine zF hE @fun K Kp hK hKp anc hanc hg=>?_|refine zg (fun hg=>?_) fun hg=>?_)<;>simp only[go_sem,yG,gN,yr,Hp.cs,hfe,Ob,hm,hg])|(refine zc (fun hc=>?_) (fun hc=>?_)<;>try exact zh hc))
  refine Hold.mk (CallB.newP hlf (by simp[AV.cloL,AV.clo]) (by simp[AV.ids,AV.idsL]) (by intro p hp;simp only[List.mem_cons,List.not_mem_nil,or_false] at hp;subst hp;exact⟨by show 0<1048576;decide,by simp[AObj.ids,Hp.cs,AV.ids,AV.idsL,go_sem]⟩) ?_)
  simp only[go_sem,AObj.ren,Hp.cs]
  refine hK.h _ ?_
  clear hK hKp
  repeat'(first|apply nx|refine zx ?_|rw[zw]|refine zk ?_|refine zp ?_|(apply zA;exact zb)|((first|refine zR hE @fun K Kp hK hKp hg=>?_|refine zT hE @fun K Kp hK hKp anc hanc hg=>?_|refine zF hE @fun K Kp hK hKp anc hanc hg=>?_|refine zg (fun hg=>?_) fun hg=>?_)<;>simp only[go_sem,hg])|(refine zc (fun hc=>?_) (fun hc=>?_)<;>try exact zh hc))
  refine AW.ent (O':=⟨jL frA,Yd h v { o with ags:=o.ags++[m] },1000000⟩) (fun i=>if i=6 then 7 else if i=7 then 45088775 else if i=9 then 6 else i) (by
    show Ent _ _ _ (jx frA [(0,.cells [.mp 4,.mp 5,.rw 9]),(1,.cells [Xw]),(2,.cells h.cs),(3,.cells [Ur]),(4,.map (mkE o.cs)),(5,.map (mkE (o.ags++[m]))),(6,.cells v.cs),(7,.cells h.cs),(9,.row 1 (il o.ids))] 1000000)
    refine jc (by simp[go_sem,AV.ids,AV.idsL]) (by simp[go_sem,AV.ids,AV.idsL,yG,uy,yr,x8,GG,x9,Hp.cs,Vl.cs,hm,Ji,X8];exact⟨fun _ _=>jZ,fun _ _=>jZ⟩) (by simp) (fun id hid=>?_)
    rw[hN] at hid
    exact⟨by rw[if_neg (by omega),if_neg (by omega),if_neg (by omega)],by omega⟩) ?_
  clear hfe
  refine XA hM h hl (Yd h v) 8 7 (by decide) (by decide) (by rw[hN];decide) (fun s=>rfl) (fun s id o ho=>UO ho) (fun s id hid=>UP _ _ _ _ hid) frA (by simp[AV.ids,AV.idsL]) (by simp[go_sem]) (by simp[go_sem]) [4,5] [.ptr 3 0,.ptr 6 0] (by intro i hi;match i,hi with|0,_=>rfl|1,_=>rfl) (by simp[AV.ids,AV.idsL]) rfl (by rw[hE];simp[Tryd.f66])
    (fun i s=>enL en (JF h.cells m 0) { o with ags:=o.ags++[m] } =enL en (JF h.cells m i) s/\P s) (fun x s=>x=jW/\enL en (JF h.cells m 0) { o with ags:=o.ags++[m] } =none) (fun x s hx=>by rw[hx.1];rfl) ?_ (fun i c s hi hc hv=>⟨by rw[hi.1,JD hc,hv];rfl,hi.2⟩) _ ⟨rfl,hP m hmn hma⟩ ?_ ?_
  · intro l fnn i c s E' Q' ⟨hi,hPs⟩ hcc hv hE' hN' hnorm hpan
    have hi20:i<h.cells.length:=(List.getElem?_eq_some_iff.1 hcc).1
    rw[JD hcc,hv,Bool.true_and] at hi
    unfold qw
    refine jg ?_
    show AW Tryd.prog E' _ _ ⟨upd (upd (jL [(4,.ptr 3 0),(5,.ptr 6 0)]) 105 (.i i)) 106 (.agg c.cs),jb (Yd h v s) 8 _,1000000⟩
    rw[hE] at hE'
    replace hE:=hE'
    repeat'(first|apply nx|refine zx ?_|rw[zw]|refine zk ?_|refine zp ?_|(apply zA;exact zb)|((first|refine zR hE @fun K Kp hK hKp hg=>?_|refine zT hE @fun K Kp hK hKp anc hanc hg=>?_|refine zF hE @fun K Kp hK hKp anc hanc hg=>?_|refine zg (fun hg=>?_) fun hg=>?_)<;>simp only[go_sem,Cl.cs_eq,hg])|(refine zc (fun hc=>?_) (fun hc=>?_)<;>try exact zh hc))
    refine jl ?_
    refine⟨[.ptr 3 0,.ptr 6 0],by simp[jb],jg ?_⟩
    show AW Tryd.prog E' _ _ ⟨_,_,4145728⟩
    have ho3:Yd h v s 3=some (.cells [Ur]):=rfl
    have ho6:Yd h v s 6=some (.cells v.cs):=rfl
    by_cases hcm:c.arena=m
    · have q7:(c.arena==(m:Int))=true:=by simpa using hcm
      rw[if_pos q7,enL] at hi
      have he1:=hen i c s hPs hcc hv
      unfold EntC at he1
      repeat'(first|apply nx|refine zx ?_|rw[zw]|refine zk ?_|refine zp ?_|(apply zA;exact zb)|((first|refine zR hE @fun K Kp hK hKp hg=>?_|refine zT hE @fun K Kp hK hKp anc hanc hg=>?_|refine zF hE @fun K Kp hK hKp anc hanc hg=>?_|refine zg (fun hg=>?_) fun hg=>?_)<;>simp only[go_sem,ho3,ho6,Vl.cs,hm,q7,hg])|(refine zc (fun hc=>?_) (fun hc=>?_)<;>try exact zh hc))
      have hb:∀ j,j<6->jn (fun i=>if i=6 then 9 else i) 6 11485760 j=j:=fun j hj=>by rw[jz hj];exact if_neg (by omega)
      have hb6:jn (fun i=>if i=6 then 9 else i) 6 11485760 6=11485760:=by rw[Jq (by decide)]
      have hm2:∀ j,JL h s j≠none->(if j=6 then 9 else j)<8\/(if j=6 then 9 else j)=9:=by
        intro j hj
        obtain⟨ob,hob⟩:=Option.ne_none_iff_exists'.1 hj
        have:=(jr hob).1
        split<;>omega
      have hm3:∀ id,id=6\/id=7\/id=8->∀ j,JL h s j≠none->(if j=6 then 9 else j)≠id:=by
        intro id hid j hj
        obtain⟨ob,hob⟩:=Option.ne_none_iff_exists'.1 hj
        have:=(jr hob).1
        split<;>omega
      refine Hold.mk (CallB.use he1 (fun i=>if i=6 then 9 else i) (by simp[AV.renL,AV.ren]) (by simp[AV.ids,AV.idsL,go_sem]) (fun id ob ho=>⟨?_,jr ho⟩) (fun id id' _ _ h1 h2 e=>?_) (fun id hid=>⟨by omega,qh _ _ _ (by omega)⟩) ?_ ?_ ?_ ?_)
      · simp only[JL,jp,jb] at ho
        repeat' split at ho
        all_goals first|(cases ho;done)|skip
        all_goals cases ho;subst_vars
        all_goals simp[jb,Yd,jp,AObj.ren,AV.ren,AV.renL,Hp.cs,Ji,go_sem]
      · have g1:=(jr h1).1
        have g2:=(jr h2).1
        have e':(if id=6 then 9 else id)=(if id'=6 then 9 else id'):=e
        split at e'<;>split at e'<;>omega
      · rintro r hp' ⟨rfl,o',_,rfl⟩
        exact⟨trivial,fun id ob ho=>⟨by have:=(jr ho).1;omega,jf _ (fun j hj=>by omega) (jr ho).2⟩⟩
      · rintro r hp' ⟨rfl,_,o',rfl⟩
        exact⟨by simp[jW,AV.ids,AV.idsL],fun id ob ho=>⟨by have:=(jr ho).1;omega,jf _ (fun j hj=>by omega) (jr ho).2⟩⟩
      · rintro r hp' fr' hpn ⟨rfl,o',hr1,rfl⟩ hfr hobj hold
        simp only[go_sem]
        refine hK.h _ ?_
        clear hK hKp
        repeat(first|refine jj ?_|refine jl ?_)
        refine hnorm _ o' (fun i=>if i=9 then 11485760 else i) ⟨by rw[hi,hr1];rfl,hs i c s o' hPs hcc hv hr1⟩ ?_
        refine Ut hobj ?_ ?_ ?_
        · exact hold 6 _ (by simp[jb,Yd,jp]) (hm3 6 (.inl rfl))
        · exact hold 7 _ (by simp[jb,Yd,jp]) (hm3 7 (.inr (.inl rfl)))
        · exact hold 8 _ (by simp[jb]) (hm3 8 (.inr (.inr rfl)))
      · rintro x hp' hpn ⟨rfl,hr1,o',rfl⟩ hobj hold
        refine hKp.h _ _ (hpan _ _ o' (fun i=>if i=9 then 11485760 else i) ⟨rfl,by rw[hi,hr1];rfl⟩ ?_)
        refine Ut hobj ?_ ?_ ?_
        · exact hold 6 _ (by simp[jb,Yd,jp]) (hm3 6 (.inl rfl))
        · exact hold 7 _ (by simp[jb,Yd,jp]) (hm3 7 (.inr (.inl rfl)))
        · exact hold 8 _ (by simp[jb]) (hm3 8 (.inr (.inr rfl)))
    · have q7:(c.arena==(m:Int))=false:=by simpa using hcm
      rw[if_neg (by simp[q7])] at hi
      repeat'(first|apply nx|refine zx ?_|rw[zw]|refine zk ?_|refine zp ?_|(apply zA;exact zb)|((first|refine zR hE @fun K Kp hK hKp hg=>?_|refine zT hE @fun K Kp hK hKp anc hanc hg=>?_|refine zF hE @fun K Kp hK hKp anc hanc hg=>?_|refine zg (fun hg=>?_) fun hg=>?_)<;>simp only[go_sem,ho3,ho6,Vl.cs,hm,q7,hg])|(refine zc (fun hc=>?_) (fun hc=>?_)<;>try exact zh hc))
      refine jl (hnorm _ s (fun i=>i) ⟨hi,hPs⟩ (j6 (fr:=[]) (by simp) (fun id ob ho=>?_) (by decide)))
      by_cases e:id=8
      · subst e
        simp only[jb,if_true] at ho
        cases ho
        exact⟨by simp[jb],by decide,by simp[AObj.ids,AV.ids,AV.idsL]⟩
      · simp only[jb,if_neg e] at ho
        have g:=UO ho
        refine⟨?_,g.1.1,jf _ (fun j hj=>hj.1) g.2⟩
        simp only[jb,if_neg e]
        repeat rw[if_neg (by omega)]
        exact ho
  · intro O s' m' ⟨hi,_⟩ he
    rw[GA,enL] at hi
    rw[hN] at he
    obtain⟨m'',he2⟩:=Us he
    refine jj ?_
    refine jj ?_
    refine jl ?_
    exact(hQ _ ⟨.tup [],m'',JL h s',7,rfl,trivial,he2,rfl,s',by rw[hr0];exact hi,rfl⟩).2
  · intro x O s' m' ⟨hx,hi⟩ he
    rw[hN] at he
    obtain⟨m'',he2⟩:=Us he
    subst hx
    refine qu ?_
    exact hQp _ _ ⟨jW,m'',JL h s',7,rfl,by simp[jW,AV.ids,AV.idsL],he2,rfl,by rw[hr0];exact hi,s',rfl⟩
end Go.Proofs.YtfpcjabbcpgbjaaDoor

set_option maxHeartbeats 4000000
set_option maxRecDepth 100000
namespace Go.Proofs.YtfpcjabbcpgbjaaDoor
open Go.Am Go.Proofs Go.Hv
open Classical
theorem Ow.Le.len {o o':Ow} (h:o.Le o'):o.cs.length<=o'.cs.length:=by
 obtain⟨l,e⟩:=h.cs
 rw[e,List.length_append];omega
def jbC (h:Hp) (k:Nat):Prop:=∀ n c o,h.cells[n]? =some c->c.live=true->o.Ok h->h.cells.length<=k+o.cs.length->bud (2 ^ 20) h o<=2 ^ 42->EntC h n (jy h k n) o
theorem jaw {h:Hp} (hl:h.cells.length<=2 ^ 20) (hal:h.arenas.length<=2 ^ 20) (hM:∀ c,c∈h.cells->c.v.sz<=2 ^ 20) {k:Nat} (hE:jbC h k):∀ (N:Nat) (v:Vl) (o:Ow),v.sz<N->v.sz<=2 ^ 20->o.Ok h->h.cells.length<=k+o.cs.length->bud (2 ^ 20) h o+v.sz<=2 ^ 42->Gz h v (jP h (jy h k) v) o:=by
 intro N
 induction N with
 |zero=>intro v o h0;omega
 |succ N ih=>
 intro v o hN hv20 ho hlen hbud
 have hsz:=v.sz_eq
 have hfl:=Vl.len_le v.fs
 have hids:o.ids.length<=bud (2 ^ 20) h o:=Nat.le_add_right _ _
 by_cases h2:v.kind=2
 ·refine jdW h _ v o h2 (by omega) (by omega) (fun i o=>o.Ok h/\h.cells.length<=k+o.cs.length/\bud (2 ^ 20) h o+Vl.szL (v.fs.drop i)<=2 ^ 42) ⟨⟨ho.nd,ho.lt,ho.and,ho.alt⟩,hlen,?_⟩ ?_ ?_
  ·have e:bud (2 ^ 20) h { o with ids:=o.ids++[v.id] } =bud (2 ^ 20) h o+1:=by simp only[bud,List.length_append,List.length_singleton];omega
   rw[e,List.drop_zero]
   omega
  ·rintro i x o1 hx ⟨g1,g2,g3⟩
   rw[jS hx,Vl.szL] at g3
   have:=Vl.sz_mem (List.mem_of_getElem? hx)
   exact ih x o1 (by omega) (by omega) g1 g2 (by omega)
  ·rintro i x o1 o2 hx ⟨g1,g2,g3⟩ he
   rw[jS hx,Vl.szL] at g3
   have k1:=jD (jo h k) x o1 o2 g1 he
   have k2:=yY (jo h k) (yb hM k) x o1 o2 g1 he
   have k3:=Ow.Le.len k1.2
   exact⟨k1.1,by omega,by omega⟩
 by_cases h3:v.kind=3
 ·exact jfD h _ v o h3 hl (fun m c hc hv=>hE m c o hc hv ho hlen (by omega))
 by_cases h5:v.kind=5
 ·refine jbs h _ v o h5 hl hal (fun o=>o.Ok h/\h.cells.length<=k+o.cs.length/\bud (2 ^ 20) h o<=2 ^ 42) (fun m hm1 hm2=>⟨ho.arena hm1 hm2,hlen,?_⟩) (fun m c o1 g hc hv=>hE m c o1 hc hv g.1 g.2.1 g.2.2) (fun m c o1 o2 g hc hv he=>?_)
  ·have e:bud (2 ^ 20) h (Ow.mk o.cs (o.ags++[m]) o.ids)=bud (2 ^ 20) h o:=rfl
   show bud (2 ^ 20) h (Ow.mk o.cs (o.ags++[m]) o.ids)<=2 ^ 42
   rw[e]
   omega
  ·have k1:=jo h k m o1 o2 g.1 ⟨c,hc,hv⟩ he
   have k2:=yb hM k m o1 o2 g.1 ⟨c,hc,hv⟩ he
   have k3:=Ow.Le.len k1.2
   exact⟨k1.1,by omega,by omega⟩
 exact jbt h _ v o h2 h3 h5
theorem EntC.congr {h:Hp} {n:Nat} {r r':Ow->Option Ow} {o:Ow} (hr:r o=r' o) (he:EntC h n r o):EntC h n r' o:=by
 unfold EntC at he ⊢
 rw[<- hr]
 exact he
theorem XN {h:Hp} (hl:h.cells.length<=2 ^ 20) (hal:h.arenas.length<=2 ^ 20) (hM:∀ c,c∈h.cells->c.v.sz<=2 ^ 20):∀ k,jbC h k
 |0=>fun n c o hc hv ho hlen hbud=>by
  have hin:n∈o.cs:=Classical.byContradiction fun hn=>by
   have:=ho.len_lt hn (List.getElem?_eq_some_iff.1 hc).1
   omega
  refine EntC.congr (r:=fun o=>jy h (0+1) n o) ?_ (XO h 0 n o c hc fun hn=>absurd hin hn)
  have e1:jy h (0+1) n o=none:=by rw[jy,if_pos hin]
  have e0:jy h 0 n o=none:=by rw[jy]
  show jy h (0+1) n o=jy h 0 n o
  rw[e1,e0]
 |k+1=>fun n c o hc hv ho hlen hbud=>by
  refine XO h k n o c hc fun hn=>?_
  have g1:=ho.len_lt hn (List.getElem?_eq_some_iff.1 hc).1
  have g2:=hM c (List.mem_of_getElem? hc)
  refine jaw hl hal hM (XN hl hal hM k) (c.v.sz+1) c.v _ (by omega) g2 (ho.enter hn hc hv) ?_ ?_
  ·simp only[List.length_append,List.length_singleton];omega
  ·have e:bud (2 ^ 20) h { o with cs:=o.cs++[n] } +2 ^ 20=bud (2 ^ 20) h o:=by
    unfold bud
    simp only[List.length_append,List.length_singleton]
    have:h.cells.length - o.cs.length=(h.cells.length - (o.cs.length+1))+1:=by omega
    rw[this,Nat.add_mul]
    omega
   omega
theorem GV (M:Nat) (h:Hp):bud M h Ow.nil=h.cells.length*M:=by simp[bud,Ow.nil]
theorem jfE {h:Hp} (hl:h.cells.length<=2 ^ 20) (hal:h.arenas.length<=2 ^ 20) (hM:∀ c,c∈h.cells->c.v.sz<=2 ^ 20) (v:Vl) (hv:v.sz<=2 ^ 20):Gz h v (jP h (jy h h.cells.length) v) Ow.nil:=
 jaw hl hal hM (XN hl hal hM _) (v.sz+1) v _ (by omega) hv (Ow.nil_ok h) (by omega) (by
  rw[GV]
  omega)
end Go.Proofs.YtfpcjabbcpgbjaaDoor

set_option maxHeartbeats 4000000
set_option maxRecDepth 100000
namespace Go.Proofs.YtfpcjabbcpgbjaaDoor
open Go.Am Go.Proofs Go.Hv
open Classical
attribute [local irreducible] AW jA CallB CallY
def gi (D:List AV):Nat->Option AObj:=jp [(0,.cells [.sl D])]
theorem Jm {D:List AV} {id:Nat} {ob:AObj} (ho:gi D id=some ob):id<1/\ob.ids (· <1):=by
 simp only[gi,jp,jb] at ho
 split at ho
 ·cases ho;subst_vars;exact⟨by decide,by simp[AObj.ids,AV.ids,AV.idsL]⟩
 ·cases ho
theorem ux (D:List AV) (id:Nat) (hid:id<1):gi D id≠none:=by
 obtain rfl:id=0:=by omega
 simp[gi,jp,jb]
def gX (D:List AV) (n:Int):Bool:=decide (n<0)||decide ((D.length:Int)<=n)
theorem jmh (D:List AV) (n:Int):ACall Tryd.prog 40 [.i n,.ptr 0 0] (gi D) 1 1 (fun r hp'=>r= .bool (gX D n)/\hp'=gi D) (fun _ _=>False):=by
 have h0:gi D 0=some (.cells [.sl D]):=rfl
 refine ACall.of_bodyR Tryd.func40 jfX rfl (by simp[Tryd.f40]) fun E Q hE hN hQ hQp=>jg ?_
 have hfin:∀ (fr:Nat->Option AV) (nx:Nat),Ent 1 (fun i=>i) ⟨fr,gi D,nx⟩ ⟨fun _=>none,gi D,1⟩:=fun fr nx=>j6 (fr:=[]) (by simp) (fun id ob ho=>⟨ho,Jm ho⟩) (by decide)
 unfold gX at hQ
 cases q1:decide (n<0)
 ·rw[q1] at hQ
  repeat'(first|apply nx|refine zx ?_|rw[zw]|refine zk ?_|refine zp ?_|(apply zA;exact zb)|((first|refine zR hE @fun K Kp hK hKp hg=>?_|refine zT hE @fun K Kp hK hKp anc hanc hg=>?_|refine zF hE @fun K Kp hK hKp anc hanc hg=>?_|refine zg (fun hg=>?_) fun hg=>?_)<;>simp only[go_sem,q1,h0,hg])|(refine zc (fun hc=>?_) (fun hc=>?_)<;>try exact zh hc))
  refine je (hQ _ ⟨.bool (decide ((D.length:Int)<=n)),fun i=>i,_,1,Ju (by simp only[go_sem]),trivial,hfin _ _,by simp,rfl⟩).1
 ·rw[q1] at hQ
  repeat'(first|apply nx|refine zx ?_|rw[zw]|refine zk ?_|refine zp ?_|(apply zA;exact zb)|((first|refine zR hE @fun K Kp hK hKp hg=>?_|refine zT hE @fun K Kp hK hKp anc hanc hg=>?_|refine zF hE @fun K Kp hK hKp anc hanc hg=>?_|refine zg (fun hg=>?_) fun hg=>?_)<;>simp only[go_sem,q1,h0,hg])|(refine zc (fun hc=>?_) (fun hc=>?_)<;>try exact zh hc))
  refine je (hQ _ ⟨.bool true,fun i=>i,_,1,Ju (by simp only[go_sem]),trivial,hfin _ _,by simp,rfl⟩).1
def YM (D:List AV):List Int->Nat
 | []=>0
 |n::l=>if gX D n then 0 else 1+YM D l
theorem jhD (D:List AV) (l:List Int) (hl:l.length<=2 ^ 43):ACall Tryd.prog 67 [.sl (il l),.fn (.func 40) [] [.ptr 0 0]] (gi D) 1 1 (fun r hp'=>r= .i (if YM D l<l.length then(YM D l:Int) else -1)/\hp'=gi D) (fun _ _=>False):=by
 refine ACall.of_bodyR Tryd.func67 jf1 rfl (by simp[Tryd.f67]) fun E Q hE hN hQ hQp=>jg ?_
 have hfin:∀ (fr:Nat->Option AV) (nx:Nat),Ent 1 (fun i=>i) ⟨fr,gi D,nx⟩ ⟨fun _=>none,gi D,1⟩:=fun fr nx=>j6 (fr:=[]) (by simp) (fun id ob ho=>⟨ho,Jm ho⟩) (by decide)
 repeat'(first|apply nx|refine zx ?_|rw[zw]|refine zk ?_|refine zp ?_|(apply zA;exact zb)|((first|refine zR hE @fun K Kp hK hKp hg=>?_|refine zT hE @fun K Kp hK hKp anc hanc hg=>?_|refine zF hE @fun K Kp hK hKp anc hanc hg=>?_|refine zg (fun hg=>?_) fun hg=>?_)<;>simp only[go_sem,hg])|(refine zc (fun hc=>?_) (fun hc=>?_)<;>try exact zh hc))
 refine jB (X:=Nat) (fun i=>i<=l.length/\YM D l=i+YM D (l.drop i)) (fun i=>⟨jL [(0,.sl (il l)),(1,.fn (.func 40) [] [.ptr 0 0]),(7,.i l.length),(8,AV.i i)],gi D,1⟩) (fun i=>l.length - i) 0 ⟨Nat.zero_le _,by simp⟩ (fun i=>i) ?_ ?_
 ·exact j6 (by simp[go_sem,AV.ids,AV.idsL]) (fun id ob ho=>⟨ho,Jm ho⟩) (by rw[hN];decide)
 rintro i ⟨hi,ht⟩
 by_cases hlt:i<l.length
 ·obtain⟨x,hx⟩:=get?_of hlt
  rw[jS hx,YM] at ht
  have hu:=jmh D x
  repeat'(first|apply nx|refine zx ?_|rw[zw]|refine zk ?_|refine zp ?_|(apply zA;exact zb)|((first|refine zR hE @fun K Kp hK hKp hg=>?_|refine zT hE @fun K Kp hK hKp anc hanc hg=>?_|refine zF hE @fun K Kp hK hKp anc hanc hg=>?_|refine zg (fun hg=>?_) fun hg=>?_)<;>simp only[go_sem,ja hlt,hx,hg])|(refine zc (fun hc=>?_) (fun hc=>?_)<;>try exact zh hc))
  refine Hold.mk (CallB.use hu (fun i=>i) (by rw[jv]) (by simp[AV.ids,AV.idsL]) (fun id ob ho=>⟨by rw[jw];exact ho,Jm ho⟩) (fun _ _ _ _ _ _ e=>e) (fun id hid=>⟨hid,ux D id hid⟩) ?_ (fun r hp' h=>h.elim) ?_ (fun x hp' hpn h=>h.elim))
  ·rintro r hp' ⟨rfl,rfl⟩
   exact⟨trivial,fun id ob ho=>⟨by have:=(Jm ho).1;omega,jf _ (fun j hj=>by omega) (Jm ho).2⟩⟩
  ·rintro r hp' fr' hpn ⟨rfl,rfl⟩ hfr hobj _
   have hhp:∀ id ob,gi D id=some ob->hpn id=some ob:=by
    intro id ob ho
    have:=(Jm ho).1
    obtain rfl:id=0:=by omega
    have e2:=hobj 0 ob ho
    rw[jz (by decide)] at e2
    have e3:ob= .cells [.sl D]:=(Option.some.inj ho).symm
    subst e3
    simpa [AObj.ren,AV.renL,AV.ren] using e2
   clear hobj
   simp only[St.put,AV.ren,Jg] at hfr
   subst hfr
   cases hub:gX D x
   ·rw[hub] at ht
    simp only[go_sem,hub]
    refine hK.h _ ?_
    clear hK hKp
    repeat'(first|apply nx|refine zx ?_|rw[zw]|refine zk ?_|refine zp ?_|(apply zA;exact zb)|((first|refine zR hE @fun K Kp hK hKp hg=>?_|refine zT hE @fun K Kp hK hKp anc hanc hg=>?_|refine zF hE @fun K Kp hK hKp anc hanc hg=>?_|refine zg (fun hg=>?_) fun hg=>?_)<;>simp only[go_sem,hg])|(refine zc (fun hc=>?_) (fun hc=>?_)<;>try exact zh hc))
    refine⟨i+1,⟨by omega,by simp at ht;omega⟩,by omega,fun i=>i,j6 (by simp[go_sem,AV.ids,AV.idsL]) (fun id ob ho=>⟨hhp id ob ho,Jm ho⟩) (by rw[hN];decide)⟩
   ·rw[hub] at ht
    have hf:YM D l=i:=by simpa using ht
    simp only[go_sem,hub]
    refine hK.h _ ?_
    clear hK hKp
    repeat'(first|apply nx|refine zx ?_|rw[zw]|refine zk ?_|refine zp ?_|(apply zA;exact zb)|((first|refine zR hE @fun K Kp hK hKp hg=>?_|refine zT hE @fun K Kp hK hKp anc hanc hg=>?_|refine zF hE @fun K Kp hK hKp anc hanc hg=>?_|refine zg (fun hg=>?_) fun hg=>?_)<;>simp only[go_sem,hg])|(refine zc (fun hc=>?_) (fun hc=>?_)<;>try exact zh hc))
    refine je (hQ _ ⟨.i i,fun i=>i,_,1,Ju (by simp only[go_sem]),trivial,j6 (fr:=[]) (by simp) (fun id ob ho=>⟨hhp id ob ho,Jm ho⟩) (by decide),by simp[hf,hlt],rfl⟩).1
 ·obtain rfl:i=l.length:=by omega
  rw[List.drop_length,YM] at ht
  repeat'(first|apply nx|refine zx ?_|rw[zw]|refine zk ?_|refine zp ?_|(apply zA;exact zb)|((first|refine zR hE @fun K Kp hK hKp hg=>?_|refine zT hE @fun K Kp hK hKp anc hanc hg=>?_|refine zF hE @fun K Kp hK hKp anc hanc hg=>?_|refine zg (fun hg=>?_) fun hg=>?_)<;>simp only[go_sem,jE,hg])|(refine zc (fun hc=>?_) (fun hc=>?_)<;>try exact zh hc))
  refine je (hQ _ ⟨.i (-1),fun i=>i,_,1,Ju (by simp only[go_sem]),trivial,hfin _ _,by simp[ht],rfl⟩).1
theorem jgm (D:List AV) (l:List Int) (hl:l.length<=2 ^ 43):ACall Tryd.prog 41 [.sl (il l),.fn (.func 40) [] [.ptr 0 0]] (gi D) 1 1 (fun r hp'=>r= .bool (decide (YM D l<l.length))/\hp'=gi D) (fun _ _=>False):=by
 have hu:=jhD D l hl
 refine ACall.of_bodyR Tryd.func41 jfY rfl (by simp[Tryd.f41]) fun E Q hE hN hQ hQp=>jg ?_
 repeat'(first|apply nx|refine zx ?_|rw[zw]|refine zk ?_|refine zp ?_|(apply zA;exact zb)|((first|refine zR hE @fun K Kp hK hKp hg=>?_|refine zT hE @fun K Kp hK hKp anc hanc hg=>?_|refine zF hE @fun K Kp hK hKp anc hanc hg=>?_|refine zg (fun hg=>?_) fun hg=>?_)<;>simp only[go_sem,hg])|(refine zc (fun hc=>?_) (fun hc=>?_)<;>try exact zh hc))
 refine Hold.mk (CallB.use hu (fun i=>i) (by rw[jv]) (by simp[AV.ids,AV.idsL]) (fun id ob ho=>⟨by rw[jw];exact ho,Jm ho⟩) (fun _ _ _ _ _ _ e=>e) (fun id hid=>⟨hid,ux D id hid⟩) ?_ (fun r hp' h=>h.elim) ?_ (fun x hp' hpn h=>h.elim))
 ·rintro r hp' ⟨rfl,rfl⟩
  exact⟨trivial,fun id ob ho=>⟨by have:=(Jm ho).1;omega,jf _ (fun j hj=>by omega) (Jm ho).2⟩⟩
 ·rintro r hp' fr' hpn ⟨rfl,rfl⟩ hfr hobj _
  have hhp:∀ id ob,gi D id=some ob->hpn id=some ob:=by
   intro id ob ho
   have:=(Jm ho).1
   obtain rfl:id=0:=by omega
   have e2:=hobj 0 ob ho
   rw[jz (by decide)] at e2
   have e3:ob= .cells [.sl D]:=(Option.some.inj ho).symm
   subst e3
   simpa [AObj.ren,AV.renL,AV.ren] using e2
  clear hobj
  simp only[St.put,AV.ren,Jg] at hfr
  subst hfr
  have q:decide ((0:Int)<=(if YM D l<l.length then(YM D l:Int) else -1))=decide (YM D l<l.length):=by
   by_cases h:YM D l<l.length
   ·simp[h]
   ·simp[h]
  generalize hz:(if YM D l<l.length then(YM D l:Int) else -1)=z at q
  simp only[go_sem]
  refine hK.h _ ?_
  clear hK hKp
  have q':decide (z>=0)=decide (YM D l<l.length):=q
  repeat'(first|apply nx|refine zx ?_|rw[zw]|refine zk ?_|refine zp ?_|(apply zA;exact zb)|((first|refine zR hE @fun K Kp hK hKp hg=>?_|refine zT hE @fun K Kp hK hKp anc hanc hg=>?_|refine zF hE @fun K Kp hK hKp anc hanc hg=>?_|refine zg (fun hg=>?_) fun hg=>?_)<;>simp only[go_sem,q,q',hg])|(refine zc (fun hc=>?_) (fun hc=>?_)<;>try exact zh hc))
  refine je (hQ _ ⟨.bool (decide (YM D l<l.length)),fun i=>i,_,1,Ju (by simp only[go_sem,q,q']),trivial,j6 (fr:=[]) (by simp) (fun id ob ho=>⟨hhp id ob ho,Jm ho⟩) (by decide),rfl,rfl⟩).1

theorem jdA (hp:Nat->Option AObj):DCall Tryd.prog 63 (gk 2) hp 8 2 none (fun hp'=>hp'=hp):=by
 refine DCall.of_body Tryd.func63 jcT rfl (by decide) (by decide) rfl (by decide) fun E Q hE hN hQ=>jg ?_
 have ep:gk 2=[.ptr 0 0,.ptr 1 0]:=rfl
 rw[ep]
 repeat'(first|apply nx|refine zx ?_|rw[zw]|refine zk ?_|refine zp ?_|(apply zA;exact zb)|((first|refine zR hE fun hg=>?_|refine zT hE fun hanc hg=>?_|refine zF hE fun hanc hg=>?_|refine zg (fun hg=>?_) fun hg=>?_)<;>simp only[go_sem,jdz,hg])|(refine zc (fun hc=>?_) (fun hc=>?_)<;>try exact zh hc))
 refine jl ?_
 exact(hQ _ rfl).2
theorem jdB {hp:Nat->Option AObj} {a b c d:AV} (h0:hp 0=some (.cells [a,b,c])) (h1:hp 1=some (.cells [d])):DCall Tryd.prog 63 (gk 2) hp 8 2 (some jW) (fun hp'=>hp' 0=some (.cells [.nilmap,.nilmap,.nilsl])/\hp' 1=some (.cells [.bool false])):=by
 refine DCall.of_body Tryd.func63 jcT rfl (by decide) (by decide) rfl (by decide) fun E Q hE hN hQ=>jg ?_
 have ep:gk 2=[.ptr 0 0,.ptr 1 0]:=rfl
 rw[ep]
 unfold jW
 repeat'(first|apply nx|refine zx ?_|rw[zw]|refine zk ?_|refine zp ?_|(apply zA;exact zb)|((first|refine zR hE fun hg=>?_|refine zT hE fun hanc hg=>?_|refine zF hE fun hanc hg=>?_|refine zg (fun hg=>?_) fun hg=>?_)<;>simp only[go_sem,jdz,h0,h1,hg])|(refine zc (fun hc=>?_) (fun hc=>?_)<;>try exact zh hc))
 refine jl ?_
 refine(hQ _ ?_).2
 simp[go_sem]

def jmj (x:Option Ow) (r:AV) (hp':Nat->Option AObj):Prop:=
 match x with
 |some o=>r= .tup [.agg [.mp 2,.mp 3,.sl (il o.ids)],.bool true]/\hp'=jp [(2,.map (mkE o.cs)),(3,.map (mkE o.ags))]
 |none=>r= .tup [.agg [.nilmap,.nilmap,.nilsl],.bool false]/\hp'=jp []
def mW (i:Nat):Nat:=if i=1 then 7 else if i=2 then 4 else if i=3 then 8 else if i=4 then 2 else if i=5 then 3 else i
theorem jhM {i j:Nat} (hi:i<7) (hj:j<7) (e:mW i=mW j):i=j:=by
 unfold mW at e
 repeat' split at e
 all_goals omega
theorem jc4 (h:Hp) (o:Ow) {j:Nat} (hj:JL h o j≠none):mW j≠1:=by
 unfold mW
 repeat' split
 all_goals omega
theorem oR {h:Hp} (hl:h.cells.length<=2 ^ 20) (hal:h.arenas.length<=2 ^ 20) (hM:∀ c,c∈h.cells->c.v.sz<=2 ^ 20) (v:Vl) (hv:v.sz<=2 ^ 20):ACall Tryd.prog 39 [h.av,v.av] (jp []) 0 0 (jmj (yc h v)) (fun _ _=>False):=by
 have hvc:=jfE hl hal hM v hv
 unfold Gz at hvc
 rw[Hp.av_eq,Vl.av_eq]
 refine ACall.of_defer (k:=2) Tryd.func39 jfW rfl (by simp[Tryd.f39]) (by simp[Tryd.f39]) (jx [(2,.ptr 4 0),(3,.ptr 5 0),(4,.ptr 0 0),(5,.ptr 1 0)] [(0,.cells [.mp 2,.mp 3,.nilsl]),(1,.cells [.bool false]),(2,.map []),(3,.map []),(4,.cells h.cs),(5,.cells v.cs)] 6) ?_ rfl ?_ ?_
 ·intro i hi
  have:i=0\/i=1:=by omega
  rcases this with rfl|rfl<;>exact⟨_,rfl⟩
 ·intro E Q hE hN hQ
  refine jjL ?_
  repeat'(first|apply nx|refine zx ?_|rw[zw]|refine zk ?_|refine zp ?_|(apply zA;exact zb)|((first|refine zR hE @fun K Kp hK hKp hg=>?_|refine zT hE @fun K Kp hK hKp anc hanc hg=>?_|refine zF hE @fun K Kp hK hKp anc hanc hg=>?_|refine zg (fun hg=>?_) fun hg=>?_)<;>simp only[go_sem,hg])|(refine zc (fun hc=>?_) (fun hc=>?_)<;>try exact zh hc))
  refine jl ?_
  refine hQ _ (fun i=>if i=0 then 2097152 else if i=1 then 3145728 else if i=2 then 4194304 else if i=3 then 5242880 else if i=4 then 0 else if i=5 then 1048576 else i) ?_
  refine jc (by simp[go_sem,Hp.cs,Vl.cs]) (by simp[go_sem,Hp.cs,Vl.cs]) (by simp) (by simp[hN])
 ·intro E Q hE hN hQ hQp
  refine jg ?_
  have ep:gk 2=[.ptr 0 0,.ptr 1 0]:=rfl
  rw[ep]
  simp only[go_sem]
  refine Qw 0 2 1 (by simp only[jx,jp,jb,if_true];rfl) rfl ?_
  simp only[go_sem]
  repeat'(first|apply nx|refine zx ?_|rw[zw]|refine zk ?_|refine zp ?_|(apply zA;exact zb)|((fail_if_success refine j3 6 ?_);(first|refine zR hE @fun K Kp hK hKp hg=>?_|refine zT hE @fun K Kp hK hKp anc hanc hg=>?_|refine zF hE @fun K Kp hK hKp anc hanc hg=>?_|refine zg (fun hg=>?_) fun hg=>?_)<;>simp only[go_sem,hg])|(refine zc (fun hc=>?_) (fun hc=>?_)<;>try exact zh hc))
  refine AW.ent (O':=jx [(3,.ptr 5 0),(4,.ptr 0 0),(5,.ptr 1 0),(6,.ptr 7 0)] [(0,.cells [.mp 2,.mp 3,.rw 6]),(1,.cells [.bool false]),(2,.map []),(3,.map []),(4,.cells h.cs),(5,.cells v.cs),(6,.row 1 []),(7,.cells [.fn (.func 66) [] [.ptr 0 0,.ptr 7 0,.ptr 4 0,.ptr 8 0]]),(8,.cells [.fn (.func 64) [] [.ptr 0 0,.ptr 7 0,.ptr 4 0]])] 9) (fun i=>if i=8 then 2097159 else i) ?_ ?_
  ·refine jc (by simp[go_sem]) (by simp[go_sem]) (by simp) (fun id hid=>?_)
   rw[hN] at hid
   exact⟨if_neg (by omega),by omega⟩
  repeat'(first|apply nx|refine zx ?_|rw[zw]|refine zk ?_|refine zp ?_|(apply zA;exact zb)|((first|refine zR hE @fun K Kp hK hKp hg=>?_|refine zT hE @fun K Kp hK hKp anc hanc hg=>?_|refine zF hE @fun K Kp hK hKp anc hanc hg=>?_|refine zg (fun hg=>?_) fun hg=>?_)<;>simp only[go_sem,Vl.cs,hg])|(refine zc (fun hc=>?_) (fun hc=>?_)<;>try exact zh hc))
  have hvc2:=hvc
  rw[show v.cs=[.i v.kind,.i v.id,.i v.var,.i v.n,.sl (Vl.avL v.fs),.bool v.excl,.sl (il v.path),.sl (il v.loans)] from rfl] at hvc2
  refine Hold.mk (CallB.use hvc2 mW rfl (by simp[AV.ids,AV.idsL,go_sem]) (fun id ob ho=>⟨?_,jr ho⟩) (fun id id' ob ob' ho ho' e=>jhM (jr ho).1 (jr ho').1 e) (fun id hid=>⟨by omega,qh _ _ _ (by omega)⟩) ?_ ?_ ?_ ?_)
  ·simp only[JL,jp,jb] at ho
   repeat' split at ho
   all_goals first|(cases ho;done)|skip
   all_goals cases ho;subst_vars
   all_goals simp[go_sem,mW,Hp.cs,mkE,Ow.nil,il]
  ·rintro r hp' ⟨rfl,o',_,rfl⟩
   exact⟨trivial,fun id ob ho=>⟨by have:=(jr ho).1;omega,jf _ (fun j hj=>by omega) (jr ho).2⟩⟩
  ·rintro r hp' ⟨rfl,_,o',rfl⟩
   exact⟨by simp[jW,AV.ids,AV.idsL],fun id ob ho=>⟨by have:=(jr ho).1;omega,jf _ (fun j hj=>by omega) (jr ho).2⟩⟩
  ·rintro r hp' fr' hpn ⟨rfl,o',hr,rfl⟩ hfr hobj hold
   simp only[St.put,AV.ren,Jg] at hfr
   subst hfr
   have e0:hpn 0=some (.cells [.mp 2,.mp 3,.rw 2097161]):=hobj 0 _ (yG h o')
   have e4:hpn 2=some (.map (mkE o'.cs)):=by
    have:=hobj 4 _ (GG h o')
    simpa [AObj.ren,Ji,jn,mW] using this
   have e5:hpn 3=some (.map (mkE o'.ags)):=by
    have:=hobj 5 _ (gN h o')
    simpa [AObj.ren,Ji,jn,mW] using this
   have e6:hpn 2097161=some (.row 1 (il o'.ids)):=by
    have:=hobj 6 _ (x9 h o')
    simpa [AObj.ren,go_sem,jn,mW] using this
   have e1:=hold 1 (.cells [.bool false]) (by simp[go_sem]) (fun j hj=>jc4 h _ hj)
   clear hobj hold hvc hvc2
   have hr:yc h v=some o':=hr
   repeat'(first|apply nx|refine zx ?_|rw[zw]|refine zk ?_|refine zp ?_|(apply zA;exact zb)|((fail_if_success refine j3 7 ?_);(first|refine zR hE @fun K Kp hK hKp hg=>?_|refine zT hE @fun K Kp hK hKp anc hanc hg=>?_|refine zF hE @fun K Kp hK hKp anc hanc hg=>?_|refine zg (fun hg=>?_) fun hg=>?_)<;>simp only[go_sem,e0,e1,hg])|(refine zc (fun hc=>?_) (fun hc=>?_)<;>try exact zh hc))
   refine jeb 0 2 2097161 e0 rfl e6 (by decide) (qB _) ?_
   repeat'(first|apply nx|refine zx ?_|rw[zw]|refine zk ?_|refine zp ?_|(apply zA;exact zb)|((first|refine zR hE @fun K Kp hK hKp hg=>?_|refine zT hE @fun K Kp hK hKp anc hanc hg=>?_|refine zF hE @fun K Kp hK hKp anc hanc hg=>?_|refine zg (fun hg=>?_) fun hg=>?_)<;>simp only[go_sem,e0,e1,hg])|(refine zc (fun hc=>?_) (fun hc=>?_)<;>try exact zh hc))
   refine je (hQ _ (fun i=>i) ⟨jL [(4,.ptr 0 0),(5,.ptr 1 0)],jp [(0,.cells [.mp 2,.mp 3,.sl (il o'.ids)]),(1,.cells [.bool true]),(2,.map (mkE o'.cs)),(3,.map (mkE o'.ags))],8⟩ ?_ ⟨show 2<=8 by decide,fun y hy=>(by cases hy),?_,?_,_,jdA _,?_⟩).1
   ·show Ent _ _ _ (jx _ _ _)
    refine jc (by simp[go_sem]) (by simp[go_sem,e4,e5,e6,Ji];exact⟨fun _ _=>jZ,fun _ _=>jZ⟩) (by simp) (fun id hid=>⟨rfl,by omega⟩)
   ·intro t y hy
    have:=YW hy
    simp only[List.mem_cons,List.not_mem_nil,or_false,Prod.mk.injEq] at this
    rcases this with ⟨_,rfl⟩|⟨_,rfl⟩
    ·exact⟨0,by decide,rfl⟩
    ·exact⟨1,by decide,rfl⟩
   ·intro id ob ho
    show id<8/\ob.ids (· <8)
    simp only[jp,jb] at ho
    repeat' split at ho
    all_goals first|(cases ho;done)|skip
    all_goals cases ho;subst_vars
    all_goals refine⟨by decide,?_⟩
    all_goals first|(simp[AObj.ids,AV.ids,AV.idsL,go_sem];done)|exact fun p hp=>jZ hp
   ·rintro hp' rfl
    refine⟨.tup [.agg [.mp 2,.mp 3,.sl (il o'.ids)],.bool true],jp [(2,.map (mkE o'.cs)),(3,.map (mkE o'.ags))],rfl,?_,?_⟩
    ·intro id ob ho
     simp only[jp,jb] at ho ⊢
     repeat' split at ho
     all_goals first|(cases ho;done)|skip
     all_goals cases ho;subst_vars
     all_goals rfl
    ·rw[hr];exact⟨rfl,rfl⟩
  ·rintro x hp' hpn ⟨rfl,hr,o',rfl⟩ hobj hold
   have e0:hpn 0=some (.cells [.mp 2,.mp 3,.rw 2097161]):=hobj 0 _ (yG h o')
   have e1:=hold 1 (.cells [.bool false]) (by simp[go_sem]) (fun j hj=>jc4 h _ hj)
   clear hobj hold hvc hvc2
   have hr:yc h v=none:=hr
   refine hKp.h _ _ (hQp _ _ (fun i=>if i=4 then 2097161 else i) ⟨jL [(4,.ptr 0 0),(5,.ptr 1 0)],jp [(0,.cells [.mp 2,.mp 3,.rw 4]),(1,.cells [.bool false])],8⟩ ?_ ⟨show 2<=8 by decide,fun y hy=>(by cases hy;rfl),?_,?_,_,jdB rfl rfl,?_⟩)
   ·show Ent _ _ _ (jx _ _ _)
    refine jc (by simp[go_sem]) (by simp[go_sem,e0,e1]) (by simp) (fun id hid=>⟨if_neg (by omega),by omega⟩)
   ·intro t y hy
    have:=YW hy
    simp only[List.mem_cons,List.not_mem_nil,or_false,Prod.mk.injEq] at this
    rcases this with ⟨_,rfl⟩|⟨_,rfl⟩
    ·exact⟨0,by decide,rfl⟩
    ·exact⟨1,by decide,rfl⟩
   ·intro id ob ho
    show id<8/\ob.ids (· <8)
    simp only[jp,jb] at ho
    repeat' split at ho
    all_goals first|(cases ho;done)|skip
    all_goals cases ho;subst_vars
    all_goals exact⟨by decide,by simp[AObj.ids,AV.ids,AV.idsL,go_sem]⟩
   ·rintro hp' ⟨k0,k1⟩
    refine⟨.tup [.agg [.nilmap,.nilmap,.nilsl],.bool false],jp [],?_,fun id ob ho=>(by cases ho),?_⟩
    ·simp[Jy,rvA,Tryd.f39,go_sem,k0,k1]
     rfl
    ·rw[hr];exact⟨rfl,rfl⟩

theorem U7 (L : List Cl) (n i : Nat) (hi : i < ((cl L).set n (.agg [.bool false, .i 0, .i 0, .i 0, .i 0, .i 0, .nilsl, .bool false, .nilsl, .nilsl])).length) :
    Snp (fun _=>none) (((cl L).set n (.agg [.bool false,.i 0,.i 0,.i 0,.i 0,.i 0,.nilsl,.bool false,.nilsl,.nilsl])).getD i default) ((cl (L.set n Cl.zero)).getD i default):=by
  rw[<- jbT]
  refine jfw (.inr ⟨?_,?_⟩) _ _ _ hi
  · simp[AV.snapOk,AV.snapOkL]
  · rfl
def pick (l:List Nat) (done:List Nat):List Nat:=done.map fun j=>l.getD j 0
theorem OP {l done:List Nat} {j n:Nat} (h:l[j]? =some n):pick l (done++[j])=pick l done++[n]:=by
 simp[pick,List.getD_eq_getElem?_getD,h]
theorem UY {l done:List Nat} (h:∀ i,i∈done↔i<l.length) (n:Nat):n∈pick l done↔n∈l:=by
 unfold pick
 rw[List.mem_map]
 constructor
 ·rintro⟨j,hj,rfl⟩
  have:=(h j).1 hj
  have e:l.getD j 0=l[j]:=by simp[List.getD_eq_getElem?_getD,this]
  rw[e];exact List.getElem_mem this
 ·intro hn
  obtain⟨j,hj,rfl⟩:=List.mem_iff_getElem.1 hn
  exact⟨j,(h j).2 hj,by simp[List.getD_eq_getElem?_getD,hj]⟩
theorem jbY {l:List Cl} {a b:List Nat} (h:∀ n,n∈a↔n∈b):YB l a=YB l b:=by
 apply List.ext_getElem?
 intro i
 simp only[gE,h i]
theorem jbX {l:List Bool} {a b:List Nat} (h:∀ n,n∈a↔n∈b):ge l a=ge l b:=by
 apply List.ext_getElem?
 intro i
 simp only[Um,h i]
theorem Ol:∀ (m:List Nat) (l:List Cl) (n:Nat),YB l (m++[n])=(YB l m).set n Cl.zero
 | [],l,n=>rfl
 |x::m,l,n=>by rw[List.cons_append,YB,Ol m,YB]
theorem Oj:∀ (m:List Nat) (l:List Bool) (n:Nat),ge l (m++[n])=(ge l m).set n false
 | [],l,n=>rfl
 |x::m,l,n=>by rw[List.cons_append,ge,Oj m,ge]
theorem X6 {l:List Nat} {j:Nat} {k x:AV} (h:(mkE l)[j]? =some (k,x)):∃ n:Nat,l[j]? =some n/\k= .i n:=by
 unfold mkE at h
 rw[List.getElem?_map] at h
 cases hj:l[j]? with
 |none=>rw[hj] at h;cases h
 |some n=>rw[hj] at h;cases h;exact⟨n,rfl,rfl⟩
theorem X7 (l:List Nat):(mkE l).length=l.length:=by simp[mkE]
theorem OK:∀ {L:List (Nat×AObj)} {id:Nat} {ob:AObj},jp L id=some ob->(id,ob)∈L
 | [],id,ob,h=>by cases h
 |(i,x)::L,id,ob,h=>by
  simp only[jp,jb] at h
  split at h
  ·rename_i e
   cases h
   rw[e]
   exact List.mem_cons_self
  ·exact List.mem_cons_of_mem _ (OK h)
def Q4:Nat->Option AV:=jL [(2,.ptr 5 0),(4,.ptr 6 0),(5,.ptr 2 0)]
def qK (o:Ow) (c:List Cl) (a:List Bool):List (Nat×AObj):=[(2,.cells [.rw 3,.rw 4]),(3,.row 10 (cl c)),(4,.row 1 (bl a)),(5,.cells [.mp 0,.mp 1,.sl (il o.ids)]),(6,.cells [.nilsl,.nilsl])]
def H1 (h:Hp) (o:Ow) (done:List Nat):Nat->Option AObj:=jp ((1,.map (mkE o.ags))::qK o (YB h.cells (pick o.cs done)) h.arenas)
def H2 (h:Hp) (o:Ow) (done:List Nat):Nat->Option AObj:=jp ((0,.map (mkE o.cs))::qK o (YB h.cells o.cs) (ge h.arenas (pick o.ags done)))
theorem X9 {o:Ow} {c:List Cl} {a:List Bool} {p:Nat×AObj} (hp:p∈qK o c a):p.1<7/\p.2.ids (· <7):=by
 simp only[qK,List.mem_cons,List.not_mem_nil,or_false] at hp
 rcases hp with rfl|rfl|rfl|rfl|rfl
 all_goals refine⟨(by simp only;omega),?_⟩
 all_goals simp[AObj.ids,AV.ids,AV.idsL,go_sem]
theorem Ul {h : Hp} (hl : h.cells.length <= 2 ^ 20) (hal : h.arenas.length <= 2 ^ 20) {o : Ow} (ho : o.Ok h) :
    ACall Tryd.prog 44 [.agg [.mp 0,.mp 1,.sl (il o.ids)],h.av] (jp [(0,.map (mkE o.cs)),(1,.map (mkE o.ags))]) 2 2
      (fun r hp'=>r= .agg [.rw 2,.rw 3]/\hp'=jp [(2,.row 10 (cl (j0 h o).cells)),(3,.row 1 (bl (j0 h o).arenas))]) (fun _ _=>False):=by
  have hcp:=jbW h hl hal
  rw[Hp.av_eq] at hcp ⊢
  refine ACall.of_bodyR Tryd.func44 jfW rfl (by simp[Tryd.f44]) fun E Q hE hN hQ hQp=>jg ?_
  repeat'(first|apply nx|refine zx ?_|rw[zw]|refine zk ?_|refine zp ?_|(apply zA;exact zb)|((first|refine zR hE @fun K Kp hK hKp hg=>?_|refine zT hE @fun K Kp hK hKp anc hanc hg=>?_|refine zF hE @fun K Kp hK hKp anc hanc hg=>?_|refine zg (fun hg=>?_) fun hg=>?_)<;>simp only[go_sem,hg])|(refine zc (fun hc=>?_) (fun hc=>?_)<;>try exact zh hc))
  refine Hold.mk (CallB.newRows hcp (by simp[AV.cloL,AV.clo]) (QP _) (QK _) ?_)
  simp only[go_sem]
  (repeat(first|rw[wrap64 (by omega) (by omega)]|((with_reducible refine And.intro ?_ ?_);(focus(first|trivial|omega|(simp only[Fits];omega)|assumption|(rw[hanc];first|rfl|exact⟨rfl,rfl⟩))))))
  refine hK.h _ ?_;clear hK hKp K Kp;try clear hanc anc
  repeat(first|refine jk ?_|refine jj ?_|refine jK ?_)
  have hes:∀ (l:List Nat) (p:AV×AV),p∈mkE l->p.1.clo=true/\p.2.clo=true:=fun l p hp=>by
    obtain⟨n,_,rfl⟩:=List.mem_map.1 hp
    exact⟨rfl,rfl⟩
  have hob:∀ (L:List (Nat×AObj)) (id:Nat) (ob:AObj),(∀ p,p∈L->p.1<7/\p.2.ids (· <7))->jp L id=some ob->id<7/\ob.ids (· <7):=fun L id ob hL hx=>hL _ (OK hx)
  have hfr:∀ t x,Q4 t=some x->x.ids (· <7):=fun t x hx=>by
    have:=YW hx
    simp only[List.mem_cons,List.not_mem_nil,or_false,Prod.mk.injEq] at this
    rcases this with ⟨_,rfl⟩|⟨_,rfl⟩|⟨_,rfl⟩
    · show 5<7;decide
    · show 6<7;decide
    · show 2<7;decide
  refine AW.ent (O':=⟨Q4,jb (H1 h o []) 0 (some (.map (mkE o.cs))),7⟩) (fun i=>if i=2 then 5242882 else if i=3 then 4194306 else if i=4 then 4194307 else if i=5 then 2 else if i=6 then 2097154 else i) ?_ ?_
  · show Ent _ _ _ (jx [(2,.ptr 5 0),(4,.ptr 6 0),(5,.ptr 2 0)] ((0,.map (mkE o.cs))::(1,.map (mkE o.ags))::qK o h.cells h.arenas) 7)
    unfold qK
    refine jc (by simp[go_sem]) (by simp[go_sem,Ji];exact⟨fun _ _=>jZ,fun _ _=>jZ⟩) (by simp) (fun id hid=>?_)
    rw[hN] at hid
    have:id=0\/id=1:=by omega
    rcases this with rfl|rfl<;>exact⟨rfl,by decide⟩
  refine Qa ?_
  refine qZ Q4 (H1 h o) 0 7 (mkE o.cs) Tryd.underlying99 (by rw[hN];decide) (by decide) (fun done=>rfl) hfr (fun done id ob hx=>hob _ _ _ (fun p hp=>?_) hx) (hes _) ?_ (by decide) (by rw[hE];decide) (by decide) (by rw[hE];simp) (by rw[hE];simp) ?_ ?_ ?_
  · rcases List.mem_cons.1 hp with rfl|hp
    · exact⟨(by simp only;omega),fun p hp=>jZ hp⟩
    · exact X9 hp
  · intro id hid
    have:id=0\/id=1\/id=2\/id=3\/id=4\/id=5\/id=6:=by omega
    rcases this with rfl|rfl|rfl|rfl|rfl|rfl|rfl
    · exact .inl rfl
    all_goals exact .inr ⟨_,rfl⟩
  · unfold Q4 H1 qK
    simp only[go_sem]
    refine⟨fun t x hx=>?_,fun id ob hx=>hx⟩
    by_cases e1:t=11
    · subst e1;simp at hx
    by_cases e2:t=10
    · subst e2;simp at hx
    rw[if_neg e1,if_neg e2]
    exact hx
  · intro done j k x hnd hlt hj hjk E' hE' hN'
    obtain⟨n,hn,rfl⟩:=X6 hjk
    obtain⟨c,hcc,_⟩:=ho.lt n (List.mem_of_getElem? hn)
    have hnl:n<(YB h.cells (pick o.cs done)).length:=by rw[gF];exact(List.getElem?_eq_some_iff.1 hcc).1
    have hE:E'.nt=34:=hE'.trans hE
    unfold H1
    rw[OP hn,Ol]
    generalize YB h.cells (pick o.cs done)=L at hnl
    unfold gp Q4 qK
    refine xm 3 10 (jg ?_)
    obtain⟨y,hy⟩:=get?_of hnl
    repeat'(first|apply nx|refine zx ?_|rw[zw]|refine zk ?_|refine zp ?_|(apply zA;exact zb)|((first|refine zR hE @fun K Kp hK hKp hg=>?_|refine zT hE @fun K Kp hK hKp anc hanc hg=>?_|refine zF hE @fun K Kp hK hKp anc hanc hg=>?_|refine zg (fun hg=>?_) fun hg=>?_)<;>simp only[go_sem,hy,Cl.av,Cl.cs_eq,hg])|(refine zc (fun hc=>?_) (fun hc=>?_)<;>try exact zh hc))
    refine jl ⟨rfl,_,cl (L.set n Cl.zero),(by simp only[jb,if_true]),by simp[jbS],U7 L n,rfl,fun i=>i,?_⟩
    show Ent _ _ _ (jx [(12,.ptr 7 0),(2,.ptr 5 0),(4,.ptr 6 0),(5,.ptr 2 0)] [(1,.map (mkE o.ags)),(2,.cells [.rw 3,.rw 4]),(3,.row 10 (cl (L.set n Cl.zero))),(4,.row 1 (bl h.arenas)),(5,.cells [.mp 0,.mp 1,.sl (il o.ids)]),(6,.cells [.nilsl,.nilsl])] 8)
    refine jc (by simp[go_sem]) (by simp[go_sem,Ji];exact fun _ _=>jZ) (by simp) (fun id hid=>⟨rfl,hid⟩)
  · intro done hnd hall
    have e1:YB h.cells (pick o.cs done)=YB h.cells o.cs:=jbY (UY (by simpa [X7] using hall))
    unfold H1
    rw[e1]
    refine jk ?_
    refine AW.ent (O':=⟨Q4,jb (H2 h o []) 1 (some (.map (mkE o.ags))),7⟩) (fun i=>i) ?_ ?_
    · show Ent _ _ _ (jx [(2,.ptr 5 0),(4,.ptr 6 0),(5,.ptr 2 0)] ((1,.map (mkE o.ags))::(0,.map (mkE o.cs))::qK o (YB h.cells o.cs) h.arenas) 7)
      unfold qK Q4
      refine jc (by simp[go_sem]) (by simp[go_sem,Ji];exact⟨fun _ _=>jZ,fun _ _=>jZ⟩) (by simp) (fun id hid=>⟨rfl,(by rw[hN] at hid;show id<7;omega)⟩)
    refine Qa ?_
    refine qZ Q4 (H2 h o) 1 7 (mkE o.ags) Tryd.underlying99 (by rw[hN];decide) (by decide) (fun done=>rfl) hfr (fun done id ob hx=>hob _ _ _ (fun p hp=>?_) hx) (hes _) ?_ (by decide) (by rw[hE];decide) (by decide) (by rw[hE];simp) (by rw[hE];simp) ?_ ?_ ?_
    · rcases List.mem_cons.1 hp with rfl|hp
      · exact⟨(by simp only;omega),fun p hp=>jZ hp⟩
      · exact X9 hp
    · intro id hid
      have:id=1\/id=0\/id=2\/id=3\/id=4\/id=5\/id=6:=by omega
      rcases this with rfl|rfl|rfl|rfl|rfl|rfl|rfl
      · exact .inl rfl
      all_goals exact .inr ⟨_,rfl⟩
    · unfold Q4 H2 qK
      simp only[go_sem]
      refine⟨fun t x hx=>?_,fun id ob hx=>hx⟩
      by_cases e1:t=23
      · subst e1;simp at hx
      by_cases e2:t=22
      · subst e2;simp at hx
      rw[if_neg e1,if_neg e2]
      exact hx
    · intro done j k x hnd hlt hj hjk E' hE' hN'
      obtain⟨n,hn,rfl⟩:=X6 hjk
      have haa:=ho.alt n (List.mem_of_getElem? hn)
      have hnl:n<(ge h.arenas (pick o.ags done)).length:=by rw[QR];exact(List.getElem?_eq_some_iff.1 haa).1
      have hE:E'.nt=34:=hE'.trans hE
      unfold H2
      rw[OP hn,Oj]
      generalize ge h.arenas (pick o.ags done)=L at hnl
      unfold gp Q4 qK
      obtain⟨y,hy⟩:=get?_of hnl
      refine jg ?_
      repeat'(first|apply nx|refine zx ?_|rw[zw]|refine zk ?_|refine zp ?_|(apply zA;exact zb)|((first|refine zR hE @fun K Kp hK hKp hg=>?_|refine zT hE @fun K Kp hK hKp anc hanc hg=>?_|refine zF hE @fun K Kp hK hKp anc hanc hg=>?_|refine zg (fun hg=>?_) fun hg=>?_)<;>simp only[go_sem,hy,hg])|(refine zc (fun hc=>?_) (fun hc=>?_)<;>try exact zh hc))
      refine jl ⟨rfl,fun i=>i,?_⟩
      show Ent _ _ _ (jx [(24,.ptr 7 0),(2,.ptr 5 0),(4,.ptr 6 0),(5,.ptr 2 0)] [(0,.map (mkE o.cs)),(2,.cells [.rw 3,.rw 4]),(3,.row 10 (cl (YB h.cells o.cs))),(4,.row 1 (bl (L.set n false))),(5,.cells [.mp 0,.mp 1,.sl (il o.ids)]),(6,.cells [.nilsl,.nilsl])] 8)
      refine jc (by simp[go_sem]) (by simp[go_sem,Ji];exact fun _ _=>jZ) (by simp) (fun id hid=>⟨rfl,hid⟩)
    · intro done hnd hall
      have e2:ge h.arenas (pick o.ags done)=ge h.arenas o.ags:=jbX (UY (by simpa [X7] using hall))
      unfold H2 qK Q4
      rw[e2]
      refine jk ?_
      repeat'(first|apply nx|refine zx ?_|rw[zw]|refine zk ?_|refine zp ?_|(apply zA;exact zb)|((first|refine zR hE @fun K Kp hK hKp hg=>?_|refine zT hE @fun K Kp hK hKp anc hanc hg=>?_|refine zF hE @fun K Kp hK hKp anc hanc hg=>?_|refine zg (fun hg=>?_) fun hg=>?_)<;>simp only[go_sem,hg])|(refine zc (fun hc=>?_) (fun hc=>?_)<;>try exact zh hc))
      refine je (hQ _ ⟨.agg [.rw 2,.rw 3],fun i=>if i=2 then 3 else if i=3 then 4 else i,_,4,rfl,(by simp[AV.ids,AV.idsL]),?_,rfl,rfl⟩).1
      show Ent _ _ _ (jx [] [(2,.row 10 (cl (YB h.cells o.cs))),(3,.row 1 (bl (ge h.arenas o.ags)))] 4)
      refine jc (by simp) (by simp[go_sem]) (by simp) (fun id hid=>?_)
      rw[if_neg (by omega),if_neg (by omega)]
      exact⟨rfl,by omega⟩

structure Sm (h:Hp) (v:Vl):Prop where
 l:h.cells.length<=2 ^ 20
 a:h.arenas.length<=2 ^ 20
 m:∀ c,c∈h.cells->c.v.sz<=2 ^ 20
 v:v.sz<=2 ^ 20
theorem jdX {h:Hp} {v:Vl} {o:Ow} (hw:yc h v=some o):o.Ok h:=(jD (jo h _) v _ _ (Ow.nil_ok h) hw).1
theorem OX {h:Hp} {v:Vl} (hm:Sm h v) (hw:yc h v=none):ACall Tryd.prog 39 [h.av,v.av] (fun _=>none) 0 0 (fun r hp'=>r= .tup [.agg [.nilmap,.nilmap,.nilsl],.bool false]/\hp'=jp []) (fun _ _=>False):=by
 have:=oR hm.l hm.a hm.m v hm.v
 rw[hw] at this
 exact this
theorem OY {h:Hp} {v:Vl} (hm:Sm h v) {o:Ow} (hw:yc h v=some o):ACall Tryd.prog 39 [h.av,v.av] (fun _=>none) 0 0 (fun r hp'=>r= .tup [.agg [.mp 2,.mp 3,.sl (il o.ids)],.bool true]/\hp'=jp [(2,.map (mkE o.cs)),(3,.map (mkE o.ags))]) (fun _ _=>False):=by
 have:=oR hm.l hm.a hm.m v hm.v
 rw[hw] at this
 exact this
theorem xi (o:Ow):∀ p,p∈ [(2,AObj.map (mkE o.cs)),(3,.map (mkE o.ags))]->p.1<1048576/\p.2.ids (· <1048576):=by
 intro p hp
 simp only[List.mem_cons,List.not_mem_nil,or_false] at hp
 rcases hp with rfl|rfl
 ·exact⟨(by simp only;omega),fun p hp=>jZ hp⟩
 ·exact⟨(by simp only;omega),fun p hp=>jZ hp⟩
def obC (o:Ow):Nat->Option AObj:=jp [(0,.map (mkE o.cs)),(1,.map (mkE o.ags))]
theorem jhS (o:Ow) (id:Nat) (h:id<2):obC o id≠none:=by
 have:id=0\/id=1:=by omega
 rcases this with rfl|rfl<;>simp[obC,jp,jb]
theorem OM {o:Ow} {id:Nat} {ob:AObj} (h:obC o id=some ob):(id=0/\ob= .map (mkE o.cs))\/(id=1/\ob= .map (mkE o.ags)):=by
 simp only[obC,jp,jb] at h
 repeat' split at h
 all_goals first|(cases h;done)|skip
 all_goals cases h;subst_vars
 all_goals simp

def jb5 (h:Hp) (v:Vl):Int:=match yc h v with|some o=>o.ids.length|none=>0
theorem xH (h:Hp) (v:Vl) (hm:Sm h v):PCall Tryd.prog 25 [h.av,v.av] (.i (jb5 h v)):=by
 unfold jb5
 cases hs:yc h v with
 |none=>
  have hw:=OX hm hs
  rw[Hp.av_eq,Vl.av_eq] at hw ⊢
  refine pI Tryd.func25 jfU fun E Q hE hN hQ=>?_
  repeat'(first|apply nx|refine zx ?_|rw[zw]|refine zk ?_|refine zp ?_|(apply zA;exact zb)|((first|refine zR hE fun hg=>?_|refine zT hE fun hanc hg=>?_|refine zF hE fun hanc hg=>?_|refine zg (fun hg=>?_) fun hg=>?_)<;>simp only[go_sem,hg])|(refine zc (fun hc=>?_) (fun hc=>?_)<;>try exact zh hc))
  refine Hold.mk (CallB.newP hw (by simp[AV.cloL,AV.clo]) (by simp[AV.ids,AV.idsL]) (by simp) ?_)
  simp only[go_sem]
  repeat'(first|apply nx|refine zx ?_|rw[zw]|refine zk ?_|refine zp ?_|(apply zA;exact zb)|((first|refine zR hE fun hg=>?_|refine zF hE fun hanc hg=>?_|refine zg (fun hg=>?_) fun hg=>?_)<;>simp only[go_sem,hg])|(refine zc (fun hc=>?_) (fun hc=>?_)<;>try exact zh hc)|(refine je ?_;refine zt hQ ?_))
  simp[AV.snap,go_sem]
 |some o=>
  have hw:=OY hm hs
  rw[Hp.av_eq,Vl.av_eq] at hw ⊢
  refine pI Tryd.func25 jfU fun E Q hE hN hQ=>?_
  repeat'(first|apply nx|refine zx ?_|rw[zw]|refine zk ?_|refine zp ?_|(apply zA;exact zb)|((first|refine zR hE fun hg=>?_|refine zT hE fun hanc hg=>?_|refine zF hE fun hanc hg=>?_|refine zg (fun hg=>?_) fun hg=>?_)<;>simp only[go_sem,hg])|(refine zc (fun hc=>?_) (fun hc=>?_)<;>try exact zh hc))
  refine Hold.mk (CallB.newP hw (by simp[AV.cloL,AV.clo]) (by simp[AV.ids,AV.idsL]) (xi o) ?_)
  simp only[go_sem,Ji]
  repeat'(first|apply nx|refine zx ?_|rw[zw]|refine zk ?_|refine zp ?_|(apply zA;exact zb)|((first|refine zR hE fun hg=>?_|refine zF hE fun hanc hg=>?_|refine zg (fun hg=>?_) fun hg=>?_)<;>simp only[go_sem,hg])|(refine zc (fun hc=>?_) (fun hc=>?_)<;>try exact zh hc)|(refine je ?_;refine zt hQ ?_))
  simp[AV.snap,go_sem]
end Go.Proofs.YtfpcjabbcpgbjaaDoor

set_option maxHeartbeats 4000000
set_option maxRecDepth 100000
namespace Go.Proofs.YtfpcjabbcpgbjaaDoor
open Go.Am Go.Proofs Go.Hv Go.Gl
open Classical
attribute [local irreducible] AW jA CallB CallY
theorem qj (a b:Ty) (r:Bool) (h:smB exD a b=r) (ha:a.sz<=2 ^ 30) (hb:b.sz<=2 ^ 30) (hu:(uni exD [a,b]).length<=2 ^ 30) {x y:AV} (hx:a.av=x) (hy:b.av=y):PCall Tryd.prog 10 [.sl (ddl exD),x,y] (.bool r):=by
 subst hx hy
 rw[<- h]
 exact Xo jeE jeH ha hb hu
theorem QC {a b:List Int} (ha:a.length<=2 ^ 40) (h:a=b) {x:List AV} (hx:il b=x):PCall Tryd.prog 11 [.sl (il a),.sl x] (.bool true):=by
 subst hx h
 have:=jcP a a ha
 rwa [decide_eq_true rfl] at this
theorem jan (t:Ty) (l:List Int) (hp:plB exD t 8=true) (h:U8 exD t=l) (ht:t.sz<=2 ^ 30) (hu:(uni exD [t]).length<=2 ^ 21) {x:AV} (hx:t.av=x):PCall Tryd.prog 9 [.sl (ddl exD),x] (.sl (il l)):=by
 subst hx
 have:=jfs jeE jeH jnC ht hu
 rw[show shp exD t=l from by simp[shp,QY,hp,h]] at this
 exact this
theorem jez (l:List Fx):j8 (fxl l):=by
 intro x hx c hc
 obtain⟨p,_,rfl⟩:=List.mem_map.1 hx
 simp only[AV.cells,Fx.av,Fx.cs,List.mem_cons,List.not_mem_nil,or_false] at hc
 rcases hc with rfl|rfl|rfl|rfl|rfl|rfl|rfl|rfl|rfl|rfl|rfl<;>rfl
theorem smE:Sm hp0 (.mk 1 0 0 0 [] false [] []):=⟨by decide,by decide,fun c hc=>(by cases hc),by decide⟩
theorem jhB:PCall Tryd.prog 7 [] (.bool true):=by
 have c0:=jf5 0 0
 have c1:=jf5 3 2
 have c2:=UN
 rw[Dd.av_eq] at c0 c1
 refine pI Tryd.func7 joe fun E Q hE hN hQ=>?_
 repeat'(first|apply nx|refine zx ?_|rw[zw]|refine zk ?_|refine zp ?_|(apply zA;exact zb)|((fail_if_success refine j3 2 ?_);(first|refine zR hE fun hg=>?_|refine zT hE fun hanc hg=>?_|refine zF hE fun hanc hg=>?_|(apply zM;exact zu;(first|exact c0|exact c1|exact c2);exact zs;exact zl;intro hg)|refine zg (fun hg=>?_) fun hg=>?_)<;>simp only[go_sem,List.mem_cons,List.not_mem_nil,or_false,hg])|(refine zc (fun hc=>?_) (fun hc=>?_)<;>try exact zh hc))
 refine AW.dfrL [5242880,7340032,9437184] 8 [(0,.bool false),(1,.sl (ddl exD))] ?_ ?_
 ·intro p hp
  simp only[List.mem_cons,List.not_mem_nil,or_false] at hp
  rcases hp with rfl|rfl
  ·exact⟨.bool false,by simp only[go_sem],trivial,rfl⟩
  ·exact⟨.rw 9437184,by simp only[go_sem,List.mem_cons,List.not_mem_nil,or_false],by simp[go_sem,AV.cells,AV.clo],by simp[go_sem];rfl⟩
 refine AW.ent (O':=jx [(0,.bool false),(1,.sl (ddl exD))] [] 0) (fun i=>i) (by refine jc (by simp[go_sem]) (by simp[go_sem]) (by simp) (by simp[hN])) ?_
 have d0:PCall Tryd.prog 22 [.i 0] (.agg [.i 2,.i 0,.sl []]):=Ga 0
 have d1:PCall Tryd.prog 22 [.i 1] (.agg [.i 2,.i 1,.sl []]):=Ga 1
 have d2:PCall Tryd.prog 22 [.i 2] (.agg [.i 2,.i 2,.sl []]):=Ga 2
 have d3:PCall Tryd.prog 22 [.i 3] (.agg [.i 2,.i 3,.sl []]):=Ga 3
 have d9:PCall Tryd.prog 22 [.i 9] (.agg [.i 2,.i 9,.sl []]):=Ga 9
 have bx:PCall Tryd.prog 21 [.agg [.i 1,.i 0,.sl []]] (.agg [.i 3,.i 0,.sl [.agg [.i 1,.i 0,.sl []]]]):=jbL 1 0 [] rfl
 have s1:=qj (dtT 0) (dtT 1) true jct (by decide) (by decide) (by decide) (x:= .agg [.i 2,.i 0,.sl []]) (y:= .agg [.i 2,.i 1,.sl []]) rfl rfl
 have s2:=qj (dtT 0) (dtT 2) false jkj (by decide) (by decide) (by decide) (x:= .agg [.i 2,.i 0,.sl []]) (y:= .agg [.i 2,.i 2,.sl []]) rfl rfl
 have s3:=qj intT (chT intT) false jkr (by decide) (by decide) (by decide) (x:= .agg [.i 1,.i 0,.sl []]) (y:= .agg [.i 4,.i 0,.sl [.agg [.i 1,.i 0,.sl []]]]) rfl rfl
 have s4:=qj (chT (bxT intT)) (chT intT) true jkq (by decide) (by decide) (by decide) (x:= .agg [.i 4,.i 0,.sl [.agg [.i 3,.i 0,.sl [.agg [.i 1,.i 0,.sl []]]]]]) (y:= .agg [.i 4,.i 0,.sl [.agg [.i 1,.i 0,.sl []]]]) rfl rfl
 have s5:=qj (dtT 0) (dtT 9) false jkk (by decide) (by decide) (by decide) (x:= .agg [.i 2,.i 0,.sl []]) (y:= .agg [.i 2,.i 9,.sl []]) rfl rfl
 have p0:=jan (dtT 0) _ um jgN (by decide) (by decide) (x:= .agg [.i 2,.i 0,.sl []]) rfl
 have p3:=jan (dtT 3) _ xO jgO (by decide) (by decide) (x:= .agg [.i 2,.i 3,.sl []]) rfl
 have cc:PCall Tryd.prog 12 [.sl (ddl exD),.sl [.agg [.i 2,.i 2,.sl []],.agg [.i 2,.i 0,.sl []],.agg [.i 1,.i 0,.sl []],.agg [.i 2,.i 1,.sl []],.agg [.i 1,.i 0,.sl []]]] (.sl (il [0,1,2,1,2])):=by
  have:=jaJ jeE jeH (l:=[dtT 2,dtT 0,intT,dtT 1,intT]) (by decide) (by decide) (fun x t hx ht=>by simp only[List.mem_cons,List.not_mem_nil,or_false] at hx ht;rcases hx with rfl|rfl|rfl|rfl|rfl<;>rcases ht with rfl|rfl|rfl|rfl|rfl<;>decide)
  rw[jgI] at this
  exact this
 have i1:=QC (a:=[2,0,2,0,2,1,2,1,3,0]) (by decide) rfl rfl
 have i2:=QC (a:=[2,0,1,1,1,1]) (by decide) rfl rfl
 have i3:=QC (a:=[0,1,2,1,2]) (by decide) rfl rfl
 have i4:=QC (a:=[0,1,0]) (by decide) rfl rfl
 simp only[il,List.map_cons,List.map_nil] at i1 i2 i3 i4 p0 p3 cc
 repeat'(first|apply nx|refine zx ?_|rw[zw]|refine zk ?_|refine zp ?_|(apply zA;exact zb)|((fail_if_success refine j3 3 ?_);(first|refine zR hE fun hg=>?_|refine zT hE fun hanc hg=>?_|refine zF hE fun hanc hg=>?_|(apply zM;exact zu;exact c2;exact zs;exact zl;intro hg)|refine zg (fun hg=>?_) fun hg=>?_)<;>simp only[go_sem,hg])|(refine zc (fun hc=>?_) (fun hc=>?_)<;>try exact zh hc))
 refine AW.ent (O':=jx [(0,.bool false),(1,.sl (ddl exD)),(2,.ptr 0 0)] [(0,.cells [.i 4,.i 0,.rw 1]),(1,.row 3 [.agg [.i 1,.i 0,.sl []]])] 2) (fun i=>if i=0 then 3145728 else 1048576) (by refine jc (by simp[go_sem]) (by simp[go_sem]) (by simp) (by simp[hN])) ?_
 refine JE 0 2 1 (sz:=3) (l:=[.i 4,.i 0,.rw 1]) (xs:=[.agg [.i 1,.i 0,.sl []]]) (by simp only[go_sem]) rfl (by simp only[go_sem]) (by decide) (by simp[j8,AV.cells,AV.clo]) ?_
 repeat'(first|apply nx|refine zx ?_|rw[zw]|refine zk ?_|refine zp ?_|(apply zA;exact zb)|((fail_if_success refine j3 4 ?_);(first|refine zR hE fun hg=>?_|refine zT hE fun hanc hg=>?_|refine zF hE fun hanc hg=>?_|(apply zM;exact zu;(first|exact c2|exact bx);exact zs;exact zl;intro hg)|refine zg (fun hg=>?_) fun hg=>?_)<;>simp only[go_sem,hg])|(refine zc (fun hc=>?_) (fun hc=>?_)<;>try exact zh hc))
 refine AW.ent (O':=jx [(0,.bool false),(1,.sl (ddl exD)),(2,.ptr 0 0),(3,.ptr 1 0)] [(0,.cells [.i 4,.i 0,.sl [.agg [.i 1,.i 0,.sl []]]]),(1,.cells [.i 4,.i 0,.rw 2]),(2,.row 3 [.agg [.i 3,.i 0,.sl [.agg [.i 1,.i 0,.sl []]]]])] 3) (fun i=>if i=1 then 4194306 else if i=2 then 2097154 else i) (by refine jc (by simp[go_sem]) (by simp[go_sem]) (by simp) (by simp[hN])) ?_
 refine JE 1 2 2 (sz:=3) (l:=[.i 4,.i 0,.rw 2]) (xs:=[.agg [.i 3,.i 0,.sl [.agg [.i 1,.i 0,.sl []]]]]) (by simp only[go_sem]) rfl (by simp only[go_sem]) (by decide) (by simp[j8,AV.cells,AV.clo]) ?_
 repeat'(first|apply nx|refine zx ?_|rw[zw]|refine zk ?_|refine zp ?_|(apply zA;exact zb)|((fail_if_success refine j3 5 ?_);(first|refine zR hE fun hg=>?_|refine zT hE fun hanc hg=>?_|refine zF hE fun hanc hg=>?_|(apply zM;exact zu;(first|exact c2|exact bx|exact d0|exact d1|exact d2|exact d9|exact s1|exact s2|exact s3|exact s4|exact s5);exact zs;exact zl;intro hg)|refine zg (fun hg=>?_) fun hg=>?_)<;>simp only[go_sem,hg])|(refine zc (fun hc=>?_) (fun hc=>?_)<;>try exact zh hc))
 refine AW.ent (O':=jx [(0,.bool false),(1,.sl (ddl exD)),(4,.bool true)] [] 0) (fun i=>i) (by refine jc (by simp[go_sem]) (by simp[go_sem]) (by simp) (by simp[hN])) ?_
 repeat'(first|apply nx|refine zx ?_|rw[zw]|refine zk ?_|refine zp ?_|(apply zA;exact zb)|((fail_if_success refine j3 6 ?_);(first|refine zR hE fun hg=>?_|refine zT hE fun hanc hg=>?_|refine zF hE fun hanc hg=>?_|(apply zM;exact zu;(first|exact c2|exact d0|exact d1|exact d2|exact d3|exact p0|exact p3|exact i1|exact i2|exact i3);exact zs;exact zl;intro hg)|refine zg (fun hg=>?_) fun hg=>?_)<;>simp only[go_sem,hg])|(refine zc (fun hc=>?_) (fun hc=>?_)<;>try exact zh hc))
 refine Hold.mk (CallB.dpure [19922944] 8 cc (by simp only[go_sem,List.mem_cons,List.not_mem_nil,or_false]) (by simp[go_sem,AV.cells,AV.clo]) (fun _=>rfl) (fun _=>by simp[AV.snapOkL,AV.snapOk]) rfl ?_)
 simp only[go_sem]
 repeat'(first|apply nx|refine zx ?_|rw[zw]|refine zk ?_|refine zp ?_|(apply zA;exact zb)|((fail_if_success refine j3 6 ?_);(first|refine zR hE fun hg=>?_|refine zT hE fun hanc hg=>?_|refine zF hE fun hanc hg=>?_|(apply zM;exact zu;exact i3;exact zs;exact zl;intro hg)|refine zg (fun hg=>?_) fun hg=>?_)<;>simp only[go_sem,hg])|(refine zc (fun hc=>?_) (fun hc=>?_)<;>try exact zh hc))
 refine AW.ent (O':=jx [(0,.bool false),(1,.sl (ddl exD)),(4,.bool true),(5,.bool true)] [] 0) (fun i=>i) (by refine jc (by simp[go_sem]) (by simp[go_sem]) (by simp) (by simp[hN])) ?_
 repeat'(first|apply nx|refine zx ?_|rw[zw]|refine zk ?_|refine zp ?_|(apply zA;exact zb)|((fail_if_success refine j3 7 ?_);(first|refine zR hE fun hg=>?_|refine zT hE fun hanc hg=>?_|refine zF hE fun hanc hg=>?_|(apply zM;exact zu;(first|exact c2|exact d0|exact d1|exact d2);exact zs;exact zl;intro hg)|refine zg (fun hg=>?_) fun hg=>?_)<;>simp only[go_sem,hg])|(refine zc (fun hc=>?_) (fun hc=>?_)<;>try exact zh hc))
 refine AW.ent (O':=jx [(0,.bool false),(1,.sl (ddl exD)),(4,.bool true),(5,.bool true),(6,.ptr 0 0)] [(0,.cells [.str ⟨#[]⟩,.i 0,.i 0,.nilsl,.i 0,.i 1,.i 0,.sl [],.rw 1,.nilsl,.nilsl]),(1,.row 3 [(.agg [.i 2,.i 0,.sl []]),(.agg [.i 1,.i 0,.sl []])])] 2) (fun i=>if i=0 then 5242880 else if i=1 then 3145728 else i) (by refine jc (by simp[go_sem]) (by simp[go_sem]) (by simp) (by simp[hN])) ?_
 refine JE 0 8 1 (sz:=3) (l:=[.str ⟨#[]⟩,.i 0,.i 0,.nilsl,.i 0,.i 1,.i 0,.sl [],.rw 1,.nilsl,.nilsl]) (xs:=[(.agg [.i 2,.i 0,.sl []]),(.agg [.i 1,.i 0,.sl []])]) (by simp only[go_sem]) rfl (by simp only[go_sem]) (by decide) (by simp[j8,AV.cells,AV.clo]) ?_
 repeat'(first|apply nx|refine zx ?_|rw[zw]|refine zk ?_|refine zp ?_|(apply zA;exact zb)|((fail_if_success refine j3 8 ?_);(first|refine zR hE fun hg=>?_|refine zT hE fun hanc hg=>?_|refine zF hE fun hanc hg=>?_|(apply zM;exact zu;(first|exact c2|exact d0|exact d1|exact d2);exact zs;exact zl;intro hg)|refine zg (fun hg=>?_) fun hg=>?_)<;>simp only[go_sem,hg])|(refine zc (fun hc=>?_) (fun hc=>?_)<;>try exact zh hc))
 refine AW.ent (O':=jx [(0,.bool false),(1,.sl (ddl exD)),(4,.bool true),(5,.bool true),(6,.ptr 0 0),(7,.ptr 1 0)] [(0,.cells [.str ⟨#[]⟩,.i 0,.i 0,.nilsl,.i 0,.i 1,.i 0,.sl [],.sl [(.agg [.i 2,.i 0,.sl []]),(.agg [.i 1,.i 0,.sl []])],.nilsl,.nilsl]),(1,.cells [.str ⟨#[]⟩,.i 0,.i 0,.nilsl,.i 0,.i 1,.i 0,.sl [],.rw 2,.nilsl,.nilsl]),(2,.row 3 [(.agg [.i 2,.i 1,.sl []]),(.agg [.i 1,.i 0,.sl []])])] 3) (fun i=>if i=1 then 5242882 else if i=2 then 3145730 else i) (by refine jc (by simp[go_sem]) (by simp[go_sem]) (by simp) (by simp[hN])) ?_
 refine JE 1 8 2 (sz:=3) (l:=[.str ⟨#[]⟩,.i 0,.i 0,.nilsl,.i 0,.i 1,.i 0,.sl [],.rw 2,.nilsl,.nilsl]) (xs:=[(.agg [.i 2,.i 1,.sl []]),(.agg [.i 1,.i 0,.sl []])]) (by simp only[go_sem]) rfl (by simp only[go_sem]) (by decide) (by simp[j8,AV.cells,AV.clo]) ?_
 repeat'(first|apply nx|refine zx ?_|rw[zw]|refine zk ?_|refine zp ?_|(apply zA;exact zb)|((fail_if_success refine j3 9 ?_);(first|refine zR hE fun hg=>?_|refine zT hE fun hanc hg=>?_|refine zF hE fun hanc hg=>?_|(apply zM;exact zu;(first|exact c2|exact d0|exact d1|exact d2);exact zs;exact zl;intro hg)|refine zg (fun hg=>?_) fun hg=>?_)<;>simp only[go_sem,hg])|(refine zc (fun hc=>?_) (fun hc=>?_)<;>try exact zh hc))
 refine AW.ent (O':=jx [(0,.bool false),(1,.sl (ddl exD)),(4,.bool true),(5,.bool true),(6,.ptr 0 0),(7,.ptr 1 0),(8,.ptr 2 0)] [(0,.cells [.str ⟨#[]⟩,.i 0,.i 0,.nilsl,.i 0,.i 1,.i 0,.sl [],.sl [(.agg [.i 2,.i 0,.sl []]),(.agg [.i 1,.i 0,.sl []])],.nilsl,.nilsl]),(1,.cells [.str ⟨#[]⟩,.i 0,.i 0,.nilsl,.i 0,.i 1,.i 0,.sl [],.sl [(.agg [.i 2,.i 1,.sl []]),(.agg [.i 1,.i 0,.sl []])],.nilsl,.nilsl]),(2,.cells [.str ⟨#[]⟩,.i 0,.i 0,.nilsl,.i 0,.i 1,.i 0,.sl [],.rw 3,.nilsl,.nilsl]),(3,.row 3 [(.agg [.i 2,.i 2,.sl []]),(.agg [.i 1,.i 0,.sl []])])] 4) (fun i=>if i=2 then 5242883 else if i=3 then 3145731 else i) (by refine jc (by simp[go_sem]) (by simp[go_sem]) (by simp) (by simp[hN])) ?_
 refine JE 2 8 3 (sz:=3) (l:=[.str ⟨#[]⟩,.i 0,.i 0,.nilsl,.i 0,.i 1,.i 0,.sl [],.rw 3,.nilsl,.nilsl]) (xs:=[(.agg [.i 2,.i 2,.sl []]),(.agg [.i 1,.i 0,.sl []])]) (by simp only[go_sem]) rfl (by simp only[go_sem]) (by decide) (by simp[j8,AV.cells,AV.clo]) ?_
 repeat'(first|apply nx|refine zx ?_|rw[zw]|refine zk ?_|refine zp ?_|(apply zA;exact zb)|((fail_if_success refine j3 10 ?_);(first|refine zR hE fun hg=>?_|refine zT hE fun hanc hg=>?_|refine zF hE fun hanc hg=>?_|refine zg (fun hg=>?_) fun hg=>?_)<;>simp only[go_sem,hg])|(refine zc (fun hc=>?_) (fun hc=>?_)<;>try exact zh hc))
 refine AW.ent (O':=jx [(0,.bool false),(1,.sl (ddl exD)),(4,.bool true),(5,.bool true),(9,.ptr 0 0)] [(0,.cells [.nilsl,.nilsl,.sl (ddl exD),.nilsl,.nilsl,.nilsl,.rw 1,.i 0]),(1,.row 11 [.agg [.str ⟨#[]⟩,.i 0,.i 0,.nilsl,.i 0,.i 1,.i 0,.sl [],.sl [(.agg [.i 2,.i 0,.sl []]),(.agg [.i 1,.i 0,.sl []])],.nilsl,.nilsl],.agg [.str ⟨#[]⟩,.i 0,.i 0,.nilsl,.i 0,.i 1,.i 0,.sl [],.sl [(.agg [.i 2,.i 2,.sl []]),(.agg [.i 1,.i 0,.sl []])],.nilsl,.nilsl],.agg [.str ⟨#[]⟩,.i 0,.i 0,.nilsl,.i 0,.i 1,.i 0,.sl [],.sl [(.agg [.i 2,.i 1,.sl []]),(.agg [.i 1,.i 0,.sl []])],.nilsl,.nilsl]])] 2) (fun i=>if i=0 then 6291460 else if i=1 then 4194308 else i) (by refine jc (by simp[go_sem]) (by simp[go_sem]) (by simp) (by simp[hN])) ?_
 refine AW_snpRow (sz:=11) (l:=[.agg [.str ⟨#[]⟩,.i 0,.i 0,.nilsl,.i 0,.i 1,.i 0,.sl [],.sl [(.agg [.i 2,.i 0,.sl []]),(.agg [.i 1,.i 0,.sl []])],.nilsl,.nilsl],.agg [.str ⟨#[]⟩,.i 0,.i 0,.nilsl,.i 0,.i 1,.i 0,.sl [],.sl [(.agg [.i 2,.i 2,.sl []]),(.agg [.i 1,.i 0,.sl []])],.nilsl,.nilsl],.agg [.str ⟨#[]⟩,.i 0,.i 0,.nilsl,.i 0,.i 1,.i 0,.sl [],.sl [(.agg [.i 2,.i 1,.sl []]),(.agg [.i 1,.i 0,.sl []])],.nilsl,.nilsl]]) (l':=fxl [Qr,oV,oW]) 1 (by simp only[go_sem]) (fun y hy=>?_) rfl ?_
 ·simp only[List.mem_cons,List.not_mem_nil,or_false] at hy
  rcases hy with rfl|rfl|rfl<;>simp[AV.snapOk,AV.snapOkL]
 refine JE 0 6 1 (sz:=11) (l:=[.nilsl,.nilsl,.sl (ddl exD),.nilsl,.nilsl,.nilsl,.rw 1,.i 0]) (xs:=fxl [Qr,oV,oW]) (by simp only[go_sem]) rfl (by simp only[go_sem]) (by decide) (jez _) ?_
 have em:PCall Tryd.prog 23 [.agg [.sl [],.sl [],.sl (ddl exD),.sl [],.sl [],.sl [],.sl (fxl [Qr,oV,oW]),.i 0]] (.sl [.i 0,.i 1,.i 0]):=jcu
 have ec:PCall Tryd.prog 24 [.agg [.i 1,.i 0,.sl []]] (.bool true):=xG
 have en:PCall Tryd.prog 26 [] (.agg [.sl [],.sl []]):=jc6
 have eq:PCall Tryd.prog 25 [.agg [.sl [],.sl []],.agg [.i 1,.i 0,.i 0,.i 0,.sl [],.bool false,.sl [],.sl []]] (.i 0):=by
  have:=xH hp0 (.mk 1 0 0 0 [] false [] []) smE
  exact this
 repeat'(first|apply nx|refine zx ?_|rw[zw]|refine zk ?_|refine zp ?_|(apply zA;exact zb)|((first|refine zR hE fun hg=>?_|refine zF hE fun hanc hg=>?_|(apply zM;exact zu;(first|exact c2|exact em|exact i4|exact ec|exact en|exact eq);exact zs;exact zl;intro hg)|refine zg (fun hg=>?_) fun hg=>?_)<;>simp only[go_sem,hg])|(refine zc (fun hc=>?_) (fun hc=>?_)<;>try exact zh hc)|(refine je ?_;refine zt hQ ?_))
 simp[AV.snap]
end Go.Proofs.YtfpcjabbcpgbjaaDoor

namespace Go.Gl
open Go Go.Am Go.Hv Go.Proofs.YtfpcjabbcpgbjaaDoor
mutual
theorem UI:∀ t:Ty,(Gt (ky t)).length<=t.sz+1
 | .mk k i a=>by
  rw[ky,Ty.sz]
  split
  ·simp[Gt]
  ·split
   ·rw[Gt,List.length_cons];have:=jbb a;omega
   ·simp[Gt]
theorem jbb:∀ l:List Ty,(Gt (kyL l)).length<=Ty.szL l+1
 | []=>by simp[kyL,Gt]
 |t::l=>by rw[kyL,Ty.szL];have:=UI t;omega
end
theorem jcB (l:List Ty):(l.flatMap fun t=>Gt (ky t)).length<=2*Ty.szL l:=by
 induction l with
 |nil=>simp
 |cons t l ih=>
  rw[List.flatMap_cons,List.length_append,Ty.szL]
  have:=UI t
  have:1<=t.sz:=by rw[Ty.sz_eq];omega
  omega
theorem uP (a b:List Ty):Ty.szL (a++b)=Ty.szL a+Ty.szL b:=by simp[Ty.szL_eq]
theorem jfA (D:List Dd) (l:List Ty):(uni D l).length<=2*(Ty.szL l+Ty.szL (Ub D)):=by
 have:=jcB (l++Ub D)
 rw[uP] at this
 exact this
def dSz (D:List Dd):Nat:=(D.map fun x=>1+(x.vs.map Dv.sz).sum).sum
theorem oF {α:Type} (f:α->Nat):∀ {l:List α} {x:α},x∈l->f x<=(l.map f).sum
 |y::l,x,h=>by
  rw[List.map_cons,List.sum_cons]
  rcases List.mem_cons.1 h with rfl|h
  ·omega
  ·have:=oF f h;omega
theorem og {α:Type} (f:α->Nat) (h:∀ x,1<=f x):∀ l:List α,l.length<=(l.map f).sum
 | []=>Nat.zero_le _
 |y::l=>by rw[List.map_cons,List.sum_cons,List.length_cons];have:=og f h l;have:=h y;omega
theorem XW (l:List Dv):Ty.szL (l.flatMap Dv.fs)<=(l.map Dv.sz).sum:=by
 induction l with
 |nil=>simp[Ty.szL]
 |cons v l ih=>rw[List.flatMap_cons,uP,List.map_cons,List.sum_cons,Dv.sz];omega
theorem jej (D:List Dd):Ty.szL (Ub D)<=dSz D:=by
 induction D with
 |nil=>simp[Ub,Ty.szL,dSz]
 |cons x D ih=>
  have e:Ub (x::D)=x.vs.flatMap Dv.fs++Ub D:=by simp[Ub]
  have:=XW x.vs
  rw[e,uP]
  simp only[dSz,List.map_cons,List.sum_cons] at ih ⊢
  omega
theorem jj1 {D:List Dd} (h:dSz D<=2 ^ 20):DB D:=by
 have h0:=og (fun x:Dd=>1+(x.vs.map Dv.sz).sum) (fun x=>by omega) D
 have h1:∀ x,x∈D->(x.vs.map Dv.sz).sum<=2 ^ 20:=fun x hx=>by
  have:=oF (fun x:Dd=>1+(x.vs.map Dv.sz).sum) hx
  simp only[dSz] at h;omega
 have h2:∀ x,x∈D->∀ v,v∈x.vs->Ty.szL v.fs<=2 ^ 20:=fun x hx v hv=>by
  have:=oF Dv.sz hv
  have:=h1 x hx
  simp only[Dv.sz] at*;omega
 refine⟨by simp only[dSz] at h;omega,fun x hx=>?_,fun x hx v hv=>?_,fun x hx v hv t ht=>?_,fun x hx=>?_⟩
 ·have:=og Dv.sz (fun v=>by rw[Dv.sz];omega) x.vs;have:=h1 x hx;omega
 ·have:=Ty.len_le v.fs;have:=h2 x hx v hv;omega
 ·have:=Ty.sz_mem ht;have:=h2 x hx v hv;omega
 ·have:=Ty.len_le (x.vs.flatMap Dv.fs);have:=XW x.vs;have:=h1 x hx;omega
end Go.Gl
