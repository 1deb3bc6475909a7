/- A part of the proof: an abstract machine for the walks, and what the walked functions compute. -/
import Derived.Test.YtfgjjnfdcgkpoaaCe
import Derived.Test.YtfgjjnfdcgkpoaaHw
set_option linter.unusedVariables false
set_option linter.unusedSimpArgs false
set_option maxHeartbeats 4000000
set_option maxRecDepth 100000
namespace Go.Proofs.Ytfgjjnfdcgkpoaa
open Go.Am Go.Proofs Go.Hv
open Classical
attribute [local irreducible] AW CallP CallB CallY
structure Dt where
 nm:ByteArray
 md:Int
 pr:Int
 vs:List AV
 dr:Int
def Dt.av (d:Dt):AV:= .agg [.str d.nm,.i d.md,.i d.pr,.sl d.vs,.i d.dr]
theorem Dt.av_clo (d:Dt):d.av.clo=true:=rfl
def dl (l:List Dt):List AV:=l.map Dt.av
@[go_sem] theorem dl_len (l:List Dt):(dl l).length=l.length:=List.length_map ..
@[go_sem] theorem dl_get (l:List Dt) (i:Nat):(dl l)[i]? =(l[i]?).map Dt.av:=List.getElem?_map ..
theorem dl_clo (l:List Dt):AV.cloL (dl l)=true:=cloLeq _ fun x hx=>by obtain⟨c,_,rfl⟩:=List.mem_map.1 hx;exact c.av_clo
@[go_sem] theorem dl_ren (m:Nat→Nat) (l:List Dt):AV.renL m (dl l)=dl l:=cloL_renL (dl_clo l)
@[go_sem] theorem dl_ids (p:Nat→Prop) (l:List Dt):AV.idsL p (dl l)=True:=eq_true (cloL_idsL (dl_clo l))
def drs (l:List Dt):List Int:=l.map Dt.dr
theorem drs_get {l:List Dt} {i:Nat} {d:Dt} (h:l[i]? =some d):(drs l).getD i 0=d.dr:=by simp[drs,List.getD_eq_getElem?_getD,h]
abbrev drpF:AV:= .fn (.func 74) [] [.ptr 0 0,.ptr 1 0,.ptr 2 0,.ptr 3 0,.ptr 4 0,.ptr 5 0]
def objP (D:List Dt) (h:Hp) (f:Fa):Nat→Option AObj:=mkHp [(0,.cells [.bool f.pan]),(1,.cells [.i (f.cnt:Int)]),(2,.cells [.sl (dl D)]),(3,.cells [.rw 6]),(4,.cells [drpF]),(5,.cells h.cs),(6,.row 1 (il f.out))]
section
variable (D:List Dt) (h:Hp) (f:Fa)
theorem objP_0:objP D h f 0=some (.cells [.bool f.pan]):=rfl
theorem objP_1:objP D h f 1=some (.cells [.i (f.cnt:Int)]):=rfl
theorem objP_2:objP D h f 2=some (.cells [.sl (dl D)]):=rfl
theorem objP_3:objP D h f 3=some (.cells [.rw 6]):=rfl
theorem objP_4:objP D h f 4=some (.cells [drpF]):=rfl
theorem objP_5:objP D h f 5=some (.cells h.cs):=rfl
theorem objP_6:objP D h f 6=some (.row 1 (il f.out)):=rfl
end
theorem objP_lt {D:List Dt} {h:Hp} {f:Fa} {id:Nat} {ob:AObj} (ho:objP D h f id=some ob):id<7∧ob.ids (· <7):=by
 simp only[objP,mkHp,updo] at ho
 repeat' split at ho
 all_goals first|(cases ho;done)|skip
 all_goals cases ho;subst_vars
 all_goals refine⟨by decide,?_⟩
 all_goals simp[AObj.ids,AV.ids,AV.idsL,Hp.cs,go_sem]
theorem objP_np (D:List Dt) (h:Hp) (f:Fa) (id:Nat) (hid:id<7):objP D h f id≠none:=by
 have:id=0∨id=1∨id=2∨id=3∨id=4∨id=5∨id=6:=by omega
 rcases this with rfl|rfl|rfl|rfl|rfl|rfl|rfl<;>simp[objP,mkHp,updo]
theorem objP_ent {D:List Dt} {h:Hp} {f:Fa} {σ:St} {np:Nat} (hnp:np≤7) (hs:∀ id ob,objP D h f id=some ob→σ.hp id=some ob):Ent np (fun i=>i) σ ⟨fun _=>none,objP D h f,7⟩:=
 ent_idG (fr:=[]) (by simp) (fun id ob ho=>⟨hs id ob ho,objP_lt ho⟩) hnp
def DrpC (D:List Dt) (h:Hp) (v:Vl) (r:Fa→Fa) (f:Fa):Prop:=
 ACall Try.prog 74 [.agg v.cs,.ptr 0 0,.ptr 1 0,.ptr 2 0,.ptr 3 0,.ptr 4 0,.ptr 5 0] (objP D h f) 7 6 (fun x hp'=>x= .tup []∧hp'=objP D h (r f)) (fun _ _=>False)
theorem drp_pan (D:List Dt) (h:Hp) (v:Vl) (r:Fa→Fa) (f:Fa) (hp:f.pan=true) (hr:r f=f):DrpC D h v r f:=by
 unfold DrpC
 rw[hr,show v.cs=[.i v.kind,.i v.id,.i v.var,.i v.n,.sl (Vl.avL v.fs),.bool v.excl,.sl (il v.path),.sl (il v.loans)] from rfl]
 refine ACall.of_bodyR Try.func74 isf47 rfl (by simp[Try.f74]) fun E Q hE hN hQ hQp=>K_start ?_
 have h0:=objP_0 D h f
 rw[hp] at h0
 repeat'(first|apply nx|refine zx ?_|rw[zw]|((first|refine hK _ ?_|refine hKp _ _ ?_);clear hK hKp K Kp;try clear hanc anc)|((with_reducible refine And.intro ?_ ?_);exact zb)|((first|refine zr hE fun K Kp hK hKp=>?_|refine zd true mixed hE fun K Kp hK hKp anc hanc=>?_|refine zd false mixed hE fun K Kp hK hKp anc hanc=>?_);simp only[go_sem,h0])|(refine zg (fun hg=>?_) (fun hg=>?_)<;>simp only[go_sem,h0,hg])|(refine zc (fun hc=>?_) (fun hc=>?_)<;>try exact zh hc))
 refine Kq_norm_nil ?_
 refine(hQ _ ⟨.tup [],fun i=>i,objP D h f,7,rfl,trivial,objP_ent (by decide) (fun id ob ho=>?_),rfl,rfl⟩).2
 have:=(objP_lt ho).1
 simp only[updo]
 rw[if_neg (by omega)]
 exact ho
theorem drp_other (D:List Dt) (h:Hp) (v:Vl) (r:Fa→Fa) (f:Fa) (hp:f.pan=false) (h2:v.kind≠2) (h3:v.kind≠3) (h5:v.kind≠5) (hr:r f=f):DrpC D h v r f:=by
 have q2:(v.kind==2)=false:=by simpa using h2
 have q3:(v.kind==3)=false:=by simpa using h3
 have q5:(v.kind==5)=false:=by simpa using h5
 unfold DrpC
 rw[hr,show v.cs=[.i v.kind,.i v.id,.i v.var,.i v.n,.sl (Vl.avL v.fs),.bool v.excl,.sl (il v.path),.sl (il v.loans)] from rfl]
 refine ACall.of_bodyR Try.func74 isf47 rfl (by simp[Try.f74]) fun E Q hE hN hQ hQp=>K_start ?_
 have h0:=objP_0 D h f
 rw[hp] at h0
 repeat'(first|apply nx|refine zx ?_|rw[zw]|((first|refine hK _ ?_|refine hKp _ _ ?_);clear hK hKp K Kp;try clear hanc anc)|((with_reducible refine And.intro ?_ ?_);exact zb)|((first|refine zr hE fun K Kp hK hKp=>?_|refine zd true mixed hE fun K Kp hK hKp anc hanc=>?_|refine zd false mixed hE fun K Kp hK hKp anc hanc=>?_);simp only[go_sem,h0,q2,q3,q5])|(refine zg (fun hg=>?_) (fun hg=>?_)<;>simp only[go_sem,h0,q2,q3,q5,hg])|(refine zc (fun hc=>?_) (fun hc=>?_)<;>try exact zh hc))
 refine Kq_norm_nil ?_
 refine(hQ _ ⟨.tup [],fun i=>i,objP D h f,7,rfl,trivial,objP_ent (by decide) (fun id ob ho=>?_),rfl,rfl⟩).2
 have:=(objP_lt ho).1
 simp only[updo]
 rw[if_neg (by omega)]
 exact ho
theorem drp_data (D : List Dt) (h : Hp) (v : Vl) (r : Fa → Fa) (en : Vl → Fa → Fa) (d : Dt) (f : Fa) (hp : f.pan = false) (hk : v.kind = 2) (hl : v.fs.length ≤ 2 ^ 30) (m : Nat) (hid : v.id = m) (hd : D[m]? = some d) (hD : D.length ≤ 2 ^ 30) (hc0 : f.cnt ≤ 2 ^ 43) (ho0 : f.out.length ≤ 2 ^ 43)
    (P:Nat→Fa→Prop) (hP:P 0 (f.add d.dr)) (hf:∀ i x f,v.fs[i]? =some x→P i f→DrpC D h x (en x) f) (hs:∀ i x f,v.fs[i]? =some x→P i f→P (i+1) (en x f)) (hr:r f=v.fs.foldl (fun f x=>en x f) (f.add d.dr)):DrpC D h v r f:=by
  have q2:(v.kind==2)=true:=by simpa using hk
  unfold DrpC
  rw[hr,show v.cs=[.i v.kind,.i v.id,.i v.var,.i v.n,.sl (Vl.avL v.fs),.bool v.excl,.sl (il v.path),.sl (il v.loans)] from rfl]
  refine ACall.of_bodyR Try.func74 isf47 rfl (by simp[Try.f74]) fun E Q hE hN hQ hQp=>K_start ?_
  have h0:=objP_0 D h f
  rw[hp] at h0
  have hml:m<D.length:=(List.getElem?_eq_some_iff.1 hd).1
  have hsz:=szok_il [d.dr]
  have q4:decide ((d.dr:Int)>0)=decide (0<d.dr):=by simp
  cases hc1:decide (0<d.dr)
  have hn:¬ 0<d.dr:=by simpa using hc1
  have e1:(f.add d.dr).out=f.out:=if_neg hn
  repeat'(first|apply nx|refine zx ?_|rw[zw]|((first|refine hK _ ?_|refine hKp _ _ ?_);clear hK hKp K Kp;try clear hanc anc)|((with_reducible refine And.intro ?_ ?_);exact zb)|((first|refine zr hE fun K Kp hK hKp=>?_|refine zd true mixed hE fun K Kp hK hKp anc hanc=>?_|refine zd false mixed hE fun K Kp hK hKp anc hanc=>?_);simp only[go_sem,h0,q2,objP_1,objP_2,objP_3,objP_5,objP_6,hid,hd,Dt.av,lt_dec hml,hc1])|(refine zg (fun hg=>?_) (fun hg=>?_)<;>simp only[go_sem,h0,q2,objP_1,objP_2,objP_3,objP_5,objP_6,hid,hd,Dt.av,lt_dec hml,hc1,hg])|(refine zc (fun hc=>?_) (fun hc=>?_)<;>try exact zh hc))
  refine AW.ent (σ':=⟨mkFr [(1,.ptr 0 0),(2,.ptr 1 0),(3,.ptr 2 0),(4,.ptr 3 0),(5,.ptr 4 0),(6,.ptr 5 0),(36,.sl (Vl.avL v.fs)),(37,.i v.fs.length),(38,.i (0:Nat))],objP D h (f.add d.dr),7⟩) (fun i=>i) ?_ ?_
  · skip
    show Ent _ _ _ (mkSt [(1,.ptr 0 0),(2,.ptr 1 0),(3,.ptr 2 0),(4,.ptr 3 0),(5,.ptr 4 0),(6,.ptr 5 0),(36,.sl (Vl.avL v.fs)),(37,.i v.fs.length),(38,.i ((0:Nat):Int))] [(0,.cells [.bool (f.add d.dr).pan]),(1,.cells [.i ((f.add d.dr).cnt:Int)]),(2,.cells [.sl (dl D)]),(3,.cells [.rw 6]),(4,.cells [drpF]),(5,.cells h.cs),(6,.row 1 (il (f.add d.dr).out))] 7)
    rw[e1]
    refine ent_mk (by simp[go_sem,AV.ids]) (by simp[go_sem,AV.ids,AV.idsL,objP_2,objP_3,objP_4,objP_5,objP_6,Hp.cs,Fa.add]) (by simp) (fun id hid=>?_)
    rw[hN] at hid
    exact⟨rfl,by omega⟩
  rotate_left
  have hn:0<d.dr:=by simpa using hc1
  have e1:(f.add d.dr).out=f.out++[d.dr]:=if_pos hn
  repeat'(first|apply nx|refine zx ?_|rw[zw]|((first|refine hK _ ?_|refine hKp _ _ ?_);clear hK hKp K Kp;try clear hanc anc)|((with_reducible refine And.intro ?_ ?_);exact zb)|((first|refine zr hE fun K Kp hK hKp=>?_|refine zd true mixed hE fun K Kp hK hKp anc hanc=>?_|refine zd false mixed hE fun K Kp hK hKp anc hanc=>?_);simp only[go_sem,h0,q2,objP_1,objP_2,objP_3,objP_5,objP_6,hid,hd,Dt.av,lt_dec hml,hc1])|(refine zg (fun hg=>?_) (fun hg=>?_)<;>simp only[go_sem,h0,q2,objP_1,objP_2,objP_3,objP_5,objP_6,hid,hd,Dt.av,lt_dec hml,hc1,hg])|(refine zc (fun hc=>?_) (fun hc=>?_)<;>try exact zh hc))
  refine AW.ent (σ':=⟨mkFr [(1,.ptr 0 0),(2,.ptr 1 0),(3,.ptr 2 0),(4,.ptr 3 0),(5,.ptr 4 0),(6,.ptr 5 0),(36,.sl (Vl.avL v.fs)),(37,.i v.fs.length),(38,.i (0:Nat))],objP D h (f.add d.dr),7⟩) (fun i=>if i=6 then 26214407 else i) ?_ ?_
  · skip
    show Ent _ _ _ (mkSt [(1,.ptr 0 0),(2,.ptr 1 0),(3,.ptr 2 0),(4,.ptr 3 0),(5,.ptr 4 0),(6,.ptr 5 0),(36,.sl (Vl.avL v.fs)),(37,.i v.fs.length),(38,.i ((0:Nat):Int))] [(0,.cells [.bool (f.add d.dr).pan]),(1,.cells [.i ((f.add d.dr).cnt:Int)]),(2,.cells [.sl (dl D)]),(3,.cells [.rw 6]),(4,.cells [drpF]),(5,.cells h.cs),(6,.row 1 (il (f.add d.dr).out))] 7)
    rw[e1]
    refine ent_mk (by simp[go_sem,AV.ids]) (by simp[go_sem,AV.ids,AV.idsL,objP_2,objP_3,objP_4,objP_5,objP_6,Hp.cs,Fa.add,il_app]) (by simp) (fun id hid=>?_)
    rw[hN] at hid
    exact⟨if_neg (by omega),by omega⟩
  all_goals
    clear h0 hc1 hsz q4 hml
    refine K_loop (X:=Nat×Fa) (fun x=>x.1≤v.fs.length∧v.fs.foldl (fun f x=>en x f) (f.add d.dr)=(v.fs.drop x.1).foldl (fun f x=>en x f) x.2∧P x.1 x.2) (fun x=>⟨mkFr [(1,.ptr 0 0),(2,.ptr 1 0),(3,.ptr 2 0),(4,.ptr 3 0),(5,.ptr 4 0),(6,.ptr 5 0),(36,.sl (Vl.avL v.fs)),(37,.i v.fs.length),(38,.i x.1)],objP D h x.2,7⟩) (fun x=>v.fs.length - x.1) (0,f.add d.dr) ⟨Nat.zero_le _,by simp,hP⟩ (fun i=>i) (ent_idG (by simp[go_sem,AV.ids,AV.idsL]) (fun id ob ho=>⟨ho,objP_lt ho⟩) (by rw[hN];decide)) ?_
    rintro⟨i,f1⟩ ⟨hi,ht,hPi⟩
    simp only at hi ht hPi
    by_cases hlt:i<v.fs.length
    · obtain⟨x,hx⟩:=get?_of hlt
      rw[drop_of hx,List.foldl_cons] at ht
      have hv1:=hf i x f1 hx hPi
      unfold DrpC at hv1
      rw[show x.cs=[.i x.kind,.i x.id,.i x.var,.i x.n,.sl (Vl.avL x.fs),.bool x.excl,.sl (il x.path),.sl (il x.loans)] from rfl] at hv1
      repeat'(first|apply nx|refine zx ?_|rw[zw]|((first|refine hK _ ?_|refine hKp _ _ ?_);clear hK hKp K Kp;try clear hanc anc)|((with_reducible refine And.intro ?_ ?_);exact zb)|((first|refine zr hE fun K Kp hK hKp=>?_|refine zd true mixed hE fun K Kp hK hKp anc hanc=>?_|refine zd false mixed hE fun K Kp hK hKp anc hanc=>?_);simp only[go_sem,lt_dec hlt,hx,Vl.av_eq,objP_4])|(refine zg (fun hg=>?_) (fun hg=>?_)<;>simp only[go_sem,lt_dec hlt,hx,Vl.av_eq,objP_4,hg])|(refine zc (fun hc=>?_) (fun hc=>?_)<;>try exact zh hc))
      refine Hold.mk (CallB.use hv1 (fun i=>i) (by rw[renL_id]) (by simp[AV.ids,AV.idsL,go_sem]) (fun id ob ho=>⟨?_,objP_lt ho⟩) (fun _ _ _ _ _ _ e=>e) (fun id hid=>⟨by omega,objP_np _ _ _ _ (by omega)⟩) ?_ (fun _ _ hx=>hx.elim) ?_ (fun _ _ _ hx=>hx.elim))
      · rw[oren_id]
        have:=(objP_lt ho).1
        simp only[updo]
        rw[if_neg (by omega)]
        first|exact ho|(rw[if_neg (by omega)];exact ho)
      · rintro r hp' ⟨rfl,rfl⟩
        exact⟨trivial,fun id ob ho=>⟨by have:=(objP_lt ho).1;omega,objids_mono _ (fun j hj=>by omega) (objP_lt ho).2⟩⟩
      · rintro r hp' fr' hpn ⟨rfl,rfl⟩ hfr hobj _
        simp only[St.put,AV.ren,putf,AV.renL] at hfr
        clear hQ hQp
        subst hfr
        simp only[go_sem]
        refine hK _ ?_
        repeat'(first|apply nx|refine zx ?_|rw[zw]|((first|refine hK _ ?_|refine hKp _ _ ?_);clear hK hKp K Kp;try clear hanc anc)|((with_reducible refine And.intro ?_ ?_);exact zb)|((first|refine zr hE fun K Kp hK hKp=>?_|refine zd true mixed hE fun K Kp hK hKp anc hanc=>?_|refine zd false mixed hE fun K Kp hK hKp anc hanc=>?_);simp only[go_sem])|(refine zg (fun hg=>?_) (fun hg=>?_)<;>simp only[go_sem,hg])|(refine zc (fun hc=>?_) (fun hc=>?_)<;>try exact zh hc))
        have hb:∀ i,i<6→backM (fun i=>i) 6 7340039 i=i:=fun i hi=>backM_lt hi
        refine⟨(i+1,en x f1),⟨by simp only;omega,by simp only;rw[ht],hs i x f1 hx hPi⟩,by simp only;omega,backM (fun i=>i) 6 7340039,ent_gen (m:=backM (fun i=>i) 6 7340039) (by simp[go_sem,AV.ids,AV.idsL];exact⟨(hb 0 (by decide)).symm,(hb 1 (by decide)).symm,(hb 2 (by decide)).symm,(hb 3 (by decide)).symm,(hb 4 (by decide)).symm,(hb 5 (by decide)).symm⟩) (fun id ob ho=>⟨hobj id ob ho,objP_lt ho⟩) (fun _ _ _ _ _ _ e=>backM_id_inj (by omega) e) (fun id hid=>⟨backM_lt (by omega),by omega⟩)⟩
    · obtain rfl:i=v.fs.length:=by omega
      rw[List.drop_length,List.foldl_nil] at ht
      repeat'(first|apply nx|refine zx ?_|rw[zw]|((first|refine hK _ ?_|refine hKp _ _ ?_);clear hK hKp K Kp;try clear hanc anc)|((with_reducible refine And.intro ?_ ?_);exact zb)|((first|refine zr hE fun K Kp hK hKp=>?_|refine zd true mixed hE fun K Kp hK hKp anc hanc=>?_|refine zd false mixed hE fun K Kp hK hKp anc hanc=>?_);simp only[go_sem,ge_dec])|(refine zg (fun hg=>?_) (fun hg=>?_)<;>simp only[go_sem,ge_dec,hg])|(refine zc (fun hc=>?_) (fun hc=>?_)<;>try exact zh hc))
      refine Kq_norm_nil ?_
      refine(hQ _ ⟨.tup [],fun i=>i,objP D h f1,7,rfl,trivial,objP_ent (by decide) (fun id ob ho=>ho),rfl,by rw[ht]⟩).2
end Go.Proofs.Ytfgjjnfdcgkpoaa

set_option maxHeartbeats 4000000
set_option maxRecDepth 100000
namespace Go.Proofs.Ytfgjjnfdcgkpoaa
open Go.Am Go.Proofs Go.Hv
open Classical
attribute [local irreducible] AW CallP CallB CallY
theorem drp_box (D:List Dt) (h:Hp) (v:Vl) (r:Fa→Fa) (f:Fa) (hp:f.pan=false) (hk:v.kind=3) (hl:h.cells.length≤2 ^ 20) (m:Nat) (c:Cl) (hm:v.n=m) (hcc:h.cells[m]? =some c) (hv:DrpC D h c.v r f):DrpC D h v r f:=by
 have q2:(v.kind==2)=false:=by simp[hk]
 have q3:(v.kind==3)=true:=by simp[hk]
 unfold DrpC at hv ⊢
 rw[show v.cs=[.i v.kind,.i v.id,.i v.var,.i v.n,.sl (Vl.avL v.fs),.bool v.excl,.sl (il v.path),.sl (il v.loans)] from rfl]
 rw[show c.v.cs=[.i c.v.kind,.i c.v.id,.i c.v.var,.i c.v.n,.sl (Vl.avL c.v.fs),.bool c.v.excl,.sl (il c.v.path),.sl (il c.v.loans)] from rfl] at hv
 refine ACall.of_bodyR Try.func74 isf47 rfl (by simp[Try.f74]) fun E Q hE hN hQ hQp=>K_start ?_
 have h0:=objP_0 D h f
 rw[hp] at h0
 have h2:=(List.getElem?_eq_some_iff.1 hcc).1
 repeat'(first|apply nx|refine zx ?_|rw[zw]|((first|refine hK _ ?_|refine hKp _ _ ?_);clear hK hKp K Kp;try clear hanc anc)|((with_reducible refine And.intro ?_ ?_);exact zb)|((first|refine zr hE fun K Kp hK hKp=>?_|refine zd true mixed hE fun K Kp hK hKp anc hanc=>?_|refine zd false mixed hE fun K Kp hK hKp anc hanc=>?_);simp only[go_sem,h0,q2,q3,objP_4,objP_5,Hp.cs,hm,lt_dec h2,hcc,Cl.av,Cl.cs_eq])|(refine zg (fun hg=>?_) (fun hg=>?_)<;>simp only[go_sem,h0,q2,q3,objP_4,objP_5,Hp.cs,hm,lt_dec h2,hcc,Cl.av,Cl.cs_eq,hg])|(refine zc (fun hc=>?_) (fun hc=>?_)<;>try exact zh hc))
 refine Hold.mk (CallB.use hv (fun i=>i) (by rw[renL_id]) (by simp[AV.ids,AV.idsL,go_sem]) (fun id ob ho=>⟨?_,objP_lt ho⟩) (fun _ _ _ _ _ _ e=>e) (fun id hid=>⟨by omega,objP_np _ _ _ _ (by omega)⟩) ?_ (fun _ _ hx=>hx.elim) ?_ (fun _ _ _ hx=>hx.elim))
 ·rw[oren_id]
  have:=(objP_lt ho).1
  simp only[updo]
  rw[if_neg (by omega)]
  exact ho
 ·rintro r hp' ⟨rfl,rfl⟩
  exact⟨trivial,fun id ob ho=>⟨by have:=(objP_lt ho).1;omega,objids_mono _ (fun j hj=>by omega) (objP_lt ho).2⟩⟩
 ·rintro r' hp' fr' hpn ⟨rfl,rfl⟩ hfr hobj _
  simp only[go_sem]
  refine hK _ ?_
  clear hK hKp
  repeat(first|refine Kq_norm_blk ?_|refine Kq_norm_nil ?_)
  refine(hQ _ ⟨.tup [],_,objP D h (r f),7,rfl,trivial,ent_gen (fr:=[]) (by simp) (fun id ob ho=>⟨hobj id ob ho,objP_lt ho⟩) (fun _ _ _ _ _ _ e=>backM_id_inj (by omega) e) (fun id hid=>⟨backM_lt hid,by show id<7;omega⟩),rfl,rfl⟩).2

def objQ (D:List Dt) (h:Hp) (v:Vl) (f:Fa):Nat→Option AObj:=mkHp [(0,.cells [.bool f.pan]),(1,.cells [.i (f.cnt:Int)]),(2,.cells [.sl (dl D)]),(3,.cells [.rw 9]),(4,.cells [drpF]),(5,.cells h.cs),(6,.cells v.cs),(7,.cells h.cs),(9,.row 1 (il f.out))]
theorem objQ_lt {D:List Dt} {h:Hp} {v:Vl} {f:Fa} {id:Nat} {ob:AObj} (ho:objQ D h v f id=some ob):(id<1000000∧id≠8)∧ob.ids (fun j=>j<1000000∧j≠8):=by
 simp only[objQ,mkHp,updo] at ho
 repeat' split at ho
 all_goals first|(cases ho;done)|skip
 all_goals cases ho;subst_vars
 all_goals refine⟨by decide,?_⟩
 all_goals simp[AObj.ids,AV.ids,AV.idsL,Hp.cs,go_sem]
theorem objQ_np (D:List Dt) (h:Hp) (v:Vl) (f:Fa) (id:Nat) (hid:id<8):objQ D h v f id≠none:=by
 have:id=0∨id=1∨id=2∨id=3∨id=4∨id=5∨id=6∨id=7:=by omega
 rcases this with rfl|rfl|rfl|rfl|rfl|rfl|rfl|rfl<;>simp[objQ,mkHp,updo]
abbrev frQ:List (Nat×AV):=[(1,.ptr 0 0),(2,.ptr 1 0),(3,.ptr 2 0),(4,.ptr 3 0),(5,.ptr 4 0),(6,.ptr 5 0),(7,.ptr 6 0),(64,.fn (.func 86) [] [.ptr 7 0])]
theorem ent_objQ {D : List Dt} {h : Hp} {v : Vl} {o' : Fa} {hpn : Nat → Option AObj} {fr' : Nat → Option AV} {n' B : Nat} {q : Lp} (hB : 100 < B) (hobj : ∀ j ob, objP D h o' j = some ob → hpn (backM (fun i => if i = 6 then 9 else i) 6 B j) = some (ob.ren (backM (fun i => if i = 6 then 9 else i) 6 B)))
    (h6:hpn 6=some (.cells v.cs)) (h7:hpn 7=some (.cells h.cs)) (h8:hpn 8=some (.lp q [.ptr 4 0,.ptr 6 0])):
    Ent (8+1) (fun i=>if i=9 then B else i) ⟨fr',hpn,n'⟩ ⟨mkFr [],updo (objQ D h v o') 8 (some (.lp q [.ptr 4 0,.ptr 6 0])),1000000⟩:=by
  have hb:∀ j,j<6→backM (fun i=>if i=6 then 9 else i) 6 B j=j:=fun j hj=>by rw[backM_lt hj];exact if_neg (by omega)
  have hb6:backM (fun i=>if i=6 then 9 else i) 6 B 6=B:=by rw[backM_ge (by decide)];rfl
  have b0:=hb 0 (by decide)
  have b1:=hb 1 (by decide)
  have b2:=hb 2 (by decide)
  have b3:=hb 3 (by decide)
  have b4:=hb 4 (by decide)
  have b5:=hb 5 (by decide)
  have k0:=hobj 0 _ rfl
  have k1:=hobj 1 _ rfl
  have k2:=hobj 2 _ rfl
  have k3:=hobj 3 _ rfl
  have k4:=hobj 4 _ rfl
  have k5:=hobj 5 _ rfl
  have k6:=hobj 6 _ rfl
  simp only[b0,b1,b2,b3,b4,b5,hb6,AObj.ren,AV.ren,AV.renL,Hp.cs] at k0 k1 k2 k3 k4 k5 k6
  rw[cloL_renL (il_clo _)] at k6
  show Ent _ _ _ (mkSt [] [(8,.lp q [.ptr 4 0,.ptr 6 0]),(0,.cells [.bool o'.pan]),(1,.cells [.i (o'.cnt:Int)]),(2,.cells [.sl (dl D)]),(3,.cells [.rw 9]),(4,.cells [drpF]),(5,.cells h.cs),(6,.cells v.cs),(7,.cells h.cs),(9,.row 1 (il o'.out))] 1000000)
  refine ent_mk (by simp) (by simp[go_sem,AV.ids,AV.idsL,k0,k1,k2,k3,k4,k5,k6,h6,h7,h8,Hp.cs]) (by simp;omega) (fun id hid=>⟨if_neg (by omega),by omega⟩)
theorem ent_backQ {D:List Dt} {h:Hp} {v:Vl} {s':Fa} {m':Nat→Nat} {σ:St} {fr:List (Nat×AV)} (he:Ent 6 m' σ ⟨mkFr fr,objQ D h v s',1000000⟩):∃ m'',Ent 6 m'' σ ⟨fun _=>none,objP D h s',7⟩:=by
 obtain⟨_,e2,e3,e4⟩:=he
 have b:∀ i,i<6→m' i=i:=fun i hi=>(e4 i hi).1
 have k0:=(e2 0 _ rfl).1
 have k1:=(e2 1 _ rfl).1
 have k2:=(e2 2 _ rfl).1
 have k3:=(e2 3 _ rfl).1
 have k4:=(e2 4 _ rfl).1
 have k5:=(e2 5 _ rfl).1
 have k9:=(e2 9 _ rfl).1
 have n9:∀ i,i<6→¬ m' 9=i:=by
  intro i hi hh
  have hne:=objQ_np D h v s' i (by omega)
  obtain⟨ob,hob⟩:=Option.ne_none_iff_exists'.1 hne
  have:=e3 9 i _ ob rfl hob (by rw[b i hi];exact hh)
  omega
 simp only[b 0 (by decide),b 1 (by decide),b 2 (by decide),b 3 (by decide),b 4 (by decide),b 5 (by decide),AObj.ren,AV.ren,AV.renL,Hp.cs] at k0 k1 k2 k3 k4 k5 k9
 rw[cloL_renL (il_clo _)] at k9
 have n0:=n9 0 (by decide)
 have n1:=n9 1 (by decide)
 have n2:=n9 2 (by decide)
 have n3:=n9 3 (by decide)
 have n4:=n9 4 (by decide)
 have n5:=n9 5 (by decide)
 refine⟨fun i=>if i=6 then m' 9 else i,?_⟩
 show Ent _ _ _ (mkSt [] [(0,.cells [.bool s'.pan]),(1,.cells [.i (s'.cnt:Int)]),(2,.cells [.sl (dl D)]),(3,.cells [.rw 6]),(4,.cells [drpF]),(5,.cells h.cs),(6,.row 1 (il s'.out))] 7)
 refine ent_mk (by simp) (by simp[go_sem,AV.ids,AV.idsL,k0,k1,k2,k3,k4,k5,k9,Hp.cs]) (by simp[n0,n1,n2,n3,n4,n5,Ne.symm n0,Ne.symm n1,Ne.symm n2,Ne.symm n3,Ne.symm n4,Ne.symm n5]) (fun id hid=>⟨if_neg (by omega),by omega⟩)
theorem drp_arena (D : List Dt) (h : Hp) (v : Vl) (r : Fa → Fa) (en : Nat → Fa → Fa) (f : Fa) (hp : f.pan = false) (hk : v.kind = 5) (hl : h.cells.length ≤ 2 ^ 20) (m : Nat) (hm : v.n = m) (P : Nat → Fa → Prop) (hP : P 0 f)
    (hen:∀ i c f,P i f→h.cells[i]? =some c→c.live=true→c.arena=m→DrpC D h c.v (en i) f) (hs:∀ i c f,P i f→h.cells[i]? =some c→c.live=true→c.arena=m→P (i+1) (en i f))
    (hn:∀ i c f,P i f→h.cells[i]? =some c→(c.live&&(c.arena==(m:Int)))=false→P (i+1) f) (hr:r f=foldN en (arFrom h.cells m 0) f) (hal:h.arenas.length≤2 ^ 20):DrpC D h v r f:=by
  have hlf:=liveF_nc h
  rw[Hp.av_eq] at hlf
  unfold DrpC
  rw[hr,show v.cs=[.i v.kind,.i v.id,.i v.var,.i v.n,.sl (Vl.avL v.fs),.bool v.excl,.sl (il v.path),.sl (il v.loans)] from rfl]
  have q2:(v.kind==2)=false:=by simp[hk]
  have q3:(v.kind==3)=false:=by simp[hk]
  have q5:(v.kind==5)=true:=by simp[hk]
  refine ACall.of_bodyRM Try.func74 isf47 rfl (by simp[Try.f74]) fun E Q hE hN hM hQ hQp=>K_start ?_
  have h0:=objP_0 D h f
  rw[hp] at h0
  repeat'(first|apply nx|refine zx ?_|rw[zw]|((first|refine hK _ ?_|refine hKp _ _ ?_);clear hK hKp K Kp;try clear hanc anc)|((with_reducible refine And.intro ?_ ?_);exact zb)|((first|refine zr hE fun K Kp hK hKp=>?_|refine zd true mixed hE fun K Kp hK hKp anc hanc=>?_|refine zd false mixed hE fun K Kp hK hKp anc hanc=>?_);simp only[go_sem,h0,q2,q3,q5,objP_5,Hp.cs,hm])|(refine zg (fun hg=>?_) (fun hg=>?_)<;>simp only[go_sem,h0,q2,q3,q5,objP_5,Hp.cs,hm,hg])|(refine zc (fun hc=>?_) (fun hc=>?_)<;>try exact zh hc))
  refine Hold.mk (CallB.newP hlf (by simp[AV.cloL,AV.clo]) (by simp[AV.ids,AV.idsL]) (by intro p hp;simp only[List.mem_cons,List.not_mem_nil,or_false] at hp;subst hp;exact⟨by show 0<1048576;decide,by simp[AObj.ids,Hp.cs,AV.ids,AV.idsL,go_sem]⟩) ?_)
  simp only[go_sem,AObj.ren,Hp.cs]
  refine hK _ ?_
  clear hK hKp
  repeat'(first|apply nx|refine zx ?_|rw[zw]|((first|refine hK _ ?_|refine hKp _ _ ?_);clear hK hKp K Kp;try clear hanc anc)|((with_reducible refine And.intro ?_ ?_);exact zb)|((first|refine zr hE fun K Kp hK hKp=>?_|refine zd true mixed hE fun K Kp hK hKp anc hanc=>?_|refine zd false mixed hE fun K Kp hK hKp anc hanc=>?_);simp only[go_sem])|(refine zg (fun hg=>?_) (fun hg=>?_)<;>simp only[go_sem,hg])|(refine zc (fun hc=>?_) (fun hc=>?_)<;>try exact zh hc))
  refine AW.ent (σ':=⟨mkFr frQ,objQ D h v f,1000000⟩) (fun i=>if i=6 then 7 else if i=7 then 16777223 else if i=9 then 6 else i) (by
    show Ent _ _ _ (mkSt frQ [(0,.cells [.bool f.pan]),(1,.cells [.i (f.cnt:Int)]),(2,.cells [.sl (dl D)]),(3,.cells [.rw 9]),(4,.cells [drpF]),(5,.cells h.cs),(6,.cells v.cs),(7,.cells h.cs),(9,.row 1 (il f.out))] 1000000)
    refine ent_mk (by simp[go_sem,AV.ids,AV.idsL]) (by simp[go_sem,AV.ids,AV.idsL,objP_0,objP_1,objP_2,objP_3,objP_4,objP_5,objP_6,Hp.cs,Vl.cs,hm]) (by simp) (fun id hid=>?_)
    rw[hN] at hid
    exact⟨by rw[if_neg (by omega),if_neg (by omega),if_neg (by omega)],by omega⟩) ?_
  clear h0
  refine AW_live hM h hl (objQ D h v) 8 7 (by decide) (by decide) (by rw[hN];decide) (fun s=>rfl) (fun s id o ho=>objQ_lt ho) (fun s id hid=>objQ_np _ _ _ _ _ hid) frQ (by simp[AV.ids,AV.idsL]) (by simp[go_sem]) (by simp[go_sem]) [5,7] [.ptr 4 0,.ptr 6 0] (by intro i hi;match i,hi with|0,_=>rfl|1,_=>rfl) (by simp[AV.ids,AV.idsL]) rfl (by rw[hE];simp[Try.f74])
    (fun i s=>foldN en (arFrom h.cells m 0) f=foldN en (arFrom h.cells m i) s∧P i s) (fun x s=>False) (fun x s hx=>hx.elim) ?_ (fun i c s hi hc hv=>⟨by rw[hi.1,arFrom_step hc,hv];rfl,hn i c s hi.2 hc (by rw[hv];rfl)⟩) _ ⟨rfl,hP⟩ ?_ ?_
  · intro l fnn i c s E' Q' ⟨hi,hPs⟩ hcc hv hE' hN' hnorm hpan
    have hi20:i<h.cells.length:=(List.getElem?_eq_some_iff.1 hcc).1
    rw[arFrom_step hcc,hv,Bool.true_and] at hi
    unfold RoundGoal
    refine K_start ?_
    show AW Try.prog E' _ _ ⟨upd (upd (mkFr [(5,.ptr 4 0),(7,.ptr 6 0)]) 65 (.i i)) 66 (.agg c.cs),updo (objQ D h v s) 8 _,1000000⟩
    rw[hE] at hE'
    replace hE:=hE'
    repeat'(first|apply nx|refine zx ?_|rw[zw]|((first|refine hK _ ?_|refine hKp _ _ ?_);clear hK hKp K Kp;try clear hanc anc)|((with_reducible refine And.intro ?_ ?_);exact zb)|((first|refine zr hE fun K Kp hK hKp=>?_|refine zd true mixed hE fun K Kp hK hKp anc hanc=>?_|refine zd false mixed hE fun K Kp hK hKp anc hanc=>?_);simp only[go_sem,Cl.cs_eq])|(refine zg (fun hg=>?_) (fun hg=>?_)<;>simp only[go_sem,Cl.cs_eq,hg])|(refine zc (fun hc=>?_) (fun hc=>?_)<;>try exact zh hc))
    refine Kq_norm_nil ?_
    refine⟨[.ptr 4 0,.ptr 6 0],by simp[updo],K_start ?_⟩
    show AW Try.prog E' _ _ ⟨_,_,3097152⟩
    have ho4:objQ D h v s 4=some (.cells [drpF]):=rfl
    have ho6:objQ D h v s 6=some (.cells v.cs):=rfl
    by_cases hcm:c.arena=m
    · have q7:(c.arena==(m:Int))=true:=by simpa using hcm
      rw[if_pos q7,foldN] at hi
      have he1:=hen i c s hPs hcc hv hcm
      unfold DrpC at he1
      rw[show c.v.cs=[.i c.v.kind,.i c.v.id,.i c.v.var,.i c.v.n,.sl (Vl.avL c.v.fs),.bool c.v.excl,.sl (il c.v.path),.sl (il c.v.loans)] from rfl] at he1
      repeat'(first|apply nx|refine zx ?_|rw[zw]|((first|refine hK _ ?_|refine hKp _ _ ?_);clear hK hKp K Kp;try clear hanc anc)|((with_reducible refine And.intro ?_ ?_);exact zb)|((first|refine zr hE fun K Kp hK hKp=>?_|refine zd true mixed hE fun K Kp hK hKp anc hanc=>?_|refine zd false mixed hE fun K Kp hK hKp anc hanc=>?_);simp only[go_sem,ho4,ho6,Vl.cs,hm,q7])|(refine zg (fun hg=>?_) (fun hg=>?_)<;>simp only[go_sem,ho4,ho6,Vl.cs,hm,q7,hg])|(refine zc (fun hc=>?_) (fun hc=>?_)<;>try exact zh hc))
      have hm3:∀ id,id=6∨id=7∨id=8→∀ j,objP D h s j≠none→(if j=6 then 9 else j)≠id:=by
        intro id hid j hj
        obtain⟨ob,hob⟩:=Option.ne_none_iff_exists'.1 hj
        have:=(objP_lt hob).1
        split<;>omega
      refine Hold.mk (CallB.use he1 (fun i=>if i=6 then 9 else i) (by simp[AV.renL,AV.ren,go_sem]) (by simp[AV.ids,AV.idsL,go_sem]) (fun id ob ho=>⟨?_,objP_lt ho⟩) (fun id id' _ _ h1 h2 e=>?_) (fun id hid=>⟨by omega,objP_np _ _ _ _ (by omega)⟩) ?_ (fun _ _ hx=>hx.elim) ?_ (fun _ _ _ hx=>hx.elim))
      · simp only[objP,mkHp,updo] at ho
        repeat' split at ho
        all_goals first|(cases ho;done)|skip
        all_goals cases ho;subst_vars
        all_goals simp[updo,objQ,mkHp,AObj.ren,AV.ren,AV.renL,Hp.cs,go_sem]
      · have g1:=(objP_lt h1).1
        have g2:=(objP_lt h2).1
        have e':(if id=6 then 9 else id)=(if id'=6 then 9 else id'):=e
        split at e'<;>split at e'<;>omega
      · rintro r hp' ⟨rfl,rfl⟩
        exact⟨trivial,fun id ob ho=>⟨by have:=(objP_lt ho).1;omega,objids_mono _ (fun j hj=>by omega) (objP_lt ho).2⟩⟩
      · rintro r' hp' fr' hpn ⟨rfl,rfl⟩ hfr hobj hold
        simp only[go_sem]
        refine hK _ ?_
        clear hK hKp
        repeat(first|refine Kq_norm_blk ?_|refine Kq_norm_nil ?_)
        refine hnorm _ (en i s) (fun i=>if i=9 then 11485760 else i) ⟨by rw[hi],hs i c s hPs hcc hv hcm⟩ ?_
        refine ent_objQ (by decide) hobj ?_ ?_ ?_
        · exact hold 6 _ (by simp[updo,objQ,mkHp]) (hm3 6 (.inl rfl))
        · exact hold 7 _ (by simp[updo,objQ,mkHp]) (hm3 7 (.inr (.inl rfl)))
        · exact hold 8 _ (by simp[updo]) (hm3 8 (.inr (.inr rfl)))
    · have q7:(c.arena==(m:Int))=false:=by simpa using hcm
      rw[if_neg (by simp[q7])] at hi
      repeat'(first|apply nx|refine zx ?_|rw[zw]|((first|refine hK _ ?_|refine hKp _ _ ?_);clear hK hKp K Kp;try clear hanc anc)|((with_reducible refine And.intro ?_ ?_);exact zb)|((first|refine zr hE fun K Kp hK hKp=>?_|refine zd true mixed hE fun K Kp hK hKp anc hanc=>?_|refine zd false mixed hE fun K Kp hK hKp anc hanc=>?_);simp only[go_sem,ho4,ho6,Vl.cs,hm,q7])|(refine zg (fun hg=>?_) (fun hg=>?_)<;>simp only[go_sem,ho4,ho6,Vl.cs,hm,q7,hg])|(refine zc (fun hc=>?_) (fun hc=>?_)<;>try exact zh hc))
      refine Kq_norm_nil (hnorm _ s (fun i=>i) ⟨hi,hn i c s hPs hcc (by rw[q7,Bool.and_false])⟩ (ent_idG (fr:=[]) (by simp) (fun id ob ho=>?_) (by decide)))
      by_cases e:id=8
      · subst e
        simp only[updo,if_true] at ho
        cases ho
        exact⟨by simp[updo],by decide,by simp[AObj.ids,AV.ids,AV.idsL]⟩
      · simp only[updo,if_neg e] at ho
        have g:=objQ_lt ho
        refine⟨?_,g.1.1,objids_mono _ (fun j hj=>hj.1) g.2⟩
        simp only[updo,if_neg e]
        repeat rw[if_neg (by omega)]
        exact ho
  · intro σ s' m' ⟨hi,_⟩ he
    rw[arFrom_end,foldN] at hi
    rw[hN] at he
    obtain⟨m'',he2⟩:=ent_backQ he
    refine Kq_norm_blk ?_
    refine Kq_norm_blk ?_
    refine Kq_norm_nil ?_
    exact(hQ _ ⟨.tup [],m'',objP D h s',7,rfl,trivial,he2,rfl,by rw[hi]⟩).2
  · intro x σ s' m' hx he
    exact hx.elim
end Go.Proofs.Ytfgjjnfdcgkpoaa

set_option maxHeartbeats 4000000
set_option maxRecDepth 100000
namespace Go.Proofs.Ytfgjjnfdcgkpoaa
open Go.Am Go.Proofs Go.Hv
open Classical
theorem arFrom_mem {l:List Cl} {n:Int} {i j:Nat} (h:i∈arFrom l n j):∃ c,l[i]? =some c∧c.live=true∧c.arena=n:=by
 unfold arFrom at h
 obtain⟨_,h2⟩:=List.mem_filter.1 h
 unfold inPred at h2
 split at h2
 ·rename_i c hc
  simp only[Bool.and_eq_true,beq_iff_eq] at h2
  exact⟨c,hc,h2.1,h2.2⟩
 ·cases h2
def InR (D:List Dt) (o:Ow):Prop:=∀ x,x∈o.ids→∃ m:Nat,x=m∧m<D.length
theorem InR.le {D:List Dt} {o o':Ow} (h:InR D o') (hl:o.Le o'):InR D o:=fun x hx=>by
 obtain⟨l,e⟩:=hl.ids
 exact h x (by rw[e];exact List.mem_append_left _ hx)
def DAll (D:List Dt) (h:Hp) (k:Nat):Prop:=∀ n c o o' f,h.cells[n]? =some c→c.live=true→o.Ok h→visE h k n o=some o'→InR D o'→Fle f o→bud (2 ^ 20) h o≤2 ^ 42→DrpC D h c.v (dropE (drs D) h k n) f
theorem DrpC.congr {D:List Dt} {h:Hp} {v:Vl} {r r':Fa→Fa} {f:Fa} (hr:r f=r' f) (he:DrpC D h v r f):DrpC D h v r' f:=by
 unfold DrpC at he ⊢
 rw[← hr]
 exact he
theorem drp_all {D:List Dt} {h:Hp} (hD:D.length≤2 ^ 30) (hl:h.cells.length≤2 ^ 20) (hal:h.arenas.length≤2 ^ 20) (hM:∀ c,c∈h.cells→c.v.sz≤2 ^ 20) {k:Nat} (hE:DAll D h k):∀ (N:Nat) (v:Vl) (o o':Ow) (f:Fa),v.sz<N→v.sz≤2 ^ 20→o.Ok h→visV h (visE h k) v o=some o'→InR D o'→Fle f o→bud (2 ^ 20) h o+v.sz≤2 ^ 42→DrpC D h v (dropV (drs D) h (dropE (drs D) h k) v) f:=by
 intro N
 induction N with
 |zero=>intro v o o' f h0;omega
 |succ N ih=>
 intro v o o' f hN hv20 ho hw hI hF hbud
 by_cases hp:f.pan=true
 ·exact drp_pan D h v _ f hp (dropV_pan v f hp)
 have hp:f.pan=false:=by simpa using hp
 have hsz:=v.sz_eq
 have hfl:=Vl.len_le v.fs
 have hids:o.ids.length≤bud (2 ^ 20) h o:=Nat.le_add_right _ _
 have hF1:=hF.out
 have hF2:=hF.cnt
 have hkp:=visE_keeps h k
 have hLe:=(visV_keeps hkp v o o' ho hw).2
 obtain⟨kd,id,vr,n,fs,ex,pa,lo⟩:=v
 simp only[Vl.fs,Vl.path,Vl.loans] at hsz hfl
 rw[visV] at hw
 by_cases h2:kd=2
 ·rw[if_pos h2] at hw
  have ho1:Ow.Ok h { o with ids:=o.ids++[id] } :=⟨ho.nd,ho.lt,ho.and,ho.alt⟩
  have hL1:=(visL_keeps hkp fs _ o' ho1 hw).2
  obtain⟨m,hm,hmD⟩:=hI.le hL1 id (by simp)
  have hd:D[m]? =some D[m]:=List.getElem?_eq_getElem hmD
  have eb:bud (2 ^ 20) h { o with ids:=o.ids++[id] } =bud (2 ^ 20) h o+1:=by simp only[bud,List.length_append,List.length_singleton];omega
  refine drp_data D h _ _ (fun x f=>dropV (drs D) h (dropE (drs D) h k) x f) D[m] f hp h2 (by simp only[Vl.fs];omega) m hm hd hD (by omega) (by omega)
   (fun i f=>∃ o1:Ow,o1.Ok h∧visL h (visE h k) (fs.drop i) o1=some o'∧Fle f o1∧bud (2 ^ 20) h o1+Vl.szL (fs.drop i)≤2 ^ 42) ⟨_,ho1,by simpa using hw,hF.add _ id,by rw[eb,List.drop_zero];omega⟩ ?_ ?_ ?_
  ·rintro i x f1 hx ⟨o1,g1,g2,g3,g4⟩
   have hx:fs[i]? =some x:=hx
   rw[drop_of hx,visL] at g2
   rw[drop_of hx,Vl.szL] at g4
   obtain⟨o2,g5,g6⟩:=Option.bind_eq_some_iff.1 g2
   have:=Vl.sz_mem (List.mem_of_getElem? hx)
   have k1:=visV_keeps hkp x o1 o2 g1 g5
   exact ih x o1 o2 f1 (by omega) (by omega) g1 g5 (hI.le (visL_keeps hkp _ _ _ k1.1 g6).2) g3 (by omega)
  ·rintro i x f1 hx ⟨o1,g1,g2,g3,g4⟩
   have hx:fs[i]? =some x:=hx
   rw[drop_of hx,visL] at g2
   rw[drop_of hx,Vl.szL] at g4
   obtain⟨o2,g5,g6⟩:=Option.bind_eq_some_iff.1 g2
   have k1:=visV_keeps hkp x o1 o2 g1 g5
   have k2:=visV_bud hkp (visE_bud hM k) x o1 o2 g1 g5
   exact⟨o2,k1.1,g6,dropV_le hkp (dropE_le k) x o1 o2 f1 g1 g5 g3,by omega⟩
  ·rw[dropV,if_neg (by simp[hp]),if_pos h2,dropL_foldl,hm,Int.toNat_natCast,drs_get hd]
   rfl
 rw[if_neg h2] at hw
 by_cases h3:kd=3
 ·rw[if_pos h3] at hw
  split at hw
  ·rename_i hb
   obtain⟨m,c,rfl,hcc,hv,_⟩:=boxOk_spec hb
   rw[Int.toNat_natCast] at hw
   refine drp_box D h _ _ f hp h3 hl m c rfl hcc ?_
   refine DrpC.congr ?_ (hE m c o o' f hcc hv ho hw hI hF (by omega))
   rw[dropV,if_neg (by simp[hp]),if_neg h2,if_pos h3,Int.toNat_natCast]
  ·cases hw
 rw[if_neg h3] at hw
 by_cases h5:kd=5
 ·rw[if_pos h5] at hw
  split at hw
  ·rename_i hb
   simp only[Bool.and_eq_true,Bool.not_eq_true',decide_eq_false_iff_not] at hb
   obtain⟨m,rfl,hm⟩:=arenaOk_spec hb.1
   rw[Int.toNat_natCast,arFrom_zero] at hw
   have hm2:m∉o.ags:=by have:=hb.2;rwa [Int.toNat_natCast] at this
   have eb:bud (2 ^ 20) h (Ow.mk o.cs (o.ags++[m]) o.ids)=bud (2 ^ 20) h o:=rfl
   refine drp_arena D h _ _ (dropE (drs D) h k) f hp h5 hl m rfl (fun i f=>∃ o1:Ow,o1.Ok h∧enL (visE h k) (arFrom h.cells m i) o1=some o'∧Fle f o1∧bud (2 ^ 20) h o1≤2 ^ 42) ⟨_,ho.arena hm2 hm,hw,⟨hF.out,hF.cnt⟩,by show bud (2 ^ 20) h (Ow.mk o.cs (o.ags++[m]) o.ids)≤2 ^ 42;rw[eb];omega⟩ ?_ ?_ ?_ ?_ hal
   ·rintro i c f1 ⟨o1,g1,g2,g3,g4⟩ hcc hv hca
    rw[arFrom_step hcc,hv,Bool.true_and,if_pos (by simpa using hca),enL] at g2
    obtain⟨o2,g5,g6⟩:=Option.bind_eq_some_iff.1 g2
    have k1:=hkp i o1 o2 g1 ⟨c,hcc,hv⟩ g5
    exact hE i c o1 o2 f1 hcc hv g1 g5 (hI.le (enL_keeps hkp _ _ _ k1.1 (fun n hn=>by obtain⟨c,q1,q2,_⟩:=arFrom_mem hn;exact⟨c,q1,q2⟩) g6).2) g3 g4
   ·rintro i c f1 ⟨o1,g1,g2,g3,g4⟩ hcc hv hca
    rw[arFrom_step hcc,hv,Bool.true_and,if_pos (by simpa using hca),enL] at g2
    obtain⟨o2,g5,g6⟩:=Option.bind_eq_some_iff.1 g2
    have k1:=hkp i o1 o2 g1 ⟨c,hcc,hv⟩ g5
    have k2:=visE_bud hM k i o1 o2 g1 ⟨c,hcc,hv⟩ g5
    exact⟨o2,k1.1,g6,dropE_le k i o1 o2 f1 g1 ⟨c,hcc,hv⟩ g5 g3,by omega⟩
   ·rintro i c f1 ⟨o1,g1,g2,g3,g4⟩ hcc hx
    rw[arFrom_step hcc,hx] at g2
    exact⟨o1,g1,g2,g3,g4⟩
   ·rw[dropV,if_neg (by simp[hp]),if_neg h2,if_neg h3,if_pos h5,arFrom_zero]
  ·cases hw
 refine drp_other D h _ _ f hp h2 h3 h5 ?_
 rw[dropV,if_neg (by simp[hp]),if_neg h2,if_neg h3,if_neg h5]
theorem dall {D:List Dt} {h:Hp} (hD:D.length≤2 ^ 30) (hl:h.cells.length≤2 ^ 20) (hal:h.arenas.length≤2 ^ 20) (hM:∀ c,c∈h.cells→c.v.sz≤2 ^ 20):∀ k,DAll D h k
 |0=>fun n c o o' f hc hv ho hw=>by rw[visE] at hw;cases hw
 |k+1=>fun n c o o' f hc hv ho hw hI hF hbud=>by
  rw[visE] at hw
  split at hw
  ·cases hw
  rename_i hn
  rw[hc] at hw
  have g1:=ho.len_lt hn (List.getElem?_eq_some_iff.1 hc).1
  have g2:=hM c (List.mem_of_getElem? hc)
  refine DrpC.congr ?_ (drp_all hD hl hal hM (dall hD hl hal hM k) (c.v.sz+1) c.v _ o' f (by omega) g2 (ho.enter hn hc hv) hw hI ⟨hF.out,hF.cnt⟩ ?_)
  ·rw[dropE,hc]
  ·have e:bud (2 ^ 20) h { o with cs:=o.cs++[n] } +2 ^ 20=bud (2 ^ 20) h o:=by
    unfold bud
    simp only[List.length_append,List.length_singleton]
    have:h.cells.length - o.cs.length=(h.cells.length - (o.cs.length+1))+1:=by omega
    rw[this,Nat.add_mul]
    omega
   omega
theorem drop_c {D:List Dt} {h:Hp} (hD:D.length≤2 ^ 30) {v:Vl} (hm:Sm h v) {o:Ow} (hw:walkS h v=some o) (hI:InR D o):DrpC D h v (dropV (drs D) h (dropE (drs D) h h.cells.length) v) Fa.nil:=
 drp_all hD hm.l hm.a hm.m (dall hD hm.l hm.a hm.m _) (v.sz+1) v _ o Fa.nil (by omega) hm.v (Ow.nil_ok h) hw hI (Fle.nil _) (by
  have:=hm.l
  have:=hm.v
  rw[bud_nil]
  omega)
end Go.Proofs.Ytfgjjnfdcgkpoaa

set_option maxHeartbeats 4000000
set_option maxRecDepth 100000
namespace Go.Proofs.Ytfgjjnfdcgkpoaa
open Nat (reduceAdd reduceMul reduceEqDiff reduceLT reduceLeDiff reduceSub reduceDiv)
open Int (reduceBNe reduceLE reduceEq)
open Go.Am Go.Proofs Go.Hv
open Classical
attribute [local irreducible] AW CallP CallB CallY
theorem unkI_le (D:List AV):∀ l:List Int,unkI D l≤l.length
 | []=>Nat.le_refl _
 |n::l=>by
  have:=unkI_le D l
  rw[unkI]
  split
  ·exact Nat.zero_le _
  ·simp only[List.length_cons];omega
theorem unkI_any (D:List AV):∀ l:List Int,decide (unkI D l<l.length)=l.any (unkB D)
 | []=>rfl
 |n::l=>by
  have ih:=unkI_any D l
  rw[unkI,List.any_cons, ← ih]
  cases unkB D n
  ·simp;omega
  ·simp
theorem any_InR {D:List Dt} {o:Ow} (h:o.ids.any (unkB (dl D))=false):InR D o:=by
 intro x hx
 have:=List.any_eq_false.1 h x hx
 simp only[unkB,Bool.or_eq_true,decide_eq_true_eq,not_or,dl_len] at this
 exact⟨x.toNat,by omega,by omega⟩
def dropS (D:List Dt) (h:Hp) (v:Vl):Hp×Fa×Int:=
 match walkS h v with
 |none=>(hp0,Fa.nil,1)
 |some o=>if o.ids.any (unkB (dl D)) then(hp0,Fa.nil,1) else(closedS h o,dropAll (drs D) h v,0)
def resD (p:Hp×Fa×Int):AV:= .tup [p.1.av,.sl (il p.2.1.out),.i (p.2.1.cnt:Int),.bool p.2.1.pan,.i p.2.2]
theorem drop_none (D:List Dt) (h:Hp) (v:Vl) (hm:Sm h v) (hD:D.length≤2 ^ 30) (hs:walkS h v=none):PCall Try.prog 55 [.sl (dl D),h.av,v.av] (resD (hp0,Fa.nil,1)):=by
 have hw:=walk_none hm hs
 rw[Hp.av_eq,Vl.av_eq] at hw ⊢
 refine PCall.intro Try.func55 rfl isf55 (by simp[Try.f55]) (by simp[AV.cloL,AV.clo]) fun E Q hE hN hQ=>K_start ?_
 repeat'(first|apply nx|refine zx ?_|rw[zw]|((first|refine hK _ ?_|refine hKp _ _ ?_);clear hK hKp K Kp;try clear hanc anc)|((with_reducible refine And.intro ?_ ?_);exact zb)|((first|refine zr hE fun K Kp hK hKp=>?_|refine zd true mixed hE fun K Kp hK hKp anc hanc=>?_|refine zd false mixed hE fun K Kp hK hKp anc hanc=>?_);simp only[go_sem])|(refine zg (fun hg=>?_) (fun hg=>?_)<;>simp only[go_sem,hg])|(refine zc (fun hc=>?_) (fun hc=>?_)<;>try exact zh hc))
 refine Hold.mk (CallB.newP hw (by simp[AV.cloL,AV.clo]) (by simp[AV.ids,AV.idsL]) (by simp) ?_)
 simp only[go_sem]
 repeat'(first|apply nx|refine zx ?_|rw[zw]|((first|refine hK _ ?_|refine hKp _ _ ?_);clear hK hKp K Kp;try clear hanc anc)|((with_reducible refine And.intro ?_ ?_);exact zb)|((first|refine zr hE fun K Kp hK hKp=>?_|refine zd true mixed hE fun K Kp hK hKp anc hanc=>?_|refine zd false mixed hE fun K Kp hK hKp anc hanc=>?_);simp only[go_sem])|(refine zg (fun hg=>?_) (fun hg=>?_)<;>simp only[go_sem,hg])|(refine zc (fun hc=>?_) (fun hc=>?_)<;>try exact zh hc))
 refine K_ret (hQ _ ⟨.tup [.agg [.nilsl,.nilsl],.nilsl,.i 0,.bool false,.i 1],(by simp[resA,rvA,Try.f55,go_sem];rfl),(by simp[AV.snapOk,AV.snapOkL,go_sem]),(by rfl),(by first|rfl|simp[AV.clo,AV.cloL,go_sem])⟩).1
def IDrop (h:Hp) (o:Ow) (f:Fa) (D:Nat→Bool) (σ:St):Prop:=
 σ.nx=9∧σ.fr 4=some (.ptr 3 0)∧σ.fr 6=some (.ptr 4 0)∧σ.fr 11=some (.ptr 0 0)∧σ.fr 14=some (.ptr 5 0)∧σ.fr 15=some (.ptr 7 0)∧σ.fr 16=some (.ptr 8 0)∧
 σ.hp 0=some (.cells [.mp 1,.mp 2,.sl (il o.ids)])∧σ.hp 3=some (.cells [.sl (cl h.cells),.sl (bl h.arenas)])∧σ.hp 5=some (.cells [.rw 6])∧σ.hp 6=some (.row 1 (il f.out))∧σ.hp 7=some (.cells [.i (f.cnt:Int)])∧σ.hp 8=some (.cells [.bool f.pan])∧
 (D 2=false→σ.hp 1=some (.map (mkE o.cs)))∧(D 2=false→σ.hp 2=some (.map (mkE o.ags)))∧(D 6=false→σ.hp 4=some (.cells [.nilsl,.nilsl]))∧(D 6=true→σ.hp 4=some (.cells [.rw 2097161,.rw 2097162]))∧
 (D 2=true→σ.hp 2097161=some (.row 10 (cl (closedS h o).cells)))∧(D 2=true→σ.hp 2097162=some (.row 1 (bl (closedS h o).arenas)))∧
 (D 0=true→σ.fr 38=some (.agg [.mp 1,.mp 2,.sl (il o.ids)]))∧(D 1=true→σ.fr 39=some (.agg [.sl (cl h.cells),.sl (bl h.arenas)]))∧(D 2=true→σ.fr 40=some (.agg [.rw 2097161,.rw 2097162]))∧
 (D 3=true→σ.fr 41=some (.rw 6))∧(D 4=true→σ.fr 42=some (.i (f.cnt:Int)))∧(D 5=true→σ.fr 43=some (.bool f.pan))∧
 (D 7=true→σ.fr 7=some (.rw 6))∧(D 8=true→σ.fr 8=some (.i (f.cnt:Int)))∧(D 9=true→σ.fr 9=some (.bool f.pan))∧(D 10=true→σ.fr 10=some (.i 0))
theorem drop_some (D:List Dt) (h:Hp) (v:Vl) (hm:Sm h v) (hD:D.length≤2 ^ 30) (o:Ow) (hs:walkS h v=some o) (hl:o.ids.length≤2 ^ 43):PCall Try.prog 55 [.sl (dl D),h.av,v.av] (resD (if o.ids.any (unkB (dl D)) then(hp0,Fa.nil,1) else(closedS h o,dropAll (drs D) h v,0))):=by
 have hw:=walk_some hm hs
 have hany:=anyU_c (dl D) o.ids hl
 rw[unkI_any] at hany
 rw[Hp.av_eq,Vl.av_eq] at hw ⊢
 refine PCall.intro Try.func55 rfl isf55 (by simp[Try.f55]) (by simp[AV.cloL,AV.clo]) fun E Q hE hN hQ=>K_start ?_
 repeat'(first|apply nx|refine zx ?_|rw[zw]|((first|refine hK _ ?_|refine hKp _ _ ?_);clear hK hKp K Kp;try clear hanc anc)|((with_reducible refine And.intro ?_ ?_);exact zb)|((first|refine zr hE fun K Kp hK hKp=>?_|refine zd true mixed hE fun K Kp hK hKp anc hanc=>?_|refine zd false mixed hE fun K Kp hK hKp anc hanc=>?_);simp only[go_sem])|(refine zg (fun hg=>?_) (fun hg=>?_)<;>simp only[go_sem,hg])|(refine zc (fun hc=>?_) (fun hc=>?_)<;>try exact zh hc))
 refine Hold.mk (CallB.newP hw (by simp[AV.cloL,AV.clo]) (by simp[AV.ids,AV.idsL,go_sem]) (walk_ids o) ?_)
 simp only[go_sem,mkE_ren]
 repeat'(first|apply nx|refine zx ?_|rw[zw]|((first|refine hK _ ?_|refine hKp _ _ ?_);clear hK hKp K Kp;try clear hanc anc)|((with_reducible refine And.intro ?_ ?_);exact zb)|((first|refine zr hE fun K Kp hK hKp=>?_|refine zd true mixed hE fun K Kp hK hKp anc hanc=>?_|refine zd false mixed hE fun K Kp hK hKp anc hanc=>?_);simp only[go_sem])|(refine zg (fun hg=>?_) (fun hg=>?_)<;>simp only[go_sem,hg])|(refine zc (fun hc=>?_) (fun hc=>?_)<;>try exact zh hc))
 refine Hold.mk (CallB.use hany (fun i=>i) (by simp[AV.renL,AV.ren,go_sem]) (by simp[AV.ids,AV.idsL,go_sem]) (fun id ob ho=>⟨?_,objD_lt ho⟩) (fun _ _ _ _ _ _ e=>e) (fun id hid=>⟨hid,objD_np _ id hid⟩) ?_ (fun r hp' h=>h.elim) ?_ (fun x hp' hpn h=>h.elim))
 ·have:=(objD_lt ho).1
  obtain rfl:id=0:=by omega
  cases ho
  simp[go_sem]
 ·rintro r hp' ⟨rfl,rfl⟩
  exact⟨trivial,fun id ob ho=>⟨by have:=(objD_lt ho).1;omega,objids_mono _ (fun j hj=>by omega) (objD_lt ho).2⟩⟩
 rintro r hp' fr' hpn ⟨rfl,rfl⟩ hfr hobj hold
 simp only[St.put,AV.ren,putf] at hfr
 subst hfr
 have hne:∀ (j id:Nat),id≠0→objD (dl D) j≠none→j≠id:=fun j id hid hj=>by
  obtain⟨ob,hob⟩:=Option.ne_none_iff_exists'.1 hj
  have:=(objD_lt hob).1
  omega
 have g0:hpn 0=some (.cells [.sl (dl D)]):=by simpa [backM,go_sem] using hobj 0 _ rfl
 have g1:=hold 1048576 (.cells [.sl (cl h.cells),.sl (bl h.arenas)]) (by simp[go_sem]) (fun j hj=>hne j _ (by decide) hj)
 have g2:=hold 2097152 (.cells v.cs) (by simp[go_sem,Vl.cs]) (fun j hj=>hne j _ (by decide) hj)
 have g3:=hold 3145728 (.cells [.nilsl,.nilsl]) (by simp[go_sem]) (fun j hj=>hne j _ (by decide) hj)
 have g4:=hold 10485763 (.map (mkE o.ags)) (by simp[go_sem]) (fun j hj=>hne j _ (by decide) hj)
 have g5:=hold 10485762 (.map (mkE o.cs)) (by simp[go_sem]) (fun j hj=>hne j _ (by decide) hj)
 have g6:=hold 14680064 (.cells [.mp 10485762,.mp 10485763,.sl (il o.ids)]) (by simp[go_sem]) (fun j hj=>hne j _ (by decide) hj)
 clear hobj hold
 cases ha:o.ids.any (unkB (dl D))
 case true=>
  rw[ha,if_pos rfl] at hQ
  simp only[go_sem]
  repeat'(first|apply nx|refine zx ?_|rw[zw]|((first|refine hK _ ?_|refine hKp _ _ ?_);clear hK hKp K Kp;try clear hanc anc)|((with_reducible refine And.intro ?_ ?_);exact zb)|((first|refine zr hE fun K Kp hK hKp=>?_|refine zd true mixed hE fun K Kp hK hKp anc hanc=>?_|refine zd false mixed hE fun K Kp hK hKp anc hanc=>?_);simp only[go_sem,g3])|(refine zg (fun hg=>?_) (fun hg=>?_)<;>simp only[go_sem,g3,hg])|(refine zc (fun hc=>?_) (fun hc=>?_)<;>try exact zh hc))
  refine K_ret (hQ _ ⟨.tup [.agg [.nilsl,.nilsl],.nilsl,.i 0,.bool false,.i 1],(by simp[resA,rvA,Try.f55,go_sem,g3];rfl),(by simp[AV.snapOk,AV.snapOkL,go_sem,g3]),(by rfl),(by first|rfl|simp[AV.clo,AV.cloL,go_sem,g3])⟩).1
 rw[ha,if_neg (by simp)] at hQ
 have hI:=any_InR ha
 have hdc:=drop_c hD hm hs hI
 unfold DrpC at hdc
 rw[show dropV (drs D) h (dropE (drs D) h h.cells.length) v Fa.nil=dropAll (drs D) h v from rfl,show v.cs=[.i v.kind,.i v.id,.i v.var,.i v.n,.sl (Vl.avL v.fs),.bool v.excl,.sl (il v.path),.sl (il v.loans)] from rfl] at hdc
 generalize dropAll (drs D) h v=f at hdc hQ
 simp only[go_sem]
 repeat'(first|apply nx|refine zx ?_|rw[zw]|((first|refine hK _ ?_|refine hKp _ _ ?_);clear hK hKp K Kp;try clear hanc anc)|((with_reducible refine And.intro ?_ ?_);exact zb)|((fail_if_success refine K_stop 9 ?_);(first|refine zr hE fun K Kp hK hKp=>?_|refine zd true mixed hE fun K Kp hK hKp anc hanc=>?_|refine zd false mixed hE fun K Kp hK hKp anc hanc=>?_);simp only[go_sem,g3])|(refine zg (fun hg=>?_) (fun hg=>?_)<;>simp only[go_sem,g3,hg])|(refine zc (fun hc=>?_) (fun hc=>?_)<;>try exact zh hc))
 refine AW_nilc 28311552 0 1 (by simp only[updo,Nat.reduceEqDiff,if_true,if_false];rfl) rfl ?_
 refine AW.ent (σ':=mkSt [(4,.ptr 5 0),(5,.ptr 11 0),(6,.ptr 8 0),(11,.ptr 7 0),(14,.ptr 3 0),(15,.ptr 1 0),(16,.ptr 0 0),(17,.ptr 4 0)] [(0,.cells [.bool false]),(1,.cells [.i 0]),(2,.cells [.sl (dl D)]),(3,.cells [.rw 6]),(4,.cells [drpF]),(5,.cells h.cs),(6,.row 1 []),(7,.cells [.mp 9,.mp 10,.sl (il o.ids)]),(8,.cells [.nilsl,.nilsl]),(9,.map (mkE o.cs)),(10,.map (mkE o.ags)),(11,.cells v.cs)] 12)
  (fun i=>if i=0 then 30408704 else if i=1 then 29360128 else if i=2 then 0 else if i=3 then 28311552 else if i=4 then 33554432 else if i=5 then 1048576 else if i=6 then 36700160 else if i=7 then 14680064 else if i=8 then 3145728 else if i=9 then 10485762 else if i=10 then 10485763 else 2097152) ?_ ?_
 ·refine ent_mk (by simp[go_sem]) (by simp[go_sem,g0,g1,g2,g3,g4,g5,g6,Hp.cs,mkE_ren];exact⟨fun _ _=>mkE_idm,fun _ _=>mkE_idm⟩) (by simp) (by simp[hN])
 clear g0 g1 g2 g3 g4 g5 g6
 repeat'(first|apply nx|refine zx ?_|rw[zw]|((first|refine hK _ ?_|refine hKp _ _ ?_);clear hK hKp K Kp;try clear hanc anc)|((with_reducible refine And.intro ?_ ?_);exact zb)|((first|refine zr hE fun K Kp hK hKp=>?_|refine zd true mixed hE fun K Kp hK hKp anc hanc=>?_|refine zd false mixed hE fun K Kp hK hKp anc hanc=>?_);simp only[go_sem,Vl.cs])|(refine zg (fun hg=>?_) (fun hg=>?_)<;>simp only[go_sem,Vl.cs,hg])|(refine zc (fun hc=>?_) (fun hc=>?_)<;>try exact zh hc))
 refine Hold.mk (CallB.use hdc (fun i=>i) (by rw[renL_id]) (by simp[AV.ids,AV.idsL,go_sem]) (fun id ob ho=>⟨?_,objP_lt ho⟩) (fun _ _ _ _ _ _ e=>e) (fun id hid=>⟨by omega,objP_np _ _ _ _ (by omega)⟩) ?_ (fun _ _ hx=>hx.elim) ?_ (fun _ _ _ hx=>hx.elim))
 ·rw[oren_id]
  simp only[objP,mkHp,updo] at ho
  repeat' split at ho
  all_goals first|(cases ho;done)|skip
  all_goals cases ho;subst_vars
  all_goals simp[updo,mkHp,Fa.nil,il]
 ·rintro r hp' ⟨rfl,rfl⟩
  exact⟨trivial,fun id ob ho=>⟨by have:=(objP_lt ho).1;omega,objids_mono _ (fun j hj=>by omega) (objP_lt ho).2⟩⟩
 rintro r hp' fr' hpn ⟨rfl,rfl⟩ hfr hobj hold
 simp only[St.put,AV.ren,AV.renL,putf] at hfr
 subst hfr
 have hne:∀ (j id:Nat),7≤id→objP D h Fa.nil j≠none→j≠id:=fun j id hid hj=>by
  obtain⟨ob,hob⟩:=Option.ne_none_iff_exists'.1 hj
  have:=(objP_lt hob).1
  omega
 have k0:hpn 0=some (.cells [.bool f.pan]):=by simpa [backM,go_sem] using hobj 0 _ rfl
 have k1:hpn 1=some (.cells [.i (f.cnt:Int)]):=by simpa [backM,go_sem] using hobj 1 _ rfl
 have k3:hpn 3=some (.cells [.rw 2097164]):=by simpa [backM,go_sem] using hobj 3 _ rfl
 have k5:hpn 5=some (.cells h.cs):=by simpa [backM,go_sem,Hp.cs] using hobj 5 _ rfl
 have k6:hpn 2097164=some (.row 1 (il f.out)):=by simpa [backM,go_sem] using hobj 6 _ rfl
 have k7:=hold 7 (.cells [.mp 9,.mp 10,.sl (il o.ids)]) (by simp[go_sem]) (fun j hj=>hne j _ (by decide) hj)
 have k8:=hold 8 (.cells [.nilsl,.nilsl]) (by simp[go_sem]) (fun j hj=>hne j _ (by decide) hj)
 have k9:=hold 9 (.map (mkE o.cs)) (by simp[go_sem]) (fun j hj=>hne j _ (by decide) hj)
 have k10:=hold 10 (.map (mkE o.ags)) (by simp[go_sem]) (fun j hj=>hne j _ (by decide) hj)
 clear hobj hold
 simp only[go_sem]
 refine hK _ ?_;clear hK hKp K Kp;try clear hanc anc
 repeat(first|refine Kq_norm_code ?_|refine Kq_norm_blk ?_|refine Kq_norm_lp ?_)
 refine K_seq ?_
 refine AW.ent (σ':=mkSt [(4,.ptr 3 0),(6,.ptr 4 0),(11,.ptr 0 0),(14,.ptr 5 0),(15,.ptr 7 0),(16,.ptr 8 0)] [(0,.cells [.mp 1,.mp 2,.sl (il o.ids)]),(1,.map (mkE o.cs)),(2,.map (mkE o.ags)),(3,.cells [.sl (cl h.cells),.sl (bl h.arenas)]),(4,.cells [.nilsl,.nilsl]),(5,.cells [.rw 6]),(6,.row 1 (il f.out)),(7,.cells [.i (f.cnt:Int)]),(8,.cells [.bool f.pan])] 9)
  (fun i=>if i=0 then 7 else if i=1 then 9 else if i=2 then 10 else if i=3 then 5 else if i=4 then 8 else if i=5 then 3 else if i=6 then 2097164 else if i=7 then 1 else 0) ?_ ?_
 ·refine ent_mk (by simp[go_sem]) (by simp[go_sem,k0,k1,k3,k5,k6,k7,k8,k9,k10,Hp.cs,mkE_ren];exact⟨fun _ _=>mkE_idm,fun _ _=>mkE_idm⟩) (by simp) (by simp[hN])
 clear k0 k1 k3 k5 k6 k7 k8 k9 k10 hne hdc hany hw
 have hcl:=closed_call hm.l hm.a (walkS_ok hs)
 rw[Hp.av_eq] at hcl
 refine K_inv (n:=11) (IDrop h o f) mixed hE ?_ ?_ (fun Kp hKp=>?_) ?_ rfl
 ·intro D D' σ h
  have:=fun j=>(h j).symm
  unfold IDrop
  simp only[this]
  exact fun h=>h
 ·simp[IDrop,go_sem]
 ·refine⟨?_,?_,?_,?_,?_,?_,?_,?_,?_,?_,?_,trivial⟩
  all_goals rintro D' ⟨fr,hp,nx⟩ hD' hr ⟨hn,f1,f2,f3,f4,f5,f6,h0,h3,h5,h6,h7,h8,b1,b2,b4,b4',r1,r2,d0,d1,d2,d3,d4,d5,d7,d8,d9,d10⟩
  all_goals simp[Region.binds] at hn f1 f2 f3 f4 f5 f6 h0 h3 h5 h6 h7 h8 b1 b2 b4 b4' r1 r2 d0 d1 d2 d3 d4 d5 d7 d8 d9 d10 hD' hr
  all_goals subst hn
  all_goals try clear hQ
  ·simp only[go_sem,f3,h0]
   (simp only[IDrop,upd,updo];simp[f1,f2,f3,f4,f5,f6,h0,h3,h5,h6,h7,h8];simp_all)
  ·simp only[go_sem,f1,h3]
   (simp only[IDrop,upd,updo];simp[f1,f2,f3,f4,f5,f6,h0,h3,h5,h6,h7,h8];simp_all)
  ·obtain⟨hr0,hr1⟩:=hr
   have m1:=b1 hD'
   have m2:=b2 hD'
   simp only[go_sem,d0 hr0,d1 hr1]
   refine Hold.mk (CallB.use hcl (fun i=>1+i) (by simp[AV.renL,AV.ren,go_sem]) (by simp[AV.ids,AV.idsL,go_sem]) (fun id ob hx=>?_) (fun _ _ _ _ _ _ e=>by omega) (fun id hid=>⟨hid,obC_np _ _ hid⟩) ?_ (fun _ _ hx=>hx.elim) ?_ (fun _ _ _ hx=>hx.elim))
   ·rcases obC_cases hx with ⟨rfl,rfl⟩|⟨rfl,rfl⟩
    ·exact⟨by simp[go_sem,mkE_ren,m1],by decide,fun p hp=>mkE_idm hp⟩
    ·exact⟨by simp[go_sem,mkE_ren,m2],by decide,fun p hp=>mkE_idm hp⟩
   ·rintro r hp' ⟨rfl,rfl⟩
    refine⟨by simp[AV.ids,AV.idsL],fun id ob hx=>?_⟩
    simp only[mkHp,updo] at hx
    repeat' split at hx
    all_goals first|(cases hx;done)|skip
    all_goals cases hx;subst_vars
    all_goals exact⟨by decide,by simp[AObj.ids,go_sem]⟩
   ·rintro r hp' fr' hpn ⟨rfl,rfl⟩ hfr hobj hold
    have q3:hpn 2097161=some (.row 10 (cl (closedS h o).cells)):=by simpa [backM,go_sem] using hobj 2 (.row 10 (cl (closedS h o).cells)) rfl
    have q4:hpn 2097162=some (.row 1 (bl (closedS h o).arenas)):=by simpa [backM,go_sem] using hobj 3 (.row 1 (bl (closedS h o).arenas)) rfl
    have hne:∀ id:Nat,id≠1→id≠2→∀ j,obC o j≠none→1+j≠id:=fun id e1 e2 j hj=>by
     obtain⟨ob,hob⟩:=Option.ne_none_iff_exists'.1 hj
     rcases obC_cases hob with ⟨rfl,_⟩|⟨rfl,_⟩<;>omega
    have n0:=hold 0 _ h0 (hne 0 (by decide) (by decide))
    have n3:=hold 3 _ h3 (hne 3 (by decide) (by decide))
    have n5:=hold 5 _ h5 (hne 5 (by decide) (by decide))
    have n6:=hold 6 _ h6 (hne 6 (by decide) (by decide))
    have n7:=hold 7 _ h7 (hne 7 (by decide) (by decide))
    have n8:=hold 8 _ h8 (hne 8 (by decide) (by decide))
    have n4:D' 6=false→hpn 4=some (.cells [.nilsl,.nilsl]):=fun hd=>hold 4 _ (b4 hd) (hne 4 (by decide) (by decide))
    have n4':D' 6=true→hpn 4=some (.cells [.rw 2097161,.rw 2097162]):=fun hd=>hold 4 _ (b4' hd) (hne 4 (by decide) (by decide))
    have er:fr'=upd fr 40 (.agg [.rw 2097161,.rw 2097162]):=hfr
    clear hobj hold hfr hcl b4 b4' b1 b2 h0 h3 h5 h6 h7 h8 r1 r2
    subst er
    simp only[IDrop,upd]
    simp[f1,f2,f3,f4,f5,f6,n0,n3,n5,n6,n7,n8,q3,q4,n4,n4']
    simp_all
  ·simp only[go_sem,f4,h5]
   (simp only[IDrop,upd,updo];simp[f1,f2,f3,f4,f5,f6,h0,h3,h5,h6,h7,h8];simp_all)
  ·simp only[go_sem,f5,h7]
   (simp only[IDrop,upd,updo];simp[f1,f2,f3,f4,f5,f6,h0,h3,h5,h6,h7,h8];simp_all)
  ·simp only[go_sem,f6,h8]
   (simp only[IDrop,upd,updo];simp[f1,f2,f3,f4,f5,f6,h0,h3,h5,h6,h7,h8];simp_all)
  ·have z4:=b4 hD'
   simp only[go_sem,f2,d2 hr.1,z4]
   (simp only[IDrop,upd,updo];simp[f1,f2,f3,f4,f5,f6,h0,h3,h5,h6,h7,h8];simp_all)
  ·simp only[go_sem,d3 hr.1]
   (simp only[IDrop,upd,updo];simp[f1,f2,f3,f4,f5,f6,h0,h3,h5,h6,h7,h8];simp_all)
  ·simp only[go_sem,d4 hr.1]
   (simp only[IDrop,upd,updo];simp[f1,f2,f3,f4,f5,f6,h0,h3,h5,h6,h7,h8];simp_all)
  ·simp only[go_sem,d5 hr.1]
   (simp only[IDrop,upd,updo];simp[f1,f2,f3,f4,f5,f6,h0,h3,h5,h6,h7,h8];simp_all)
  ·simp only[go_sem]
   (simp only[IDrop,upd,updo];simp[f1,f2,f3,f4,f5,f6,h0,h3,h5,h6,h7,h8];simp_all)
 ·rintro⟨fr,hp,nx⟩ D' hD' ⟨hn,f1,f2,f3,f4,f5,f6,h0,h3,h5,h6,h7,h8,b1,b2,b4,b4',r1,r2,d0,d1,d2,d3,d4,d5,d7,d8,d9,d10⟩
  simp only at hn f1 f2 f3 f4 f5 f6 h0 h3 h5 h6 h7 h8 b1 b2 b4 b4' r1 r2 d0 d1 d2 d3 d4 d5 d7 d8 d9 d10
  have z4:=b4' (hD' 6)
  have z1:=r1 (hD' 2)
  have z2:=r2 (hD' 2)
  have y7:=d7 (hD' 7)
  have y8:=d8 (hD' 8)
  have y9:=d9 (hD' 9)
  have y10:=d10 (hD' 10)
  refine Kq_norm_code ?_
  refine K_ret (hQ _ ⟨.tup [.agg [.rw 2097161,.rw 2097162],.rw 6,.i (f.cnt:Int),.bool f.pan,.i 0],(by simp[resA,rvA,Try.f55,go_sem,f2,z4,y7,y8,y9,y10];rfl),?_,?_,rfl⟩).1
  ·simp[AV.snapOk,AV.snapOkL,go_sem,z1,z2,h6]
  ·simp[AV.snap,AV.snapL,go_sem,z1,z2,h6,resD,Hp.av_eq]
theorem drop_call (D:List Dt) (h:Hp) (v:Vl) (hm:Sm h v) (hD:D.length≤2 ^ 30):PCall Try.prog 55 [.sl (dl D),h.av,v.av] (resD (dropS D h v)):=by
 unfold dropS
 cases hs:walkS h v with
 |none=>exact drop_none D h v hm hD hs
 |some o=>
  refine drop_some D h v hm hD o hs ?_
  have:=(visV_bud (visE_keeps h _) (visE_bud hm.m _) v Ow.nil o (Ow.nil_ok h) hs)
  rw[bud_nil] at this
  have h1:o.ids.length≤bud (2 ^ 20) h o:=Nat.le_add_right _ _
  have:=hm.l
  have:=hm.v
  omega
end Go.Proofs.Ytfgjjnfdcgkpoaa
