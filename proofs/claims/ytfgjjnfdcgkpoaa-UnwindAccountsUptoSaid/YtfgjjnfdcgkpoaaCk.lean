/- A part of the proof: an abstract machine for the walks, and what the walked functions compute. -/
import Derived.Test.YtfgjjnfdcgkpoaaCj
set_option linter.unusedVariables false
set_option linter.unusedSimpArgs false
set_option maxHeartbeats 4000000
set_option maxRecDepth 100000
namespace Go.Proofs.Ytfgjjnfdcgkpoaa
open Go.Am Go.Proofs Go.Hv
open Classical
attribute [local irreducible] AW CallP CallB CallY
theorem AW_setZeroP {E : En} {c : Code} {Q : AEx → St → Prop} {fr : Nat → Option AV} {hp : Nat → Option AObj} {nx : Nat} (X : Nat) {L : List Cl} {n : Nat} (hX : hp X = some (.row 10 ((cl L).set n (.agg [.bool false, .i 0, .i 0, .i 0, .i 0, .i 0, .nilsl, .bool false, .nilsl, .nilsl]))))
    (h:AW Try.prog E c Q ⟨fr,updo hp X (some (.row 10 (cl (L.set n Cl.zero)))),nx⟩):AW Try.prog E c Q ⟨fr,hp,nx⟩:=AW_setZero X hX h

structure Fw where
 L:List Cl
 A:List Bool
 f:Fa
abbrev fwC (D:List Dt) (w:Fw):List AV:=[.sl (dl D),.rw 1,.rw 2,.rw 3,.i (w.f.cnt:Int),.bool w.f.pan]
def objF (D:List Dt) (w:Fw):Nat→Option AObj:=mkHp [(0,.cells (fwC D w)),(1,.row 10 (cl w.L)),(2,.row 1 (bl w.A)),(3,.row 1 (il w.f.out))]
theorem objF_0 (D:List Dt) (w:Fw):objF D w 0=some (.cells (fwC D w)):=rfl
theorem objF_1 (D:List Dt) (w:Fw):objF D w 1=some (.row 10 (cl w.L)):=rfl
theorem objF_2 (D:List Dt) (w:Fw):objF D w 2=some (.row 1 (bl w.A)):=rfl
theorem objF_3 (D:List Dt) (w:Fw):objF D w 3=some (.row 1 (il w.f.out)):=rfl
theorem famF (D:List Dt):Fam (objF D) 4:=by
 refine⟨fun w id ob ho=>?_,fun w id hid=>?_⟩
 ·simp only[objF,mkHp,updo] at ho
  repeat' split at ho
  all_goals first|(cases ho;done)|skip
  all_goals cases ho;subst_vars
  all_goals exact⟨by decide,by simp[AObj.ids,AV.ids,AV.idsL,go_sem]⟩
 ·have:id=0∨id=1∨id=2∨id=3:=by omega
  rcases this with rfl|rfl|rfl|rfl<;>simp[objF,mkHp,updo]
theorem objF_of {D:List Dt} {w:Fw} {hp:Nat→Option AObj} (h0:hp 0=some (.cells (fwC D w))) (h1:hp 1=some (.row 10 (cl w.L))) (h2:hp 2=some (.row 1 (bl w.A))) (h3:hp 3=some (.row 1 (il w.f.out))):∀ id ob,objF D w id=some ob→hp id=some ob:=by
 intro id ob ho
 simp only[objF,mkHp,updo] at ho
 repeat' split at ho
 all_goals first|(cases ho;done)|skip
 all_goals cases ho;subst_vars
 ·exact h0
 ·exact h1
 ·exact h2
 ·exact h3
theorem finF {E : En} {D : List Dt} {w : Fw} {G : Fw → Prop} {σ : St} (X : Nat) (hX : 3 ≤ X) (hG : G w) (h0 : σ.hp 0 = some (.cells [.sl (dl D), .rw 1, .rw 2, .rw X, .i (w.f.cnt : Int), .bool w.f.pan])) (h1 : σ.hp 1 = some (.row 10 (cl w.L))) (h2 : σ.hp 2 = some (.row 1 (bl w.A))) (h3 : σ.hp X = some (.row 1 (il w.f.out))) :
    ∃ r m hc nc,resA Try.prog [] σ=some (AV.ren m r)∧r.ids (· <nc)∧Ent 3 m σ ⟨fun _=>none,hc,nc⟩∧(r= .tup []∧∃ x',hc=objF D x'∧G x'):=by
  refine⟨.tup [],fun i=>if i=3 then X else i,objF D w,4,rfl,trivial,?_,rfl,w,rfl,hG⟩
  show Ent _ _ _ (mkSt [] [(0,.cells (fwC D w)),(1,.row 10 (cl w.L)),(2,.row 1 (bl w.A)),(3,.row 1 (il w.f.out))] 4)
  refine ent_mk (by simp) (by simp[go_sem,h0,h1,h2,h3]) (by simp;omega) (fun id hid=>⟨if_neg (by omega),by omega⟩)
def FCon (D:List Dt) (v:Vl) (w w':Fw):Prop:=MCall Try.prog 64 [.ptr 0 0,.agg v.cs] (objF D) 4 3 w (fun wb=>wb=w')
theorem useF {D : List Dt} {v : Vl} {w w' : Fw} (hA : FCon D v w w') {fr : Nat → Option AV} {hp0 : Nat → Option AObj} {n0 k : Nat} {d : Option Nat} {K : St → Prop} {Kp : AV → St → Prop} (B : Nat) (hB : n0 + 1048576 * k = B)
    (hob:∀ id ob,objF D w id=some ob→hp0 id=some ob) (hK:∀ hpn,hpn 0=some (.cells [.sl (dl D),.rw 1,.rw 2,.rw B,.i (w'.f.cnt:Int),.bool w'.f.pan])→hpn 1=some (.row 10 (cl w'.L))→hpn 2=some (.row 1 (bl w'.A))→hpn B=some (.row 1 (il w'.f.out))→(∀ id o,4≤id→hp0 id=some o→hpn id=some o)→K ⟨putf fr d (.tup []),hpn,n0⟩):
    CallB Try.prog 64 [.ptr 0 0,.agg [.i v.kind,.i v.id,.i v.var,.i v.n,.sl (Vl.avL v.fs),.bool v.excl,.sl (il v.path),.sl (il v.loans)]] ⟨fr,hp0,n0⟩ k d K Kp:=by
  subst hB
  refine MCall.useG (famF D) (by decide) (by decide) hA (by simp[AV.ids,AV.idsL,Vl.cs,go_sem]) hob fun x' hpn hG hobj hold=>?_
  subst hG
  have hb:∀ j,j<3→backM (fun i=>i) 3 (n0+1048576*k) j=j:=fun j hj=>backM_lt hj
  have hb3:backM (fun i=>i) 3 (n0+1048576*k) 3=n0+1048576*k:=by rw[backM_ge (Nat.le_refl _)];rfl
  have g0:=hobj 0 _ (objF_0 D x')
  have g1:=hobj 1 _ (objF_1 D x')
  have g2:=hobj 2 _ (objF_2 D x')
  have g3:=hobj 3 _ (objF_3 D x')
  rw[hb 0 (by decide)] at g0
  rw[hb 1 (by decide)] at g1
  rw[hb 2 (by decide)] at g2
  rw[hb3] at g3
  simp only[AObj.ren,AV.ren,AV.renL,hb 1 (by decide),hb 2 (by decide),hb3,cl_ren,bl_ren,il_ren] at g0 g1 g2 g3
  exact hK hpn g0 g1 g2 g3 hold
theorem f_other (D:List Dt) (v:Vl) (w:Fw) (h2:v.kind≠2) (h3:v.kind≠3) (h5:v.kind≠5):FCon D v w w:=by
 have q2:(v.kind==2)=false:=by simpa using h2
 have q3:(v.kind==3)=false:=by simpa using h3
 have q5:(v.kind==5)=false:=by simpa using h5
 unfold FCon
 rw[show v.cs=[.i v.kind,.i v.id,.i v.var,.i v.n,.sl (Vl.avL v.fs),.bool v.excl,.sl (il v.path),.sl (il v.loans)] from rfl]
 refine MCall.intro Try.func64 isf52 rfl (by simp[Try.f64]) rfl fun E Q hE hN hQ=>K_start ?_
 repeat'(first|apply nx|refine zx ?_|rw[zw]|((first|refine hK _ ?_|refine hKp _ _ ?_);clear hK hKp K Kp;try clear hanc anc)|((with_reducible refine And.intro ?_ ?_);exact zb)|((first|refine zr hE fun K Kp hK hKp=>?_|refine zd true mixed hE fun K Kp hK hKp anc hanc=>?_|refine zd false mixed hE fun K Kp hK hKp anc hanc=>?_);simp only[go_sem,q2,q3,q5])|(refine zg (fun hg=>?_) (fun hg=>?_)<;>simp only[go_sem,q2,q3,q5,hg])|(refine zc (fun hc=>?_) (fun hc=>?_)<;>try exact zh hc))
 refine Kq_norm_nil ?_
 refine(hQ _ (finF (E:=E) 3 (by decide) rfl ?_ ?_ ?_ ?_)).2
 ·simp[updo,objF_0]
 ·simp[updo,objF_1]
 ·simp[updo,objF_2]
 ·simp[updo,objF_3]
abbrev zAgg:AV:= .agg [.bool false,.i 0,.i 0,.i 0,.i 0,.i 0,.nilsl,.bool false,.nilsl,.nilsl]
theorem Wk.zero {E:En} {fr:Nat→Option AV} {hp:Nat→Option AObj} {nx:Nat} (X:Nat) {L:List Cl} {n:Nat} (hX:hp X=some (.row 10 ((cl L).set n zAgg))):Wk E ⟨fr,hp,nx⟩ ⟨fr,updo hp X (some (.row 10 (cl (L.set n Cl.zero)))),nx⟩:=by
 refine Wk.snpRow X (cl (L.set n Cl.zero)) hX (by simp[cl_len]) (fun i hi=>?_)
 rw[← cl_set]
 refine snp_set (.inr ⟨?_,?_⟩) _ _ _ hi
 ·simp[AV.snapOk,AV.snapOkL]
 ·rfl
theorem f_box (D:List Dt) (v:Vl) (w wb:Fw) (hk:v.kind=3) (m:Nat) (hn:v.n=m) (c:Cl) (hcc:w.L[m]? =some c) (hl:w.L.length≤2 ^ 20) (hl1:wb.L.length=w.L.length) (hv:FCon D c.v w wb):FCon D v w ⟨wb.L.set m Cl.zero,wb.A,wb.f⟩:=by
 have hm:=(List.getElem?_eq_some_iff.1 hcc).1
 have hm1:m<wb.L.length:=by omega
 obtain⟨c1,hc1⟩:=get?_of hm1
 have q2:(v.kind==2)=false:=by simp[hk]
 have q3:(v.kind==3)=true:=by simp[hk]
 have hsz:=szok_cl wb.L
 unfold FCon
 rw[show v.cs=[.i v.kind,.i v.id,.i v.var,.i v.n,.sl (Vl.avL v.fs),.bool v.excl,.sl (il v.path),.sl (il v.loans)] from rfl]
 refine MCall.introW Try.func64 isf52 rfl (by simp[Try.f64]) rfl fun E Q hE hN hQ=>K_start ?_
 repeat'(first|apply nx|refine zx ?_|rw[zw]|((first|refine hK _ ?_|refine hKp _ _ ?_);clear hK hKp K Kp;try clear hanc anc)|((with_reducible refine And.intro ?_ ?_);exact zb)|((first|refine zr hE fun K Kp hK hKp=>?_|refine zd true mixed hE fun K Kp hK hKp anc hanc=>?_|refine zd false mixed hE fun K Kp hK hKp anc hanc=>?_);simp only[go_sem,q2,q3,objF_0,objF_1,hn,hcc,Cl.av,Cl.cs_eq])|(refine zg (fun hg=>?_) (fun hg=>?_)<;>simp only[go_sem,q2,q3,objF_0,objF_1,hn,hcc,Cl.av,Cl.cs_eq,hg])|(refine zc (fun hc=>?_) (fun hc=>?_)<;>try exact zh hc))
 refine Hold.mk (useF hv 18874372 rfl (objF_of (by simp[updo,objF_0]) (by simp[updo,objF_1]) (by simp[updo,objF_2]) (by simp[updo,objF_3])) fun hpn g0 g1 g2 g3 hold=>?_)
 have g4:=hold 4 (.cells [.i v.kind,.i v.id,.i v.var,.i m,.sl (Vl.avL v.fs),.bool v.excl,.sl (il v.path),.sl (il v.loans)]) (by decide) (by simp[updo];done)
 simp only[go_sem,putf]
 refine hK _ ?_;clear hK hKp K Kp;try clear hanc anc
 repeat(first|refine Kq_norm_code ?_|refine Kq_norm_blk ?_|refine Kq_norm_lp ?_)
 repeat'(first|apply nx|refine zx ?_|rw[zw]|((first|refine hK _ ?_|refine hKp _ _ ?_);clear hK hKp K Kp;try clear hanc anc)|((with_reducible refine And.intro ?_ ?_);exact zb)|((first|refine zr hE fun K Kp hK hKp=>?_|refine zd true mixed hE fun K Kp hK hKp anc hanc=>?_|refine zd false mixed hE fun K Kp hK hKp anc hanc=>?_);simp only[go_sem,g0,g1,g4,hc1,Cl.av,Cl.cs_eq])|(refine zg (fun hg=>?_) (fun hg=>?_)<;>simp only[go_sem,g0,g1,g4,hc1,Cl.av,Cl.cs_eq,hg])|(refine zc (fun hc=>?_) (fun hc=>?_)<;>try exact zh hc))
 repeat(first|refine Kq_norm_blk ?_|refine Kq_norm_nil ?_)
 refine(hQ _ _ (Wk.zero 1 (L:=wb.L) (n:=m) (by simp[go_sem];done)) (finF (E:=E) 18874372 (by decide) rfl ?_ ?_ ?_ ?_)).2
 ·simp[updo,g0]
 ·simp[updo]
 ·simp[updo,g2]
 ·simp[updo,g3]
abbrev hpF (D:List Dt) (v:Vl) (w:Fw):List (Nat×AObj):=[(0,.cells (fwC D w)),(1,.row 10 (cl w.L)),(2,.row 1 (bl w.A)),(3,.row 1 (il w.f.out)),(4,.cells [.i v.kind,.i v.id,.i v.var,.i v.n,.sl (Vl.avL v.fs),.bool v.excl,.sl (il v.path),.sl (il v.loans)])]
theorem f_data (D : List Dt) (v : Vl) (w wf : Fw) (d : Dt) (hk : v.kind = 2) (hl : v.fs.length ≤ 2 ^ 30) (m : Nat) (hid : v.id = m) (hd : D[m]? = some d) (hD : D.length ≤ 2 ^ 30) (hc0 : w.f.cnt ≤ 2 ^ 43) (ho0 : w.f.out.length ≤ 2 ^ 43)
    (P:Nat→Fw→Prop) (hP:P 0 ⟨w.L,w.A,if w.f.pan then w.f else w.f.add d.dr⟩) (hf:∀ i x u,v.fs[i]? =some x→P i u→∃ u',FCon D x u u'∧P (i+1) u') (hr:∀ u,P v.fs.length u→u=wf):FCon D v w wf:=by
  have q2:(v.kind==2)=true:=by simpa using hk
  unfold FCon
  rw[show v.cs=[.i v.kind,.i v.id,.i v.var,.i v.n,.sl (Vl.avL v.fs),.bool v.excl,.sl (il v.path),.sl (il v.loans)] from rfl]
  have hml:m<D.length:=(List.getElem?_eq_some_iff.1 hd).1
  have hsz:=szok_il [d.dr]
  generalize hU:(⟨w.L,w.A,if w.f.pan then w.f else w.f.add d.dr⟩:Fw)=u0 at hP
  refine MCall.intro Try.func64 isf52 rfl (by simp[Try.f64]) rfl fun E Q hE hN hQ=>K_start ?_
  repeat'(first|apply nx|refine zx ?_|rw[zw]|((first|refine hK _ ?_|refine hKp _ _ ?_);clear hK hKp K Kp;try clear hanc anc)|((with_reducible refine And.intro ?_ ?_);exact zb)|((fail_if_success refine K_stop 3 ?_);(first|refine zr hE fun K Kp hK hKp=>?_|refine zd true mixed hE fun K Kp hK hKp anc hanc=>?_|refine zd false mixed hE fun K Kp hK hKp anc hanc=>?_);simp only[go_sem,q2,hid])|(refine zg (fun hg=>?_) (fun hg=>?_)<;>simp only[go_sem,q2,hid,hg])|(refine zc (fun hc=>?_) (fun hc=>?_)<;>try exact zh hc))
  repeat(first|apply w1|apply w2)
  refine AW.ent (σ':=mkSt [(0,.ptr 0 0),(3,.ptr 4 0)] (hpF D v w) 5) (fun i=>i) ?_ ?_
  · refine ent_mk (by simp[go_sem]) (by simp[go_sem,objF_0,objF_1,objF_2,objF_3,hid]) (by simp) (by rw[hN];exact fun id hid=>⟨rfl,by omega⟩)
  refine K_cut1 (X:=Unit) (fun _=>True) (fun _=>mkSt [(0,.ptr 0 0),(3,.ptr 4 0)] (hpF D v u0) 5) ?_ fun _ _=>?_
  · cases hp:w.f.pan
    case true=>
      repeat'(first|apply nx|refine zx ?_|rw[zw]|((first|refine hK _ ?_|refine hKp _ _ ?_);clear hK hKp K Kp;try clear hanc anc)|((with_reducible refine And.intro ?_ ?_);exact zb)|((first|refine zr hE fun K Kp hK hKp=>?_|refine zd true mixed hE fun K Kp hK hKp anc hanc=>?_|refine zd false mixed hE fun K Kp hK hKp anc hanc=>?_);simp only[go_sem,hp])|(refine zg (fun hg=>?_) (fun hg=>?_)<;>simp only[go_sem,hp,hg])|(refine zc (fun hc=>?_) (fun hc=>?_)<;>try exact zh hc))
      refine cut_norm () trivial (fun i=>i) ?_
      rw[← hU,hp,if_pos rfl]
      refine ent_mk (by simp[go_sem]) (by simp[go_sem,hp]) (by simp) (by rw[hN];exact fun id hid=>⟨rfl,by omega⟩)
    cases hc1:decide (0<d.dr)
    · have hn:¬ 0<d.dr:=by simpa using hc1
      have e1:(w.f.add d.dr).out=w.f.out:=if_neg hn
      repeat'(first|apply nx|refine zx ?_|rw[zw]|((first|refine hK _ ?_|refine hKp _ _ ?_);clear hK hKp K Kp;try clear hanc anc)|((with_reducible refine And.intro ?_ ?_);exact zb)|((first|refine zr hE fun K Kp hK hKp=>?_|refine zd true mixed hE fun K Kp hK hKp anc hanc=>?_|refine zd false mixed hE fun K Kp hK hKp anc hanc=>?_);simp only[go_sem,hp,hid,hd,Dt.av,lt_dec hml,hc1])|(refine zg (fun hg=>?_) (fun hg=>?_)<;>simp only[go_sem,hp,hid,hd,Dt.av,lt_dec hml,hc1,hg])|(refine zc (fun hc=>?_) (fun hc=>?_)<;>try exact zh hc))
      refine cut_norm () trivial (fun i=>i) ?_
      rw[← hU,hp,if_neg (by decide)]
      refine ent_mk (by simp[go_sem]) (by simp[go_sem,hp,e1,hid]<;>simp[Fa.add]) (by simp) (by rw[hN];exact fun id hid=>⟨rfl,by omega⟩)
    · have hn:0<d.dr:=by simpa using hc1
      have e1:(w.f.add d.dr).out=w.f.out++[d.dr]:=if_pos hn
      repeat'(first|apply nx|refine zx ?_|rw[zw]|((first|refine hK _ ?_|refine hKp _ _ ?_);clear hK hKp K Kp;try clear hanc anc)|((with_reducible refine And.intro ?_ ?_);exact zb)|((first|refine zr hE fun K Kp hK hKp=>?_|refine zd true mixed hE fun K Kp hK hKp anc hanc=>?_|refine zd false mixed hE fun K Kp hK hKp anc hanc=>?_);simp only[go_sem,hp,hid,hd,Dt.av,lt_dec hml,hc1,il_app])|(refine zg (fun hg=>?_) (fun hg=>?_)<;>simp only[go_sem,hp,hid,hd,Dt.av,lt_dec hml,hc1,il_app,hg])|(refine zc (fun hc=>?_) (fun hc=>?_)<;>try exact zh hc))
      refine cut_norm () trivial (fun i=>if i=3 then 33554437 else i) ?_
      rw[← hU,hp,if_neg (by decide)]
      refine ent_mk (by simp[go_sem]) (by simp[go_sem,hp,e1,hid]<;>simp[Fa.add]) (by simp) (by rw[hN];exact fun id hid=>⟨if_neg (by omega),by omega⟩)
  repeat'(first|apply nx|refine zx ?_|rw[zw]|((first|refine hK _ ?_|refine hKp _ _ ?_);clear hK hKp K Kp;try clear hanc anc)|((with_reducible refine And.intro ?_ ?_);exact zb)|((fail_if_success refine K_stop 10 ?_);(first|refine zr hE fun K Kp hK hKp=>?_|refine zd true mixed hE fun K Kp hK hKp anc hanc=>?_|refine zd false mixed hE fun K Kp hK hKp anc hanc=>?_);simp only[go_sem])|(refine zg (fun hg=>?_) (fun hg=>?_)<;>simp only[go_sem,hg])|(refine zc (fun hc=>?_) (fun hc=>?_)<;>try exact zh hc))
  refine K_loop (X:=Nat×Fw) (fun x=>x.1≤v.fs.length∧P x.1 x.2) (fun x=>mkSt [(0,.ptr 0 0),(3,.ptr 4 0),(5,.i x.1)] (hpF D v x.2) 5) (fun x=>v.fs.length - x.1) (0,u0) ⟨Nat.zero_le _,hP⟩ (fun i=>i) ?_ ?_
  · refine ent_mk (by simp[go_sem]) (by simp[go_sem]) (by simp) (by rw[hN];exact fun id hid=>⟨rfl,by omega⟩)
  rintro⟨i,u⟩ ⟨hi,hPi⟩
  simp only at hi hPi
  by_cases hlt:i<v.fs.length
  case neg=>
    obtain rfl:i=v.fs.length:=by omega
    repeat'(first|apply nx|refine zx ?_|rw[zw]|((first|refine hK _ ?_|refine hKp _ _ ?_);clear hK hKp K Kp;try clear hanc anc)|((with_reducible refine And.intro ?_ ?_);exact zb)|((first|refine zr hE fun K Kp hK hKp=>?_|refine zd true mixed hE fun K Kp hK hKp anc hanc=>?_|refine zd false mixed hE fun K Kp hK hKp anc hanc=>?_);simp only[go_sem,ge_dec])|(refine zg (fun hg=>?_) (fun hg=>?_)<;>simp only[go_sem,ge_dec,hg])|(refine zc (fun hc=>?_) (fun hc=>?_)<;>try exact zh hc))
    repeat(first|refine Kq_norm_blk ?_|refine Kq_norm_nil ?_)
    refine(hQ _ (finF (E:=E) (w:=u) 3 (by decide) (hr u hPi) ?_ ?_ ?_ ?_)).2
    · simp[updo]
    · simp[updo]
    · simp[updo]
    · simp[updo]
  obtain⟨x,hx⟩:=get?_of hlt
  obtain⟨u',hv1,hPs⟩:=hf i x u hx hPi
  repeat'(first|apply nx|refine zx ?_|rw[zw]|((first|refine hK _ ?_|refine hKp _ _ ?_);clear hK hKp K Kp;try clear hanc anc)|((with_reducible refine And.intro ?_ ?_);exact zb)|((first|refine zr hE fun K Kp hK hKp=>?_|refine zd true mixed hE fun K Kp hK hKp anc hanc=>?_|refine zd false mixed hE fun K Kp hK hKp anc hanc=>?_);simp only[go_sem,lt_dec hlt,hx,Vl.av_eq])|(refine zg (fun hg=>?_) (fun hg=>?_)<;>simp only[go_sem,lt_dec hlt,hx,Vl.av_eq,hg])|(refine zc (fun hc=>?_) (fun hc=>?_)<;>try exact zh hc))
  refine Hold.mk (useF hv1 11534341 rfl (objF_of (by simp[updo]) (by simp[updo]) (by simp[updo]) (by simp[updo])) fun hpn g0 g1 g2 g3 hold=>?_)
  have g4:=hold 4 (.cells [.i v.kind,.i v.id,.i v.var,.i v.n,.sl (Vl.avL v.fs),.bool v.excl,.sl (il v.path),.sl (il v.loans)]) (by decide) (by simp[updo];done)
  simp only[go_sem,putf]
  refine hK _ ?_;clear hK hKp K Kp;try clear hanc anc
  repeat(first|refine Kq_norm_code ?_|refine Kq_norm_blk ?_|refine Kq_norm_lp ?_)
  repeat'(first|apply nx|refine zx ?_|rw[zw]|((first|refine hK _ ?_|refine hKp _ _ ?_);clear hK hKp K Kp;try clear hanc anc)|((with_reducible refine And.intro ?_ ?_);exact zb)|((first|refine zr hE fun K Kp hK hKp=>?_|refine zd true mixed hE fun K Kp hK hKp anc hanc=>?_|refine zd false mixed hE fun K Kp hK hKp anc hanc=>?_);simp only[go_sem])|(refine zg (fun hg=>?_) (fun hg=>?_)<;>simp only[go_sem,hg])|(refine zc (fun hc=>?_) (fun hc=>?_)<;>try exact zh hc))
  refine⟨(i+1,u'),⟨by simp only;omega,hPs⟩,by simp only;omega,fun i=>if i=3 then 11534341 else i,?_⟩
  refine ent_mk (by simp[go_sem]) (by simp[go_sem,g0,g1,g2,g3,g4]) (by simp) (by rw[hN];exact fun id hid=>⟨if_neg (by omega),by omega⟩)
theorem f_arena (D : List Dt) (v : Vl) (w wf : Fw) (hk : v.kind = 5) (m : Nat) (hn : v.n = m) (N : Nat) (hN20 : N ≤ 2 ^ 20) (P : Nat → Fw → Prop) (hP : P 0 w) (hPl : ∀ i u, P i u → u.L.length = N) (hPa : ∀ u, P N u → u.A.length ≤ 2 ^ 20 ∧ m < u.A.length)
    (hf:∀ i u c,P i u→u.L[i]? =some c→c.live=true→c.arena=m→∃ u',FCon D c.v u u'∧u'.L.length=N∧P (i+1) ⟨u'.L.set i Cl.zero,u'.A,u'.f⟩) (hsk:∀ i u c,P i u→u.L[i]? =some c→¬ (c.live=true∧c.arena=m)→P (i+1) u) (hr:∀ u,P N u→(⟨u.L,u.A.set m false,u.f⟩:Fw)=wf):FCon D v w wf:=by
  have q2:(v.kind==2)=false:=by simp[hk]
  have q3:(v.kind==3)=false:=by simp[hk]
  have q5:(v.kind==5)=true:=by simp[hk]
  unfold FCon
  rw[show v.cs=[.i v.kind,.i v.id,.i v.var,.i v.n,.sl (Vl.avL v.fs),.bool v.excl,.sl (il v.path),.sl (il v.loans)] from rfl]
  refine MCall.intro Try.func64 isf52 rfl (by simp[Try.f64]) rfl fun E Q hE hN hQ=>K_start ?_
  repeat'(first|apply nx|refine zx ?_|rw[zw]|((first|refine hK _ ?_|refine hKp _ _ ?_);clear hK hKp K Kp;try clear hanc anc)|((with_reducible refine And.intro ?_ ?_);exact zb)|((fail_if_success refine K_stop 18 ?_);(first|refine zr hE fun K Kp hK hKp=>?_|refine zd true mixed hE fun K Kp hK hKp anc hanc=>?_|refine zd false mixed hE fun K Kp hK hKp anc hanc=>?_);simp only[go_sem,q2,q3,q5,hn])|(refine zg (fun hg=>?_) (fun hg=>?_)<;>simp only[go_sem,q2,q3,q5,hn,hg])|(refine zc (fun hc=>?_) (fun hc=>?_)<;>try exact zh hc))
  refine K_loop (X:=Nat×Fw) (fun x=>x.1≤N∧P x.1 x.2) (fun x=>mkSt [(0,.ptr 0 0),(3,.ptr 4 0),(6,.i x.1)] (hpF D v x.2) 5) (fun x=>N - x.1) (0,w) ⟨Nat.zero_le _,hP⟩ (fun i=>i) ?_ ?_
  · refine ent_mk (by simp[go_sem]) (by simp[go_sem,objF_0,objF_1,objF_2,objF_3,hn]) (by simp) (by rw[hN];exact fun id hid=>⟨rfl,by omega⟩)
  rintro⟨i,u⟩ ⟨hi,hPi⟩
  simp only at hi hPi
  have hlu:=hPl i u hPi
  have hsz:=szok_cl u.L
  by_cases hlt:i<u.L.length
  case neg=>
    obtain rfl:i=N:=by omega
    obtain⟨ha1,ha2⟩:=hPa u hPi
    obtain⟨b,hb⟩:=get?_of ha2
    have q7:decide ((i:Int)<(u.L.length:Int))=false:=by rw[decide_eq_false_iff_not];omega
    have hsz:=szok_bl u.A
    repeat'(first|apply nx|refine zx ?_|rw[zw]|((first|refine hK _ ?_|refine hKp _ _ ?_);clear hK hKp K Kp;try clear hanc anc)|((with_reducible refine And.intro ?_ ?_);exact zb)|((first|refine zr hE fun K Kp hK hKp=>?_|refine zd true mixed hE fun K Kp hK hKp anc hanc=>?_|refine zd false mixed hE fun K Kp hK hKp anc hanc=>?_);simp only[go_sem,q7,hn,hb])|(refine zg (fun hg=>?_) (fun hg=>?_)<;>simp only[go_sem,q7,hn,hb,hg])|(refine zc (fun hc=>?_) (fun hc=>?_)<;>try exact zh hc))
    repeat(first|refine Kq_norm_blk ?_|refine Kq_norm_nil ?_)
    refine(hQ _ (finF (E:=E) (w:=⟨u.L,u.A.set m false,u.f⟩) 3 (by decide) (hr u hPi) ?_ ?_ ?_ ?_)).2
    · simp[updo]
    · simp[updo]
    · simp[updo]
    · simp[updo]
  obtain⟨c,hx⟩:=get?_of hlt
  have q6:decide ((i:Int)<(u.L.length:Int))=true:=by rw[decide_eq_true_eq];omega
  cases hlv:c.live
  · repeat'(first|apply nx|refine zx ?_|rw[zw]|((first|refine hK _ ?_|refine hKp _ _ ?_);clear hK hKp K Kp;try clear hanc anc)|((with_reducible refine And.intro ?_ ?_);exact zb)|((first|refine zr hE fun K Kp hK hKp=>?_|refine zd true mixed hE fun K Kp hK hKp anc hanc=>?_|refine zd false mixed hE fun K Kp hK hKp anc hanc=>?_);simp only[go_sem,q6,hx,Cl.av,Cl.cs_eq,hlv])|(refine zg (fun hg=>?_) (fun hg=>?_)<;>simp only[go_sem,q6,hx,Cl.av,Cl.cs_eq,hlv,hg])|(refine zc (fun hc=>?_) (fun hc=>?_)<;>try exact zh hc))
    refine⟨(i+1,u),⟨by simp only;omega,hsk i u c hPi hx (by simp[hlv])⟩,by simp only;omega,fun i=>i,?_⟩
    refine ent_mk (by simp[go_sem]) (by simp[go_sem]) (by simp) (by rw[hN];exact fun id hid=>⟨rfl,by omega⟩)
  by_cases har:c.arena=m
  case neg=>
    have q7:(c.arena==(m:Int))=false:=by simpa using har
    repeat'(first|apply nx|refine zx ?_|rw[zw]|((first|refine hK _ ?_|refine hKp _ _ ?_);clear hK hKp K Kp;try clear hanc anc)|((with_reducible refine And.intro ?_ ?_);exact zb)|((first|refine zr hE fun K Kp hK hKp=>?_|refine zd true mixed hE fun K Kp hK hKp anc hanc=>?_|refine zd false mixed hE fun K Kp hK hKp anc hanc=>?_);simp only[go_sem,q6,hx,Cl.av,Cl.cs_eq,hlv,hn,q7])|(refine zg (fun hg=>?_) (fun hg=>?_)<;>simp only[go_sem,q6,hx,Cl.av,Cl.cs_eq,hlv,hn,q7,hg])|(refine zc (fun hc=>?_) (fun hc=>?_)<;>try exact zh hc))
    refine⟨(i+1,u),⟨by simp only;omega,hsk i u c hPi hx (by simp[har])⟩,by simp only;omega,fun i=>i,?_⟩
    refine ent_mk (by simp[go_sem]) (by simp[go_sem,hn]) (by simp) (by rw[hN];exact fun id hid=>⟨rfl,by omega⟩)
  have q7:(c.arena==(m:Int))=true:=by simpa using har
  obtain⟨u',hv1,hl1,hPs⟩:=hf i u c hPi hx hlv har
  obtain⟨c1,hc1⟩:=get?_of (show i<u'.L.length by omega)
  have hsz1:=szok_cl u'.L
  repeat'(first|apply nx|refine zx ?_|rw[zw]|((first|refine hK _ ?_|refine hKp _ _ ?_);clear hK hKp K Kp;try clear hanc anc)|((with_reducible refine And.intro ?_ ?_);exact zb)|((first|refine zr hE fun K Kp hK hKp=>?_|refine zd true mixed hE fun K Kp hK hKp anc hanc=>?_|refine zd false mixed hE fun K Kp hK hKp anc hanc=>?_);simp only[go_sem,q6,hx,Cl.av,Cl.cs_eq,hlv,hn,q7])|(refine zg (fun hg=>?_) (fun hg=>?_)<;>simp only[go_sem,q6,hx,Cl.av,Cl.cs_eq,hlv,hn,q7,hg])|(refine zc (fun hc=>?_) (fun hc=>?_)<;>try exact zh hc))
  refine Hold.mk (useF hv1 42991621 rfl (objF_of (by simp[updo]) (by simp[updo]) (by simp[updo]) (by simp[updo])) fun hpn g0 g1 g2 g3 hold=>?_)
  have g4:=hold 4 (.cells [.i v.kind,.i v.id,.i v.var,.i m,.sl (Vl.avL v.fs),.bool v.excl,.sl (il v.path),.sl (il v.loans)]) (by decide) (by simp[updo];done)
  simp only[go_sem,putf]
  refine hK _ ?_;clear hK hKp K Kp;try clear hanc anc
  repeat(first|refine Kq_norm_code ?_|refine Kq_norm_blk ?_|refine Kq_norm_lp ?_)
  repeat'(first|apply nx|refine zx ?_|rw[zw]|((first|refine hK _ ?_|refine hKp _ _ ?_);clear hK hKp K Kp;try clear hanc anc)|((with_reducible refine And.intro ?_ ?_);exact zb)|((fail_if_success refine K_stop 19 ?_);(first|refine zr hE fun K Kp hK hKp=>?_|refine zd true mixed hE fun K Kp hK hKp anc hanc=>?_|refine zd false mixed hE fun K Kp hK hKp anc hanc=>?_);simp only[go_sem,g0,g1,hc1,Cl.av,Cl.cs_eq])|(refine zg (fun hg=>?_) (fun hg=>?_)<;>simp only[go_sem,g0,g1,hc1,Cl.av,Cl.cs_eq,hg])|(refine zc (fun hc=>?_) (fun hc=>?_)<;>try exact zh hc))
  refine AW_setZeroP 1 (L:=u'.L) (n:=i) (by simp[go_sem]) ?_
  repeat'(first|apply nx|refine zx ?_|rw[zw]|((first|refine hK _ ?_|refine hKp _ _ ?_);clear hK hKp K Kp;try clear hanc anc)|((with_reducible refine And.intro ?_ ?_);exact zb)|((first|refine zr hE fun K Kp hK hKp=>?_|refine zd true mixed hE fun K Kp hK hKp anc hanc=>?_|refine zd false mixed hE fun K Kp hK hKp anc hanc=>?_);simp only[go_sem])|(refine zg (fun hg=>?_) (fun hg=>?_)<;>simp only[go_sem,hg])|(refine zc (fun hc=>?_) (fun hc=>?_)<;>try exact zh hc))
  refine⟨(i+1,⟨u'.L.set i Cl.zero,u'.A,u'.f⟩),⟨by simp only;omega,hPs⟩,by simp only;omega,fun i=>if i=3 then 42991621 else i,?_⟩
  refine ent_mk (by simp[go_sem]) (by simp[go_sem,g0,g1,g2,g3,g4,hn]) (by simp) (by rw[hN];exact fun id hid=>⟨if_neg (by omega),by omega⟩)
end Go.Proofs.Ytfgjjnfdcgkpoaa

set_option maxHeartbeats 4000000
set_option maxRecDepth 100000
namespace Go.Proofs.Ytfgjjnfdcgkpoaa
open Go.Am Go.Proofs Go.Hv
open Classical
attribute [local irreducible] AW CallP CallB CallY FCon
theorem clrC_last (l:List Cl) (a:List Nat) (n:Nat):(clrC l a).set n Cl.zero=clrC l (n::a):=by
 apply List.ext_getElem?
 intro j
 rw[List.getElem?_set,clrC_len,clrC_get,clrC_get]
 by_cases h:n=j
 ·subst h
  by_cases h2:n<l.length
  ·simp[h2]
  ·simp[h2,List.getElem?_eq_none (show l.length≤n by omega)]
 ·have:¬ j=n:=fun e=>h e.symm
  simp[h,this]
theorem clrA_last (l:List Bool) (a:List Nat) (n:Nat):(clrA l a).set n false=clrA l (n::a):=by
 apply List.ext_getElem?
 intro j
 rw[List.getElem?_set,clrA_len,clrA_get,clrA_get]
 by_cases h:n=j
 ·subst h
  by_cases h2:n<l.length
  ·simp[h2]
  ·simp[h2,List.getElem?_eq_none (show l.length≤n by omega)]
 ·have:¬ j=n:=fun e=>h e.symm
  simp[h,this]
structure FInv (h:Hp) (o:Ow) (w:Fw):Prop where
 l:w.L.length=h.cells.length
 a:w.A.length=h.arenas.length
 c:∀ j,j∉o.cs→w.L[j]? =h.cells[j]?
 d:∀ (j:Nat) (c:Cl),w.L[j]? =some c→c.live=true→h.cells[j]? =some c
theorem FInv.clr {h:Hp} {o o':Ow} {w:Fw} (hi:FInv h o w) (l m:List Nat) (f:Fa) (hc:o'.cs=o.cs++l):FInv h o' ⟨clrC w.L l,clrA w.A m,f⟩:=by
 refine⟨by rw[clrC_len];exact hi.l,by rw[clrA_len];exact hi.a,fun j hj=>?_,fun j c hj hl=>?_⟩
 ·rw[hc,List.mem_append,not_or] at hj
  rw[clrC_get,if_neg (fun hh=>hj.2 hh.1)]
  exact hi.c j hj.1
 ·rw[clrC_get] at hj
  split at hj
  ·cases hj;cases hl
  ·exact hi.d j c hj hl
theorem FInv.more {h:Hp} {o o':Ow} {w:Fw} (hi:FInv h o w) (hc:∀ j,j∈o.cs→j∈o'.cs):FInv h o' w:=⟨hi.l,hi.a,fun j hj=>hi.c j fun hh=>hj (hc j hh),hi.d⟩
def FAll (D:List Dt) (h:Hp) (k:Nat):Prop:=∀ n c o o' w,h.cells[n]? =some c→c.live=true→o.Ok h→visE h k n o=some o'→InR D o'→FInv h o w→Fle w.f o→bud (2 ^ 20) h o≤2 ^ 42→
 n∉o.cs∧∃ l m,o'.cs=o.cs++(n::l)∧o'.ags=o.ags++m∧FCon D c.v w ⟨clrC w.L l,clrA w.A m,dropE (drs D) h k n w.f⟩
theorem f_all {D : List Dt} {h : Hp} (hD : D.length ≤ 2 ^ 30) (hl : h.cells.length ≤ 2 ^ 20) (hal : h.arenas.length ≤ 2 ^ 20) (hM : ∀ c, c ∈ h.cells → c.v.sz ≤ 2 ^ 20) {k : Nat} (hE : FAll D h k) : ∀ (N : Nat) (v : Vl) (o o' : Ow) (w : Fw), v.sz < N → v.sz ≤ 2 ^ 20 → o.Ok h → visV h (visE h k) v o = some o' → InR D o' → FInv h o w → Fle w.f o → bud (2 ^ 20) h o + v.sz ≤ 2 ^ 42 →
    ∃ l m,o'.cs=o.cs++l∧o'.ags=o.ags++m∧FCon D v w ⟨clrC w.L l,clrA w.A m,dropV (drs D) h (dropE (drs D) h k) v w.f⟩:=by
  intro N
  induction N with
  |zero=>intro v o o' f h0;omega
  |succ N ih=>
  intro v o o' w hN hv20 ho hw hI hFi hF hbud
  have hsz:=v.sz_eq
  have hfl:=Vl.len_le v.fs
  have hids:o.ids.length≤bud (2 ^ 20) h o:=Nat.le_add_right _ _
  have hF1:=hF.out
  have hF2:=hF.cnt
  have hkp:=visE_keeps h k
  have hLe:=(visV_keeps hkp v o o' ho hw).2
  obtain⟨kd,id,vr,n,fs,ex,pa,lo⟩:=v
  simp only[Vl.fs,Vl.path,Vl.loans] at hsz hfl
  rw[visV] at hw
  by_cases h2:kd=2
  · rw[if_pos h2] at hw
    have ho1:Ow.Ok h { o with ids:=o.ids++[id] } :=⟨ho.nd,ho.lt,ho.and,ho.alt⟩
    have hL1:=(visL_keeps hkp fs _ o' ho1 hw).2
    obtain⟨m,hm,hmD⟩:=hI.le hL1 id (by simp)
    have hd:D[m]? =some D[m]:=List.getElem?_eq_getElem hmD
    have eb:bud (2 ^ 20) h { o with ids:=o.ids++[id] } =bud (2 ^ 20) h o+1:=by simp only[bud,List.length_append,List.length_singleton];omega
    obtain⟨l,el⟩:=hL1.cs
    obtain⟨ma,ea⟩:=hL1.ags
    refine⟨l,ma,el,ea,?_⟩
    have hdr:dropV (drs D) h (dropE (drs D) h k) (.mk kd id vr n fs ex pa lo) w.f=dropL (drs D) h (dropE (drs D) h k) fs (if w.f.pan then w.f else w.f.add D[m].dr):=by
      by_cases hp:w.f.pan=true
      · rw[dropV_pan _ _ hp,if_pos hp,dropL_pan _ _ hp]
      · rw[dropV,if_neg hp,if_pos h2,if_neg hp,hm,Int.toNat_natCast,drs_get hd]
    have hF0:Fle (if w.f.pan then w.f else w.f.add D[m].dr) { o with ids:=o.ids++[id] } :=by
      split
      · exact hF.mono ⟨⟨[],by simp⟩,⟨[],by simp⟩,⟨[id],rfl⟩⟩
      · exact hF.add _ id
    rw[hdr]
    generalize hf0:(if w.f.pan then w.f else w.f.add D[m].dr)=f0 at hF0
    refine f_data D _ w _ D[m] h2 (by simp only[Vl.fs];omega) m hm hd hD (by omega) (by omega)
      (fun i u=>∃ (o1:Ow) (l1 m1:List Nat),o1.Ok h∧o1.cs=o.cs++l1∧o1.ags=o.ags++m1∧visL h (visE h k) (fs.drop i) o1=some o'∧u.L=clrC w.L l1∧u.A=clrA w.A m1∧dropL (drs D) h (dropE (drs D) h k) fs f0=dropL (drs D) h (dropE (drs D) h k) (fs.drop i) u.f∧Fle u.f o1∧bud (2 ^ 20) h o1+Vl.szL (fs.drop i)≤2 ^ 42)
      ⟨_,[],[],ho1,by simp,by simp,by simpa using hw,rfl,rfl,by simp only[hf0];rfl,by simp only[hf0];exact hF0,by rw[eb,List.drop_zero];omega⟩ ?_ ?_
    · rintro i x u hx ⟨o1,l1,m1,g1,e1,e2,g2,u1,u2,u3,g3,g4⟩
      have hx:fs[i]? =some x:=hx
      rw[drop_of hx,visL] at g2
      rw[drop_of hx,Vl.szL] at g4
      rw[drop_of hx,dropL] at u3
      obtain⟨o2,g5,g6⟩:=Option.bind_eq_some_iff.1 g2
      have:=Vl.sz_mem (List.mem_of_getElem? hx)
      have k1:=visV_keeps hkp x o1 o2 g1 g5
      have k2:=visV_bud hkp (visE_bud hM k) x o1 o2 g1 g5
      obtain⟨uL,uA,uf⟩:=u
      simp only at u1 u2
      subst u1 u2
      obtain⟨l2,m2,e3,e4,hc⟩:=ih x o1 o2 ⟨clrC w.L l1,clrA w.A m1,uf⟩ (by omega) (by omega) g1 g5 (hI.le (visL_keeps hkp _ _ _ k1.1 g6).2) (hFi.clr l1 m1 uf e1) g3 (by omega)
      refine⟨_,hc,o2,l1++l2,m1++m2,k1.1,by rw[e3,e1,List.append_assoc],by rw[e4,e2,List.append_assoc],g6,clrC_app _ _ _,clrA_app _ _ _,u3,dropV_le hkp (dropE_le k) x o1 o2 uf g1 g5 g3,by omega⟩
    · rintro u ⟨o1,l1,m1,g1,e1,e2,g2,u1,u2,u3,g3,g4⟩
      simp only[Vl.fs,List.drop_length] at g2 u3
      rw[visL] at g2
      cases g2
      rw[dropL] at u3
      have e3:l1=l:=List.append_cancel_left (e1.symm.trans el)
      have e4:m1=ma:=List.append_cancel_left (e2.symm.trans ea)
      subst e3 e4
      obtain⟨uL,uA,uf⟩:=u
      simp only at u1 u2 u3
      rw[u1,u2, ← u3]
  rw[if_neg h2] at hw
  by_cases h3:kd=3
  · rw[if_pos h3] at hw
    split at hw
    · rename_i hb
      obtain⟨m,c,rfl,hcc,hv,_⟩:=boxOk_spec hb
      rw[Int.toNat_natCast] at hw
      obtain⟨hno,l,ma,e1,e2,hc⟩:=hE m c o o' w hcc hv ho hw hI hFi hF (by omega)
      refine⟨m::l,ma,e1,e2,?_⟩
      have hdr:dropV (drs D) h (dropE (drs D) h k) (.mk kd id vr m fs ex pa lo) w.f=dropE (drs D) h k m w.f:=by
        by_cases hp:w.f.pan=true
        · rw[dropV_pan _ _ hp,dropE_pan _ _ _ hp]
        · rw[dropV,if_neg hp,if_neg h2,if_pos h3,Int.toNat_natCast]
      rw[hdr, ← clrC_last]
      exact f_box D (.mk kd id vr m fs ex pa lo) w _ h3 m rfl c (by rw[hFi.c m hno];exact hcc) (by rw[hFi.l];exact hl) (by simp only;rw[clrC_len]) hc
    · cases hw
  rw[if_neg h3] at hw
  by_cases h5:kd=5
  · rw[if_pos h5] at hw
    split at hw
    · rename_i hb
      simp only[Bool.and_eq_true,Bool.not_eq_true',decide_eq_false_iff_not] at hb
      obtain⟨m,rfl,hm⟩:=arenaOk_spec hb.1
      rw[Int.toNat_natCast,arFrom_zero] at hw
      have hm2:m∉o.ags:=by have:=hb.2;rwa [Int.toNat_natCast] at this
      have eb:bud (2 ^ 20) h (Ow.mk o.cs (o.ags++[m]) o.ids)=bud (2 ^ 20) h o:=rfl
      have ho1:=ho.arena hm2 hm
      have hL1:=(enL_keeps hkp _ _ _ ho1 (fun n hn=>by obtain⟨c,q1,q2,_⟩:=arFrom_mem hn;exact⟨c,q1,q2⟩) hw).2
      obtain⟨l,el⟩:=hL1.cs
      obtain⟨ma,ea⟩:=hL1.ags
      have el:o'.cs=o.cs++l:=el
      have ea:o'.ags=(o.ags++[m])++ma:=ea
      refine⟨l,m::ma,el,by rw[ea,List.append_assoc];rfl,?_⟩
      have hdr:dropV (drs D) h (dropE (drs D) h k) (.mk kd id vr m fs ex pa lo) w.f=foldN (dropE (drs D) h k) (arFrom h.cells m 0) w.f:=by
        by_cases hp:w.f.pan=true
        · rw[dropV_pan _ _ hp,foldN_pan (fun n f hf=>dropE_pan k n f hf) _ _ hp]
        · rw[dropV,if_neg hp,if_neg h2,if_neg h3,if_pos h5,arFrom_zero]
      rw[hdr, ← clrA_last]
      refine f_arena D _ w _ h5 m rfl h.cells.length hl
        (fun i u=>∃ (o1:Ow) (l1 m1:List Nat),o1.Ok h∧o1.cs=o.cs++l1∧o1.ags=(o.ags++[m])++m1∧enL (visE h k) (arFrom h.cells m i) o1=some o'∧u.L=clrC w.L l1∧u.A=clrA w.A m1∧foldN (dropE (drs D) h k) (arFrom h.cells m 0) w.f=foldN (dropE (drs D) h k) (arFrom h.cells m i) u.f∧Fle u.f o1∧bud (2 ^ 20) h o1≤2 ^ 42)
        ⟨_,[],[],ho1,by simp,by simp,hw,rfl,rfl,rfl,⟨hF.out,hF.cnt⟩,by rw[eb];omega⟩ ?_ ?_ ?_ ?_ ?_
      · rintro i u ⟨o1,l1,m1,g1,e1,e2,g2,u1,u2,u3,g3,g4⟩
        rw[u1,clrC_len,hFi.l]
      · rintro u ⟨o1,l1,m1,g1,e1,e2,g2,u1,u2,u3,g3,g4⟩
        rw[u2,clrA_len,hFi.a]
        exact⟨hal,(List.getElem?_eq_some_iff.1 hm).1⟩
      · rintro i u c ⟨o1,l1,m1,g1,e1,e2,g2,u1,u2,u3,g3,g4⟩ hcu hv hca
        obtain⟨uL,uA,uf⟩:=u
        simp only at u1 u2 u3 g3 hcu
        subst u1 u2
        have hFi1:=hFi.clr l1 m1 uf e1
        have hcc:=hFi1.d i c hcu hv
        rw[arFrom_step hcc,hv,Bool.true_and,if_pos (by simpa using hca),enL] at g2
        rw[arFrom_step (i:=i) hcc,hv,Bool.true_and,if_pos (by simpa using hca),foldN] at u3
        obtain⟨o2,g5,g6⟩:=Option.bind_eq_some_iff.1 g2
        have k1:=hkp i o1 o2 g1 ⟨c,hcc,hv⟩ g5
        have k2:=visE_bud hM k i o1 o2 g1 ⟨c,hcc,hv⟩ g5
        obtain⟨hno,l2,m2,e3,e4,hc⟩:=hE i c o1 o2 ⟨clrC w.L l1,clrA w.A m1,uf⟩ hcc hv g1 g5 (hI.le (enL_keeps hkp _ _ _ k1.1 (fun n hn=>by obtain⟨c,q1,q2,_⟩:=arFrom_mem hn;exact⟨c,q1,q2⟩) g6).2) hFi1 g3 g4
        refine⟨_,hc,by simp only;rw[clrC_len,clrC_len,hFi.l],o2,l1++(i::l2),m1++m2,k1.1,by rw[e3,e1,List.append_assoc],by rw[e4,e2,List.append_assoc],g6,?_,clrA_app _ _ _,u3,dropE_le k i o1 o2 uf g1 ⟨c,hcc,hv⟩ g5 g3,by omega⟩
        rw[← clrC_app, ← clrC_last]
      · rintro i u c ⟨o1,l1,m1,g1,e1,e2,g2,u1,u2,u3,g3,g4⟩ hcu hx
        obtain⟨uL,uA,uf⟩:=u
        simp only at u1 u2 u3 g3 hcu
        subst u1 u2
        have hFi1:=hFi.clr l1 m1 uf e1
        have hlt:i<h.cells.length:=by
          have:=(List.getElem?_eq_some_iff.1 hcu).1
          rw[clrC_len,hFi.l] at this
          exact this
        obtain⟨c0,hcc⟩:=get?_of hlt
        have hskip:(c0.live&&(c0.arena==(m:Int)))=false:=by
          cases hb2:(c0.live&&(c0.arena==(m:Int)))
          · rfl
          exfalso
          rw[arFrom_step hcc,if_pos hb2,enL] at g2
          obtain⟨o2,g5,g6⟩:=Option.bind_eq_some_iff.1 g2
          simp only[Bool.and_eq_true,beq_iff_eq] at hb2
          have hno:=(hE i c0 o1 o2 ⟨clrC w.L l1,clrA w.A m1,uf⟩ hcc hb2.1 g1 g5 (hI.le (enL_keeps hkp _ _ _ (hkp i o1 o2 g1 ⟨c0,hcc,hb2.1⟩ g5).1 (fun n hn=>by obtain⟨c,q1,q2,_⟩:=arFrom_mem hn;exact⟨c,q1,q2⟩) g6).2) hFi1 g3 g4).1
          have:=hFi1.c i hno
          simp only at this
          rw[hcu,hcc] at this
          cases this
          exact hx hb2
        rw[arFrom_step hcc,if_neg (by simp[hskip])] at g2
        rw[arFrom_step (i:=i) hcc,if_neg (by simp[hskip])] at u3
        exact⟨o1,l1,m1,g1,e1,e2,g2,rfl,rfl,u3,g3,g4⟩
      · rintro u ⟨o1,l1,m1,g1,e1,e2,g2,u1,u2,u3,g3,g4⟩
        rw[arFrom_end,enL] at g2
        rw[arFrom_end,foldN] at u3
        cases g2
        have e3:l1=l:=List.append_cancel_left (e1.symm.trans el)
        have e4:m1=ma:=List.append_cancel_left (e2.symm.trans ea)
        subst e3 e4
        obtain⟨uL,uA,uf⟩:=u
        simp only at u1 u2 u3
        rw[u1,u2, ← u3]
    · cases hw
  rw[if_neg h5] at hw
  cases hw
  refine⟨[],[],by simp,by simp,?_⟩
  have hdr:dropV (drs D) h (dropE (drs D) h k) (.mk kd id vr n fs ex pa lo) w.f=w.f:=by
    by_cases hp:w.f.pan=true
    · rw[dropV_pan _ _ hp]
    · rw[dropV,if_neg hp,if_neg h2,if_neg h3,if_neg h5]
  rw[hdr]
  exact f_other D _ w h2 h3 h5
theorem fall {D:List Dt} {h:Hp} (hD:D.length≤2 ^ 30) (hl:h.cells.length≤2 ^ 20) (hal:h.arenas.length≤2 ^ 20) (hM:∀ c,c∈h.cells→c.v.sz≤2 ^ 20):∀ k,FAll D h k
 |0=>fun n c o o' w hc hv ho hw=>by rw[visE] at hw;cases hw
 |k+1=>fun n c o o' w hc hv ho hw hI hFi hF hbud=>by
  rw[visE] at hw
  split at hw
  ·cases hw
  rename_i hn
  rw[hc] at hw
  have g1:=ho.len_lt hn (List.getElem?_eq_some_iff.1 hc).1
  have g2:=hM c (List.mem_of_getElem? hc)
  obtain⟨l,m,e1,e2,hcn⟩:=f_all hD hl hal hM (fall hD hl hal hM k) (c.v.sz+1) c.v _ o' w (by omega) g2 (ho.enter hn hc hv) hw hI (hFi.more fun j hj=>List.mem_append_left _ hj) ⟨hF.out,hF.cnt⟩ (by
   have e:bud (2 ^ 20) h { o with cs:=o.cs++[n] } +2 ^ 20=bud (2 ^ 20) h o:=by
    unfold bud
    simp only[List.length_append,List.length_singleton]
    have:h.cells.length - o.cs.length=(h.cells.length - (o.cs.length+1))+1:=by omega
    rw[this,Nat.add_mul]
    omega
   omega)
  refine⟨hn,l,m,by rw[e1,List.append_assoc];rfl,e2,?_⟩
  have hdr:dropE (drs D) h (k+1) n w.f=dropV (drs D) h (dropE (drs D) h k) c.v w.f:=by rw[dropE,hc]
  rw[hdr]
  exact hcn
theorem fall_c {D:List Dt} {h:Hp} (hD:D.length≤2 ^ 30) {v:Vl} (hm:Sm h v) {o:Ow} (hw:walkS h v=some o) (hI:InR D o):FCon D v ⟨h.cells,h.arenas,Fa.nil⟩ ⟨(closedS h o).cells,(closedS h o).arenas,dropAll (drs D) h v⟩:=by
 obtain⟨l,m,e1,e2,hc⟩:=f_all hD hm.l hm.a hm.m (fall hD hm.l hm.a hm.m _) (v.sz+1) v Ow.nil o ⟨h.cells,h.arenas,Fa.nil⟩ (by omega) hm.v (Ow.nil_ok h) hw hI ⟨rfl,rfl,fun _ _=>rfl,fun _ _ h _=>h⟩ (Fle.nil _) (by
  have:=hm.l
  have:=hm.v
  rw[bud_nil]
  omega)
 have e1:o.cs=l:=e1
 have e2:o.ags=m:=e2
 subst e1 e2
 exact hc

theorem mx_any (D:List Dt) (l:List Int) (hD:D.length≤2 ^ 30):decide ((D.length:Int)<mxI l)=l.any (unkB (dl D)):=by
 have h:=mxI_lt (n:=(D.length:Int)) (by omega) (by omega) l
 cases hb:l.any (unkB (dl D))
 ·rw[decide_eq_false_iff_not,h]
  rintro⟨x,hx,h2⟩
  have:=List.any_eq_false.1 hb x hx
  simp only[unkB,dl_len,Bool.or_eq_true,decide_eq_true_eq,not_or] at this
  omega
 ·rw[decide_eq_true_eq,h]
  obtain⟨x,hx,h2⟩:=List.any_eq_true.1 hb
  simp only[unkB,dl_len,Bool.or_eq_true,decide_eq_true_eq] at h2
  exact⟨x,hx,by omega⟩
def IRd (Ds:List Dt) (h:Hp) (o:Ow) (f:Fa) (D:Nat→Bool) (σ:St):Prop:=
 σ.nx=5∧σ.fr 6=some (.ptr 1 0)∧σ.fr 12=some (.ptr 0 0)∧σ.hp 0=some (.cells [.sl (dl Ds),.rw 2,.rw 3,.rw 4,.i (f.cnt:Int),.bool f.pan])∧(D 16=false→σ.hp 1=some (.cells [.nilsl,.nilsl]))∧σ.hp 2=some (.row 10 (cl (closedS h o).cells))∧σ.hp 3=some (.row 1 (bl (closedS h o).arenas))∧σ.hp 4=some (.row 1 (il f.out))∧(D 0=true→σ.fr 40=some (.ptr 0 0))∧(D 1=true→σ.fr 41=some (.ptr 0 0))∧(D 2=true→σ.fr 42=some (.ptr 0 1))∧(D 3=true→σ.fr 43=some (.agg [.rw 2,.rw 3]))∧(D 4=true→σ.fr 44=some (.ptr 0 0))∧(D 5=true→σ.fr 45=some (.ptr 0 0))∧(D 6=true→σ.fr 46=some (.ptr 0 3))∧(D 7=true→σ.fr 47=some (.rw 4))∧(D 8=true→σ.fr 48=some (.ptr 0 0))∧(D 9=true→σ.fr 49=some (.ptr 0 0))∧(D 10=true→σ.fr 50=some (.ptr 0 4))∧(D 11=true→σ.fr 51=some (.i (f.cnt:Int)))∧(D 12=true→σ.fr 52=some (.ptr 0 0))∧(D 13=true→σ.fr 53=some (.ptr 0 0))∧(D 14=true→σ.fr 54=some (.ptr 0 5))∧(D 15=true→σ.fr 55=some (.bool f.pan))∧(D 17=true→σ.fr 7=some (.rw 4))∧(D 18=true→σ.fr 8=some (.i (f.cnt:Int)))∧(D 19=true→σ.fr 9=some (.bool f.pan))∧(D 20=true→σ.fr 10=some (.i 0))∧(D 16=true→σ.hp 1=some (.cells [.rw 2,.rw 3]))
theorem rdrop_call (D:List Dt) (h:Hp) (v:Vl) (hm:Sm h v) (hD:D.length≤2 ^ 30):PCall Try.prog 48 [.sl (dl D),h.av,v.av] (resD (dropS D h v)):=by
 have hcp:=copy_nc h hm.l hm.a
 unfold dropS
 rw[Hp.av_eq] at hcp
 rw[Hp.av_eq,Vl.av_eq]
 refine PCall.intro Try.func48 rfl isf48 (by simp[Try.f48]) (by simp[AV.cloL,AV.clo]) fun E Q hE hN hQ=>K_start ?_
 repeat'(first|apply nx|refine zx ?_|rw[zw]|((first|refine hK _ ?_|refine hKp _ _ ?_);clear hK hKp K Kp;try clear hanc anc)|((with_reducible refine And.intro ?_ ?_);exact zb)|((first|refine zr hE fun K Kp hK hKp=>?_|refine zd true mixed hE fun K Kp hK hKp anc hanc=>?_|refine zd false mixed hE fun K Kp hK hKp anc hanc=>?_);simp only[go_sem])|(refine zg (fun hg=>?_) (fun hg=>?_)<;>simp only[go_sem,hg])|(refine zc (fun hc=>?_) (fun hc=>?_)<;>try exact zh hc))
 refine Hold.mk (walked1_use hm 9437184 10485760 rfl (by simp[go_sem,Vl.cs]) fun w hpn hG g0 g1 g2 hold=>?_)
 have g3:=hold 0 (.cells [.sl (cl h.cells),.sl (bl h.arenas)]) (by decide) (by simp[go_sem])
 have g4:=hold 2097152 (.cells [.nilsl,.nilsl]) (by decide) (by simp[go_sem])
 have g5:=hold 1048576 (vC8 v) (by decide) (by simp[go_sem])
 simp only[go_sem,putf]
 refine hK _ ?_;clear hK hKp K Kp;try clear hanc anc
 repeat(first|refine Kq_norm_code ?_|refine Kq_norm_blk ?_|refine Kq_norm_lp ?_)
 cases hs:walkS h v with
 |none=>
  rw[hs] at hG hQ
  have hr:w.right=false:=hG
  simp only at hQ
  repeat'(first|apply nx|refine zx ?_|rw[zw]|((first|refine hK _ ?_|refine hKp _ _ ?_);clear hK hKp K Kp;try clear hanc anc)|((with_reducible refine And.intro ?_ ?_);exact zb)|((first|refine zr hE fun K Kp hK hKp=>?_|refine zd true mixed hE fun K Kp hK hKp anc hanc=>?_|refine zd false mixed hE fun K Kp hK hKp anc hanc=>?_);simp only[go_sem,g0,hr,g4])|(refine zg (fun hg=>?_) (fun hg=>?_)<;>simp only[go_sem,g0,hr,g4,hg])|(refine zc (fun hc=>?_) (fun hc=>?_)<;>try exact zh hc))
  refine K_ret (hQ _ ⟨.tup [.agg [.nilsl,.nilsl],.nilsl,.i 0,.bool false,.i 1],(by simp[resA,rvA,Try.f48,go_sem,g4];rfl),(by simp[AV.snapOk,AV.snapOkL,go_sem,g4]),(by rfl),(by first|rfl|simp[AV.clo,AV.cloL,go_sem,g4])⟩).1
 |some o=>
  rw[hs] at hG hQ
  have hr:w=rs h o:=hG
  subst hr
  simp only at hQ
  have hmx:=mx_any D o.ids hD
  cases ha:o.ids.any (unkB (dl D))
  case true=>
   rw[ha,if_pos rfl] at hQ
   rw[ha] at hmx
   repeat'(first|apply nx|refine zx ?_|rw[zw]|((first|refine hK _ ?_|refine hKp _ _ ?_);clear hK hKp K Kp;try clear hanc anc)|((with_reducible refine And.intro ?_ ?_);exact zb)|((first|refine zr hE fun K Kp hK hKp=>?_|refine zd true mixed hE fun K Kp hK hKp anc hanc=>?_|refine zd false mixed hE fun K Kp hK hKp anc hanc=>?_);simp only[go_sem,g0,rs,g4,hmx])|(refine zg (fun hg=>?_) (fun hg=>?_)<;>simp only[go_sem,g0,rs,g4,hmx,hg])|(refine zc (fun hc=>?_) (fun hc=>?_)<;>try exact zh hc))
   refine K_ret (hQ _ ⟨.tup [.agg [.nilsl,.nilsl],.nilsl,.i 0,.bool false,.i 1],(by simp[resA,rvA,Try.f48,go_sem,g4];rfl),(by simp[AV.snapOk,AV.snapOkL,go_sem,g4]),(by rfl),(by first|rfl|simp[AV.clo,AV.cloL,go_sem,g4])⟩).1
  rw[ha,if_neg (by simp)] at hQ
  rw[ha] at hmx
  have hfc:=fall_c hD hm hs (any_InR ha)
  repeat'(first|apply nx|refine zx ?_|rw[zw]|((first|refine hK _ ?_|refine hKp _ _ ?_);clear hK hKp K Kp;try clear hanc anc)|((with_reducible refine And.intro ?_ ?_);exact zb)|((first|refine zr hE fun K Kp hK hKp=>?_|refine zd true mixed hE fun K Kp hK hKp anc hanc=>?_|refine zd false mixed hE fun K Kp hK hKp anc hanc=>?_);simp only[go_sem,g0,rs,g3,hmx])|(refine zg (fun hg=>?_) (fun hg=>?_)<;>simp only[go_sem,g0,rs,g3,hmx,hg])|(refine zc (fun hc=>?_) (fun hc=>?_)<;>try exact zh hc))
  refine Hold.mk (CallB.newRows hcp (by simp[AV.cloL,AV.clo]) (cl_clo _) (bl_clo _) ?_)
  simp only[go_sem]
  repeat'(first|apply nx|refine zx ?_|rw[zw]|((first|refine hK _ ?_|refine hKp _ _ ?_);clear hK hKp K Kp;try clear hanc anc)|((with_reducible refine And.intro ?_ ?_);exact zb)|((fail_if_success refine K_stop 5 ?_);(first|refine zr hE fun K Kp hK hKp=>?_|refine zd true mixed hE fun K Kp hK hKp anc hanc=>?_|refine zd false mixed hE fun K Kp hK hKp anc hanc=>?_);simp only[go_sem])|(refine zg (fun hg=>?_) (fun hg=>?_)<;>simp only[go_sem,hg])|(refine zc (fun hc=>?_) (fun hc=>?_)<;>try exact zh hc))
  refine AW_nilc 31457280 3 1 (by simp[go_sem];rfl) rfl ?_
  refine AW.ent (σ':=mkSt [(5,.ptr 4 0),(6,.ptr 5 0),(12,.ptr 0 0)] [(0,.cells [.sl (dl D),.rw 1,.rw 2,.rw 3,.i ((0:Nat):Int),.bool false]),(1,.row 10 (cl h.cells)),(2,.row 1 (bl h.arenas)),(3,.row 1 []),(4,vC8 v),(5,.cells [.nilsl,.nilsl])] 6)
   (fun i=>if i=0 then 31457280 else if i=1 then 29360128 else if i=2 then 29360129 else if i=3 then 33554432 else if i=4 then 1048576 else 2097152) ?_ ?_
  ·refine ent_mk (by simp[go_sem]) (by simp[go_sem,g4,g5]) (by simp) (by simp[hN])
  clear g0 g1 g2 g3 g4 g5 hold
  repeat'(first|apply nx|refine zx ?_|rw[zw]|((first|refine hK _ ?_|refine hKp _ _ ?_);clear hK hKp K Kp;try clear hanc anc)|((with_reducible refine And.intro ?_ ?_);exact zb)|((first|refine zr hE fun K Kp hK hKp=>?_|refine zd true mixed hE fun K Kp hK hKp anc hanc=>?_|refine zd false mixed hE fun K Kp hK hKp anc hanc=>?_);simp only[go_sem])|(refine zg (fun hg=>?_) (fun hg=>?_)<;>simp only[go_sem,hg])|(refine zc (fun hc=>?_) (fun hc=>?_)<;>try exact zh hc))
  refine Hold.mk (useF hfc 2097158 rfl (objF_of (by simp[updo,Fa.nil]) (by simp[updo]) (by simp[updo]) (by simp[updo,Fa.nil,il])) fun hpn g0 g1 g2 g3 hold=>?_)
  have g5:=hold 5 (.cells [.nilsl,.nilsl]) (by decide) (by simp[updo])
  generalize dropAll (drs D) h v=f at*
  simp only[go_sem,putf]
  refine hK _ ?_;clear hK hKp K Kp;try clear hanc anc
  repeat(first|refine Kq_norm_code ?_|refine Kq_norm_blk ?_|refine Kq_norm_lp ?_)
  simp only at g0 g1 g2 g3
  repeat'(first|apply nx|refine zx ?_|rw[zw]|((first|refine hK _ ?_|refine hKp _ _ ?_);clear hK hKp K Kp;try clear hanc anc)|((with_reducible refine And.intro ?_ ?_);exact zb)|((fail_if_success refine K_stop 6 ?_);(first|refine zr hE fun K Kp hK hKp=>?_|refine zd true mixed hE fun K Kp hK hKp anc hanc=>?_|refine zd false mixed hE fun K Kp hK hKp anc hanc=>?_);simp only[go_sem,g0,g5])|(refine zg (fun hg=>?_) (fun hg=>?_)<;>simp only[go_sem,g0,g5,hg])|(refine zc (fun hc=>?_) (fun hc=>?_)<;>try exact zh hc))
  refine AW.ent (σ':=mkSt [(6,.ptr 1 0),(12,.ptr 0 0)] [(0,.cells [.sl (dl D),.rw 2,.rw 3,.rw 4,.i (f.cnt:Int),.bool f.pan]),(1,.cells [.nilsl,.nilsl]),(2,.row 10 (cl (closedS h o).cells)),(3,.row 1 (bl (closedS h o).arenas)),(4,.row 1 (il f.out))] 5) (fun i=>if i=0 then 0 else if i=1 then 5 else if i=2 then 1 else if i=3 then 2 else 2097158) ?_ ?_
  ·refine ent_mk (by simp[go_sem]) (by simp[go_sem,g0,g1,g2,g3,g5]) (by simp) (by simp[hN])
  clear g0 g1 g2 g3 g5 hold
  repeat(first|apply w1|apply w2)
  refine K_inv (n:=21) (IRd D h o f) mixed hE ?_ ?_ (fun Kp hKp=>?_) ?_ rfl
  ·intro D D' σ h
   have:=fun j=>(h j).symm
   unfold IRd
   simp only[this]
   exact fun h=>h
  ·simp[IRd,go_sem]
  ·refine⟨?_,?_,?_,?_,?_,?_,?_,?_,?_,?_,?_,?_,?_,?_,?_,?_,?_,?_,?_,?_,?_,trivial⟩
   all_goals rintro D' ⟨fr,hp,nx⟩ hD' hr ⟨hn,f6,f12,h0,h1,h2,h3,h4,d0,d1,d2,d3,d4,d5,d6,d7,d8,d9,d10,d11,d12,d13,d14,d15,d17,d18,d19,d20,s16⟩
   all_goals simp[Region.binds] at hn f6 f12 h0 h1 h2 h3 h4 d0 d1 d2 d3 d4 d5 d6 d7 d8 d9 d10 d11 d12 d13 d14 d15 d17 d18 d19 d20 s16 hD' hr
   all_goals subst hn
   all_goals try clear hQ
   ·skip
    simp only[go_sem,f12]
    (simp only[IRd,upd,updo];simp[f6,f12,h0,h2,h3,h4];simp_all)
   ·skip
    have zd0:=d0 (by simp[hr,hD'])
    simp only[go_sem,zd0]
    (simp only[IRd,upd,updo];simp[f6,f12,h0,h2,h3,h4];simp_all)
   ·skip
    have zd1:=d1 (by simp[hr,hD'])
    simp only[go_sem,zd1]
    (simp only[IRd,upd,updo];simp[f6,f12,h0,h2,h3,h4];simp_all)
   ·skip
    have zd2:=d2 (by simp[hr,hD'])
    simp only[go_sem,zd2,h0]
    (simp only[IRd,upd,updo];simp[f6,f12,h0,h2,h3,h4];simp_all)
   ·skip
    simp only[go_sem,f12]
    (simp only[IRd,upd,updo];simp[f6,f12,h0,h2,h3,h4];simp_all)
   ·skip
    have zd4:=d4 (by simp[hr,hD'])
    simp only[go_sem,zd4]
    (simp only[IRd,upd,updo];simp[f6,f12,h0,h2,h3,h4];simp_all)
   ·skip
    have zd5:=d5 (by simp[hr,hD'])
    simp only[go_sem,zd5]
    (simp only[IRd,upd,updo];simp[f6,f12,h0,h2,h3,h4];simp_all)
   ·skip
    have zd6:=d6 (by simp[hr,hD'])
    simp only[go_sem,zd6,h0]
    (simp only[IRd,upd,updo];simp[f6,f12,h0,h2,h3,h4];simp_all)
   ·skip
    simp only[go_sem,f12]
    (simp only[IRd,upd,updo];simp[f6,f12,h0,h2,h3,h4];simp_all)
   ·skip
    have zd8:=d8 (by simp[hr,hD'])
    simp only[go_sem,zd8]
    (simp only[IRd,upd,updo];simp[f6,f12,h0,h2,h3,h4];simp_all)
   ·skip
    have zd9:=d9 (by simp[hr,hD'])
    simp only[go_sem,zd9]
    (simp only[IRd,upd,updo];simp[f6,f12,h0,h2,h3,h4];simp_all)
   ·skip
    have zd10:=d10 (by simp[hr,hD'])
    simp only[go_sem,zd10,h0]
    (simp only[IRd,upd,updo];simp[f6,f12,h0,h2,h3,h4];simp_all)
   ·skip
    simp only[go_sem,f12]
    (simp only[IRd,upd,updo];simp[f6,f12,h0,h2,h3,h4];simp_all)
   ·skip
    have zd12:=d12 (by simp[hr,hD'])
    simp only[go_sem,zd12]
    (simp only[IRd,upd,updo];simp[f6,f12,h0,h2,h3,h4];simp_all)
   ·skip
    have zd13:=d13 (by simp[hr,hD'])
    simp only[go_sem,zd13]
    (simp only[IRd,upd,updo];simp[f6,f12,h0,h2,h3,h4];simp_all)
   ·skip
    have zd14:=d14 (by simp[hr,hD'])
    simp only[go_sem,zd14,h0]
    (simp only[IRd,upd,updo];simp[f6,f12,h0,h2,h3,h4];simp_all)
   ·skip
    have zd3:=d3 (by simp[hr,hD'])
    have zh1:=h1 (by simp[hr,hD'])
    simp only[go_sem,f6,zd3,zh1]
    (simp only[IRd,upd,updo];simp[f6,f12,h0,h2,h3,h4];simp_all)
   ·skip
    have zd7:=d7 (by simp[hr,hD'])
    simp only[go_sem,zd7]
    (simp only[IRd,upd,updo];simp[f6,f12,h0,h2,h3,h4];simp_all)
   ·skip
    have zd11:=d11 (by simp[hr,hD'])
    simp only[go_sem,zd11]
    (simp only[IRd,upd,updo];simp[f6,f12,h0,h2,h3,h4];simp_all)
   ·skip
    have zd15:=d15 (by simp[hr,hD'])
    simp only[go_sem,zd15]
    (simp only[IRd,upd,updo];simp[f6,f12,h0,h2,h3,h4];simp_all)
   ·skip
    simp only[go_sem]
    (simp only[IRd,upd,updo];simp[f6,f12,h0,h2,h3,h4];simp_all)
  rintro⟨fr,hp,nx⟩ D' hD' ⟨hn,f6,f12,h0,h1,h2,h3,h4,d0,d1,d2,d3,d4,d5,d6,d7,d8,d9,d10,d11,d12,d13,d14,d15,d17,d18,d19,d20,s16⟩
  simp only at hn f6 f12 h0 h1 h2 h3 h4 d0 d1 d2 d3 d4 d5 d6 d7 d8 d9 d10 d11 d12 d13 d14 d15 d17 d18 d19 d20 s16
  have zd0:=d0 (hD' 0)
  have zd1:=d1 (hD' 1)
  have zd2:=d2 (hD' 2)
  have zd3:=d3 (hD' 3)
  have zd4:=d4 (hD' 4)
  have zd5:=d5 (hD' 5)
  have zd6:=d6 (hD' 6)
  have zd7:=d7 (hD' 7)
  have zd8:=d8 (hD' 8)
  have zd9:=d9 (hD' 9)
  have zd10:=d10 (hD' 10)
  have zd11:=d11 (hD' 11)
  have zd12:=d12 (hD' 12)
  have zd13:=d13 (hD' 13)
  have zd14:=d14 (hD' 14)
  have zd15:=d15 (hD' 15)
  have zd17:=d17 (hD' 17)
  have zd18:=d18 (hD' 18)
  have zd19:=d19 (hD' 19)
  have zd20:=d20 (hD' 20)
  have zs16:=s16 (hD' 16)
  refine Kq_norm_code ?_
  refine K_ret (hQ _ ⟨.tup [.agg [.rw 2,.rw 3],.rw 4,.i (f.cnt:Int),.bool f.pan,.i 0],(by simp[resA,rvA,Try.f48,go_sem,f6,zs16,zd17,zd18,zd19,zd20,h2,h3,h4,resD,Hp.av_eq];rfl),(by simp[AV.snapOk,AV.snapOkL,go_sem,f6,zs16,zd17,zd18,zd19,zd20,h2,h3,h4,resD,Hp.av_eq]),(by simp[AV.snap,AV.snapL,go_sem,f6,zs16,zd17,zd18,zd19,zd20,h2,h3,h4,resD,Hp.av_eq]),(by first|rfl|simp[AV.clo,AV.cloL,go_sem,f6,zs16,zd17,zd18,zd19,zd20,h2,h3,h4,resD,Hp.av_eq])⟩).1
end Go.Proofs.Ytfgjjnfdcgkpoaa
