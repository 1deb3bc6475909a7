/- A part of the proof: an abstract machine for the walks, and what the walked functions compute. -/
import Derived.Test.YtfgjjnfdcgkpoaaCb
set_option linter.unusedVariables false
set_option linter.unusedSimpArgs false
set_option maxHeartbeats 4000000
set_option maxRecDepth 100000
namespace Go.Proofs.Ytfgjjnfdcgkpoaa
open Go.Am Go.Proofs Go.Hv
open Classical
attribute [local irreducible] AW CallP CallB
end Go.Proofs.Ytfgjjnfdcgkpoaa

set_option maxHeartbeats 4000000
set_option maxRecDepth 100000
namespace Go.Proofs.Ytfgjjnfdcgkpoaa
open Go.Am Go.Proofs Go.Hv
open Classical
attribute [local irreducible] AW CallP CallB CallY
theorem liveF_nc (h:Hp):ACall Try.prog 69 [h.av] (fun _=>none) 0 0 (fun r hp'=>r= .fn (.func 86) [] [.ptr 0 0]∧hp'=mkHp [(0,.cells h.cs)]) (fun _ _=>False):=by
 rw[Hp.av_eq]
 refine ACall.of_bodyR Try.func69 isf69 rfl (by simp[Try.f69]) fun E Q hE hN hQ hQp=>K_start ?_
 repeat'(first|apply nx|refine zx ?_|rw[zw]|((first|refine hK _ ?_|refine hKp _ _ ?_);clear hK hKp K Kp;try clear hanc anc)|((with_reducible refine And.intro ?_ ?_);exact zb)|((first|refine zr hE fun K Kp hK hKp=>?_|refine zd true mixed hE fun K Kp hK hKp anc hanc=>?_|refine zd false mixed hE fun K Kp hK hKp anc hanc=>?_);simp only[go_sem])|(refine zg (fun hg=>?_) (fun hg=>?_)<;>simp only[go_sem,hg])|(refine zc (fun hc=>?_) (fun hc=>?_)<;>try exact zh hc))
 refine K_ret (hQ _ ⟨.fn (.func 86) [] [.ptr 0 0],fun i=>i,_,1,resA_tmp (by simp only[go_sem,Hp.cs]),(by simp[AV.ids,AV.idsL]),?_,rfl,rfl⟩).1
 show Ent _ _ _ (mkSt [] [(0,.cells h.cs)] 1)
 refine ent_mk (by simp[go_sem,Hp.cs]) (by simp[go_sem,Hp.cs]) (by simp) (by simp[hN])
theorem live_run (h : Hp) (hl : h.cells.length ≤ 2 ^ 20) (l : Nat) {S : Type} (objs : S → Nat → Option AObj) (np b : Nat) (hb : b < np) (hn1 : np ≤ 1000000) (hbo : ∀ s, objs s b = some (.cells h.cs))
    (hob:∀ s id o,objs s id=some o→id<1000000∧o.ids (· <1000000)) (hnp:∀ s id,id<np→objs s id≠none) (Inv:Nat→S→Prop) (IP:AV→S→Prop) (hIP:∀ x s,IP x s→x.clo=true)
    (hround:∀ i c s,Inv i s→h.cells[i]? =some c→c.live=true→YCall Try.prog l [.i i,.agg c.cs] (objs s) 1000000 np (fun r hp'=>r= .bool true∧∃ s',Inv (i+1) s'∧hp'=objs s') (fun x hp'=>∃ s',IP x s'∧hp'=objs s'))
    (hdead:∀ i c s,Inv i s→h.cells[i]? =some c→c.live=false→Inv (i+1) s) (s:S) (h0:Inv 0 s):
    ACall Try.prog 86 [.fn (.yield l) [] [],.ptr b 0] (objs s) 1000000 np (fun r hp'=>r= .tup []∧∃ s',Inv h.cells.length s'∧hp'=objs s') (fun x hp'=>∃ s',IP x s'∧hp'=objs s'):=by
  have hb2:b<1000000:=by omega
  refine ACall.of_bodyR Try.func86 isf86 rfl (by simp[Try.f86]) fun E Q hE hN hQ hQp=>K_start ?_
  have hbs:=hbo s
  unfold Hp.cs at hbs
  repeat'(first|apply nx|refine zx ?_|rw[zw]|((first|refine hK _ ?_|refine hKp _ _ ?_);clear hK hKp K Kp;try clear hanc anc)|((with_reducible refine And.intro ?_ ?_);exact zb)|((first|refine zr hE fun K Kp hK hKp=>?_|refine zd true mixed hE fun K Kp hK hKp anc hanc=>?_|refine zd false mixed hE fun K Kp hK hKp anc hanc=>?_);simp only[go_sem,hbs])|(refine zg (fun hg=>?_) (fun hg=>?_)<;>simp only[go_sem,hbs,hg])|(refine zc (fun hc=>?_) (fun hc=>?_)<;>try exact zh hc))
  refine K_loop (X:=Nat×S) (fun x=>x.1≤h.cells.length∧Inv x.1 x.2) (fun x=>⟨mkFr [(0,.fn (.yield l) [] []),(1,.ptr b 0),(6,.sl (cl h.cells)),(7,.i h.cells.length),(8,.i x.1)],objs x.2,1000000⟩) (fun x=>h.cells.length - x.1) (0,s) ⟨Nat.zero_le _,h0⟩ (fun i=>i) ?_ ?_
  · exact ent_idG (by simp[go_sem,hb2]) (fun id o ho=>⟨ho,hob s id o ho⟩) (by rw[hN];exact hn1)
  rintro⟨i,s⟩ ⟨hi,hinv⟩
  simp only at hi hinv
  by_cases hlt:i<h.cells.length
  · obtain⟨c,hcc⟩:=get?_of hlt
    cases hv:c.live
    · repeat'(first|apply nx|refine zx ?_|rw[zw]|((first|refine hK _ ?_|refine hKp _ _ ?_);clear hK hKp K Kp;try clear hanc anc)|((with_reducible refine And.intro ?_ ?_);exact zb)|((first|refine zr hE fun K Kp hK hKp=>?_|refine zd true mixed hE fun K Kp hK hKp anc hanc=>?_|refine zd false mixed hE fun K Kp hK hKp anc hanc=>?_);simp only[go_sem,lt_dec hlt,hcc,Cl.av,Cl.cs_eq,hv])|(refine zg (fun hg=>?_) (fun hg=>?_)<;>simp only[go_sem,lt_dec hlt,hcc,Cl.av,Cl.cs_eq,hv,hg])|(refine zc (fun hc=>?_) (fun hc=>?_)<;>try exact zh hc))
      refine⟨(i+1,s),⟨by simp only;omega,hdead i c s hinv hcc hv⟩,by simp only;omega,fun i=>i,ent_idG (by simp[go_sem,hb2]) (fun id o ho=>⟨?_,hob s id o ho⟩) (by rw[hN];exact hn1)⟩
      have:=(hob s id o ho).1
      simp only[updo]
      rw[if_neg (by omega)]
      first|exact ho|(rw[if_neg (by omega)];exact ho)
    · repeat'(first|apply nx|refine zx ?_|rw[zw]|((first|refine hK _ ?_|refine hKp _ _ ?_);clear hK hKp K Kp;try clear hanc anc)|((with_reducible refine And.intro ?_ ?_);exact zb)|((first|refine zr hE fun K Kp hK hKp=>?_|refine zd true mixed hE fun K Kp hK hKp anc hanc=>?_|refine zd false mixed hE fun K Kp hK hKp anc hanc=>?_);simp only[go_sem,lt_dec hlt,hcc,Cl.av,Cl.cs_eq,hv])|(refine zg (fun hg=>?_) (fun hg=>?_)<;>simp only[go_sem,lt_dec hlt,hcc,Cl.av,Cl.cs_eq,hv,hg])|(refine zc (fun hc=>?_) (fun hc=>?_)<;>try exact zh hc))
      have hc1:=hround i c s hinv hcc hv
      rw[Cl.cs_eq,hv] at hc1
      refine Hold.mk (CallY.use hc1 (fun i=>i) (by rw[renL_id]) (by simp[AV.ids,AV.idsL,go_sem]) (fun id o ho=>?_) (fun id id' o o' _ _ e=>e) (fun id hid=>⟨by omega,hnp s id hid⟩) ?_ ?_ ?_ ?_)
      · rw[oren_id]
        have:=hob s id o ho
        refine⟨?_,this⟩
        simp only[updo]
        rw[if_neg (by omega)]
        first|exact ho|(rw[if_neg (by omega)];exact ho)
      · rintro r hp' ⟨rfl,s',hi',rfl⟩
        refine⟨trivial,fun id o ho=>⟨by have:=(hob s' id o ho).1;omega,?_⟩⟩
        exact objids_mono _ (fun j hj=>by omega) (hob s' id o ho).2
      · rintro x hp' ⟨s',hx,rfl⟩
        refine⟨clo_ids (hIP x s' hx),fun id o ho=>⟨by have:=(hob s' id o ho).1;omega,?_⟩⟩
        exact objids_mono _ (fun j hj=>by omega) (hob s' id o ho).2
      · rintro r hp' fr' hpn ⟨rfl,s',hi',rfl⟩ hfr hobj _
        simp only[St.put,AV.ren,putf] at hfr
        clear hQ hQp
        subst hfr
        simp only[go_sem]
        refine hK _ ?_
        repeat'(first|apply nx|refine zx ?_|rw[zw]|((first|refine hK _ ?_|refine hKp _ _ ?_);clear hK hKp K Kp;try clear hanc anc)|((with_reducible refine And.intro ?_ ?_);exact zb)|((first|refine zr hE fun K Kp hK hKp=>?_|refine zd true mixed hE fun K Kp hK hKp anc hanc=>?_|refine zd false mixed hE fun K Kp hK hKp anc hanc=>?_);simp only[go_sem])|(refine zg (fun hg=>?_) (fun hg=>?_)<;>simp only[go_sem,hg])|(refine zc (fun hc=>?_) (fun hc=>?_)<;>try exact zh hc))
        have hbb:backM (fun i=>i) np (8340032+1048576*6) b=b:=backM_lt hb
        refine⟨(i+1,s'),⟨by simp only;omega,hi'⟩,by simp only;omega,_,ent_gen (m:=backM (fun i=>i) np (8340032+1048576*6)) (by simp[go_sem,hb2,hbb]) (fun id o ho=>⟨hobj id o ho,hob s' id o ho⟩) (fun id id' o o' _ _ e=>backM_id_inj (by omega) e) (fun id hid=>?_)⟩
        rw[hN] at hid
        exact⟨backM_lt hid,by omega⟩
      · rintro x hp' hpn ⟨s',hx,rfl⟩ hobj _
        refine hKp _ _ (hQp _ _ ⟨x,_,_,1000000,rfl,clo_ids (hIP x s' hx),?_,s',hx,rfl⟩)
        refine ent_gen (fr:=[]) (by simp) (fun id o ho=>⟨hobj id o ho,hob s' id o ho⟩) (fun id id' o o' _ _ e=>backM_id_inj (by omega) e) (fun id hid=>⟨backM_lt hid,by omega⟩)
  · obtain rfl:i=h.cells.length:=by omega
    repeat'(first|apply nx|refine zx ?_|rw[zw]|((first|refine hK _ ?_|refine hKp _ _ ?_);clear hK hKp K Kp;try clear hanc anc)|((with_reducible refine And.intro ?_ ?_);exact zb)|((first|refine zr hE fun K Kp hK hKp=>?_|refine zd true mixed hE fun K Kp hK hKp anc hanc=>?_|refine zd false mixed hE fun K Kp hK hKp anc hanc=>?_);simp only[go_sem,ge_dec])|(refine zg (fun hg=>?_) (fun hg=>?_)<;>simp only[go_sem,ge_dec,hg])|(refine zc (fun hc=>?_) (fun hc=>?_)<;>try exact zh hc))
    refine Kq_norm_nil ?_
    refine(hQ _ ⟨.tup [],fun i=>i,objs s,1000000,rfl,trivial,?_,rfl,s,hinv,rfl⟩).2
    exact ent_idG (fr:=[]) (by simp) (fun id o ho=>⟨ho,hob s id o ho⟩) hn1

theorem objren_cong {p:Nat→Prop} {m m':Nat→Nat} (h:∀ i,p i→m i=m' i) {o:AObj} (ho:o.ids p):o.ren m=o.ren m':=by
 cases o with
 |cells l=>simp only[AObj.ren,renL_cong h (l:=l) ho]
 |row sz l=>simp only[AObj.ren,renL_cong h (l:=l) ho]
 |map es=>simp only[AObj.ren];congr 1;exact List.map_congr_left fun z hz=>by rw[ren_cong h (ho z hz).1,ren_cong h (ho z hz).2]
 |lp q l=>simp only[AObj.ren,renL_cong h (l:=l) ho]
def RoundGoal (E':En) (q:Lp) (N:Nat) (vals vs:List AV) (Q':AEx→St→Prop) (hp:Nat→Option AObj):Prop:=
 AW Try.prog E' q.assign (fun e σ'=>match e with| .norm=>∃ fr',σ'.hp N=some (.lp q fr')∧AW Try.prog E' q.body Q' ⟨σ'.fr,updo σ'.hp N (some (.lp { q with st:= .busy } fr')),σ'.nx⟩|_=>False) ⟨roundFr q vals vs,updo hp N (some (.lp q vals)),1000000⟩
theorem AW_live {E : En} {Q : AEx → St → Prop} {g : Nat} {ps : Array Tmp} {assign body : Code} (hM : E.rd = none ∧ E.mks = true ∧ E.ex = true) {S : Type} (h : Hp) (hl : h.cells.length ≤ 2 ^ 20) (objs : S → Nat → Option AObj) (N B : Nat) (hB : B < N) (hN : N ≤ 900000) (hEN : E.np ≤ N)
    (hbo:∀ s,objs s B=some (.cells h.cs)) (hob:∀ s id o,objs s id=some o→(id<1000000∧id≠N)∧o.ids (fun j=>j<1000000∧j≠N)) (hnp:∀ s id,id<N→objs s id≠none)
    (fr:List (Nat×AV)) (hfr:∀ p,p∈fr→p.2.ids (· <N)) (hfr0:∀ p,p∈fr→mkFr fr p.1=some p.2) (hg:mkFr fr g=some (.fn (.func 86) [] [.ptr B 0])) (ts:List Nat) (vals:List AV) (hts:∀ i,i<vals.length→mkFr fr (ts.getD i 0)=some (vals.getD i default)) (hvals:AV.idsL (· <N) vals)
    (hps:ps.size=2) (hps2:∀ p,p∈ps.toList→p<E.nt) (Inv:Nat→S→Prop) (IP:AV→S→Prop) (hIP:∀ x s,IP x s→x.clo=true)
    (hround:∀ l fnn i c s E' Q',Inv i s→h.cells[i]? =some c→c.live=true→E'.nt=E.nt→E'.np=N+1→
      (∀ σ s' m,Inv (i+1) s'→Ent (N+1) m σ ⟨mkFr [],updo (objs s') N (some (.lp ⟨l,fnn,ps,assign,body,E.nt,ts,.busy,none⟩ vals)),1000000⟩→Q' .norm σ)→
      (∀ x σ s' m,IP x s'→Ent (N+1) m σ ⟨mkFr [],updo (objs s') N (some (.lp ⟨l,fnn,ps,assign,body,E.nt,ts,.busy,none⟩ vals)),1000000⟩→Q' (.pan x) σ)→
      RoundGoal E' ⟨l,fnn,ps,assign,body,E.nt,ts,.ready,none⟩ N vals [.i i,.agg c.cs] Q' (objs s))
    (hdead:∀ i c s,Inv i s→h.cells[i]? =some c→c.live=false→Inv (i+1) s) (s0:S) (h0:Inv 0 s0)
    (hfin:∀ σ s' m,Inv h.cells.length s'→Ent E.np m σ ⟨mkFr fr,objs s',1000000⟩→Q .norm σ)
    (hpan:∀ x σ s' m,IP x s'→Ent E.np m σ ⟨mkFr [],objs s',1000000⟩→Q (.pan x) σ):
    AW Try.prog E (.rangeFunc (.tmp g) ps assign body) Q ⟨mkFr fr,objs s0,1000000⟩:=by
  refine AW_range hM (gf:=86) (first:=[]) (cap:=[.ptr B 0]) hg ts vals hts fun l fnn hfnn=>?_
  have hvr:∀ m:Nat→Nat,(∀ j,j<N→m j=j)→AV.renL m vals=vals:=fun m hm=>by
    have:=renL_cong (m:=m) (m':=fun i=>i) hm hvals
    rw[this,renL_id]
  generalize hq:(⟨l,fnn,ps,assign,body,E.nt,ts,.ready,none⟩:Lp)=q at*
  let qb:Bool→Lp:=fun b=> { q with st:=if b then .busy else .ready }
  have hq0:qb false=q:=by subst hq;rfl
  let objs':S×Bool→Nat→Option AObj:=fun p=>updo (objs p.1) N (some (.lp (qb p.2) vals))
  have hat:∀ p,objs' p N=some (.lp (qb p.2) vals):=fun p=>by simp[objs',updo]
  have hoth:∀ p id,id≠N→objs' p id=objs p.1 id:=fun p id hid=>by simp[objs',updo,hid]
  have hvid:AV.idsL (· <1000000) vals:=idsL_imp (fun i hi=>by omega) hvals
  have hob':∀ p id o,objs' p id=some o→id<1000000∧o.ids (· <1000000):=by
    intro p id o ho
    by_cases e:id=N
    · subst e;rw[hat] at ho;cases ho;exact⟨by omega,hvid⟩
    · rw[hoth p id e] at ho;have:=hob _ _ _ ho;exact⟨this.1.1,objids_mono _ (fun j hj=>hj.1) this.2⟩
  have hrun:=live_run h hl l objs' (N+1) B (by omega) (by omega) (fun p=>by rw[hoth p B (by omega)];exact hbo _) hob'
    (fun p id hid=>by
      by_cases e:id=N
      · subst e;rw[hat];simp
      · rw[hoth p id e];exact hnp _ _ (by omega))
    (fun i p=>Inv i p.1∧p.2=false) (fun x p=>IP x p.1∧p.2=true) (fun x p hx=>hIP x p.1 hx.1) ?_ (fun i c p hi hc hv=>⟨hdead i c p.1 hi.1 hc hv,hi.2⟩) (s0,false) ⟨h0,rfl⟩
  rotate_left
  · rintro i c ⟨s,b⟩ ⟨hinv,hb⟩ hcc hv
    simp only at hinv hb
    subst hb
    have hql:q.l=l:=by subst hq;rfl
    rw[← hql]
    refine YCall.of_roundR (q:=q) (frv:=vals) N (by subst hq;exact hfnn) (by rw[hat,hq0]) (by omega) (by subst hq;rfl) (by subst hq;simp[hps]) (by subst hq;exact hps2) fun E' Q' k1 k2 k3 k4 k5=>?_
    have hg:=hround l fnn i c s E' Q' hinv hcc hv (by subst hq;exact k1) k2 ?_ ?_
    · rw[hq] at hg
      refine AW.mono (Q:=fun e σ'=>match e with| .norm=>∃ fr',σ'.hp N=some (.lp q fr')∧AW Try.prog E' q.body Q' ⟨σ'.fr,updo σ'.hp N (some (.lp { q with st:= .busy } fr')),σ'.nx⟩|_=>False) ?_ ?_
      · have e:objs' (s,false)=updo (objs s) N (some (.lp q vals)):=by simp only[objs'];rw[hq0]
        rw[e]
        exact hg
      · intro e σ hh
        cases e with
        |norm=>exact hh
        |_=>exact hh.elim
    · intro σ s' m hi' he
      have hqb:(⟨l,fnn,ps,assign,body,E.nt,ts,.busy,none⟩:Lp)= { q with st:= .busy } :=by subst hq;rfl
      rw[hqb] at he
      obtain⟨_,e2,e3,e4⟩:=he
      have hmN:m N=N:=(e4 N (by omega)).1
      have hmv:AV.renL m vals=vals:=hvr m fun j hj=>(e4 j (by omega)).1
      have hN':updo (objs s') N (some (.lp { q with st:= .busy } vals)) N=some (.lp { q with st:= .busy } vals):=by simp[updo]
      have hσN:=(e2 N _ hN').1
      rw[hmN] at hσN
      simp only[AObj.ren,hmv] at hσN
      refine k4 σ vals hσN ⟨m,objs' (s',false),1000000,⟨(fun t x hx=>by cases hx),?_,?_,?_⟩,rfl,(s',false),⟨hi',rfl⟩,rfl⟩
      · intro id o ho
        replace ho:objs' (s',false) id=some o:=ho
        refine⟨?_,hob' _ _ _ ho⟩
        show updo σ.hp N (some (.lp { q with st:= .ready,pend:=none } vals)) (m id)=some (o.ren m)
        by_cases e:id=N
        · subst e
          rw[hat,hq0] at ho
          cases ho
          rw[hmN]
          simp only[updo,if_true,AObj.ren,hmv]
          subst hq;rfl
        · rw[hoth _ id e] at ho
          have hx:updo (objs s') N (some (.lp { q with st:= .busy } vals)) id=some o:=by simp only[updo,if_neg e];exact ho
          have hne:m id≠N:=fun hh=>e (e3 id N _ _ hx hN' (by rw[hh,hmN]))
          simp only[updo,if_neg hne]
          exact(e2 id o hx).1
      · intro id id' o o' h1 h2 hh
        have c1:∀ id o,objs' (s',false) id=some o→∃ o,updo (objs s') N (some (.lp { q with st:= .busy } vals)) id=some o:=by
          intro id o ho
          by_cases e:id=N
          · subst e;exact⟨_,hN'⟩
          · rw[hoth _ id e] at ho;exact⟨o,by simp only[updo,if_neg e];exact ho⟩
        replace h1:objs' (s',false) id=some o:=h1
        replace h2:objs' (s',false) id'=some o':=h2
        obtain⟨o1,g1⟩:=c1 id o h1
        obtain⟨o2,g2⟩:=c1 id' o' h2
        exact e3 id id' o1 o2 g1 g2 hh
      · exact fun id hid=>⟨(e4 id hid).1,by show id<1000000;omega⟩
    · intro x σ s' m hx he
      have hqb:(⟨l,fnn,ps,assign,body,E.nt,ts,.busy,none⟩:Lp)= { q with st:= .busy } :=by subst hq;rfl
      rw[hqb] at he
      refine k5 x σ ⟨x,m,_,1000000,(clo_ren (hIP x s' hx)).symm,clo_ids (hIP x s' hx),he,(s',true),⟨hx,rfl⟩,rfl⟩
  let m:Nat→Nat:=fun j=>if j=N then 1000000 else j
  have hmN:m N=1000000:=if_pos rfl
  have hmj:∀ j,j≠N→m j=j:=fun j hj=>if_neg hj
  have hmv:AV.renL m vals=vals:=hvr m fun j hj=>hmj j (by omega)
  have hM':∀ j,j<N+1→j≠N→backM m (N+1) (1000000+1+1048576*0) j=j:=fun j h1 h2=>by rw[backM_lt h1,hmj j h2]
  have hent : ∀ (s' : S) (fr' : Nat → Option AV) (hpn : Nat → Option AObj) (n' : Nat) (fr2 : List (Nat × AV)), (∀ p, p ∈ fr2 → p.2.ids (· < N)) → (∀ p, p ∈ fr2 → fr' p.1 = some p.2) →
      (∀ j o,objs s' j=some o→hpn (backM m (N+1) (1000000+1+1048576*0) j)=some (o.ren (backM m (N+1) (1000000+1+1048576*0))))→Ent E.np (backM m (N+1) (1000000+1+1048576*0)) ⟨fr',updo hpn 1000000 none,n'⟩ ⟨mkFr fr2,objs s',1000000⟩:=by
    intro s' fr' hpn n' fr2 hid hfr' hob2
    have hlt:∀ id o,objs s' id=some o→backM m (N+1) (1000000+1+1048576*0) id≠1000000:=by
      intro id o ho
      have:=(hob _ _ _ ho).1
      by_cases e:id<N+1
      · rw[hM' id e this.2];omega
      · rw[backM_ge (by omega)];omega
    refine ent_gen (fun p hp=>⟨?_,ids_imp (fun i hi=>by omega) (hid p hp)⟩) (fun id o ho=>⟨?_,(hob _ _ _ ho).1.1,objids_mono _ (fun j hj=>hj.1) (hob _ _ _ ho).2⟩) (fun id id' o o' h1 h2 hh=>?_) (fun id hid=>⟨hM' id (by omega) (by omega),by omega⟩)
    · rw[ren_cong (m':=fun i=>i) (fun j hj=>hM' j (by omega) (by omega)) (hid p hp),ren_id]
      exact hfr' p hp
    · simp only[updo,if_neg (hlt id o ho)]
      exact hob2 id o ho
    · have g1:=(hob _ _ _ h1).1
      have g2:=(hob _ _ _ h2).1
      by_cases e1:id<N+1<;>by_cases e2:id'<N+1
      · rw[hM' id e1 g1.2,hM' id' e2 g2.2] at hh;exact hh
      · rw[hM' id e1 g1.2,backM_ge (by omega)] at hh;omega
      · rw[hM' id' e2 g2.2,backM_ge (by omega)] at hh;omega
      · rw[backM_ge (by omega),backM_ge (by omega)] at hh;omega
  show CallB Try.prog 86 [.fn (.yield l) [] [],.ptr B 0] ⟨mkFr fr,updo (objs s0) 1000000 (some (.lp _ vals)),1000000+1⟩ 0 none _ _
  refine CallB.use hrun m ?_ ?_ ?_ ?_ ?_ ?_ ?_ ?_ ?_
  · simp only[AV.renL,AV.ren,hmj B (by omega)]
  · simp only[AV.idsL,AV.ids];exact⟨⟨trivial,trivial⟩,by omega,trivial⟩
  · intro id o ho
    refine⟨?_,hob' _ _ _ ho⟩
    by_cases e:id=N
    · subst e
      rw[hat,hq0] at ho
      cases ho
      rw[hmN]
      simp only[updo,if_true,AObj.ren,hmv]
    · rw[hoth _ id e] at ho
      have g1:=hob _ _ _ ho
      rw[hmj id e,objren_cong (m':=fun i=>i) (fun j hj=>hmj j hj.2) g1.2,oren_id]
      simp only[updo]
      rw[if_neg (by omega)]
      exact ho
  · intro id id' o o' h1 h2 hh
    have g1:=(hob' _ _ _ h1).1
    have g2:=(hob' _ _ _ h2).1
    by_cases e1:id=N<;>by_cases e2:id'=N
    · omega
    · rw[e1,hmN,hmj id' e2] at hh;omega
    · rw[e2,hmN,hmj id e1] at hh;omega
    · rw[hmj id e1,hmj id' e2] at hh;exact hh
  · intro id hid
    refine⟨by omega,?_⟩
    by_cases e:id=N
    · subst e;rw[hat];simp
    · rw[hoth _ id e];exact hnp _ _ (by omega)
  · rintro r hp' ⟨rfl,s',hi',rfl⟩
    exact⟨trivial,fun id o ho=>⟨by have:=(hob' _ _ _ ho).1;omega,objids_mono _ (fun j hj=>by omega) (hob' _ _ _ ho).2⟩⟩
  · rintro r hp' ⟨s',hx,rfl⟩
    exact⟨clo_ids (hIP _ _ hx.1),fun id o ho=>⟨by have:=(hob' _ _ _ ho).1;omega,objids_mono _ (fun j hj=>by omega) (hob' _ _ _ ho).2⟩⟩
  · rintro r hp' fr' hpn ⟨rfl,⟨s',b⟩,⟨hi',hb⟩,rfl⟩ hfr' hobj hold
    simp only at hi' hb
    subst hb
    have hN1:=hobj N _ (hat _)
    rw[backM_lt (by omega),hmN] at hN1
    refine⟨.ready,none,AV.renL (backM m (N+1) (1000000+1+1048576*0)) vals,?_,by simp,?_⟩
    rotate_left
    · show Q .norm _
      refine hfin _ s' _ hi' (hent s' fr' hpn _ fr hfr (fun p hp=>?_) (fun j o ho=>hobj j o (by rw[hoth _ j (hob _ _ _ ho).1.2];exact ho)))
      rw[hfr']
      exact hfr0 p hp
    · show hpn 1000000=_
      rw[hN1]
      subst hq
      rfl
  · rintro x hp' hpn ⟨⟨s',b⟩,⟨hx,hb⟩,rfl⟩ hobj hold
    simp only at hx hb
    subst hb
    rw[clo_ren (hIP _ _ hx)]
    refine hpan x _ s' (backM m (N+1) (1000000+1+1048576*0)) hx ?_
    have:=hent s' (mkFr fr) hpn 0 [] (by simp) (by simp) (fun j o ho=>hobj j o (by rw[hoth _ j (hob _ _ _ ho).1.2];exact ho))
    refine⟨(fun t x hx=>by cases hx),fun id o ho=>⟨?_,(this.2.1 id o ho).2⟩,this.2.2.1,this.2.2.2⟩
    have g1:=(this.2.1 id o ho).1
    simp only[updo] at g1
    split at g1
    · cases g1
    · exact g1

end Go.Proofs.Ytfgjjnfdcgkpoaa
