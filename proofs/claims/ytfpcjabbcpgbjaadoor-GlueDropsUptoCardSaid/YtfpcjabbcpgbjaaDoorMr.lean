/- A part of the proof: an abstract machine for the walks, and what the walked functions compute. -/
import Derived.Test.YtfpcjabbcpgbjaaDoorMk
set_option linter.unusedVariables false
set_option linter.unusedSimpArgs false
set_option maxHeartbeats 4000000
namespace Go.Am
open Go
variable {P:Program}
attribute [local irreducible] AW jA CallB CallY
def jfH (h:Nat) (P:Program) (gf:FuncId) (caps:List AV) (L:List (Nat×AObj)) (ys:List (List AV)):Prop:=
 ∀ (l:Nat) (S:Type) (objs:S->Nat->Option AObj) (np:Nat),np+h<=900000->AV.idsL (· <np) caps->(∀ s p,p∈L->objs s p.1=some p.2)->
  (∀ s id o,objs s id=some o->(id<1000000/\¬ (np<=id/\id<np+h))/\o.ids (fun j=>j<1000000/\¬ (np<=j/\j<np+h)))->(∀ s id,id<np->objs s id≠none)->
  ∀ (Inv:Nat->S->Prop) (Fin:S->Prop) (IP:AV->S->Prop),(∀ x s,IP x s->x.clo=true)->
  (∀ i y s,Inv i s->ys[i]? =some y->YCall P l y (objs s) 1000000 np (fun r hp'=>∃ s',((r= .bool true/\Inv (i+1) s')\/(r= .bool false/\Fin s'))/\hp'=objs s') (fun x hp'=>∃ s',IP x s'/\hp'=objs s'))->
  ∀ s,Inv 0 s->ACall P gf (.fn (.yield l) [] []::caps) (objs s) 1000000 np (fun r hp'=>r= .tup []/\∃ s',(Inv ys.length s'\/Fin s')/\hp'=objs s') (fun x hp'=>∃ s',IP x s'/\hp'=objs s')
def IterC (P:Program) (gf:FuncId) (caps:List AV) (L:List (Nat×AObj)) (ys:List (List AV)):Prop:=
 ∀ (l:Nat) (S:Type) (objs:S->Nat->Option AObj) (np:Nat),np<=1000000->AV.idsL (· <np) caps->(∀ s p,p∈L->objs s p.1=some p.2)->
  (∀ s id o,objs s id=some o->id<1000000/\o.ids (· <1000000))->(∀ s id,id<np->objs s id≠none)->
  ∀ (Inv:Nat->S->Prop) (Fin:S->Prop) (IP:AV->S->Prop),(∀ x s,IP x s->x.clo=true)->
  (∀ i y s,Inv i s->ys[i]? =some y->YCall P l y (objs s) 1000000 np (fun r hp'=>∃ s',((r= .bool true/\Inv (i+1) s')\/(r= .bool false/\Fin s'))/\hp'=objs s') (fun x hp'=>∃ s',IP x s'/\hp'=objs s'))->
  ∀ s,Inv 0 s->ACall P gf (.fn (.yield l) [] []::caps) (objs s) 1000000 np (fun r hp'=>r= .tup []/\∃ s',(Inv ys.length s'\/Fin s')/\hp'=objs s') (fun x hp'=>∃ s',IP x s'/\hp'=objs s')
theorem IterC.h0 {P:Program} {gf:FuncId} {caps:List AV} {L:List (Nat×AObj)} {ys:List (List AV)} (hI:IterC P gf caps L ys):jfH 0 P gf caps L ys:=by
 intro l S objs np hn hc hL hob hnp
 refine hI l S objs np (by omega) hc hL (fun s id o ho=>?_) hnp
 have:=hob s id o ho
 exact⟨this.1.1,jf _ (fun j hj=>hj.1) this.2⟩
theorem YCall.of_roundX {q : Lp} {frv vs : List AV} {hp : Nat -> Option AObj} {nx np : Nat} {R Rp : AV -> (Nat -> Option AObj) -> Prop} (rid : Nat) (hf : P.funcs[q.fn]? ≠ none) (hr : hp rid = some (.lp q frv)) (hrn : rid < np) (hst : q.st = .ready) (hvs : vs.length = q.ps.size) (hps : ∀ p, p ∈ q.ps.toList -> p < q.nt)
    (h:∀ (E:En) (Q:AEx->St->Prop),E.nt=q.nt->E.np=np->E.rd=some q.l->
      (∀ O fr',O.hp rid=some (.lp { q with st:= .busy } fr')->(∃ m hc nc,Ent np m ⟨fun _=>none,jb O.hp rid (some (.lp { q with st:= .ready,pend:=none } fr')),0⟩ ⟨fun _=>none,hc,nc⟩/\R (.bool true) hc)->Q .norm O)->
      (∀ O fr',O.hp rid=some (.lp { q with st:= .busy } fr')->(∃ m hc nc,Ent np m ⟨fun _=>none,jb O.hp rid (some (.lp { q with st:= .done,pend:=some .ret } fr')),0⟩ ⟨fun _=>none,hc,nc⟩/\R (.bool false) hc)->Q .ret O)->
      (∀ j O fr',O.hp rid=some (.lp { q with st:= .busy } fr')->(∃ m hc nc,Ent np m ⟨fun _=>none,jb O.hp rid (some (.lp { q with st:= .done,pend:=some (.exit j) } fr')),0⟩ ⟨fun _=>none,hc,nc⟩/\R (.bool false) hc)->Q (.exit j) O)->
      (∀ x O,(∃ y m hc nc,x=y.ren m/\y.ids (· <nc)/\Ent np m O ⟨fun _=>none,hc,nc⟩/\Rp y hc)->Q (.pan x) O)->
      AW P E q.assign (fun e O'=>match e with| .norm=>∃ fr',O'.hp rid=some (.lp q fr')/\AW P E q.body Q ⟨O'.fr,jb O'.hp rid (some (.lp { q with st:= .busy } fr')),O'.nx⟩| .pan x=>∃ y m hc nc,x=y.ren m/\y.ids (· <nc)/\Ent np m O' ⟨fun _=>none,hc,nc⟩/\Rp y hc|_=>False) ⟨gn q frv vs,hp,nx⟩):YCall P q.l vs hp nx np R Rp:=by
  refine ACallG.ent (Run:=YRuns P q.l) (fun h hr=>h.mono hr) (R':=fun r hp'=>∃ b:Bool,r= .bool b/\∃ m hc nc,Ent np m ⟨fun _=>none,hp',0⟩ ⟨fun _=>none,hc,nc⟩/\R (.bool b) hc)
    (Rp':=fun x hp'=>∃ y m hc nc,x=y.ren m/\y.ids (· <nc)/\Ent np m ⟨fun _=>none,hp',0⟩ ⟨fun _=>none,hc,nc⟩/\Rp y hc)
    (YCall.of_round rid hf hr hrn hst hvs hps fun E Q h1 h2 h3 h4 h5 h6 h7=>?_) ?_ ?_
  · refine(h E Q h1 h2 h3 (fun O fr' hb hx=>h4 O fr' hb ⟨true,rfl,hx⟩) (fun O fr' hb hx=>h5 O fr' hb ⟨false,rfl,hx⟩) (fun j O fr' hb hx=>h6 j O fr' hb ⟨false,rfl,hx⟩) (fun x O ⟨y,m,hc,nc,g1,g2,g3,g4⟩=>h7 x O ⟨y,m,hc,nc,g1,g2,⟨(fun t x h=>by cases h),g3.2.1,g3.2.2.1,g3.2.2.2⟩,g4⟩)).mono ?_
    rintro e O hq
    cases e with
    |norm=>exact hq
    |pan x=>obtain⟨y,m,hc,nc,g1,g2,g3,g4⟩:=hq;exact⟨y,m,hc,nc,g1,g2,⟨(fun t x h=>by cases h),g3.2.1,g3.2.2.1,g3.2.2.2⟩,g4⟩
    |ret=>exact hq
    |exit j=>exact hq
  · rintro r hp' ⟨b,rfl,m,hc,nc,he,hR⟩
    exact⟨.bool b,m,hc,nc,rfl,trivial,he,hR⟩
  · exact fun x hp' h=>h
def xr (P:Program) (E':En) (q:Lp) (N:Nat) (vals vs:List AV) (Q':AEx->St->Prop) (hp:Nat->Option AObj):Prop:=
 AW P E' q.assign (fun e O'=>match e with| .norm=>∃ fr',O'.hp N=some (.lp q fr')/\AW P E' q.body Q' ⟨O'.fr,jb O'.hp N (some (.lp { q with st:= .busy } fr')),O'.nx⟩|_=>False) ⟨gn q vals vs,jb hp N (some (.lp q vals)),1000000⟩
def jf4 (Q:AEx->St->Prop):Option Nat->St->Prop
 |none,O=>Q .ret O
 |some j,O=>Q (.exit j) O
def jc2:Option Nat->Code
 |none=> .ret
 |some j=> .exit j
theorem jbz {h : Nat} (hh3 : h <= 90000) {E : En} {Q : AEx -> St -> Prop} {g : Nat} {ps : Array Tmp} {assign body : Code} (hM : E.rd = none /\ E.mks = true /\ E.ex = true) {gf : FuncId} {caps : List AV} {L : List (Nat × AObj)} {ys : List (List AV)} (hI : jfH h P gf caps L ys)
    {S:Type} (objs:S->Nat->Option AObj) (N:Nat) (hN:N+1+h<=900000) (hEN:E.np<=N) (hcaps:AV.idsL (· <N) caps) (hL:∀ p,p∈L->p.1<N) (hLo:∀ s p,p∈L->objs s p.1=some p.2)
    (hobH:∀ s id o,objs s id=some o->(id<1000000/\¬ (N<=id/\id<N+1+h))/\o.ids (fun j=>j<1000000/\¬ (N<=j/\j<N+1+h))) (hnp:∀ s id,id<N->objs s id≠none)
    (fr:List (Nat×AV)) (hfr:∀ p,p∈fr->p.2.ids (· <N)) (hfr0:∀ p,p∈fr->jL fr p.1=some p.2) (hg:jL fr g=some (.fn (.func gf) [] caps)) (ts:List Nat) (vals:List AV) (hts:∀ i,i<vals.length->jL fr (ts.getD i 0)=some (vals.getD i default)) (hvals:AV.idsL (· <N) vals)
    (hps:∀ y,y∈ys->y.length=ps.size) (hps2:∀ p,p∈ps.toList->p<E.nt) (Inv:Nat->S->Prop) (Fin:Option Nat->S->Prop) (IP:AV->S->Prop) (hIP:∀ x s,IP x s->x.clo=true)
    (hround:∀ l fnn i y s E' Q',Inv i s->ys[i]? =some y->E'.nt=E.nt->E'.np=N+1->
      (∀ O s' m,Inv (i+1) s'->Ent (N+1) m O ⟨jL [],jb (objs s') N (some (.lp ⟨l,fnn,ps,assign,body,E.nt,ts,.busy,none⟩ vals)),1000000⟩->Q' .norm O)->
      (∀ O s' m c,Fin c s'->Ent (N+1) m O ⟨jL [],jb (objs s') N (some (.lp ⟨l,fnn,ps,assign,body,E.nt,ts,.busy,none⟩ vals)),1000000⟩->jf4 Q' c O)->
      (∀ x O s' m,IP x s'->Ent (N+1) m O ⟨jL [],jb (objs s') N (some (.lp ⟨l,fnn,ps,assign,body,E.nt,ts,.busy,none⟩ vals)),1000000⟩->Q' (.pan x) O)->
      xr P E' ⟨l,fnn,ps,assign,body,E.nt,ts,.ready,none⟩ N vals y Q' (objs s))
    (s0:S) (h0:Inv 0 s0)
    (hfin:∀ O s' m,Inv ys.length s'->Ent E.np m O ⟨jL fr,objs s',1000000⟩->Q .norm O)
    (hleft:∀ O s' m c,Fin c s'->Ent E.np m O ⟨jL fr,objs s',1000000⟩->jf4 Q c O)
    (hpan:∀ x O s' m,IP x s'->Ent E.np m O ⟨jL [],objs s',1000000⟩->Q (.pan x) O):
    AW P E (.rangeFunc (.tmp g) ps assign body) Q ⟨jL fr,objs s0,1000000⟩:=by
  have hob:∀ s id o,objs s id=some o->(id<1000000/\id≠N)/\o.ids (fun j=>j<1000000/\j≠N):=fun s id o ho=>by
    have:=hobH s id o ho
    exact⟨by omega,jf _ (fun j hj=>by omega) this.2⟩
  refine uW hM (gf:=gf) (first:=[]) (cap:=caps) hg ts vals hts fun l fnn hfnn=>?_
  have hvr:∀ m:Nat->Nat,(∀ j,j<N->m j=j)->AV.renL m vals=vals:=fun m hm=>by
    have:=Jd (m:=m) (m':=fun i=>i) hm hvals
    rw[this,jv]
  have hcr:∀ m:Nat->Nat,(∀ j,j<N->m j=j)->AV.renL m caps=caps:=fun m hm=>by
    have:=Jd (m:=m) (m':=fun i=>i) hm hcaps
    rw[this,jv]
  generalize hq:(⟨l,fnn,ps,assign,body,E.nt,ts,.ready,none⟩:Lp)=q at*
  let qb:Option (Option Nat)->Lp:=fun b=>match b with|none=>q|some c=> { q with st:= .done,pend:=some (jc2 c) }
  let qs:Option (Option (Option Nat))->Lp:=fun b=>match b with|none=> { q with st:= .busy } |some c=>qb c
  let objs':S×Option (Option (Option Nat))->Nat->Option AObj:=fun p=>jb (objs p.1) N (some (.lp (qs p.2) vals))
  have hat:∀ p,objs' p N=some (.lp (qs p.2) vals):=fun p=>by simp[objs',jb]
  have hoth:∀ p id,id≠N->objs' p id=objs p.1 id:=fun p id hid=>by simp[objs',jb,hid]
  have hvid:AV.idsL (· <1000000) vals:=Ja (fun i hi=>by omega) hvals
  have hob':∀ p id o,objs' p id=some o->id<1000000/\o.ids (· <1000000):=by
    intro p id o ho
    by_cases e:id=N
    · subst e;rw[hat] at ho;cases ho;exact⟨by omega,hvid⟩
    · rw[hoth p id e] at ho;have:=hob _ _ _ ho;exact⟨this.1.1,jf _ (fun j hj=>hj.1) this.2⟩
  have hobK:∀ p id o,objs' p id=some o->(id<1000000/\¬ (N+1<=id/\id<N+1+h))/\o.ids (fun j=>j<1000000/\¬ (N+1<=j/\j<N+1+h)):=by
    intro p id o ho
    by_cases e:id=N
    · subst e;rw[hat] at ho;cases ho;exact⟨by omega,Ja (fun i hi=>by omega) hvals⟩
    · rw[hoth p id e] at ho;have:=hobH _ _ _ ho;exact⟨by omega,jf _ (fun j hj=>by omega) this.2⟩
  have hrun := hI l (S × Option (Option (Option Nat))) objs' (N + 1) (by omega) (Ja (fun i hi => by omega) hcaps) (fun p x hx => by
      have:=hL x hx
      rw[hoth p x.1 (by omega)];exact hLo _ x hx) hobK
    (fun p id hid=>by
      by_cases e:id=N
      · subst e;rw[hat];simp
      · rw[hoth p id e];exact hnp _ _ (by omega))
    (fun i p=>Inv i p.1/\p.2=some none) (fun p=>∃ c,Fin c p.1/\p.2=some (some c)) (fun x p=>IP x p.1/\p.2=none) (fun x p hx=>hIP x p.1 hx.1) ?_ (s0,some none) ⟨h0,rfl⟩
  rotate_left
  · rintro i y ⟨s,b⟩ ⟨hinv,hb⟩ hy
    simp only at hinv hb
    subst hb
    have hql:q.l=l:=by subst hq;rfl
    rw[<- hql]
    have hqb:(⟨l,fnn,ps,assign,body,E.nt,ts,.busy,none⟩:Lp)= { q with st:= .busy } :=by subst hq;rfl
    have hmove : ∀ (O : St) (s' : S) (m : Nat -> Nat) (fin : Option (Option Nat)) (q2 : Lp), q2 = qb fin -> Ent (N + 1) m O ⟨jL [], jb (objs s') N (some (.lp { q with st := .busy } vals)), 1000000⟩ ->
        O.hp N=some (.lp { q with st:= .busy } vals)/\Ent (N+1) m ⟨fun _=>none,jb O.hp N (some (.lp q2 vals)),0⟩ ⟨fun _=>none,objs' (s',some fin),1000000⟩:=by
      intro O s' m fin q2 hq2 he
      obtain⟨_,e2,e3,e4⟩:=he
      have hmN:m N=N:=(e4 N (by omega)).1
      have hmv:AV.renL m vals=vals:=hvr m fun j hj=>(e4 j (by omega)).1
      have hN':jb (objs s') N (some (.lp { q with st:= .busy } vals)) N=some (.lp { q with st:= .busy } vals):=by simp[jb]
      have hON:=(e2 N _ hN').1
      rw[hmN] at hON
      simp only[AObj.ren,hmv] at hON
      refine⟨hON,(fun t x hx=>by cases hx),?_,?_,?_⟩
      · intro id o ho
        replace ho:objs' (s',some fin) id=some o:=ho
        refine⟨?_,hob' _ _ _ ho⟩
        show jb O.hp N (some (.lp q2 vals)) (m id)=some (o.ren m)
        by_cases e:id=N
        · subst e
          rw[hat] at ho
          cases ho
          rw[hmN,hq2]
          simp only[jb,if_true,AObj.ren,hmv]
          rfl
        · rw[hoth _ id e] at ho
          have hx:jb (objs s') N (some (.lp { q with st:= .busy } vals)) id=some o:=by simp only[jb,if_neg e];exact ho
          have hne:m id≠N:=fun hh=>e (e3 id N _ _ hx hN' (by rw[hh,hmN]))
          simp only[jb,if_neg hne]
          exact(e2 id o hx).1
      · intro id id' o o' h1 h2 hh
        have c1:∀ id o,objs' (s',some fin) id=some o->∃ o,jb (objs s') N (some (.lp { q with st:= .busy } vals)) id=some o:=by
          intro id o ho
          by_cases e:id=N
          · subst e;exact⟨_,hN'⟩
          · rw[hoth _ id e] at ho;exact⟨o,by simp only[jb,if_neg e];exact ho⟩
        replace h1:objs' (s',some fin) id=some o:=h1
        replace h2:objs' (s',some fin) id'=some o':=h2
        obtain⟨o1,g1⟩:=c1 id o h1
        obtain⟨o2,g2⟩:=c1 id' o' h2
        exact e3 id id' o1 o2 g1 g2 hh
      · exact fun id hid=>⟨(e4 id hid).1,by show id<1000000;omega⟩
    refine YCall.of_roundX (q:=q) (frv:=vals) N (by subst hq;exact hfnn) (by rw[hat]) (by omega) (by subst hq;rfl) (by subst hq;exact hps y (List.mem_of_getElem? hy)) (by subst hq;exact hps2) fun E' Q' k1 k2 k3 k4 k5 k6 k7=>?_
    have hg:=hround l fnn i y s E' Q' hinv hy (by subst hq;exact k1) k2 ?_ ?_ ?_
    · rw[hq] at hg
      refine AW.mono (Q:=fun e O'=>match e with| .norm=>∃ fr',O'.hp N=some (.lp q fr')/\AW P E' q.body Q' ⟨O'.fr,jb O'.hp N (some (.lp { q with st:= .busy } fr')),O'.nx⟩|_=>False) ?_ ?_
      · exact hg
      · intro e O hh
        cases e with
        |norm=>exact hh
        |_=>exact hh.elim
    · intro O s' m hi' he
      rw[hqb] at he
      obtain⟨g1,g2⟩:=hmove O s' m none { q with st:= .ready,pend:=none } (by subst hq;rfl) he
      exact k4 O vals g1 ⟨m,objs' (s',some none),1000000,g2,(s',some none),.inl ⟨rfl,hi',rfl⟩,rfl⟩
    · intro O s' m c hc he
      rw[hqb] at he
      obtain⟨g1,g2⟩:=hmove O s' m (some c) { q with st:= .done,pend:=some (jc2 c) } rfl he
      cases c with
      |none=>exact k5 O vals g1 ⟨m,objs' (s',some (some none)),1000000,g2,(s',some (some none)),.inr ⟨rfl,none,hc,rfl⟩,rfl⟩
      |some j=>exact k6 j O vals g1 ⟨m,objs' (s',some (some (some j))),1000000,g2,(s',some (some (some j))),.inr ⟨rfl,some j,hc,rfl⟩,rfl⟩
    · intro x O s' m hx he
      rw[hqb] at he
      refine k7 x O ⟨x,m,_,1000000,(Jz (hIP x s' hx)).symm,j5 (hIP x s' hx),he,(s',none),⟨hx,rfl⟩,rfl⟩
  let m:Nat->Nat:=fun j=>if j=N then 1000000 else j
  have hmN:m N=1000000:=if_pos rfl
  have hmj:∀ j,j≠N->m j=j:=fun j hj=>if_neg hj
  have hmv:AV.renL m vals=vals:=hvr m fun j hj=>hmj j (by omega)
  have hmc:AV.renL m caps=caps:=hcr m fun j hj=>hmj j (by omega)
  have hM':∀ j,j<N+1->j≠N->jn m (N+1) (1000000+1+1048576*0) j=j:=fun j h1 h2=>by rw[jz h1,hmj j h2]
  have hent : ∀ (s' : S) (fr' : Nat -> Option AV) (hpn : Nat -> Option AObj) (n' : Nat) (fr2 : List (Nat × AV)), (∀ p, p ∈ fr2 -> p.2.ids (· < N)) -> (∀ p, p ∈ fr2 -> fr' p.1 = some p.2) ->
      (∀ j o,objs s' j=some o->hpn (jn m (N+1) (1000000+1+1048576*0) j)=some (o.ren (jn m (N+1) (1000000+1+1048576*0))))->Ent E.np (jn m (N+1) (1000000+1+1048576*0)) ⟨fr',jb hpn 1000000 none,n'⟩ ⟨jL fr2,objs s',1000000⟩:=by
    intro s' fr' hpn n' fr2 hid hfr' hob2
    have hlt:∀ id o,objs s' id=some o->jn m (N+1) (1000000+1+1048576*0) id≠1000000:=by
      intro id o ho
      have:=(hob _ _ _ ho).1
      by_cases e:id<N+1
      · rw[hM' id e this.2];omega
      · rw[Jq (by omega)];omega
    refine Jl (fun p hp=>⟨?_,Gf (fun i hi=>by omega) (hid p hp)⟩) (fun id o ho=>⟨?_,(hob _ _ _ ho).1.1,jf _ (fun j hj=>hj.1) (hob _ _ _ ho).2⟩) (fun id id' o o' h1 h2 hh=>?_) (fun id hid=>⟨hM' id (by omega) (by omega),by omega⟩)
    · rw[yW (m':=fun i=>i) (fun j hj=>hM' j (by omega) (by omega)) (hid p hp),JH]
      exact hfr' p hp
    · simp only[jb,if_neg (hlt id o ho)]
      exact hob2 id o ho
    · have g1:=(hob _ _ _ h1).1
      have g2:=(hob _ _ _ h2).1
      by_cases e1:id<N+1<;>by_cases e2:id'<N+1
      · rw[hM' id e1 g1.2,hM' id' e2 g2.2] at hh;exact hh
      · rw[hM' id e1 g1.2,Jq (by omega)] at hh;omega
      · rw[hM' id' e2 g2.2,Jq (by omega)] at hh;omega
      · rw[Jq (by omega),Jq (by omega)] at hh;omega
  show CallB P gf ([.fn (.yield l) [] []]++caps) ⟨jL fr,jb (objs s0) 1000000 (some (.lp _ vals)),1000000+1⟩ 0 none _ _
  have hq0:qs (some none)=q:=rfl
  refine CallB.use hrun m ?_ ?_ ?_ ?_ ?_ ?_ ?_ ?_ ?_
  · simp only[AV.renL,AV.ren,hmc,List.cons_append,List.nil_append]
  · simp only[AV.idsL,AV.ids];exact⟨⟨trivial,trivial⟩,Ja (fun i hi=>by omega) hcaps⟩
  · intro id o ho
    refine⟨?_,hob' _ _ _ ho⟩
    by_cases e:id=N
    · subst e
      rw[hat,hq0] at ho
      cases ho
      rw[hmN]
      simp only[jb,if_true,AObj.ren,hmv]
    · rw[hoth _ id e] at ho
      have g1:=hob _ _ _ ho
      rw[hmj id e,GH (m':=fun i=>i) (fun j hj=>hmj j hj.2) g1.2,jw]
      simp only[jb]
      rw[if_neg (by omega)]
      exact ho
  · intro id id' o o' h1 h2 hh
    have g1:=(hob' _ _ _ h1).1
    have g2:=(hob' _ _ _ h2).1
    by_cases e1:id=N<;>by_cases e2:id'=N
    · omega
    · rw[e1,hmN,hmj id' e2] at hh;omega
    · rw[e2,hmN,hmj id e1] at hh;omega
    · rw[hmj id e1,hmj id' e2] at hh;exact hh
  · intro id hid
    refine⟨by omega,?_⟩
    by_cases e:id=N
    · subst e;rw[hat];simp
    · rw[hoth _ id e];exact hnp _ _ (by omega)
  · rintro r hp' ⟨rfl,s',hi',rfl⟩
    exact⟨trivial,fun id o ho=>⟨by have:=(hob' _ _ _ ho).1;omega,jf _ (fun j hj=>by omega) (hob' _ _ _ ho).2⟩⟩
  · rintro r hp' ⟨s',hx,rfl⟩
    exact⟨j5 (hIP _ _ hx.1),fun id o ho=>⟨by have:=(hob' _ _ _ ho).1;omega,jf _ (fun j hj=>by omega) (hob' _ _ _ ho).2⟩⟩
  · rintro r hp' fr' hpn ⟨rfl,⟨s',b⟩,hend,rfl⟩ hfr' hobj hold
    have hN1:=hobj N _ (hat _)
    rw[jz (by omega),hmN] at hN1
    have hE2:Ent E.np (jn m (N+1) (1000000+1+1048576*0)) ⟨fr',jb hpn 1000000 none,1000000+1+1048576⟩ ⟨jL fr,objs s',1000000⟩:=hent s' fr' hpn _ fr hfr (fun p hp=>by
      rw[hfr']
      exact hfr0 p hp) (fun j o ho=>hobj j o (by rw[hoth _ j (hob _ _ _ ho).1.2];exact ho))
    rcases hend with ⟨hi',hb⟩|⟨c,hc,hb⟩
    · simp only at hi' hb
      subst hb
      refine⟨.ready,none,AV.renL (jn m (N+1) (1000000+1+1048576*0)) vals,?_,by simp,hfin _ s' _ hi' hE2⟩
      show hpn 1000000=_
      rw[hN1]
      subst hq
      rfl
    · simp only at hc hb
      subst hb
      refine⟨.done,some (jc2 c),AV.renL (jn m (N+1) (1000000+1+1048576*0)) vals,?_,by simp,?_⟩
      · show hpn 1000000=_
        rw[hN1]
        subst hq
        rfl
      · have:=hleft _ s' _ c hc hE2
        cases c<;>exact this
  · rintro x hp' hpn ⟨⟨s',b⟩,⟨hx,hb⟩,rfl⟩ hobj hold
    simp only at hx hb
    subst hb
    rw[Jz (hIP _ _ hx)]
    refine hpan x _ s' (jn m (N+1) (1000000+1+1048576*0)) hx ?_
    have:=hent s' (jL fr) hpn 0 [] (by simp) (by simp) (fun j o ho=>hobj j o (by rw[hoth _ j (hob _ _ _ ho).1.2];exact ho))
    refine⟨(fun t x hx=>by cases hx),fun id o ho=>⟨?_,(this.2.1 id o ho).2⟩,this.2.2.1,this.2.2.2⟩
    have g1:=(this.2.1 id o ho).1
    simp only[jb] at g1
    split at g1
    · cases g1
    · exact g1
end Go.Am

namespace Go.Am
open Go
variable {P:Program}
def WF (hp:Nat->Option AObj) (np:Nat):Prop:=(∀ id ob,hp id=some ob->id<np/\ob.ids (· <np))/\(∀ id,id<np->hp id≠none)/\np<=900000
def HC (P:Program) (f:FuncId) (vs:List AV) (hp:Nat->Option AObj) (np:Nat) (r:AV):Prop:=
 WF hp np/\r.clo=true/\ACall P f vs hp 1000000 np (fun r' hp'=>r'=r/\hp'=hp) (fun _ _=>False)
theorem HC.use {fr : Nat -> Option AV} {hp0 : Nat -> Option AObj} {n0 : Nat} {f : FuncId} {vs us : List AV} {hp : Nat -> Option AObj} {np : Nat} {r : AV} (hA : HC P f vs hp np r) (m : Nat -> Nat) (hus : us = AV.renL m vs) (hvs : AV.idsL (· < np) vs)
    (h1:∀ id ob,hp id=some ob->hp0 (m id)=some (ob.ren m)) (h2:∀ id id',id<np->id'<np->m id=m id'->id=id')
    {k:Nat} {d:Option Nat} {K:St->Prop} {Kp:AV->St->Prop}
    (hK:∀ hpn,(∀ id ob,hp0 id=some ob->hpn id=some ob)->K ⟨(St.put ⟨fr,hp0,n0⟩ d r).fr,hpn,n0⟩):
    CallB P f us ⟨fr,hp0,n0⟩ k d K Kp:=by
  obtain⟨hw,hr,hA⟩:=hA
  have hnp:=hw.2.2
  refine CallB.use hA m hus (Ja (fun i hi=>by omega) hvs) ?_ ?_ ?_ ?_ (fun _ _ h=>h.elim) ?_ (fun _ _ _ h=>h.elim)
  · exact fun id ob hid=>⟨h1 id ob hid,by have:=(hw.1 id ob hid).1;omega,jf _ (fun i hi=>by omega) (hw.1 id ob hid).2⟩
  · exact fun id id' o1 o2 ho1 ho2 he=>h2 id id' (hw.1 _ _ ho1).1 (hw.1 _ _ ho2).1 he
  · exact fun id hid=>⟨by omega,hw.2.1 id hid⟩
  · rintro r' hp' ⟨rfl,rfl⟩
    exact⟨j5 hr,fun id ob hid=>⟨by have:=(hw.1 id ob hid).1;omega,jf _ (fun i hi=>by omega) (hw.1 id ob hid).2⟩⟩
  · rintro r' hp' fr' hpn ⟨rfl,rfl⟩ hfr hobj hold
    rw[Jz hr] at hfr
    subst hfr
    refine hK hpn ?_
    intro id ob hid
    by_cases hj:∃ j,j<np/\m j=id
    · obtain⟨j,hj,rfl⟩:=hj
      cases ho:hp' j with
      |none=>exact absurd ho (hw.2.1 j hj)
      |some o=>
        have h3:=h1 j o ho
        rw[h3] at hid
        cases hid
        have b0:=hobj j o ho
        have e0:∀ j,j<np->jn m np (n0+1048576*k) j=m j:=fun j hj=>by simp[jn,hj]
        rw[e0 j hj] at b0
        rw[b0]
        exact congrArg some (GH (fun i hi=>e0 i hi) (hw.1 j o ho).2)
    · exact hold id ob hid fun j hj' e'=>hj ⟨j,by cases ho:hp' j with|none=>exact absurd ho hj'|some o=>exact(hw.1 j o ho).1,e'⟩
theorem HC.intro {f : FuncId} {fn : Func} {c : Code} {vs : List AV} {hp : Nat -> Option AObj} {np : Nat} {r : AV} (hw : WF hp np) (hr : r.clo = true) (hf : P.funcs[f]? = some fn) (hb : fn.body = some c) (hfn : jJ P f = true) (hn : vs.length <= fn.ntmps)
    (h:∀ (E:En) (Q:AEx->St->Prop),E.nt=fn.ntmps->E.np=np->(∀ O,Jy P fn.results.toList O=some r->(∀ id ob,hp id=some ob->O.hp id=some ob)->Q .ret O/\Q .norm O)->AW P E c Q ⟨JV 0 vs,hp,1000000⟩):HC P f vs hp np r:=by
  refine⟨hw,hr,ACall.of_bodyR hf hfn hb hn fun E Q hE hN hQ _=>h E Q hE hN ?_⟩
  intro O h1 h5
  refine hQ O ⟨r,fun j=>j,_,1000000,by rw[Jz hr];exact h1,j5 hr,?_,rfl,rfl⟩
  refine⟨fun t x hx=>(by cases hx),fun id o ho=>?_,fun id id' o o' ho ho' he=>he,fun id hid=>⟨rfl,by have:=hw.2.2;show id<1000000;omega⟩⟩
  exact⟨by rw[jw];exact h5 id o ho,by have:=(hw.1 id o ho).1;have:=hw.2.2;show id<1000000;omega,jf _ (fun i hi=>by have:=hw.2.2;show i<1000000;omega) (hw.1 id o ho).2⟩
theorem WF.put {hp:Nat->Option AObj} {np:Nat} (hw:WF hp np) (hn:np<900000) {o:AObj} (ho:o.ids (· <np+1)):WF (jb hp np (some o)) (np+1):=by
 refine⟨fun id ob h=>?_,fun id hid=>?_,hn⟩
 ·simp only[jb] at h
  split at h
  ·rename_i e;cases h;exact⟨by omega,ho⟩
  ·have:=hw.1 id ob h;exact⟨by omega,jf _ (fun i hi=>by omega) this.2⟩
 ·simp only[jb]
  split
  ·simp
  ·exact hw.2.1 id (by omega)
theorem WF.lt {hp:Nat->Option AObj} {np:Nat} (hw:WF hp np) {id:Nat} {ob:AObj} (h:hp id=some ob):id<np:=(hw.1 id ob h).1
theorem WF.keep {hp:Nat->Option AObj} {np:Nat} (hw:WF hp np) {id:Nat} {ob:AObj} (h:hp id=some ob) {i:Nat} (hi:900000<=i) (o:Option AObj):jb hp i o id=some ob:=by
 have:=hw.lt h
 have:=hw.2.2
 simp only[jb]
 rw[if_neg (by omega)]
 exact h
theorem WF.of_list {L:List (Nat×AObj)} {np:Nat} (hn:np<=900000) (h1:∀ p,p∈L->p.1<np/\p.2.ids (· <np)) (h2:∀ id,id<np->jp L id≠none):WF (jp L) np:=by
 refine⟨fun id ob h=>?_,h2,hn⟩
 revert h h1
 clear h2
 induction L with
 |nil=>intro _ h;cases h
 |cons q L ih=>
  intro h1 h
  obtain⟨t,o⟩:=q
  simp only[jp,jb] at h
  split at h
  ·rename_i e;cases h;rw[e];exact h1 (t,ob) (by simp)
  ·exact ih (fun p hp=>h1 p (List.mem_cons_of_mem _ hp)) h
theorem jM {objs:List (Nat×AObj)} {p:Nat->AObj->Prop} (h:∀ q,q∈objs->p q.1 q.2):∀ id ob,jp objs id=some ob->p id ob:=by
 induction objs with
 |nil=>intro id ob h';cases h'
 |cons q l ih=>
  intro id ob h'
  obtain⟨t,o⟩:=q
  simp only[jp,jb] at h'
  split at h'
  ·rename_i e;cases h';rw[e];exact h (t,ob) (by simp)
  ·exact ih (fun q hq=>h q (List.mem_cons_of_mem _ hq)) id ob h'
def yP {α:Type} (b:α->Bool):List α->Nat->Int
 | [],_=> -1
 |x::l,i=>if b x then i else yP b l (i+1)
theorem QB {α:Type} (b:α->Bool):∀ (l:List α) (k:Nat),decide (0<=yP b l k)=l.any b
 | [],k=>by simp[yP]
 |x::l,k=>by
  rw[yP,List.any_cons]
  cases hb:b x
  ·simp only[Bool.false_eq_true,if_false,Bool.false_or]
   exact QB b l (k+1)
  ·simp
theorem O6 {α:Type} (b:α->Bool) (l:List α):(!l.any fun x=>!b x)=l.all b:=by
 induction l with
 |nil=>rfl
 |cons x l ih=>rw[List.any_cons,List.all_cons, <- ih];cases b x<;>simp
theorem JE {E : En} {fr : Nat -> Option AV} {hp : Nat -> Option AObj} {nx : Nat} {c : Code} {Q : AEx -> St -> Prop} (X j id : Nat) {sz : Nat} {l xs : List AV} (hX : hp X = some (.cells l)) (hj : l[j]? = some (.rw id)) (hid : hp id = some (.row sz xs)) (hne : X ≠ id) (hc : j8 xs)
    (h:AW P E c Q ⟨fr,jb (jb hp id none) X (some (.cells (l.set j (.sl xs)))),nx⟩):AW P E c Q ⟨fr,hp,nx⟩:=by
  refine AW.frz (O':=⟨fr,jb (jb hp id none) X (some (.cells (l.set j (.sl xs)))),nx⟩) (fun i=>if i=id then some (.row sz xs) else none) (fun i o h'=>?_) (fun t x' h'=>⟨x',h',.inl rfl⟩) (fun i o' h'=>?_) rfl h
  · split at h'
    · rename_i e;subst e;cases h';exact hid
    · cases h'
  · simp only[jb] at h'
    split at h'
    · rename_i e
      subst e
      cases h'
      refine⟨by simp[hne],_,hX,by simp,fun i hi=>?_⟩
      by_cases hij:j=i
      · subst hij
        have hl:j<l.length:=(List.getElem?_eq_some_iff.1 hj).1
        refine .inr ⟨?_,?_⟩
        · simp[List.getD_eq_getElem?_getD,hj,AV.snapOk,hc]
        · simp[List.getD_eq_getElem?_getD,hj,hl,(List.getElem?_eq_some_iff.1 hj).2,AV.snap]
      · refine .inl ?_
        simp[List.getD_eq_getElem?_getD,List.getElem?_set_ne hij]
    · split at h'
      · cases h'
      · rename_i e1 e2
        exact⟨if_neg e2,o',h',SnpO.refl _⟩
end Go.Am
