/- A part of the proof: an abstract machine for the walks, and what the walked functions compute. -/
import Derived.Test.YtfpcjabbcpgbjaaDoorMr
set_option linter.unusedVariables false
set_option linter.unusedSimpArgs false
namespace Go.Am
open Go
variable {P:Program} {O:St}
theorem RCall.of_HC {f : FuncId} {vs us : List AV} {hp h : Nat -> Option AObj} {np : Nat} {r : AV} (hA : HC P f vs hp np r) (m : Nat -> Nat) (hus : us = AV.renL m vs) (hvs : AV.idsL (· < np) vs)
    (h1:∀ id ob,hp id=some ob->h (m id)=some (ob.ren m)) (h2:∀ id id',id<np->id'<np->m id=m id'->id=id'):RCall P f us h r:=by
  obtain⟨hw,hr,hA⟩:=hA
  have hnp:=hw.2.2
  subst hus
  refine⟨hA.1,fun ρ V Z w args hs hsz hrel=>?_⟩
  rw[jO] at hsz hrel
  have hids:AV.idsL (· <1000000) vs:=Ja (fun i hi=>by omega) hvs
  have hh:HSat (fun i=>ρ (m i)) (fun i=>i<1000000/\V (m i)) Z w hp:=by
    refine⟨fun id o ho=>?_,fun id id' o o' b ho ho' hb hb'=>?_,fun id o b ho hb=>?_,hs.lt,hs.gl⟩
    · have g1:=h1 id o ho
      obtain⟨g4,g5⟩:=hs.obj _ _ g1
      have g6:=hw.1 id o ho
      exact⟨⟨by omega,g4⟩,uz m (jf _ (fun i hi=>by omega) g6.2) g5⟩
    · exact h2 id id' (hw.1 _ _ ho).1 (hw.1 _ _ ho').1 (hs.inj _ _ _ _ b (h1 id o ho) (h1 id' o' ho') hb hb')
    · exact hs.sep _ _ b (h1 id o ho) hb
  have hpV:∀ id,id<np->V (m id):=by
    intro id hid
    cases ho:hp id with
    |none=>exact absurd ho (hw.2.1 id hid)
    |some o=>exact(hs.obj _ _ (h1 id o ho)).1
  refine(hA.2 _ _ Z w args hh (fun id hid=>⟨by omega,hpV id hid⟩) (fun id hid=>hid.1) hsz ?_).mono ?_
  · intro i hi
    have:=hrel i hi
    rw[j1 m vs i hi] at this
    exact JW m _ _ (Jp vs i hi hids) this
  rintro e w' ⟨ρ',V',Z',hp',k1,k2,k3,k4,k5,k6,⟨v,r',rfl,hv,rfl,rfl⟩|⟨v,x,rfl,hv,hx⟩⟩
  rotate_left
  · exact hx.elim
  have hm:∀ id,id<np->V' id->V (m id)/\ρ (m id)=ρ' id:=fun id hid hv=>⟨hpV id hid,(k3 id hid).2.symm⟩
  refine⟨v,Z',rfl,jR hv hr ρ V,⟨fun b hb hn=>k2.old b hb (fun⟨id,o,g1,g2⟩=>hn ⟨m id,_,h1 id o g1,g2⟩),k2.le,k2.os,k2.out,k2.fresh⟩,fun id o ho=>?_,k4,fun b o hz=>?_⟩
  · by_cases hj:∃ j o',hp' j=some o'/\m j=id
    · obtain⟨j,o',g1,rfl⟩:=hj
      have g2:=h1 j o' g1
      rw[ho] at g2
      cases g2
      exact Gh m hm (hw.1 j o' g1).1 (k1.obj j o' g1).1 (hw.1 j o' g1).2 (k1.obj j o' g1).2
    · obtain⟨g1,g2⟩:=hs.obj id o ho
      have hno:∀ b,Jx (fun i=>ρ (m i)) hp' b->∀ off,¬ Z b off:=fun b ⟨j,o',q1,q2⟩=>hs.sep _ _ b (h1 j o' q1) q2
      refine g2.mono g1 (fun _ _=>rfl) (fun _ h=>h) k4 (fun b o' hz=>cell?_of_heap (k2.old b (hs.lt b o' hz) (fun hb=>hno b hb o' hz))) (fun b hb=>k2.old b (g2.lt b hb) ?_)
      rintro⟨j,o',q1,q2⟩
      exact hj ⟨j,o',q1,hs.inj _ _ _ _ b (h1 j o' q1) ho q2 hb⟩
  · rcases k5 b o hz with g|g|⟨id,o',g1,g2⟩
    · exact .inl g
    · exact .inr ⟨g,k1.lt b o hz⟩
    · refine absurd hz (k1.sep id o' b g1 ?_ o)
      rw[(k3 id (hw.1 id o' g1).1).2]
      exact g2
theorem gA {g : FuncId} {vs us : List AV} {hp : Nat -> Option AObj} {np : Nat} {r : AV} {d : Option Nat} {K : St -> Prop} (hu : AV.snapL O.hp vs = us) (h : HC P g us hp np r) (hv : AV.idsL (· < np) us)
    (h1:∀ id ob,hp id=some ob->O.hp id=some ob/\id<O.nx/\(vs.all AV.noRw||ob.zf)=true) (hs:AV.snapOkL O.hp vs) (hf:r.flatR=true\/vs.all AV.noRw=true) (hk:K (O.put d r)) {tg:Tg (jA P g vs O d K)} :Hold (jA P g vs O d K) tg:=
  ⟨hs,r,by rw[hu];exact RCall.of_HC h (fun i=>i) (by rw[jv]) hv (fun id ob ho=>by rw[jw];exact jfe (h1 id ob ho).2.1 (h1 id ob ho).1 (h1 id ob ho).2.2) (fun _ _ _ _ e=>e),hf,hk⟩
end Go.Am
