/- A part of the proof: an abstract machine for the walks, and what the walked functions compute. -/
import Derived.Test.YtffmphmiicnaeaaDoorMk
set_option linter.unusedVariables false
set_option linter.unusedSimpArgs false
namespace Go.Am
open Go
variable {P:Program}
def WF (hp:Nat→Option AObj) (np:Nat):Prop:=(∀ id ob,hp id=some ob→id<np∧ob.ids (· <np))∧(∀ id,id<np→hp id≠none)∧np≤900000
def HC (P:Program) (f:FuncId) (vs:List AV) (hp:Nat→Option AObj) (np:Nat) (r:AV):Prop:=
 WF hp np∧r.clo=true∧ACall P f vs hp 1000000 np (fun r' hp'=>r'=r∧hp'=hp) (fun _ _=>False)
theorem HC.use {fr : Nat → Option AV} {hp0 : Nat → Option AObj} {n0 : Nat} {f : FuncId} {vs us : List AV} {hp : Nat → Option AObj} {np : Nat} {r : AV} (hA : HC P f vs hp np r) (m : Nat → Nat) (hus : us = AV.renL m vs) (hvs : AV.idsL (· < np) vs)
    (h1:∀ id ob,hp id=some ob→hp0 (m id)=some (ob.ren m)) (h2:∀ id id',id<np→id'<np→m id=m id'→id=id')
    {k:Nat} {d:Option Nat} {K:St→Prop} {Kp:AV→St→Prop}
    (hK:∀ hpn,(∀ id ob,hp0 id=some ob→hpn id=some ob)→K ⟨(St.put ⟨fr,hp0,n0⟩ d r).fr,hpn,n0⟩):
    CallB P f us ⟨fr,hp0,n0⟩ k d K Kp:=by
  obtain⟨hw,hr,hA⟩:=hA
  have hnp:=hw.2.2
  refine CallB.use hA m hus (idsL_imp (fun i hi=>by omega) hvs) ?_ ?_ ?_ ?_ (fun _ _ h=>h.elim) ?_ (fun _ _ _ h=>h.elim)
  · exact fun id ob hid=>⟨h1 id ob hid,by have:=(hw.1 id ob hid).1;omega,objids_mono _ (fun i hi=>by omega) (hw.1 id ob hid).2⟩
  · exact fun id id' o1 o2 ho1 ho2 he=>h2 id id' (hw.1 _ _ ho1).1 (hw.1 _ _ ho2).1 he
  · exact fun id hid=>⟨by omega,hw.2.1 id hid⟩
  · rintro r' hp' ⟨rfl,rfl⟩
    exact⟨clo_ids hr,fun id ob hid=>⟨by have:=(hw.1 id ob hid).1;omega,objids_mono _ (fun i hi=>by omega) (hw.1 id ob hid).2⟩⟩
  · rintro r' hp' fr' hpn ⟨rfl,rfl⟩ hfr hobj hold
    rw[clo_ren hr] at hfr
    subst hfr
    refine hK hpn ?_
    intro id ob hid
    by_cases hj:∃ j,j<np∧m j=id
    · obtain⟨j,hj,rfl⟩:=hj
      cases ho:hp' j with
      |none=>exact absurd ho (hw.2.1 j hj)
      |some o=>
        have h3:=h1 j o ho
        rw[h3] at hid
        cases hid
        have b0:=hobj j o ho
        have e0:∀ j,j<np→backM m np (n0+1048576*k) j=m j:=fun j hj=>by simp[backM,hj]
        rw[e0 j hj] at b0
        rw[b0]
        exact congrArg some (oren_congr (fun i hi=>e0 i hi) (hw.1 j o ho).2)
    · exact hold id ob hid fun j hj' e'=>hj ⟨j,by cases ho:hp' j with|none=>exact absurd ho hj'|some o=>exact(hw.1 j o ho).1,e'⟩
theorem HC.intro {f : FuncId} {fn : Func} {c : Code} {vs : List AV} {hp : Nat → Option AObj} {np : Nat} {r : AV} (hw : WF hp np) (hr : r.clo = true) (hf : P.funcs[f]? = some fn) (hb : fn.body = some c) (hfn : isFn P f = true) (hn : vs.length ≤ fn.ntmps)
    (h:∀ (E:En) (Q:AEx→St→Prop),E.nt=fn.ntmps→E.np=np→(∀ σ,resA P fn.results.toList σ=some r→(∀ id ob,hp id=some ob→σ.hp id=some ob)→Q .ret σ∧Q .norm σ)→AW P E c Q ⟨mkPar 0 vs,hp,1000000⟩):HC P f vs hp np r:=by
  refine⟨hw,hr,ACall.of_bodyR hf hfn hb hn fun E Q hE hN hQ _=>h E Q hE hN ?_⟩
  intro σ h1 h5
  refine hQ σ ⟨r,fun j=>j,_,1000000,by rw[clo_ren hr];exact h1,clo_ids hr,?_,rfl,rfl⟩
  refine⟨fun t x hx=>(by cases hx),fun id o ho=>?_,fun id id' o o' ho ho' he=>he,fun id hid=>⟨rfl,by have:=hw.2.2;show id<1000000;omega⟩⟩
  exact⟨by rw[oren_id];exact h5 id o ho,by have:=(hw.1 id o ho).1;have:=hw.2.2;show id<1000000;omega,objids_mono _ (fun i hi=>by have:=hw.2.2;show i<1000000;omega) (hw.1 id o ho).2⟩
theorem WF.put {hp:Nat→Option AObj} {np:Nat} (hw:WF hp np) (hn:np<900000) {o:AObj} (ho:o.ids (· <np+1)):WF (updo hp np (some o)) (np+1):=by
 refine⟨fun id ob h=>?_,fun id hid=>?_,hn⟩
 ·simp only[updo] at h
  split at h
  ·rename_i e;cases h;exact⟨by omega,ho⟩
  ·have:=hw.1 id ob h;exact⟨by omega,objids_mono _ (fun i hi=>by omega) this.2⟩
 ·simp only[updo]
  split
  ·simp
  ·exact hw.2.1 id (by omega)
theorem WF.lt {hp:Nat→Option AObj} {np:Nat} (hw:WF hp np) {id:Nat} {ob:AObj} (h:hp id=some ob):id<np:=(hw.1 id ob h).1
theorem WF.keep {hp:Nat→Option AObj} {np:Nat} (hw:WF hp np) {id:Nat} {ob:AObj} (h:hp id=some ob) {i:Nat} (hi:900000≤i) (o:Option AObj):updo hp i o id=some ob:=by
 have:=hw.lt h
 have:=hw.2.2
 simp only[updo]
 rw[if_neg (by omega)]
 exact h
theorem mkHp_allP {objs:List (Nat×AObj)} {p:Nat→AObj→Prop} (h:∀ q,q∈objs→p q.1 q.2):∀ id ob,mkHp objs id=some ob→p id ob:=by
 induction objs with
 |nil=>intro id ob h';cases h'
 |cons q l ih=>
  intro id ob h'
  obtain⟨t,o⟩:=q
  simp only[mkHp,updo] at h'
  split at h'
  ·rename_i e;cases h';rw[e];exact h (t,ob) (by simp)
  ·exact ih (fun q hq=>h q (List.mem_cons_of_mem _ hq)) id ob h'
theorem AW_frzCell {E : En} {fr : Nat → Option AV} {hp : Nat → Option AObj} {nx : Nat} {c : Code} {Q : AEx → St → Prop} (X j id : Nat) {sz : Nat} {l xs : List AV} (hX : hp X = some (.cells l)) (hj : l[j]? = some (.rw id)) (hid : hp id = some (.row sz xs)) (hne : X ≠ id) (hc : CloRow xs)
    (h:AW P E c Q ⟨fr,updo (updo hp id none) X (some (.cells (l.set j (.sl xs)))),nx⟩):AW P E c Q ⟨fr,hp,nx⟩:=by
  refine AW.frz (σ':=⟨fr,updo (updo hp id none) X (some (.cells (l.set j (.sl xs)))),nx⟩) (fun i=>if i=id then some (.row sz xs) else none) (fun i o h'=>?_) (fun t x' h'=>⟨x',h',.inl rfl⟩) (fun i o' h'=>?_) rfl h
  · split at h'
    · rename_i e;subst e;cases h';exact hid
    · cases h'
  · simp only[updo] at h'
    split at h'
    · rename_i e
      subst e
      cases h'
      refine⟨by simp[hne],_,hX,by simp,fun i hi=>?_⟩
      by_cases hij:j=i
      · subst hij
        have hl:j<l.length:=(List.getElem?_eq_some_iff.1 hj).1
        refine .inr ⟨?_,?_⟩
        · simp[List.getD_eq_getElem?_getD,hj,AV.snapOk,hc]
        · simp[List.getD_eq_getElem?_getD,hj,hl,(List.getElem?_eq_some_iff.1 hj).2,AV.snap]
      · refine .inl ?_
        simp[List.getD_eq_getElem?_getD,List.getElem?_set_ne hij]
    · split at h'
      · cases h'
      · rename_i e1 e2
        exact⟨if_neg e2,o',h',SnpO.refl _⟩
end Go.Am
