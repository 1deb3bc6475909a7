/- A part of the proof: an abstract machine for the walks, and what the walked functions compute. -/
import Derived.Test.YtfpcjabbcpgbjaaDoorMk
set_option linter.unusedVariables false
set_option linter.unusedSimpArgs false
namespace Go.Am
open Go
variable {P:Program} {E:En} {ρ:Nat->Ref} {V:Nat->Prop} {Z:Nat->Nat->Prop} {O:St} {a:Act} {w:World}
def uX (P:Program) (fn:Func) (g:FuncId) (k:Nat) (R0:AV->(Nat->Option AObj)->Prop) (x:Option AV) (O:St):Prop:=
 k<=O.nx/\(∀ y,x=some y->y.clo=true)/\(∀ t y,O.fr t=some y->∃ i,i<k/\y= .ptr i 0)/\(∀ id o,O.hp id=some o->id<O.nx/\o.ids (· <O.nx))/\
  ∃ R,DCall P g (gk k) O.hp O.nx k x R/\∀ hp',R hp'->∃ r' hp2,Jy P fn.results.toList ⟨O.fr,hp',k⟩=some r'/\(∀ id o,hp2 id=some o->hp' id=some o)/\R0 r' hp2
theorem ACall.of_defer {f g : FuncId} {fn : Func} {c0 c1 c : Code} {vs : List AV} {R0 : AV -> (Nat -> Option AObj) -> Prop} {i1 d7 k : Nat} {caps : Array Operand} {ty1 ty2 : TypeId} {p1 p2 : String} {af1 af2 : Array Edge} {ts : Array TypeId}
    (hf:P.funcs[f]? =some fn) (hfn:jJ P f=true)
    (hb:fn.body=some (.seq c0 (.seq c1 (.seq (.region i1 #[⟨some d7,.makeFunc (.func g) #[] caps,ty1,p1,af1,none⟩,⟨none,.defer ⟨.value (.tmp d7), #[],ts⟩,ty2,p2,af2,none⟩] false) c))))
    (hd7:d7<fn.ntmps) (hn:vs.length<=fn.ntmps) (O1:St) (hk:∀ i,i<k->∃ o,O1.hp i=some o) (hcap:caps.toList.mapM (evA O1)=some (gk k))
    (h0:∀ (E:En) (Q:AEx->St->Prop),E.nt=fn.ntmps->E.np=0->(∀ O m,Ent 0 m O O1->Q .norm O)->AW P E c0 (Gx (AW P E c1 Q) Q) ⟨JV 0 vs,jp [],0⟩)
    (h1:∀ (E:En) (Q:AEx->St->Prop),E.nt=fn.ntmps->E.np=k->(∀ O m O3,Ent k m O O3->uX P fn g k R0 none O3->Q .ret O/\Q .norm O)->(∀ x O m O3,Ent k m O O3->uX P fn g k R0 (some x) O3->Q (.pan x) O)->AW P E c Q ⟨upd O1.fr d7 (.fn (.func g) [] (gk k)),O1.hp,O1.nx⟩):ACall P f vs (jp []) 0 0 R0 (fun _ _=>False):=by
  refine⟨hfn,fun ρ V Z w args hh hnp hnx hsz hrel=>?_⟩
  have hlen:args.size<=fn.ntmps:=by omega
  have hsat:=GI (nx:=0) (np:=0) hn hh hnp hsz hrel
  have hown:∀ b,¬ Jx ρ (jp []) b:=by rintro b ⟨id,o,ho,_⟩;cases ho
  refine calls_of_wp_defers hf hb (wp_seq (g8 ?_ (qY (h0 _ (fun e O=>e= .norm/\∃ m,Ent 0 m O O1) rfl rfl (fun O m he=>⟨rfl,m,he⟩) ρ V Z _ w hsat hnx))))
  rintro e a w1 ⟨ρ1,V1,Z1,O,x,h1',h2,h3,h4⟩
  have hE0:e= .normal/\x= .norm:=by
    cases e<;>cases x<;>simp only[ExR] at h1'
    · exact⟨rfl,rfl⟩
    · exact absurd h2.1 (by simp)
    · exact absurd h2.1 (by simp)
    · exact absurd h2.1 (by simp)
  obtain⟨rfl,rfl⟩:=hE0
  show(Code.seq c1 _).wp P _ a w1
  refine wp_seq (g8 ?_ (qY (h2 ρ1 V1 Z1 a w1 h3 (h4 (by simp)))))
  clear h1' h2 h3 h4 hsat hh
  rintro e a w1 ⟨ρ1,V1,Z1,O,x,h1',⟨rfl,m,he⟩,h3,h4⟩
  cases e<;>simp only[ExR] at h1'
  have hs1:=h3.ent he
  have hdf:a.defers=[]:=h3.df.none rfl
  obtain⟨hcs,hcr⟩:=G8 hs1 hcap
  have hrun1:∀ a:Act,(execOp a.eval ⟨some d7,.makeFunc (.func g) #[] caps,ty1,p1,af1,none⟩).run P w1= .ok (.value (.func (.func g) #[] (caps.map a.eval))) w1:=fun a=>by
    show(do pure (Next.value (<- Instr.makeFunc (.func g) (#[].map a.eval) (caps.map a.eval))):Sem Next).run P w1=_
    simp[Instr.makeFunc]
  refine wp_seq (wp_region ?_)
  have e2:List.range 2=[0,1]:=rfl
  simp only[List.size_toArray,List.length_cons,List.length_nil,Nat.zero_add,Nat.reduceAdd,e2,wpOps]
  simp only[List.getElem?_toArray,List.getElem?_cons_zero,Region.wanted,if_true]
  refine .inl ?_
  unfold Oper.wp
  rw[hrun1]
  rw[Oper.upon_value]
  simp only[List.getElem?_toArray,List.getElem?_cons_succ,List.getElem?_cons_zero,Region.wanted,if_true]
  refine .inl ?_
  generalize hcv:caps.map a.eval=cv at*
  have hdget:(a.put (some d7) (.func (.func g) #[] cv)).eval (.tmp d7)= .func (.func g) #[] cv:=by
    have:d7<a.tmps.size:=by rw[h3.nt];exact hd7
    simp[Act.eval,Act.put,Array.getD_eq_getD_getElem?,this]
  have hrun2:(execOp (a.put (some d7) (.func (.func g) #[] cv)).eval ⟨none,.defer ⟨.value (.tmp d7), #[],ts⟩,ty2,p2,af2,none⟩).run P w1= .ok (.defer ⟨.fn (.func g) cv, #[]⟩) w1:=by
    show(do pure (Next.defer (<- resolve (a.put (some d7) (.func (.func g) #[] cv)).eval ⟨.value (.tmp d7), #[],ts⟩ ty2)):Sem Next).run P w1=_
    unfold resolve
    simp only[hdget]
    simp[Deferred.ofValue]
  rw[hrun2,Oper.upon_defer]
  show c.wp P _ _ w1
  have hown2:Jx ρ (jp [])=fun _=>False:=by funext b;simp[hown b]
  rw[hown2] at hs1
  have hrelf:Rel (fun i=>ρ1 (m i)) (fun i=>i<O1.nx/\V1 (m i)) Z1 w1 (.func (.func g) #[] cv) (.fn (.func g) [] (gk k)):=
    .fn _ _ _ _ _ rfl (by rw[hcs]) (fun i hi=>absurd hi (Nat.not_lt_zero _)) hcr
  have hs2:=hs1.val (d:=some d7) (w':=w1) (fun n hn=>by cases hn;exact hd7) rfl rfl rfl hrelf
  have hVk:∀ id,id<k->id<O1.nx/\V1 (m id):=fun id hid=>by obtain⟨o,ho⟩:=hk id hid;exact(hs1.hs.obj id o ho).1
  have hs3 : Sat ⟨fn.ntmps, [⟨.fn (.func g) cv, #[]⟩], w, fun _ => False, Z, k, fun i => ρ1 (m i), none, false, false⟩ (fun i => ρ1 (m i)) (fun i => i < O1.nx /\ V1 (m i)) Z1 ⟨upd O1.fr d7 (.fn (.func g) [] (gk k)), O1.hp, O1.nx⟩
      { (a.put (some d7) (.func (.func g) #[] cv)) with defers:=⟨.fn (.func g) cv, #[]⟩::(a.put (some d7) (.func (.func g) #[] cv)).defers } w1:=
    ⟨hs2.nt,⟨[],by rw[jdu,hdf];rfl,⟨by simp,by simp⟩,fun _=>rfl⟩,hs2.fr,hs2.hs,hs2.ext,hs2.ownd,hs2.z0,hs2.zn,fun id hid=>⟨hVk id hid,rfl⟩⟩
  have hbody:=h1 _ (fun e O=>match e with| .ret| .norm=>∃ m O3,Ent k m O O3/\uX P fn g k R0 none O3| .pan x=>∃ m O3,Ent k m O O3/\uX P fn g k R0 (some x) O3| .exit _=>False) rfl rfl (fun O m O3 h1 h2=>⟨⟨m,O3,h1,h2⟩,⟨m,O3,h1,h2⟩⟩) (fun x O m O3 h1 h2=>⟨m,O3,h1,h2⟩) _ _ Z1 _ w1 hs3 (fun id hid=>hid.1)
  refine g8 ?_ (qY hbody)
  rintro e a2 w2 ⟨ρ2,V2,Z2,O2,x2,k1,k2,k3,k4⟩
  have hfin : ∀ (x : Option AV) (u : FrameMode) (m3 : Nat -> Nat) (O3 : St), u ≠ .run -> Ent k m3 O2 O3 -> uX P fn g k R0 x O3 -> Od ρ2 V2 Z2 w2 u x -> Leaves P fn a2.tmps (fun e w' => ∃ ρ' V' Z' hp', HSat ρ' V' Z' w' hp' /\ Ext w w' (Jx ρ (jp [])) /\ (∀ id, id < 0 -> V' id /\ ρ' id = ρ id) /\ (∀ b o, Z b o -> Z' b o) /\ (∀ b o, Z' b o -> Z b o \/ w.heap.size <= b \/ Jx ρ (jp []) b) /\ (∀ id o b, hp' id = some o -> (ρ' id).at b -> b < w.heap.size -> Jx ρ (jp []) b) /\
      ((∃ v r,e= .returned v/\Rel ρ' V' Z' w' v r/\R0 r hp')\/∃ v x,e= .panicked [{ v,recovered:=false }]/\Rel ρ' V' Z' w' v x/\False)) a2.defers u w2:=by
    rw[hown2]
    intro x u m3 O3 hu he3 hD hmode0
    have hmode:Od (fun i=>ρ2 (m3 i)) (fun i=>i<O3.nx/\V2 (m3 i)) Z2 w2 u x:=by
      cases x with
      |none=>exact hmode0
      |some y=>
        obtain⟨v,q1,q2⟩:=hmode0
        exact⟨v,q1,jR q2 (hD.2.1 y rfl) _ _⟩
    have k3:=k3.ent he3
    clear hmode0 k4 he3
    revert hmode k3 hD
    generalize hV3:(fun i=>i<O3.nx/\V2 (m3 i))=V2
    generalize hr3:(fun i=>ρ2 (m3 i))=ρ2
    generalize O3=O2
    intro hD hmode k3
    obtain⟨g1,g2,g3,g4,R,⟨gf,gD⟩,g6⟩:=hD
    rw[k3.df.none rfl]
    refine leaves_cons (f:=g) (args:= #[]++cv) hu (Yl gf _) ?_
    have hpn:∀ id,id<k->V2 id/\ρ2 id=ρ1 (m id):=fun id hid=>k3.pn id hid
    have hs4:HSat ρ2 (fun i=>i<O2.nx/\V2 i) Z2 w2 O2.hp:=by
      refine⟨fun id o ho=>?_,k3.hs.inj,k3.hs.sep,k3.hs.lt,k3.hs.gl⟩
      obtain⟨q1,q2⟩:=k3.hs.obj id o ho
      have q3:=Gh (ρ':=ρ2) (V':=fun i=>i<O2.nx/\V2 i) (fun i=>i) (n:=O2.nx) (fun id hid hv=>⟨⟨hid,hv⟩,rfl⟩) (g4 id o ho).1 q1 (g4 id o ho).2 q2
      rw[jw] at q3
      exact⟨⟨(g4 id o ho).1,q1⟩,q3⟩
    have hmode':Od ρ2 (fun i=>i<O2.nx/\V2 i) Z2 w2 u x:=by
      cases x with
      |none=>exact hmode
      |some y=>
        obtain⟨v,q1,q2⟩:=hmode
        exact⟨v,q1,jR q2 (g2 y rfl) _ _⟩
    rw[Y1] at hcs hcr
    refine(gD ρ2 (fun i=>i<O2.nx/\V2 i) Z2 w2 (#[]++cv) u hs4 (fun id hid=>⟨Nat.lt_of_lt_of_le hid g1,(hpn id hid).1⟩) (fun id h=>h.1) (by rw[Y1];simpa using hcs) (fun i hi=>?_) hmode').mono ?_
    · rw[Y1] at hi
      rw[Gk hi]
      have q1:=hcr i hi
      rw[Gk hi] at q1
      obtain⟨q2,_⟩:=q1.ptr_inv
      simp only[Array.empty_append]
      rw[q2, <- (hpn i hi).2]
      exact .ptr i 0 ⟨Nat.lt_of_lt_of_le hi g1,(hpn i hi).1⟩
    · rintro e u' w3 ⟨⟨v0,rfl⟩,q1,ρ3,V3,Z3,hp3,q2,q3,q4,q5,q6,q7,q8⟩
      show Leaves P fn a2.tmps _ [] (settle u') w3
      rw[q1]
      obtain⟨r',hp4,p1,hsub,p2⟩:=g6 hp3 q8
      have hownb:∀ b,Jx ρ2 O2.hp b->b<w2.heap.size/\¬ b<w.heap.size:=by
        rintro b ⟨id,o,ho,hb⟩
        exact⟨(k3.hs.obj id o ho).2.lt b hb,fun hlt=>k3.ownd id o b ho hb hlt⟩
      have hext:Ext w w3 (fun _=>False):=k3.ext.trans q3 (fun b hb hlt=>(hownb b hb).2 hlt) (fun b hb=>(hownb b hb).1)
      have hs5:Sat ⟨fn.ntmps,a2.defers,w,fun _=>False,Z,0,ρ,none,false,false⟩ ρ3 V3 Z3 ⟨O2.fr,hp3,k⟩ a2 w3:=by
        refine⟨k3.nt,⟨[],rfl,⟨by simp,by simp⟩,fun _=>rfl⟩,fun t y hy=>?_,q2,hext,fun id o b ho hb hlt=>?_,fun b o hz=>q5 _ _ (k3.z0 b o hz),fun b o hz=>?_,fun id hid=>absurd hid (Nat.not_lt_zero _)⟩
        · obtain⟨i,hi,rfl⟩:=g3 t y hy
          obtain⟨p5,_⟩:=(k3.fr t _ hy).ptr_inv
          rw[p5, <- (q4 i hi).2]
          exact .ptr i 0 (q4 i hi).1
        · exact(hownb b (q7 id o b ho hb (Nat.lt_of_lt_of_le hlt k3.ext.le))).2 hlt
        · rcases q6 b o hz with p|p|p
          · exact k3.zn b o p
          · exact .inr (.inl (Nat.le_trans k3.ext.le p))
          · exact .inr (.inl (Nat.le_of_not_lt (hownb b p).2))
      obtain⟨v,hv1,hv2⟩:=J5 hs5 p1
      refine⟨v,hv1,ρ3,V3,Z3,hp4,q2.sub hsub,hext,fun id hid=>absurd hid (Nat.not_lt_zero _),fun b o hz=>hs5.z0 b o hz,fun b o hz=>?_,fun id o b ho hb hlt=>(hownb b (q7 id o b (hsub id o ho) hb (Nat.lt_of_lt_of_le hlt k3.ext.le))).2 hlt,.inl ⟨v,r',rfl,hv2,p2⟩⟩
      rcases hs5.zn b o hz with p|p|p
      · exact .inl p
      · exact .inr (.inl p)
      · exact p.elim
  cases e<;>cases x2<;>simp only[ExR] at k1
  · obtain⟨m3,O3,h3,h4⟩:=k2;exact hfin none .returning m3 O3 (by simp) h3 h4 rfl
  · exact k2.elim
  · obtain⟨m3,O3,h3,h4⟩:=k2;exact hfin none .returning m3 O3 (by simp) h3 h4 rfl
  · obtain⟨v,rfl,hv⟩:=k1
    obtain⟨m3,O3,h3,h4⟩:=k2
    exact hfin (some _) (.panicking _) m3 O3 (by simp) h3 h4 ⟨v,rfl,hv⟩
theorem jjL {Q:AEx->St->Prop} {c0 c1:Code} (h:AW P E c0 (Kq P E [.code c1] Q) O):AW P E c0 (Gx (AW P E c1 Q) Q) O:=by
 have e:Kq P E [Fm.code c1] Q=Gx (AW P E c1 Q) Q:=by simp only[Kq]
 rw[<- e]
 exact h
end Go.Am
