/- A part of the proof: an abstract machine for the walks, and what the walked functions compute. -/
import Derived.Recover
import Derived.Test.YtfpcjabbcpgbjaaDoorMe
set_option linter.unusedVariables false
set_option linter.unusedSimpArgs false
namespace Go.Am
variable {P:Program} {E:En} {ρ ρ':Nat->Ref} {V V':Nat->Prop} {Z:Nat->Nat->Prop} {O:St} {a:Act} {w:World}
theorem G9 (m : Nat -> Nat) {n : Nat} {l : List AV} {f : Nat -> Value} (hp : AV.idsL (· < n) l) (ih : ∀ y, y ∈ l -> ∀ v, y.ids (· < n) -> Rel ρ V Z w v y -> Rel ρ' V' Z w v (y.ren m))
    (h:∀ i,i<l.length->Rel ρ V Z w (f i) (l.getD i default)):∀ i,i<(AV.renL m l).length->Rel ρ' V' Z w (f i) ((AV.renL m l).getD i default):=by
  intro i hi
  rw[jO] at hi
  rw[j1 m l i hi]
  have hm:l.getD i default∈l:=by
    have:l.getD i default=l[i]:=by simp[List.getD_eq_getElem?_getD,hi]
    rw[this];exact List.getElem_mem hi
  exact ih _ hm _ (Jp l i hi hp) (h i hi)
mutual
theorem yM (m:Nat->Nat) {n:Nat} (hm:∀ id,id<n->V id->V' (m id)/\ρ' (m id)=ρ id):∀ (x:AV) (v:Value),x.ids (· <n)->Rel ρ V Z w v x->Rel ρ' V' Z w v (x.ren m)
 | .ptr id o,v,hp,h=>by obtain⟨rfl,h2⟩:=h.ptr_inv;have h3:=hm id hp h2;rw[<- h3.2];exact .ptr (m id) o h3.1
 | .rptr id sz i o,v,hp,h=>by obtain⟨rfl,h2⟩:=h.rptr_inv;have h3:=hm id hp h2;rw[<- h3.2];exact .rptr (m id) sz i o h3.1
 | .rw id,v,hp,h=>by obtain⟨rfl,h2⟩:=h.rw_inv;have h3:=hm id hp h2;rw[<- h3.2];exact .rw (m id) h3.1
 | .mp id,v,hp,h=>by obtain⟨rfl,h2⟩:=h.mp_inv;have h3:=hm id hp h2;rw[<- h3.2];exact .mp (m id) h3.1
 | .fn f a b,v,hp,h=>by
  obtain⟨fs,cs,rfl,h1,h2,h3,h4⟩:=h.fn_inv
  exact .fn f fs cs _ _ (by rw[jO];exact h1) (by rw[jO];exact h2) (G9 m hp.1 (fun y hy v=>gP m hm a y hy v) h3) (G9 m hp.2 (fun y hy v=>gP m hm b y hy v) h4)
 | .iface t y,v,hp,h=>by
  obtain⟨u,rfl,h1⟩:=h.iface_inv
  exact .iface t u _ (yM m hm y u hp h1)
 | .agg l,v,hp,h=>by
  obtain⟨cs,rfl,h1,h2,h3⟩:=h.agg_inv
  refine .agg cs _ (by rw[jO];exact h1) (fun i hi=>?_) (G9 m hp (fun y hy v=>gP m hm l y hy v) h3)
  rw[jO] at hi
  rw[j1 m l i hi,Gm]
  exact h2 i hi
 | .tup l,v,hp,h=>by
  obtain⟨cs,rfl,h1,h3⟩:=h.tup_inv
  exact .tup cs _ (by rw[jO];exact h1) (G9 m hp (fun y hy v=>gP m hm l y hy v) h3)
 | .bool b,v,_,h=>jR h rfl _ _
 | .int k i,v,_,h=>jR h rfl _ _
 | .str s,v,_,h=>jR h rfl _ _
 | .nilp,v,_,h=>jR h rfl _ _
 | .eptr e o,v,_,h=>jR h rfl _ _
 | .nilsl,v,_,h=>jR h rfl _ _
 | .sl l,v,_,h=>jR h rfl _ _
 | .nilmap,v,_,h=>jR h rfl _ _
 | .nilfn,v,_,h=>jR h rfl _ _
 | .nilif,v,_,h=>jR h rfl _ _
theorem gP (m:Nat->Nat) {n:Nat} (hm:∀ id,id<n->V id->V' (m id)/\ρ' (m id)=ρ id):∀ (l:List AV) (y:AV),y∈l->∀ (v:Value),y.ids (· <n)->Rel ρ V Z w v y->Rel ρ' V' Z w v (y.ren m)
 | [],y,hy,_,_,_=>absurd hy List.not_mem_nil
 |x::l,y,hy,v,hp,h=>by
  rcases List.mem_cons.1 hy with e|e
  ·rw[e] at hp h ⊢;exact yM m hm x v hp h
  ·exact gP m hm l y e v hp h
end
theorem Gh (m:Nat->Nat) {n id:Nat} {o:AObj} (hm:∀ id,id<n->V id->V' (m id)/\ρ' (m id)=ρ id) (hid:id<n) (hv:V id) (hp:o.ids (· <n)) (h:ObjRel ρ V Z w id o):ObjRel ρ' V' Z w (m id) (o.ren m):=by
 have hr:=(hm id hid hv).2
 cases o with
 |cells l=>
  obtain⟨h0,cs,ty,h1,h2,h3⟩:=h
  refine⟨by rw[hr];exact h0,cs,ty,by rw[hr];exact h1,by rw[jO];exact h2,fun i hi=>?_⟩
  rw[jO] at hi
  rw[j1 m l i hi,Gm]
  exact⟨(h3 i hi).1,yM m hm _ _ (Jp l i hi hp) (h3 i hi).2⟩
 |row sz l=>
  rcases h with ⟨h0,h1⟩|⟨h0,cs,ty,h1,h2,h3,h4,h5,h6⟩
  ·subst h1;exact .inl ⟨by rw[hr];exact h0,rfl⟩
  ·refine .inr ⟨by rw[hr];exact h0,cs,ty,by rw[hr];exact h1,by rw[hr,jO];exact h2,by rw[hr,jO];exact h3,by rw[hr];exact h4,fun i hi=>?_,fun i j hi hj=>?_⟩
   ·rw[jO] at hi
    rw[j1 m l i hi,Y3,jO]
    exact h5 i hi
   ·rw[jO] at hi
    have hlen:=h5 i hi
    rw[j1 m l i hi,Y3,j1 m _ j (by omega),Gm,hr]
    exact⟨(h6 i j hi hj).1,yM m hm _ _ (Jp _ j (by omega) (OD (Jp l i hi hp))) (h6 i j hi hj).2⟩
 |map es=>
  obtain⟨h0,ents,clock,h1,h2,h3⟩:=h
  refine⟨by rw[hr];exact h0,ents,clock,by rw[hr];exact h1,by rw[List.length_map];exact h2,fun i hi=>?_⟩
  rw[List.length_map] at hi
  have e:(es.map fun p=>(p.1.ren m,p.2.ren m)).getD i default=((es.getD i default).1.ren m,(es.getD i default).2.ren m):=by
   simp[List.getD_eq_getElem?_getD,hi]
  rw[e]
  have hm':es.getD i default∈es:=by
   have:es.getD i default=es[i]:=by simp[List.getD_eq_getElem?_getD,hi]
   rw[this];exact List.getElem_mem hi
  exact⟨yM m hm _ _ (hp _ hm').1 (h3 i hi).1,yM m hm _ _ (hp _ hm').2 (h3 i hi).2⟩
 |lp q l=>
  obtain⟨h0,h1,tmps,ds,h2,h3,h4⟩:=h
  refine⟨by rw[hr];exact h0,by rw[hr];exact h1,tmps,ds,by rw[hr];exact h2,h3,fun i hi=>?_⟩
  rw[jO] at hi
  rw[j1 m l i hi]
  exact yM m hm _ _ (Jp l i hi hp) (h4 i hi)
def Jx (ρ:Nat->Ref) (hp:Nat->Option AObj) (b:Nat):Prop:=∃ id o,hp id=some o/\(ρ id).at b
def ACall (P:Program) (f:FuncId) (vs:List AV) (hp:Nat->Option AObj) (nx np:Nat) (R Rp:AV->(Nat->Option AObj)->Prop):Prop:=
 jJ P f=true/\∀ (ρ:Nat->Ref) (V:Nat->Prop) (Z:Nat->Nat->Prop) (w:World) (args:Array Value),HSat ρ V Z w hp->(∀ id,id<np->V id)->(∀ id,V id->id<nx)->args.size=vs.length->
  (∀ i,i<vs.length->Rel ρ V Z w (args.getD i undef) (vs.getD i default))->
  Calls P f args w fun e w'=>∃ ρ' V' Z' hp',HSat ρ' V' Z' w' hp'/\Ext w w' (Jx ρ hp)/\(∀ id,id<np->V' id/\ρ' id=ρ id)/\(∀ b o,Z b o->Z' b o)/\
   (∀ b o,Z' b o->Z b o\/w.heap.size<=b\/Jx ρ hp b)/\(∀ id o b,hp' id=some o->(ρ' id).at b->b<w.heap.size->Jx ρ hp b)/\
   ((∃ v r,e= .returned v/\Rel ρ' V' Z' w' v r/\R r hp')\/∃ v x,e= .panicked [{ v,recovered:=false }]/\Rel ρ' V' Z' w' v x/\Rp x hp')
theorem ja2 {args:Array Value} {n t:Nat} (h:t<args.size):(args++Array.replicate n undef).getD t undef=args.getD t undef:=by
 simp only[Array.getD_eq_getD_getElem?];rw[Array.getElem?_append_left h]
theorem Gn {vs : List AV} {hp : Nat -> Option AObj} {nx np n : Nat} {args : Array Value} (hn : vs.length <= n) (hh : HSat ρ V Z w hp) (hnp : ∀ id, id < np -> V id) (hsz : args.size = vs.length)
    (hrel:∀ i,i<vs.length->Rel ρ V Z w (args.getD i undef) (vs.getD i default)):
    Sat ⟨n,[],w,Jx ρ hp,Z,np,ρ,none,true,true⟩ ρ V Z ⟨JV 0 vs,hp,nx⟩ { tmps:=args++Array.replicate (n - args.size) undef,defers:=[] } w:=by
  refine⟨?_,⟨[],rfl,⟨by simp,by simp⟩,fun _=>rfl⟩,fun t x hx=>?_,hh,⟨fun _ _ _=>rfl,Nat.le_refl _,rfl,rfl,?_⟩,fun id o b h1 h2 _=>⟨id,o,h1,h2⟩,fun _ _ h=>h,fun _ _ h=> .inl h,fun id hid=>⟨hnp id hid,rfl⟩⟩
  · simp;omega
  · replace hx:JV 0 vs t=some x:=hx
    rw[oi] at hx
    simp only[Nat.zero_le,if_true,Nat.sub_zero] at hx
    have hlt:t<vs.length:=by
      rcases Nat.lt_or_ge t vs.length with h'|h'
      · exact h'
      · rw[List.getElem?_eq_none h'] at hx;cases hx
    have h1:=hrel t hlt
    have e1:vs.getD t default=x:=by simp[List.getD_eq_getElem?_getD,hx]
    rw[e1] at h1
    show Rel ρ V Z w ((args++Array.replicate (n - args.size) undef).getD t undef) x
    rw[ja2 (by omega)]
    exact h1
  · trivial
theorem GI {vs : List AV} {hp : Nat -> Option AObj} {nx np n : Nat} {args : Array Value} (hn : vs.length <= n) (hh : HSat ρ V Z w hp) (hnp : ∀ id, id < np -> V id) (hsz : args.size = vs.length)
    (hrel:∀ i,i<vs.length->Rel ρ V Z w (args.getD i undef) (vs.getD i default)):
    Sat ⟨n,[],w,Jx ρ hp,Z,np,ρ,none,false,false⟩ ρ V Z ⟨JV 0 vs,hp,nx⟩ { tmps:=args++Array.replicate (n - args.size) undef,defers:=[] } w:=by
  have h:=Gn (nx:=nx) hn hh hnp hsz hrel
  exact⟨h.nt,⟨[],rfl,⟨by simp,by simp⟩,fun _=>rfl⟩,h.fr,h.hs,h.ext,h.ownd,h.z0,h.zn,h.pn⟩
theorem DfOk.none {E:En} {w:World} {a:Act} (h:DfOk E w a) (hE:E.mks=false):a.defers=E.D:=by
 obtain⟨M,h1,_,h2⟩:=h
 rw[h2 hE,List.nil_append] at h1
 exact h1
theorem ACall.of_bodyM {f : FuncId} {fn : Func} {c : Code} {vs : List AV} {hp : Nat -> Option AObj} {nx np : Nat} {R Rp : AV -> (Nat -> Option AObj) -> Prop} (hf : P.funcs[f]? = some fn) (hfn : jJ P f = true) (hb : fn.body = some c) (hn : vs.length <= fn.ntmps)
    (h:∀ (E:En) (Q:AEx->St->Prop),E.nt=fn.ntmps->E.np=np->(E.rd=none/\E.mks=true/\E.ex=true)->(∀ O,(∃ r,Jy P fn.results.toList O=some r/\R r O.hp)->Q .ret O/\Q .norm O)->(∀ x O,Rp x O.hp->Q (.pan x) O)->AW P E c Q ⟨JV 0 vs,hp,nx⟩):ACall P f vs hp nx np R Rp:=by
  refine⟨hfn,fun ρ V Z w args hh hnp hnx hsz hrel=>?_⟩
  have hsat:=Gn (nx:=nx) hn hh hnp hsz hrel
  have hbody:=h _ (fun e O=>match e with| .ret| .norm=>∃ r,Jy P fn.results.toList O=some r/\R r O.hp| .pan x=>Rp x O.hp| .exit _=>False) rfl rfl ⟨rfl,rfl,rfl⟩ (fun O hO=>⟨hO,hO⟩) (fun x O hO=>hO) ρ V Z _ w hsat hnx
  refine Ye hf hb rfl rfl hbody ?_ ?_ (fun j O h=>h)
  · rintro ρ' V' Z' O a w' h3 hq _
    obtain⟨r,hr,hR⟩:∃ r,Jy P fn.results.toList O=some r/\R r O.hp:=hq.elim (fun h=>h) (fun h=>h)
    obtain⟨v,hv1,hv2⟩:=J5 h3 hr
    exact⟨v,hv1,ρ',V',Z',O.hp,h3.hs,h3.ext,h3.pn,h3.z0,h3.zn,h3.ownd,.inl ⟨v,r,rfl,hv2,hR⟩⟩
  · rintro ρ' V' Z' O a w' v x h3 hv h2
    exact⟨ρ',V',Z',O.hp,h3.hs,h3.ext,h3.pn,h3.z0,h3.zn,h3.ownd,.inr ⟨v,_,rfl,hv,h2⟩⟩
theorem ACall.of_body {f : FuncId} {fn : Func} {c : Code} {vs : List AV} {hp : Nat -> Option AObj} {nx np : Nat} {R Rp : AV -> (Nat -> Option AObj) -> Prop} (hf : P.funcs[f]? = some fn) (hfn : jJ P f = true) (hb : fn.body = some c) (hn : vs.length <= fn.ntmps)
    (h:∀ (E:En) (Q:AEx->St->Prop),E.nt=fn.ntmps->E.np=np->(∀ O,(∃ r,Jy P fn.results.toList O=some r/\R r O.hp)->Q .ret O/\Q .norm O)->(∀ x O,Rp x O.hp->Q (.pan x) O)->AW P E c Q ⟨JV 0 vs,hp,nx⟩):ACall P f vs hp nx np R Rp:=
  ACall.of_bodyM hf hfn hb hn fun E Q h1 h2 _=>h E Q h1 h2
theorem CallB.of_P {g:FuncId} {us:List AV} {k:Nat} {d:Option Nat} {K:St->Prop} {Kp:AV->St->Prop} (hc:jA P g us O d K):CallB P g us O k d K Kp:=by
 obtain⟨hok,r,hR,hfl,hk⟩:=hc
 refine⟨hR.1,fun E ρ V Z a w args h hV hd hsz hargs=>(OS h hd hok hR hfl hsz hargs).mono ?_⟩
 rintro e w' ⟨v,Z',rfl,hS⟩
 exact⟨ρ,V,Z',fun id hid=> .inl hid,fun _ h=>h,.inl ⟨v,_,rfl,St.put_nx _ _ _,hk,hS⟩⟩
instance {g:FuncId} {vs:List AV} {k:Nat} {d:Option Nat} {K:St->Prop} {Kp:AV->St->Prop} :Cm (CallB P g vs O k d K Kp) P g vs O d K:=⟨CallB.of_P⟩
def jn (m:Nat->Nat) (np base:Nat) (j:Nat):Nat:=if j<np then m j else base+(j - np)
structure Back (O O':St) (m:Nat->Nat) (hp:Nat->Option AObj) (np base:Nat) (d:Option Nat) (r:Option AV) (hp':Nat->Option AObj):Prop where
 nx:O'.nx=O.nx
 fr:O'.fr=(match r with|some r=>(O.put d (r.ren (jn m np base))).fr|none=>O.fr)
 obj:∀ j o,hp' j=some o->O'.hp (jn m np base j)=some (o.ren (jn m np base))
 old:∀ id o,O.hp id=some o->(∀ j,hp j≠none->m j≠id)->O'.hp id=some o
def ACallG (Run:Array Value->World->(Ending->World->Prop)->Prop) (vs:List AV) (hp:Nat->Option AObj) (nx np:Nat) (R Rp:AV->(Nat->Option AObj)->Prop):Prop:=
 ∀ (ρ:Nat->Ref) (V:Nat->Prop) (Z:Nat->Nat->Prop) (w:World) (args:Array Value),HSat ρ V Z w hp->(∀ id,id<np->V id)->(∀ id,V id->id<nx)->args.size=vs.length->
  (∀ i,i<vs.length->Rel ρ V Z w (args.getD i undef) (vs.getD i default))->
  Run args w fun e w'=>∃ ρ' V' Z' hp',HSat ρ' V' Z' w' hp'/\Ext w w' (Jx ρ hp)/\(∀ id,id<np->V' id/\ρ' id=ρ id)/\(∀ b o,Z b o->Z' b o)/\
   (∀ b o,Z' b o->Z b o\/w.heap.size<=b\/Jx ρ hp b)/\(∀ id o b,hp' id=some o->(ρ' id).at b->b<w.heap.size->Jx ρ hp b)/\
   ((∃ v r,e= .returned v/\Rel ρ' V' Z' w' v r/\R r hp')\/∃ v x,e= .panicked [{ v,recovered:=false }]/\Rel ρ' V' Z' w' v x/\Rp x hp')
def jjF (Run:Array Value->World->(Ending->World->Prop)->Prop) (vs:List AV) (O:St) (k:Nat) (dst:Option Nat) (K:St->Prop) (Kp:AV->St->Prop):Prop:=
  ∀ (E:En) ρ V Z a w (args:Array Value),Sat E ρ V Z O a w->(∀ id,V id->¬ (O.nx+1048576*k<=id/\id<O.nx+1048576*k+1048576))->(∀ n,dst=some n->n<E.nt)->args.size=vs.length->
    (∀ i,i<vs.length->Rel ρ V Z w (args.getD i undef) (vs.getD i default))->
    Run args w fun e w'=>∃ ρ' V' Z',(∀ id,V' id->V id\/(O.nx+1048576*k<=id/\id<O.nx+1048576*k+1048576))/\(∀ id,V id->V' id)/\
      ((∃ v O',e= .returned v/\O'.nx=O.nx/\K O'/\Sat E ρ' V' Z' O' (a.put dst v) w')\/
       (∃ v x O',e= .panicked [{ v,recovered:=false }]/\O'.nx=O.nx/\Kp x O'/\Rel ρ' V' Z' w' v x/\Sat E ρ' V' Z' O' a w'))
def YCall (P:Program) (l:Nat) (vs:List AV) (hp:Nat->Option AObj) (nx np:Nat) (R Rp:AV->(Nat->Option AObj)->Prop):Prop:=ACallG (YRuns P l) vs hp nx np R Rp
theorem QN {Run : Array Value -> World -> (Ending -> World -> Prop) -> Prop} (hmono : ∀ {args w} {R R' : Ending -> World -> Prop}, Run args w R -> (∀ e w', R e w' -> R' e w') -> Run args w R') {vs : List AV} {hp : Nat -> Option AObj} {nx np : Nat} {R Rp : AV -> (Nat -> Option AObj) -> Prop} (hA : ACallG Run vs hp nx np R Rp) (m : Nat -> Nat) {us : List AV} {k : Nat} {d : Option Nat} {K : St -> Prop} {Kp : AV -> St -> Prop}
    (hus:us=AV.renL m vs) (hids:AV.idsL (· <nx) vs) (h1:∀ id o,hp id=some o->O.hp (m id)=some (o.ren m)/\id<nx/\o.ids (· <nx)) (h2:∀ id id' o o',hp id=some o->hp id'=some o'->m id=m id'->id=id')
    (h3:∀ id,id<np->id<nx/\hp id≠none)
    (hR:∀ r hp',R r hp'->r.ids (· <np+1048576)/\∀ id o,hp' id=some o->id<np+1048576/\o.ids (· <np+1048576))
    (hRp:∀ r hp',Rp r hp'->r.ids (· <np+1048576)/\∀ id o,hp' id=some o->id<np+1048576/\o.ids (· <np+1048576))
    (hK:∀ r hp' O',R r hp'->Back O O' m hp np (O.nx+1048576*k) d (some r) hp'->K O')
    (hKp:∀ x hp' O',Rp x hp'->Back O O' m hp np (O.nx+1048576*k) d none hp'->Kp (x.ren (jn m np (O.nx+1048576*k))) O'):jjF Run us O k d K Kp:=by
  subst hus
  intro E ρ V Z a w args hs hV hd hsz hrel
  rw[jO] at hsz hrel
  have hh:HSat (fun i=>ρ (m i)) (fun i=>i<nx/\V (m i)) Z w hp:=by
    refine⟨fun id o ho=>?_,fun id id' o o' b ho ho' hb hb'=>?_,fun id o b ho hb=>?_,hs.hs.lt,hs.hs.gl⟩
    · obtain⟨g1,g2,g3⟩:=h1 id o ho
      obtain⟨g4,g5⟩:=hs.hs.obj _ _ g1
      exact⟨⟨g2,g4⟩,uz m g3 g5⟩
    · exact h2 id id' o o' ho ho' (hs.hs.inj _ _ _ _ b (h1 id o ho).1 (h1 id' o' ho').1 hb hb')
    · exact hs.hs.sep _ _ b (h1 id o ho).1 hb
  have hpV:∀ id,id<np->V (m id):=by
    intro id hid
    obtain⟨g1,g2⟩:=h3 id hid
    cases ho:hp id with
    |none=>exact absurd ho g2
    |some o=>exact(hs.hs.obj _ _ (h1 id o ho).1).1
  refine hmono (hA _ _ Z w args hh (fun id hid=>⟨(h3 id hid).1,hpV id hid⟩) (fun id hid=>hid.1) hsz ?_) ?_
  · intro i hi
    have:=hrel i hi
    rw[j1 m vs i hi] at this
    exact JW m _ _ (Jp vs i hi hids) this
  rintro e w' ⟨ρ',V',Z',hp',k1,k2,k3,k4,k5,k6,k7⟩
  generalize hbase:O.nx+1048576*k=base at*
  have hown:∀ b,Jx (fun i=>ρ (m i)) hp b->b<E.w0.heap.size->E.own b:=by
    rintro b ⟨id,o,g1,g2⟩ hb
    exact hs.ownd _ _ b (h1 id o g1).1 g2 hb
  have hownZ:∀ b,Jx (fun i=>ρ (m i)) hp b->∀ off,¬ Z b off:=by
    rintro b ⟨id,o,g1,g2⟩
    exact hs.hs.sep _ _ b (h1 id o g1).1 g2
  have hkeep:∀ b,b<w.heap.size->¬ Jx (fun i=>ρ (m i)) hp b->w'.heap[b]? =w.heap[b]? :=k2.old
  have hdfw:∀ a2:Act,a2.defers=a.defers->DfOk E w' a2:=by
    intro a2 ha2
    obtain⟨M,m1,⟨m2,m3⟩,m4⟩:=hs.df
    refine⟨M,by rw[ha2];exact m1,⟨m2,fun dd hdd=>?_⟩,m4⟩
    obtain⟨b,rfl,hb,hbw⟩:=m3 dd hdd
    refine⟨b,rfl,?_,hbw⟩
    have hlt:b<w.heap.size:=by
      rcases Nat.lt_or_ge b w.heap.size with h1|h1
      · exact h1
      · rw[Array.getElem?_eq_none h1] at hb;cases hb
    rw[hkeep b hlt]
    · exact hb
    · rintro⟨id,o,g1,g2⟩
      exact(hh.obj id o g1).2.kind g2 _ hb
  have hcell:∀ b o,Z b o->w'.cell? ⟨b,o,none⟩=w.cell? ⟨b,o,none⟩:=fun b o hz=>cell?_of_heap (hkeep b (hs.hs.lt b o hz) (fun hb=>hownZ b hb o hz))
  let mm:=jn m np base
  let ρn:Nat->Ref:=fun id=>if base<=id/\id<base+1048576 then ρ' (id - base+np) else ρ id
  let Vn:Nat->Prop:=fun id=>V id\/(base<=id/\id<base+1048576/\V' (id - base+np))
  have hρV:∀ id,V id->ρn id=ρ id:=fun id hid=>if_neg (hV id hid)
  have hm:∀ j,j<np+1048576->V' j->Vn (mm j)/\ρn (mm j)=ρ' j:=by
    intro j hj hv
    by_cases hlt:j<np
    · have e:mm j=m j:=if_pos hlt
      rw[e]
      exact⟨.inl (hpV j hlt),(hρV _ (hpV j hlt)).trans (k3 j hlt).2.symm⟩
    · have e:mm j=base+(j - np):=if_neg hlt
      rw[e]
      have e2:base+(j - np) - base+np=j:=by omega
      refine⟨.inr ⟨by omega,by omega,by rw[e2];exact hv⟩,?_⟩
      show(if base<=base+(j - np)/\base+(j - np)<base+1048576 then ρ' (base+(j - np) - base+np) else ρ _)=_
      rw[if_pos ⟨by omega,by omega⟩,e2]
  have hinj:∀ j j',j<np+1048576->j'<np+1048576->mm j=mm j'->j=j':=by
    intro j j' hj hj' he
    by_cases hlt:j<np<;>by_cases hlt':j'<np
    · rw[show mm j=m j from if_pos hlt,show mm j'=m j' from if_pos hlt'] at he
      obtain⟨g1,g2⟩:=h3 j hlt
      obtain⟨g3,g4⟩:=h3 j' hlt'
      cases ho:hp j with
      |none=>exact absurd ho g2
      |some o=>
        cases ho':hp j' with
        |none=>exact absurd ho' g4
        |some o'=>exact h2 j j' o o' ho ho' he
    · rw[show mm j=m j from if_pos hlt,show mm j'=base+(j' - np) from if_neg hlt'] at he
      exact absurd ⟨by omega,by omega⟩ (hV _ (hpV j hlt))
    · rw[show mm j=base+(j - np) from if_neg hlt,show mm j'=m j' from if_pos hlt'] at he
      exact absurd ⟨by omega,by omega⟩ (hV _ (hpV j' hlt'))
    · rw[show mm j=base+(j - np) from if_neg hlt,show mm j'=base+(j' - np) from if_neg hlt'] at he
      omega
  classical
  let hpn:Nat->Option AObj:=fun id=>if h:∃ j o,hp' j=some o/\mm j=id then some (h.choose_spec.choose.ren mm) else if ∃ j,hp j≠none/\m j=id then none else if base<=id/\id<base+1048576 then none else O.hp id
  have key : (∀ id o, hp' id = some o -> id < np + 1048576 /\ o.ids (· < np + 1048576)) -> ∀ (a2 : Act) (fr2 : Nat -> Option AV), a2.tmps.size = E.nt -> DfOk E w' a2 -> (∀ t x, fr2 t = some x -> Rel ρn Vn Z' w' (a2.tmps.getD t undef) x) ->
      Sat E ρn Vn Z' ⟨fr2,hpn,O.nx⟩ a2 w'/\(∀ j o,hp' j=some o->hpn (mm j)=some (o.ren mm))/\(∀ id o,O.hp id=some o->(∀ j,hp j≠none->m j≠id)->hpn id=some o):=by
    intro hB a2 fr2 hnt2 hdf2 hfr2
    have hn1:∀ j o,hp' j=some o->hpn (mm j)=some (o.ren mm):=by
      intro j o ho
      have hex:∃ j' o',hp' j'=some o'/\mm j'=mm j:=⟨j,o,ho,rfl⟩
      have g:hpn (mm j)=some (hex.choose_spec.choose.ren mm):=dif_pos hex
      have g2:=hex.choose_spec.choose_spec
      have g3:=hinj _ _ (hB _ _ g2.1).1 (hB _ _ ho).1 g2.2
      have g4:=g2.1.symm.trans ((congrArg hp' g3).trans ho)
      rw[g]
      exact congrArg some (congrArg (AObj.ren mm) (Option.some.inj g4))
    have hn2:∀ id o,hpn id=some o->(∃ j o',hp' j=some o'/\mm j=id/\o=o'.ren mm)\/(O.hp id=some o/\∀ j,hp j≠none->m j≠id):=by
      intro id o ho
      by_cases hex:∃ j o',hp' j=some o'/\mm j=id
      · obtain⟨j,o',g1,g2⟩:=hex
        have:=hn1 j o' g1
        rw[g2,ho] at this
        exact .inl ⟨j,o',g1,g2,Option.some.inj this⟩
      · have g:hpn id=if ∃ j,hp j≠none/\m j=id then none else if base<=id/\id<base+1048576 then none else O.hp id:=dif_neg hex
        rw[g] at ho
        by_cases hfp:∃ j,hp j≠none/\m j=id
        · rw[if_pos hfp] at ho;cases ho
        · rw[if_neg hfp] at ho
          by_cases hrg:base<=id/\id<base+1048576
          · rw[if_pos hrg] at ho;cases ho
          · rw[if_neg hrg] at ho
            exact .inr ⟨ho,fun j g1 g2=>hfp ⟨j,g1,g2⟩⟩
    have hoV:∀ id o,O.hp id=some o->V id:=fun id o ho=>(hs.hs.obj id o ho).1
    have hob:∀ id o b,O.hp id=some o->(∀ j,hp j≠none->m j≠id)->(ρ id).at b->b<w.heap.size/\¬ Jx (fun i=>ρ (m i)) hp b:=by
      intro id o b ho hne hb
      refine⟨(hs.hs.obj id o ho).2.lt b hb,?_⟩
      rintro⟨j,o',g1,g2⟩
      exact hne j (by rw[g1];simp) (hs.hs.inj _ _ _ _ b (h1 j o' g1).1 ho g2 hb)
    have hn3:∀ id o,O.hp id=some o->(∀ j,hp j≠none->m j≠id)->hpn id=some o:=by
      intro id o ho hne
      have hex:¬ ∃ j o',hp' j=some o'/\mm j=id:=by
        rintro⟨j,o',g1,g2⟩
        by_cases hlt:j<np
        · rw[show mm j=m j from if_pos hlt] at g2
          exact hne j (h3 j hlt).2 g2
        · rw[show mm j=base+(j - np) from if_neg hlt] at g2
          have:=(hB _ _ g1).1
          exact hV id (hoV id o ho) (by omega)
      have g:hpn id=if ∃ j,hp j≠none/\m j=id then none else if base<=id/\id<base+1048576 then none else O.hp id:=dif_neg hex
      rw[g,if_neg (by rintro⟨j,g1,g2⟩;exact hne j g1 g2),if_neg (hV id (hoV id o ho))]
      exact ho
    refine⟨⟨hnt2,hdf2,hfr2,⟨?_,?_,?_,k1.lt,k1.gl⟩,⟨?_,Nat.le_trans hs.ext.le k2.le,k2.os.trans hs.ext.os,k2.out.trans hs.ext.out,?_⟩,?_,fun b o hz=>k4 _ _ (hs.z0 b o hz),?_,?_⟩,hn1,hn3⟩
    · intro id o ho
      rcases hn2 id o ho with ⟨j,o',g1,rfl,rfl⟩|⟨g1,g2⟩
      · have g3:=k1.obj j o' g1
        have g4:=hB j o' g1
        exact⟨(hm j g4.1 g3.1).1,Gh mm hm g4.1 g3.1 g4.2 g3.2⟩
      · have g3:=hs.hs.obj id o g1
        exact⟨.inl g3.1,g3.2.mono g3.1 hρV (fun _ h=> .inl h) k4 hcell (fun b hb=>hkeep b (hob id o b g1 g2 hb).1 (hob id o b g1 g2 hb).2)⟩
    · intro id id' o o' b ho ho' hb hb'
      have hmix:∀ j o1 id2 o2,hp' j=some o1->O.hp id2=some o2->(∀ j,hp j≠none->m j≠id2)->(ρ' j).at b->(ρ id2).at b->False:=by
        intro j o1 id2 o2 g1 g2 g3 g4 g5
        have g6:=hob id2 o2 b g2 g3 g5
        exact g6.2 (k6 j o1 b g1 g4 g6.1)
      rcases hn2 id o ho with ⟨j,o1,g1,rfl,rfl⟩|⟨g1,g2⟩<;>rcases hn2 id' o' ho' with ⟨j',o1',g1',rfl,rfl⟩|⟨g1',g2'⟩
      · rw[(hm j (hB j o1 g1).1 (k1.obj j o1 g1).1).2] at hb
        rw[(hm j' (hB j' o1' g1').1 (k1.obj j' o1' g1').1).2] at hb'
        rw[k1.inj j j' o1 o1' b g1 g1' hb hb']
      · rw[(hm j (hB j o1 g1).1 (k1.obj j o1 g1).1).2] at hb
        rw[hρV _ (hoV _ _ g1')] at hb'
        exact(hmix j o1 id' o' g1 g1' g2' hb hb').elim
      · rw[(hm j' (hB j' o1' g1').1 (k1.obj j' o1' g1').1).2] at hb'
        rw[hρV _ (hoV _ _ g1)] at hb
        exact(hmix j' o1' id o g1' g1 g2 hb' hb).elim
      · rw[hρV _ (hoV _ _ g1)] at hb
        rw[hρV _ (hoV _ _ g1')] at hb'
        exact hs.hs.inj id id' o o' b g1 g1' hb hb'
    · intro id o b ho hb off hz
      rcases hn2 id o ho with ⟨j,o1,g1,rfl,rfl⟩|⟨g1,g2⟩
      · rw[(hm j (hB j o1 g1).1 (k1.obj j o1 g1).1).2] at hb
        exact k1.sep j o1 b g1 hb off hz
      · rw[hρV _ (hoV _ _ g1)] at hb
        have g3:=hob id o b g1 g2 hb
        rcases k5 b off hz with g|g|g
        · exact hs.hs.sep id o b g1 hb off g
        · omega
        · exact g3.2 g
    · intro b hb hno
      have hb':b<w.heap.size:=Nat.lt_of_lt_of_le hb hs.ext.le
      rw[hkeep b hb' (fun h=>hno (hown b h hb))]
      exact hs.ext.old b hb hno
    · trivial
    · intro id o b ho hb hlt
      rcases hn2 id o ho with ⟨j,o1,g1,rfl,rfl⟩|⟨g1,g2⟩
      · rw[(hm j (hB j o1 g1).1 (k1.obj j o1 g1).1).2] at hb
        exact hown b (k6 j o1 b g1 hb (Nat.lt_of_lt_of_le hlt hs.ext.le)) hlt
      · rw[hρV _ (hoV _ _ g1)] at hb
        exact hs.ownd id o b g1 hb hlt
    · intro b o hz
      rcases k5 b o hz with g|g|g
      · exact hs.zn b o g
      · exact .inr (.inl (Nat.le_trans hs.ext.le g))
      · rcases Nat.lt_or_ge b E.w0.heap.size with g1|g1
        · exact .inr (.inr (hown b g g1))
        · exact .inr (.inl g1)
    · intro id hid
      have g:=hs.pn id hid
      exact⟨.inl g.1,(hρV _ g.1).trans g.2⟩
  have hfrm:∀ t x,O.fr t=some x->Rel ρn Vn Z' w' (a.tmps.getD t undef) x:=fun t x hx=>(hs.fr t x hx).mono hρV (fun _ h=> .inl h) k4 hcell
  refine⟨ρn,Vn,Z',fun id hid=>hid.imp (fun h=>h) (fun h=>⟨h.1,h.2.1⟩),fun id hid=> .inl hid,?_⟩
  rcases k7 with ⟨v,r,rfl,hr,hRr⟩|⟨v,x,rfl,hr,hRr⟩
  · have hb:=hR r hp' hRr
    have hrel2:=yM mm hm r v hb.1 hr
    obtain⟨g1,g2,g3⟩:=key hb.2 (a.put d v) (O.put d (r.ren mm)).fr (by rw[jfl];exact hs.nt) (hdfw _ (jdu _ _ _)) (jdw (O:=O) hfrm hrel2 (fun n hn=>by rw[hs.nt];exact hd n hn))
    exact .inl ⟨v,⟨(O.put d (r.ren mm)).fr,hpn,O.nx⟩,rfl,rfl,hK r hp' ⟨(O.put d (r.ren mm)).fr,hpn,O.nx⟩ hRr ⟨rfl,rfl,g2,g3⟩,g1⟩
  · have hb:=hRp x hp' hRr
    have hrel2:=yM mm hm x v hb.1 hr
    obtain⟨g1,g2,g3⟩:=key hb.2 a O.fr hs.nt (hdfw _ rfl) hfrm
    exact .inr ⟨v,x.ren mm,⟨O.fr,hpn,O.nx⟩,rfl,rfl,hKp x hp' ⟨O.fr,hpn,O.nx⟩ hRr ⟨rfl,rfl,g2,g3⟩,hrel2,g1⟩
theorem CallB.of_A {f : FuncId} {vs : List AV} {hp : Nat -> Option AObj} {nx np : Nat} {R Rp : AV -> (Nat -> Option AObj) -> Prop} (hA : ACall P f vs hp nx np R Rp) (m : Nat -> Nat) {us : List AV} {k : Nat} {d : Option Nat} {K : St -> Prop} {Kp : AV -> St -> Prop}
    (hus:us=AV.renL m vs) (hids:AV.idsL (· <nx) vs) (h1:∀ id o,hp id=some o->O.hp (m id)=some (o.ren m)/\id<nx/\o.ids (· <nx)) (h2:∀ id id' o o',hp id=some o->hp id'=some o'->m id=m id'->id=id')
    (h3:∀ id,id<np->id<nx/\hp id≠none)
    (hR:∀ r hp',R r hp'->r.ids (· <np+1048576)/\∀ id o,hp' id=some o->id<np+1048576/\o.ids (· <np+1048576))
    (hRp:∀ r hp',Rp r hp'->r.ids (· <np+1048576)/\∀ id o,hp' id=some o->id<np+1048576/\o.ids (· <np+1048576))
    (hK:∀ r hp' O',R r hp'->Back O O' m hp np (O.nx+1048576*k) d (some r) hp'->K O')
    (hKp:∀ x hp' O',Rp x hp'->Back O O' m hp np (O.nx+1048576*k) d none hp'->Kp (x.ren (jn m np (O.nx+1048576*k))) O'):CallB P f us O k d K Kp:=
  ⟨hA.1,QN (Run:=Calls P f) (fun h hr=>h.mono hr) hA.2 m hus hids h1 h2 h3 hR hRp hK hKp⟩
theorem CallY.of_Y {f : Nat} {vs : List AV} {hp : Nat -> Option AObj} {nx np : Nat} {R Rp : AV -> (Nat -> Option AObj) -> Prop} (hA : YCall P f vs hp nx np R Rp) (m : Nat -> Nat) {us : List AV} {k : Nat} {d : Option Nat} {K : St -> Prop} {Kp : AV -> St -> Prop}
    (hus:us=AV.renL m vs) (hids:AV.idsL (· <nx) vs) (h1:∀ id o,hp id=some o->O.hp (m id)=some (o.ren m)/\id<nx/\o.ids (· <nx)) (h2:∀ id id' o o',hp id=some o->hp id'=some o'->m id=m id'->id=id')
    (h3:∀ id,id<np->id<nx/\hp id≠none)
    (hR:∀ r hp',R r hp'->r.ids (· <np+1048576)/\∀ id o,hp' id=some o->id<np+1048576/\o.ids (· <np+1048576))
    (hRp:∀ r hp',Rp r hp'->r.ids (· <np+1048576)/\∀ id o,hp' id=some o->id<np+1048576/\o.ids (· <np+1048576))
    (hK:∀ r hp' O',R r hp'->Back O O' m hp np (O.nx+1048576*k) d (some r) hp'->K O')
    (hKp:∀ x hp' O',Rp x hp'->Back O O' m hp np (O.nx+1048576*k) d none hp'->Kp (x.ren (jn m np (O.nx+1048576*k))) O'):CallY P f us O k d K Kp:=
  QN (Run:=YRuns P f) (fun h hr=>h.mono hr) hA m hus hids h1 h2 h3 hR hRp hK hKp
end Go.Am

namespace Go.Am
variable {P:Program} {E:En} {ρ:Nat->Ref} {V:Nat->Prop} {Z:Nat->Nat->Prop} {O:St} {a:Act} {w:World}
def Snp (F:Nat->Option AObj) (x x':AV):Prop:=x'=x\/(x.snapOk F/\x'=x.snap F)
def SnpO (F:Nat->Option AObj):AObj->AObj->Prop
 | .cells l,.cells l'=>l'.length=l.length/\∀ i,i<l.length->Snp F (l.getD i default) (l'.getD i default)
 | .row sz l,.row sz' l'=>sz'=sz/\l'.length=l.length/\∀ i,i<l.length->Snp F (l.getD i default) (l'.getD i default)
 | .map es,.map es'=>es'=es
 | .lp q l,.lp q' l'=>q'=q/\l'.length=l.length/\∀ i,i<l.length->Snp F (l.getD i default) (l'.getD i default)
 |_,_=>False
theorem SnpO.refl {F:Nat->Option AObj} (o:AObj):SnpO F o o:=by
 cases o with
 |cells l=>exact⟨rfl,fun i _=> .inl rfl⟩
 |row sz l=>exact⟨rfl,rfl,fun i _=> .inl rfl⟩
 |map es=>rfl
 |lp q l=>exact⟨rfl,rfl,fun i _=> .inl rfl⟩
theorem oD {F:Nat->Option AObj} (x:AV):(x.snap F).cells.length=x.cells.length/\∀ j,j<x.cells.length->(x.snap F).cells.getD j default=(x.cells.getD j default).snap F:=by
 by_cases h:∃ l,x= .agg l
 ·obtain⟨l,rfl⟩:=h
  simp only[AV.snap,AV.cells]
  exact⟨Jj l,fun j hj=>JI l j hj⟩
 ·have h':∀ l,x≠ .agg l:=fun l e=>h ⟨l,e⟩
  have e1:x.cells=[x]:=by cases x<;>first|rfl|exact absurd rfl (h' _)
  have e2:(x.snap F).cells=[x.snap F]:=by
   cases x<;>first|rfl|exact absurd rfl (h' _)|(simp only[AV.snap];split<;>rfl)
  rw[e1,e2]
  refine⟨rfl,fun j hj=>?_⟩
  obtain rfl:j=0:=by simpa using hj
  rfl
theorem uN {F:Nat->Option AObj} {x:AV} (h:x.snapOk F) (ht:x.isTup=false):∀ j,j<x.cells.length->(x.cells.getD j default).snapOk F:=by
 by_cases hx:∃ l,x= .agg l
 ·obtain⟨l,rfl⟩:=hx
  exact fun j hj=>yx l j hj h
 ·have h':∀ l,x≠ .agg l:=fun l e=>hx ⟨l,e⟩
  have e1:x.cells=[x]:=by cases x<;>first|rfl|exact absurd rfl (h' _)
  rw[e1]
  intro j hj
  obtain rfl:j=0:=by simpa using hj
  exact h
theorem HSat.sub {hp F:Nat->Option AObj} (h:HSat ρ V Z w hp) (hF:∀ id o,F id=some o->hp id=some o):HSat ρ V Z w F:=
 ⟨fun id o ho=>h.obj id o (hF id o ho),fun id id' o o' b h1 h2=>h.inj id id' o o' b (hF _ _ h1) (hF _ _ h2),fun id o b h1=>h.sep id o b (hF _ _ h1),h.lt,h.gl⟩
theorem qk {F:Nat->Option AObj} (hF:HSat ρ V Z w F) {v:Value} {x x':AV} (h:Rel ρ V Z w v x) (hx:Snp F x x'):Rel ρ V (ZR ρ Z ⟨fun _=>none,F,0⟩) w v x':=by
 rcases hx with rfl|⟨h1,rfl⟩
 ·exact h.mono (fun _ _=>rfl) (fun _ h=>h) (fun _ _ h=> .inl h) (fun _ _ _=>rfl)
 ·exact gT (O:=⟨fun _=>none,F,0⟩) hF h h1
theorem jam {F:Nat->Option AObj} {x x':AV} (hx:Snp F x x'):x'.one=x.one:=by
 rcases hx with rfl|⟨_,rfl⟩
 ·rfl
 ·exact oE
theorem Xb {F:Nat->Option AObj} (hF:HSat ρ V Z w F) {id:Nat} {o o':AObj} (h:ObjRel ρ V Z w id o) (ho:SnpO F o o'):ObjRel ρ V (ZR ρ Z ⟨fun _=>none,F,0⟩) w id o':=by
 have hm:∀ {v x},Rel ρ V Z w v x->Rel ρ V (ZR ρ Z ⟨fun _=>none,F,0⟩) w v x:=fun h=>h.mono (fun _ _=>rfl) (fun _ h=>h) (fun _ _ h=> .inl h) (fun _ _ _=>rfl)
 cases o with
 |cells l=>
  cases o'<;>try exact ho.elim
  rename_i l'
  obtain⟨e1,e2⟩:=ho
  obtain⟨h0,cs,ty,h1,h2,h3⟩:=h
  exact⟨h0,cs,ty,h1,by rw[h2,e1],fun i hi=>by rw[e1] at hi;exact⟨by rw[jam (e2 i hi)];exact(h3 i hi).1,qk hF (h3 i hi).2 (e2 i hi)⟩⟩
 |row sz l=>
  cases o'<;>try exact ho.elim
  rename_i sz' l'
  obtain⟨rfl,e1,e2⟩:=ho
  rcases h with ⟨h0,h1⟩|⟨h0,cs,ty,h1,h2,h3,h4,h5,h6⟩
  ·subst h1
   exact .inl ⟨h0,List.length_eq_zero_iff.1 e1⟩
  ·have hc:∀ i,i<l.length->(l'.getD i default).cells.length=(l.getD i default).cells.length/\∀ j,j<(l.getD i default).cells.length->Snp F ((l.getD i default).cells.getD j default) ((l'.getD i default).cells.getD j default):=by
    intro i hi
    rcases e2 i hi with e|⟨g1,g2⟩
    ·rw[e];exact⟨rfl,fun j _=> .inl rfl⟩
    ·rw[g2]
     refine⟨(oD _).1,fun j hj=> .inr ⟨?_,(oD _).2 j hj⟩⟩
     by_cases ht:(l.getD i default).isTup=false
     ·exact uN g1 ht j hj
     ·exfalso
      have h7:=h5 i hi
      have:∃ t,l.getD i default= .tup t:=by
       revert ht
       cases l.getD i default<;>simp[AV.isTup]
      obtain⟨t,e⟩:=this
      rw[e] at h7 hj
      simp only[AV.cells,List.length_cons,List.length_nil] at h7 hj
      have:=(h6 i j hi (by omega)).1
      rw[e] at this
      obtain rfl:j=0:=by omega
      simp[AV.cells,AV.one] at this
   refine .inr ⟨h0,cs,ty,h1,by rw[h2,e1],by rw[e1];exact h3,h4,fun i hi=>?_,fun i j hi hj=>?_⟩
   ·rw[e1] at hi
    rw[(hc i hi).1];exact h5 i hi
   ·rw[e1] at hi
    have hj':j<(l.getD i default).cells.length:=by rw[h5 i hi];exact hj
    have:=(hc i hi).2 j hj'
    exact⟨by rw[jam this];exact(h6 i j hi hj).1,qk hF (h6 i j hi hj).2 this⟩
 |map es=>
  cases o'<;>try exact ho.elim
  rename_i es'
  obtain rfl:es'=es:=ho
  obtain⟨h0,ents,clock,h1,h2,h3⟩:=h
  exact⟨h0,ents,clock,h1,h2,fun i hi=>⟨hm (h3 i hi).1,hm (h3 i hi).2⟩⟩
 |lp q l=>
  cases o'<;>try exact ho.elim
  rename_i q' l'
  obtain⟨rfl,e1,e2⟩:=ho
  obtain⟨h0,h1,tmps,ds,h2,h3,h4⟩:=h
  exact⟨h0,h1,tmps,ds,h2,h3,fun i hi=>by rw[e1] at hi;exact qk hF (h4 i hi) (e2 i hi)⟩
theorem Sat.frz (h : Sat E ρ V Z O a w) {F : Nat -> Option AObj} (hF : ∀ id o, F id = some o -> O.hp id = some o) {O' : St}
    (hfr:∀ t x',O'.fr t=some x'->∃ x,O.fr t=some x/\Snp F x x') (hhp:∀ id o',O'.hp id=some o'->F id=none/\∃ o,O.hp id=some o/\SnpO F o o'):Sat E ρ V (ZR ρ Z ⟨fun _=>none,F,0⟩) O' a w:=by
  have hFs:=h.hs.sub hF
  refine⟨h.nt,h.df,fun t x' hx=>?_,⟨fun id o' ho=>?_,fun id id' o o' b ho ho'=>?_,fun id o' b ho hb off hz=>?_,fun b off hz=>?_,h.hs.gl.mono (fun _ _ _=>rfl) (fun _ _ hz=> .inl hz)⟩,h.ext,fun id o' b ho=>?_,fun b o hz=> .inl (h.z0 b o hz),fun b o hz=>?_,h.pn⟩
  · obtain⟨x,h1,h2⟩:=hfr t x' hx
    exact qk hFs (h.fr t x h1) h2
  · obtain⟨h1,o,h2,h3⟩:=hhp id o' ho
    have h4:=h.hs.obj id o h2
    exact⟨h4.1,Xb hFs h4.2 h3⟩
  · obtain⟨_,o1,h2,_⟩:=hhp id o ho
    obtain⟨_,o2,h3,_⟩:=hhp id' o' ho'
    exact h.hs.inj id id' o1 o2 b h2 h3
  · obtain⟨h1,o,h2,_⟩:=hhp id o' ho
    rcases hz with hz|⟨id2,sz2,l2,g1,g2⟩
    · exact h.hs.sep id o b h2 hb off hz
    · have:=h.hs.inj id id2 o _ b h2 (hF _ _ g1) hb g2
      subst this
      replace g1:F id=some (.row sz2 l2):=g1
      rw[h1] at g1;cases g1
  · rcases hz with hz|⟨id2,sz2,l2,g1,g2⟩
    · exact h.hs.lt b off hz
    · exact(h.hs.obj id2 _ (hF _ _ g1)).2.lt b g2
  · obtain⟨_,o1,h2,_⟩:=hhp id o' ho
    exact h.ownd id o1 b h2
  · rcases hz with hz|⟨id2,sz2,l2,g1,g2⟩
    · exact h.zn b o hz
    · rcases Nat.lt_or_ge b E.w0.heap.size with g3|g3
      · exact .inr (.inr (h.ownd id2 _ b (hF _ _ g1) g2 g3))
      · exact .inr (.inl g3)
theorem AW.frz {c : Code} {Q : AEx -> St -> Prop} {O' : St} (F : Nat -> Option AObj) (hF : ∀ id o, F id = some o -> O.hp id = some o)
    (hfr:∀ t x',O'.fr t=some x'->∃ x,O.fr t=some x/\Snp F x x') (hhp:∀ id o',O'.hp id=some o'->F id=none/\∃ o,O.hp id=some o/\SnpO F o o') (hnx:O'.nx=O.nx) (h:AW P E c Q O'):AW P E c Q O:=
  fun ρ V Z a w hs hV=>h _ _ _ a w (hs.frz hF hfr hhp) (fun id hid=>by rw[hnx];exact hV id hid)
theorem CallB.frz {g : FuncId} {us us' : List AV} {k : Nat} {d : Option Nat} {K : St -> Prop} {Kp : AV -> St -> Prop} {O' : St} (F : Nat -> Option AObj) (hF : ∀ id o, F id = some o -> O.hp id = some o)
    (hfr:∀ t x',O'.fr t=some x'->∃ x,O.fr t=some x/\Snp F x x') (hhp:∀ id o',O'.hp id=some o'->F id=none/\∃ o,O.hp id=some o/\SnpO F o o') (hnx:O'.nx=O.nx)
    (hl:us'.length=us.length) (hus:∀ i,i<us.length->Snp F (us.getD i default) (us'.getD i default)) (h:CallB P g us' O' k d K Kp):CallB P g us O k d K Kp:=by
  refine⟨h.1,fun E ρ V Z a w args hs hV hd hsz hrel=>?_⟩
  refine(h.2 E ρ V _ a w args (hs.frz hF hfr hhp) (by rw[hnx];exact hV) hd (by rw[hl];exact hsz) (fun i hi=>?_)).mono ?_
  · rw[hl] at hi
    exact qk (hs.hs.sub hF) (hrel i hi) (hus i hi)
  · rintro e w' ⟨ρ',V',Z',h1,h2,h3⟩
    rw[hnx] at h1
    refine⟨ρ',V',Z',h1,h2,?_⟩
    rcases h3 with ⟨v,O2,e1,e2,h4⟩|⟨v,x,O2,e1,e2,h4⟩
    · exact .inl ⟨v,O2,e1,e2.trans hnx,h4⟩
    · exact .inr ⟨v,x,O2,e1,e2.trans hnx,h4⟩
end Go.Am

namespace Go.Am
open Go
theorem Sat.cellrow {E : En} {ρ : Nat -> Ref} {V : Nat -> Prop} {Z : Nat -> Nat -> Prop} {O : St} {a : Act} {w : World} (h : Sat E ρ V Z O a w) {X id j : Nat} {l : List AV}
    (hX:O.hp X=some (.cells l)) (hj:l[j]? =some .nilsl) (hid:V id) (hr:ρ id=Jw):Sat E ρ V Z { O with hp:=jb O.hp X (some (.cells (l.set j (.rw id)))) } a w:=by
  have hback:∀ i o,jb O.hp X (some (.cells (l.set j (.rw id)))) i=some o->∃ o',O.hp i=some o':=by
    intro i o ho
    by_cases e:i=X
    · subst e;exact⟨_,hX⟩
    · simp only[jb,if_neg e] at ho;exact⟨_,ho⟩
  refine⟨h.nt,h.df,h.fr,⟨fun i o ho=>?_,fun i i' o o' b ho ho'=>?_,fun i o b ho=>?_,h.hs.lt,h.hs.gl⟩,h.ext,fun i o b ho=>?_,h.z0,h.zn,h.pn⟩
  · by_cases e:i=X
    · subst e
      simp only[jb,if_true] at ho
      cases ho
      obtain⟨hv,h0,cs,ty,h1,h2,h3⟩:=h.hs.obj _ _ hX
      refine⟨hv,h0,cs,ty,h1,by simpa using h2,fun k hk=>?_⟩
      rw[List.length_set] at hk
      obtain⟨g1,g2⟩:=h3 k hk
      by_cases e2:k=j
      · subst e2
        have e3:(l.set k (AV.rw id)).getD k default= .rw id:=by simp[List.getD_eq_getElem?_getD,hk]
        have e4:l.getD k default= .nilsl:=by simp[List.getD_eq_getElem?_getD,hj]
        rw[e3]
        rw[e4] at g2
        refine⟨rfl,?_⟩
        have:=Rel.rw (ρ:=ρ) (V:=V) (Z:=Z) (w:=w) id hid
        rw[g2.nilsl_inv]
        rw[hr] at this
        simpa [Ref.slice,Jw] using this
      · have e3:(l.set j (AV.rw id)).getD k default=l.getD k default:=by simp only[List.getD_eq_getElem?_getD];rw[List.getElem?_set_ne (fun e=>e2 e.symm)]
        rw[e3];exact⟨g1,g2⟩
    · simp only[jb,if_neg e] at ho
      exact h.hs.obj _ _ ho
  · obtain⟨_,g⟩:=hback _ _ ho
    obtain⟨_,g'⟩:=hback _ _ ho'
    exact h.hs.inj _ _ _ _ b g g'
  · obtain⟨_,g⟩:=hback _ _ ho
    exact h.hs.sep _ _ b g
  · obtain⟨_,g⟩:=hback _ _ ho
    exact h.ownd _ _ b g
theorem Qw {P : Program} {E : En} {c : Code} {Q : AEx -> St -> Prop} {O : St} (X j sz : Nat) {l : List AV} (hX : O.hp X = some (.cells l)) (hj : l[j]? = some .nilsl)
    (h:AW P E c Q { fr:=O.fr,hp:=jb (jb O.hp O.nx (some (.row sz []))) X (some (.cells (l.set j (.rw O.nx)))),nx:=O.nx+1 }):AW P E c Q O:=by
  intro ρ V Z a w hs hV
  have hnv:¬ V O.nx:=fun hv=>by have:=hV _ hv;omega
  have hXn:X≠O.nx:=fun e=>hnv (e▸(hs.hs.obj _ _ hX).1)
  have h1:=hs.newnil (d:=none) (fun n hn=>by cases hn) hnv sz
  have h2:=h1.cellrow (X:=X) (id:=O.nx) (j:=j) (l:=l) (by simp only[St.put,jb,if_neg hXn];exact hX) hj (.inr rfl) (by simp)
  refine h _ _ Z a w (h2.nx _) (fun id hid=>?_)
  rcases hid with hid|hid
  · have:=hV id hid;simp only;omega
  · simp only;omega

variable {P:Program} {E:En}
def qQ (r:List (Oper×Nat)):List (Oper×Nat):=r.filter fun p=>p.1.after.toList.all fun e=>!Region.binds .any e||!(r.any fun q=>q.2==e.on)
def qa (P:Program) (ds:List (Option Nat)):Nat->List (Oper×Nat)->St->(St->Prop)->(AV->St->Prop)->Prop
 |0,r,O,K,Kp=>r=[]/\K O
 |n+1,r,O,K,Kp=>if r=[] then K O else ∀ p,p∈qQ r->goG P true none ds p.2 p.1 O (fun O'=>qa P ds n (r.filter fun q=>q.2 !=p.2) O' K Kp) Kp
theorem U3 {ops:Array Oper} {listed:Array Bool} {i:Nat} (hi:i<listed.size):rem ops (listed.setIfInBounds i true)=(rem ops listed).filter fun p=>p.2 !=i:=by
 unfold rem
 rw[List.filter_filter]
 congr 1
 funext p
 by_cases e:p.2=i
 ·subst e;simp[Array.getD,hi]
 ·have e2:(listed.setIfInBounds i true).getD p.2 true=listed.getD p.2 true:=by
   simp[Array.getD_eq_getD_getElem?,Array.getElem?_setIfInBounds_ne (Ne.symm e)]
  rw[e2]
  simp[e]
theorem xj {ops : Array Oper} (hback : YL ops = true) (hdst : ∀ (i : Nat) (o : Oper), ops[i]? = some o -> ∀ n, o.dst = some n -> n < E.nt) {nx : Nat} {K : St -> Prop} {Kp : AV -> St -> Prop} {Q : Exit -> Act -> World -> Prop}
    (hfin:∀ O' a' w' ρ' V' Z',K O'->O'.nx=nx->Sat E ρ' V' Z' O' a' w'->(∀ id,V' id->id<nx+1048576*ops.size)->Q .normal a' w')
    (hP:∀ O,O.nx=nx->QH E O Kp Q):∀ (fuel:Nat) (listed:Array Bool) (O:St) (ρ:Nat->Ref) (V:Nat->Prop) (Z:Nat->Nat->Prop) (a:Act) (w:World),listed.size=ops.size->Sat E ρ V Z O a w->O.nx=nx->
      (∀ id,V id->id<nx+1048576*ops.size)->(∀ o k,(o,k)∈rem ops listed->∀ id,V id->¬ (nx+1048576*k<=id/\id<nx+1048576*k+1048576))->
      qa P (ops.toList.map (·.dst)) fuel (rem ops listed) O K Kp->wpAnyIn (rfn E.rd) 0 P .any ops Q fuel listed a w:=by
  have hnone:∀ (listed:Array Bool),listed.size=ops.size->Region.ready .any ops listed=[]->rem ops listed=[]:=by
    intro listed hs hr
    cases hrem:rem ops listed with
    |nil=>rfl
    |cons p r=>
      exfalso
      obtain⟨o,i⟩:=p
      have hm:(o,i)∈rem ops listed:=by rw[hrem];simp
      obtain⟨h1,h2⟩:=(Yi hs).1 hm
      have hil:i<ops.size:=by
        rcases Nat.lt_or_ge i ops.size with h'|h'
        · exact h'
        · rw[Array.getElem?_eq_none h'] at h1;cases h1
      have hin:i∈Region.ready .any ops listed:=by
        refine mem_ready.2 ⟨hil,by simp[Array.getD_eq_getD_getElem?,h2],o,h1,fun e he hb=>?_⟩
        have hlt:=gO hback h1 e he hb
        have hel:e.on<listed.size:=by omega
        cases hv:listed.getD e.on false with
        |true=>rfl
        |false=>
          exfalso
          have hl:listed[e.on]? =some false:=by
            simp[Array.getD,hel] at hv
            rw[Array.getElem?_eq_getElem hel,hv]
          have hm2:(ops[e.on]'(by omega),e.on)∈rem ops listed:=(Yi hs).2 ⟨Array.getElem?_eq_getElem _,hl⟩
          have hsort:=gm ops listed
          rw[hrem,List.pairwise_cons] at hsort
          rw[hrem] at hm2
          rcases List.mem_cons.1 hm2 with h5|h5
          · have:=congrArg Prod.snd h5;simp at this;omega
          · have:=hsort.1 _ h5;simp at this;omega
      rw[hr] at hin
      cases hin
  have hmt:∀ (listed:Array Bool) (i:Nat),listed.size=ops.size->i∈Region.ready .any ops listed->∃ y,ops[i]? =some y/\(y,i)∈rem ops listed/\(y,i)∈qQ (rem ops listed):=by
    intro listed i hs hi
    obtain⟨h1,h2,y,h3,h4⟩:=mem_ready.1 hi
    have hi2:i<listed.size:=by omega
    have hm:(y,i)∈rem ops listed:=(Yi hs).2 ⟨h3,by
      simp[Array.getD,hi2] at h2
      rw[Array.getElem?_eq_getElem hi2,h2]⟩
    refine⟨y,h3,hm,List.mem_filter.2 ⟨hm,?_⟩⟩
    rw[List.all_eq_true]
    intro e he
    cases hb:Region.binds .any e with
    |false=>rfl
    |true=>
      have hl:=h4 e he hb
      simp only[Bool.not_true,Bool.false_or,Bool.not_eq_true',List.any_eq_false]
      intro q hq hqe
      simp only[beq_iff_eq] at hqe
      obtain⟨o,j⟩:=q
      simp only at hqe
      subst hqe
      have:=((Yi hs).1 hq).2
      simp[Array.getD_eq_getD_getElem?,this] at hl
  intro fuel
  induction fuel with
  |zero=>
    intro listed O ρ V Z a w hs h hnx hVb hVk hgo
    refine⟨?_,hfin _ _ _ _ _ _ hgo.2 hnx h hVb⟩
    rw[List.eq_nil_iff_forall_not_mem]
    intro i hi
    obtain⟨y,_,g,_⟩:=hmt listed i hs hi
    rw[hgo.1] at g
    cases g
  |succ fuel ih=>
    intro listed O ρ V Z a w hs h hnx hVb hVk hgo
    refine⟨fun hr=>?_,fun i hi=>?_⟩
    · rw[qa,if_pos (hnone listed hs hr)] at hgo
      exact hfin _ _ _ _ _ _ hgo hnx h hVb
    · obtain⟨y,h3,hm,hrd⟩:=hmt listed i hs hi
      have hi2:i<listed.size:=by
        have:=(mem_ready.1 hi).1;omega
      rw[qa,if_neg (fun e=>by rw[e] at hm;cases hm)] at hgo
      have hfront:=hgo _ hrd
      simp only at hfront
      refine xQ h h3 (fun id hid=>by rw[hnx];exact hVk y i hm id hid) (hdst i y h3) hfront ?_ (hP O hnx)
      intro O' a' w' ρ' V' Z' hgo' hnx' hS' hV1 hV2
      rw[hnx] at hV1 hnx'
      refine ih (listed.setIfInBounds i true) O' ρ' V' Z' a' w' (by simpa using hs) hS' hnx' ?_ ?_ ?_
      · intro id hid
        rcases hV1 id hid with h5|h5
        · exact hVb id h5
        · have:=(mem_ready.1 hi).1;omega
      · intro o k hok' id hid
        rw[U3 hi2,List.mem_filter] at hok'
        have hki:k≠i:=by simpa using hok'.2
        rcases hV1 id hid with h5|h5
        · exact hVk o k hok'.1 id h5
        · omega
      · rw[U3 hi2];exact hgo'
theorem QG {id : Nat} {ops : Array Oper} {Q : AEx -> St -> Prop} {O : St} (hm : P.follows .mixedOrders = true) (hd : yB E.nt ops = true) (hback : YL ops = true)
    (h:qa P (ops.toList.map (·.dst)) ops.size ops.toList.zipIdx O (fun O'=>Q .norm { O' with nx:=O.nx+1048576*ops.size }) (fun x O'=>Q (.pan x) O')):AW P E (.region id ops true) Q O:=by
  intro ρ V Z a w hs hV
  refine gZ hm ?_
  have hs':=hs.drew (w':= { w with drawn:=w.drawn+1 }) rfl rfl rfl
  refine xj (E:=E) (nx:=O.nx) (K:=fun O'=>Q .norm { O' with nx:=O.nx+1048576*ops.size }) (Kp:=fun x O'=>Q (.pan x) O') hback (GB hd) ?_ ?_ _ _ O ρ V Z a _ (by simp) hs' rfl (fun id hid=>by have:=hV id hid;omega) ?_ (by rw[oA];exact h)
  · intro O' a' w' ρ' V' Z' hK hnx hS hb
    exact⟨ρ',V',Z',_,.norm,trivial,hK,hS.nx _,fun _=>hb⟩
  · intro O1 hnx x v O' ρ' V' Z' a' w' hK _ hr hS
    exact⟨ρ',V',Z',O',.pan x,⟨v,rfl,hr⟩,hK,hS,fun hx=>absurd rfl (hx x)⟩
  · intro o k _ id hid
    have:=hV id hid
    omega
end Go.Am

namespace Go.Am
open Go
variable {P:Program} {E:En} {ρ:Nat->Ref} {V:Nat->Prop} {Z:Nat->Nat->Prop} {O:St} {a:Act} {w:World}
theorem g8 {c:Code} {Q Q':Exit->Act->World->Prop} {a:Act} {w:World} (hq:∀ e a w,Q e a w->Q' e a w) (h:c.wp P Q a w):c.wp P Q' a w:=wp_mono h hq
def Od (ρ:Nat->Ref) (V:Nat->Prop) (Z:Nat->Nat->Prop) (w:World) (u:FrameMode):Option AV->Prop
 |none=>u= .returning
 |some x=>∃ v,u= .panicking [{ v,recovered:=false }]/\Rel ρ V Z w v x
def jdz:Option AV->AV
 |none=> .nilif
 |some x=>x
def DCall (P:Program) (f:FuncId) (vs:List AV) (hp:Nat->Option AObj) (nx np:Nat) (x:Option AV) (R:(Nat->Option AObj)->Prop):Prop:=
 jJ P f=true/\∀ (ρ:Nat->Ref) (V:Nat->Prop) (Z:Nat->Nat->Prop) (w:World) (args:Array Value) (u:FrameMode),HSat ρ V Z w hp->(∀ id,id<np->V id)->(∀ id,V id->id<nx)->args.size=vs.length->
  (∀ i,i<vs.length->Rel ρ V Z w (args.getD i undef) (vs.getD i default))->Od ρ V Z w u x->
  CallsD P f args u w fun e u' w'=>(∃ v,e= .returned v)/\settle u'= .returning/\∃ ρ' V' Z' hp',HSat ρ' V' Z' w' hp'/\Ext w w' (Jx ρ hp)/\(∀ id,id<np->V' id/\ρ' id=ρ id)/\(∀ b o,Z b o->Z' b o)/\
   (∀ b o,Z' b o->Z b o\/w.heap.size<=b\/Jx ρ hp b)/\(∀ id o b,hp' id=some o->(ρ' id).at b->b<w.heap.size->Jx ρ hp b)/\R hp'
theorem DCall.of_body {f : FuncId} {fn : Func} {c : Code} {vs : List AV} {hp : Nat -> Option AObj} {nx np : Nat} {x : Option AV} {R : (Nat -> Option AObj) -> Prop} {i d1 d2 : Nat} {ts : Array TypeId} {ty1 ty2 : TypeId} {p1 p2 : String} {af1 af2 : Array Edge}
    (hf:P.funcs[f]? =some fn) (hfn:jJ P f=true)
    (hb:fn.body=some (.seq (.region i #[⟨some d1,.call ⟨.builtin .recover, #[],ts⟩,ty1,p1,af1,none⟩,⟨some d2,.assign (.tmp d1),ty2,p2,af2,none⟩] false) c))
    (hd1:d1<fn.ntmps) (hd2:d2<fn.ntmps) (hres:fn.results= #[]) (hn:vs.length<=fn.ntmps)
    (h:∀ (E:En) (Q:AEx->St->Prop),E.nt=fn.ntmps->E.np=np->(∀ O,R O.hp->Q .ret O/\Q .norm O)->AW P E c Q ⟨upd (upd (JV 0 vs) d1 (jdz x)) d2 (jdz x),hp,nx⟩):DCall P f vs hp nx np x R:=by
  refine⟨hfn,fun ρ V Z w args u hh hnp hnx hsz hrel hu=>?_⟩
  refine callsD_of_wpS hf hb fun c₀ cs hc=>?_
  have hsat:=GI (nx:=nx) hn hh hnp hsz hrel
  have key : ∀ (v : Value) (u' : FrameMode), Rel ρ V Z w v (jdz x) -> settle u' = .returning -> c.wpS P (bodyPostS P fn c₀ cs fun e u' w' => (∃ v, e = .returned v) /\ settle u' = .returning /\ ∃ ρ' V' Z' hp', HSat ρ' V' Z' w' hp' /\ Ext w w' (Jx ρ hp) /\ (∀ id, id < np -> V' id /\ ρ' id = ρ id) /\ (∀ b o, Z b o -> Z' b o) /\
      (∀ b o,Z' b o->Z b o\/w.heap.size<=b\/Jx ρ hp b)/\(∀ id o b,hp' id=some o->(ρ' id).at b->b<w.heap.size->Jx ρ hp b)/\R hp')
      (({ tmps:=args++Array.replicate (fn.ntmps - args.size) undef,defers:=[] } :Act).put (some d1) v |>.put (some d2) v) ({ c₀ with mode:=u' } ::cs) w:=by
    intro v u' hv hs
    have hs1:=hsat.val (d:=some d1) (fun n hn=>by cases hn;exact hd1) rfl rfl rfl hv
    have hs2:=hs1.val (d:=some d2) (fun n hn=>by cases hn;exact hd2) rfl rfl rfl hv
    have hbody:=h _ (fun e O=>match e with| .ret| .norm=>R O.hp|_=>False) rfl rfl (fun O hO=>⟨hO,hO⟩) ρ V Z _ w hs2 hnx
    refine wpS_of_wp (qY (yd ?_ hbody))
    rintro e a w' ⟨ρ',V',Z',O,y,h1,h2,h3,h4⟩
    have hret:R O.hp->a.defers=[]/\∃ u'',({ c₀ with mode:=u' } ::cs:List Frame)= { c₀ with mode:=u'' } ::cs/\∃ v,(results fn a.tmps).run P w'= .ok v w'/\(∃ v',Ending.returned v= .returned v')/\settle u''= .returning/\∃ ρ' V' Z' hp',HSat ρ' V' Z' w' hp'/\Ext w w' (Jx ρ hp)/\(∀ id,id<np->V' id/\ρ' id=ρ id)/\(∀ b o,Z b o->Z' b o)/\
      (∀ b o,Z' b o->Z b o\/w.heap.size<=b\/Jx ρ hp b)/\(∀ id o b,hp' id=some o->(ρ' id).at b->b<w.heap.size->Jx ρ hp b)/\R hp':=by
      intro hR
      obtain⟨v,hv1,hv2⟩:=J5 h3 (fn:=fn) (r:= .tup []) (by rw[hres];rfl)
      exact⟨h3.df.none rfl,u',rfl,v,hv1,⟨v,rfl⟩,hs,ρ',V',Z',O.hp,h3.hs,h3.ext,h3.pn,h3.z0,h3.zn,h3.ownd,hR⟩
    cases e<;>cases y<;>simp only[ExR] at h1
    · exact hret h2
    · exact h2.elim
    · exact hret h2
    · exact h2.elim
  apply wpS_seq
  apply wpS_region
  have hd1':d1<(args++Array.replicate (fn.ntmps - args.size) undef).size:=by have:=hsat.nt;simp only at this;omega
  revert key hd1'
  generalize args++Array.replicate (fn.ntmps - args.size) undef=T
  generalize bodyPostS P fn c₀ cs _=QQ
  intro key hd1'
  have hget:∀ v:Value,(T.setIfInBounds d1 v)[d1]?.getD undef=v:=by
    intro v
    rw[Array.getElem?_setIfInBounds_self]
    simp[hd1']
  have e2:List.range 2=[0,1]:=rfl
  have hrec:∀ g:Operand->Value,(execOp g ⟨some d1,.call ⟨.builtin .recover, #[],ts⟩,ty1,p1,af1,none⟩).run P w= .ok .recover w:=fun g=>rfl
  clear h hsat hrel
  cases x with
  |none=>
    have hu':u= .returning:=hu
    have hk:=key .nilIface .returning .nilif rfl
    have e:({ c₀ with mode:= .returning } :Frame)=c₀:=by rw[<- hu', <- hc]
    rw[e] at hk
    simp only[List.size_toArray,List.length_cons,List.length_nil,Nat.zero_add,Nat.reduceAdd,e2]
    simp[wpOpsS,recoverD,hc,hu',Region.wanted,hrec,execOp,Act.put,Act.eval,Oper.upon,Exit.thenS,hget,Array.getD_eq_getD_getElem?]
    exact hk
  |some y=>
    obtain⟨v,hv1,hv2⟩:=hu
    have hk:=key v (.panicking [{ v,recovered:=true }]) hv2 rfl
    simp only[List.size_toArray,List.length_cons,List.length_nil,Nat.zero_add,Nat.reduceAdd,e2]
    simp[wpOpsS,recoverD,hc,hv1,Region.wanted,hrec,execOp,Act.put,Act.eval,Oper.upon,Exit.thenS,hget,Array.getD_eq_getD_getElem?]
    exact hk
mutual
theorem JH:∀ x:AV,x.ren (fun i=>i)=x
 | .fn f a b=>by simp only[AV.ren,jv a,jv b]
 | .iface t v=>by simp only[AV.ren,JH v]
 | .agg l=>by simp only[AV.ren,jv l]
 | .tup l=>by simp only[AV.ren,jv l]
 | .ptr _ _| .rptr _ _ _ _| .rw _| .mp _| .bool _| .int _ _| .str _| .nilp| .eptr _ _| .nilsl| .sl _| .nilmap| .nilfn| .nilif=>rfl
theorem jv:∀ l:List AV,AV.renL (fun i=>i) l=l
 | []=>rfl
 |x::l=>by simp only[AV.renL,JH x,jv l]
end
theorem jw (o:AObj):o.ren (fun i=>i)=o:=by
 cases o with
 |cells l=>simp only[AObj.ren,jv]
 |row sz l=>simp only[AObj.ren,jv]
 |map es=>simp[AObj.ren,JH]
 |lp q l=>simp only[AObj.ren,jv]
def gk (k:Nat):List AV:=(List.range k).map fun i=> .ptr i 0
theorem Y1 (k:Nat):(gk k).length=k:=by simp[gk]
theorem Gk {k i:Nat} (h:i<k):(gk k).getD i default= .ptr i 0:=by simp[gk,List.getD_eq_getElem?_getD,h]
mutual
theorem Uk {h:Nat->Option AObj} :∀ {x:AV},x.clo=true->(x.snap h).clo=true
 | .rw _,hx=>by simp[AV.clo] at hx
 | .nilsl,_=>by simp[AV.snap,AV.clo]
 | .agg l,hx=>by simp only[AV.clo] at hx;simp only[AV.snap,AV.clo];exact qA hx
 | .tup l,hx=>by simp only[AV.clo] at hx;simp only[AV.snap,AV.clo];exact qA hx
 | .fn _ _ _,hx| .iface _ _,hx| .ptr _ _,hx| .rptr _ _ _ _,hx| .mp _,hx| .bool _,hx| .int _ _,hx| .str _,hx| .nilp,hx| .eptr _ _,hx| .sl _,hx| .nilmap,hx| .nilfn,hx| .nilif,hx=>hx
theorem qA {h:Nat->Option AObj} :∀ {l:List AV},AV.cloL l=true->AV.cloL (AV.snapL h l)=true
 | [],_=>rfl
 |x::l,hx=>by
  simp only[AV.cloL,Bool.and_eq_true] at hx
  simp only[AV.snapL,AV.cloL,Bool.and_eq_true]
  exact⟨Uk hx.1,qA hx.2⟩
end
def jbB (P:Program) (fn:Func) (g:FuncId) (k:Nat) (r:AV) (x:Option AV) (O:St):Prop:=
 O.nx=k/\(∀ y,x=some y->y.clo=true)/\(∀ t y,O.fr t=some y->∃ i,i<k/\y= .ptr i 0)/\(∀ id o,O.hp id=some o->id<k/\o.ids (· <k))/\
  ∃ R,DCall P g (gk k) O.hp k k x R/\∀ hp',R hp'->∃ r',Jy P fn.results.toList ⟨O.fr,hp',k⟩=some r'/\r'.clo=true/\r'.snapOk (fun _=>none)/\r'.snap (fun _=>none)=r
theorem Ext.trans {w0 w1 w2:World} {own B:Nat->Prop} (h:Ext w0 w1 own) (g:Ext w1 w2 B) (hB:∀ b,B b->b<w0.heap.size->own b) (hl:∀ b,B b->b<w1.heap.size):Ext w0 w2 own:=by
 classical
 refine⟨fun b hb hno=>?_,Nat.le_trans h.le g.le,g.os.trans h.os,g.out.trans h.out,trivial⟩
 ·rw[g.old b (Nat.lt_of_lt_of_le hb h.le) (fun hh=>hno (hB b hh hb))]
  exact h.old b hb hno
theorem PCall.of_defer {f g : FuncId} {fn : Func} {c0 c : Code} {vs : List AV} {r : AV} {i1 d7 k : Nat} {caps : Array Operand} {ty1 ty2 : TypeId} {p1 p2 : String} {af1 af2 : Array Edge} {ts : Array TypeId}
    (hf:P.funcs[f]? =some fn) (hfn:jJ P f=true)
    (hb:fn.body=some (.seq c0 (.seq (.region i1 #[⟨some d7,.makeFunc (.func g) #[] caps,ty1,p1,af1,none⟩,⟨none,.defer ⟨.value (.tmp d7), #[],ts⟩,ty2,p2,af2,none⟩] false) c)))
    (hd7:d7<fn.ntmps) (hn:vs.length<=fn.ntmps) (hclo:AV.cloL vs=true) (O1:St) (hk:∀ i,i<k->∃ o,O1.hp i=some o) (hcap:caps.toList.mapM (evA O1)=some (gk k))
    (h0:∀ (E:En) (Q:AEx->St->Prop),E.nt=fn.ntmps->E.np=0->(∀ O m,Ent 0 m O O1->Q .norm O)->AW P E c0 Q ⟨JV 0 vs,jp [],0⟩)
    (h1:∀ (E:En) (Q:AEx->St->Prop),E.nt=fn.ntmps->E.np=k->(∀ O,jbB P fn g k r none O->Q .ret O/\Q .norm O)->(∀ x O,jbB P fn g k r (some x) O->Q (.pan x) O)->AW P E c Q ⟨upd O1.fr d7 (.fn (.func g) [] (gk k)),O1.hp,O1.nx⟩):PCall P f vs r:=by
  refine⟨hfn,fun ρ V Z w args hZ hgl hsz hrel=>?_⟩
  have hlen:args.size<=fn.ntmps:=by omega
  have hc:∀ (l:List AV),AV.cloL l=true->∀ i,i<l.length->(l.getD i default).clo=true:=by
    intro l
    induction l with
    |nil=>intro _ i hi;exact absurd hi (Nat.not_lt_zero _)
    |cons y l ih=>
      intro hl i hi
      simp only[AV.cloL,Bool.and_eq_true] at hl
      cases i with
      |zero=>simpa using hl.1
      |succ i=>simpa using ih hl.2 i (by simpa using hi)
  have hsat:=GI (ρ:=ρ) (V:=fun _=>False) (Z:=Z) (w:=w) (hp:=jp []) (nx:=0) (np:=0) hn ⟨fun id o ho=>(by cases ho),fun id id' o o' b ho=>(by cases ho),fun id o b ho=>(by cases ho),hZ,hgl⟩ (fun id h=>absurd h (Nat.not_lt_zero _)) hsz
    (fun i hi=>jR (hrel i hi) (hc vs hclo i hi) _ _)
  have hown:∀ b,¬ Jx ρ (jp []) b:=by rintro b ⟨id,o,ho,_⟩;cases ho
  refine calls_of_wp_defers hf hb (wp_seq (g8 ?_ (qY (h0 _ (fun e O=>e= .norm/\∃ m,Ent 0 m O O1) rfl rfl (fun O m he=>⟨rfl,m,he⟩) ρ _ Z _ w hsat (fun _ h=>h.elim)))))
  rintro e a w1 ⟨ρ1,V1,Z1,O,x,h1',⟨rfl,m,he⟩,h3,h4⟩
  cases e<;>simp only[ExR] at h1'
  have hs1:=h3.ent he
  have hdf:a.defers=[]:=h3.df.none rfl
  obtain⟨hcs,hcr⟩:=G8 hs1 hcap
  have hrun1:∀ a:Act,(execOp a.eval ⟨some d7,.makeFunc (.func g) #[] caps,ty1,p1,af1,none⟩).run P w1= .ok (.value (.func (.func g) #[] (caps.map a.eval))) w1:=fun a=>by
    show(do pure (Next.value (<- Instr.makeFunc (.func g) (#[].map a.eval) (caps.map a.eval))):Sem Next).run P w1=_
    simp[Instr.makeFunc]
  refine wp_seq (wp_region ?_)
  have e2:List.range 2=[0,1]:=rfl
  simp only[List.size_toArray,List.length_cons,List.length_nil,Nat.zero_add,Nat.reduceAdd,e2,wpOps]
  simp only[List.getElem?_toArray,List.getElem?_cons_zero,Region.wanted,if_true]
  refine .inl ?_
  unfold Oper.wp
  rw[hrun1]
  rw[Oper.upon_value]
  simp only[List.getElem?_toArray,List.getElem?_cons_succ,List.getElem?_cons_zero,Region.wanted,if_true]
  refine .inl ?_
  generalize hcv:caps.map a.eval=cv at*
  have hdget:(a.put (some d7) (.func (.func g) #[] cv)).eval (.tmp d7)= .func (.func g) #[] cv:=by
    have:d7<a.tmps.size:=by rw[h3.nt];exact hd7
    simp[Act.eval,Act.put,Array.getD_eq_getD_getElem?,this]
  have hrun2:(execOp (a.put (some d7) (.func (.func g) #[] cv)).eval ⟨none,.defer ⟨.value (.tmp d7), #[],ts⟩,ty2,p2,af2,none⟩).run P w1= .ok (.defer ⟨.fn (.func g) cv, #[]⟩) w1:=by
    show(do pure (Next.defer (<- resolve (a.put (some d7) (.func (.func g) #[] cv)).eval ⟨.value (.tmp d7), #[],ts⟩ ty2)):Sem Next).run P w1=_
    unfold resolve
    simp only[hdget]
    simp[Deferred.ofValue]
  rw[hrun2,Oper.upon_defer]
  show c.wp P _ _ w1
  have hown2:Jx ρ (jp [])=fun _=>False:=by funext b;simp[hown b]
  rw[hown2] at hs1
  have hrelf:Rel (fun i=>ρ1 (m i)) (fun i=>i<O1.nx/\V1 (m i)) Z1 w1 (.func (.func g) #[] cv) (.fn (.func g) [] (gk k)):=
    .fn _ _ _ _ _ rfl (by rw[hcs]) (fun i hi=>absurd hi (Nat.not_lt_zero _)) hcr
  have hs2:=hs1.val (d:=some d7) (w':=w1) (fun n hn=>by cases hn;exact hd7) rfl rfl rfl hrelf
  have hVk:∀ id,id<k->id<O1.nx/\V1 (m id):=fun id hid=>by obtain⟨o,ho⟩:=hk id hid;exact(hs1.hs.obj id o ho).1
  have hs3 : Sat ⟨fn.ntmps, [⟨.fn (.func g) cv, #[]⟩], w, fun _ => False, Z, k, fun i => ρ1 (m i), none, false, false⟩ (fun i => ρ1 (m i)) (fun i => i < O1.nx /\ V1 (m i)) Z1 ⟨upd O1.fr d7 (.fn (.func g) [] (gk k)), O1.hp, O1.nx⟩
      { (a.put (some d7) (.func (.func g) #[] cv)) with defers:=⟨.fn (.func g) cv, #[]⟩::(a.put (some d7) (.func (.func g) #[] cv)).defers } w1:=
    ⟨hs2.nt,⟨[],by rw[jdu,hdf];rfl,⟨by simp,by simp⟩,fun _=>rfl⟩,hs2.fr,hs2.hs,hs2.ext,hs2.ownd,hs2.z0,hs2.zn,fun id hid=>⟨hVk id hid,rfl⟩⟩
  have hbody:=h1 _ (fun e O=>match e with| .ret| .norm=>jbB P fn g k r none O| .pan x=>jbB P fn g k r (some x) O| .exit _=>False) rfl rfl (fun O hO=>⟨hO,hO⟩) (fun x O hO=>hO) _ _ Z1 _ w1 hs3 (fun id hid=>hid.1)
  refine g8 ?_ (qY hbody)
  rintro e a2 w2 ⟨ρ2,V2,Z2,O2,x2,k1,k2,k3,k4⟩
  have hfin:∀ (x:Option AV) (u:FrameMode),u≠ .run->jbB P fn g k r x O2->Od ρ2 V2 Z2 w2 u x->Leaves P fn a2.tmps (fun e w'=>∃ v Z',e= .returned v/\Rel ρ V Z' w' v r/\Ext w w' (fun _=>False)/\(∀ b o,Z b o->Z' b o)/\(∀ b o,Z' b o->Z b o\/(w.heap.size<=b/\b<w'.heap.size))) a2.defers u w2:=by
    rintro x u hu ⟨g1,g2,g3,g4,R,⟨gf,gD⟩,g6⟩ hmode
    rw[k3.df.none rfl]
    refine leaves_cons (f:=g) (args:= #[]++cv) hu (Yl gf _) ?_
    have hpn:∀ id,id<k->V2 id/\ρ2 id=ρ1 (m id):=fun id hid=>k3.pn id hid
    have hs4:HSat ρ2 (fun i=>i<k/\V2 i) Z2 w2 O2.hp:=by
      refine⟨fun id o ho=>?_,k3.hs.inj,k3.hs.sep,k3.hs.lt,k3.hs.gl⟩
      obtain⟨q1,q2⟩:=k3.hs.obj id o ho
      have q3:=Gh (ρ':=ρ2) (V':=fun i=>i<k/\V2 i) (fun i=>i) (n:=k) (fun id hid hv=>⟨⟨hid,hv⟩,rfl⟩) (g4 id o ho).1 q1 (g4 id o ho).2 q2
      rw[jw] at q3
      exact⟨⟨(g4 id o ho).1,q1⟩,q3⟩
    have hmode':Od ρ2 (fun i=>i<k/\V2 i) Z2 w2 u x:=by
      cases x with
      |none=>exact hmode
      |some y=>
        obtain⟨v,q1,q2⟩:=hmode
        exact⟨v,q1,jR q2 (g2 y rfl) _ _⟩
    rw[Y1] at hcs hcr
    refine(gD ρ2 (fun i=>i<k/\V2 i) Z2 w2 (#[]++cv) u hs4 (fun id hid=>⟨hid,(hpn id hid).1⟩) (fun id h=>h.1) (by rw[Y1];simpa using hcs) (fun i hi=>?_) hmode').mono ?_
    · rw[Y1] at hi
      rw[Gk hi]
      have q1:=hcr i hi
      rw[Gk hi] at q1
      obtain⟨q2,_⟩:=q1.ptr_inv
      simp only[Array.empty_append]
      rw[q2, <- (hpn i hi).2]
      exact .ptr i 0 ⟨hi,(hpn i hi).1⟩
    · rintro e u' w3 ⟨⟨v0,rfl⟩,q1,ρ3,V3,Z3,hp3,q2,q3,q4,q5,q6,q7,q8⟩
      show Leaves P fn a2.tmps _ [] (settle u') w3
      rw[q1]
      obtain⟨r',p1,p2,p3,p4⟩:=g6 hp3 q8
      have hownb:∀ b,Jx ρ2 O2.hp b->b<w2.heap.size/\¬ b<w.heap.size:=by
        rintro b ⟨id,o,ho,hb⟩
        exact⟨(k3.hs.obj id o ho).2.lt b hb,fun hlt=>k3.ownd id o b ho hb hlt⟩
      have hext:Ext w w3 (fun _=>False):=k3.ext.trans q3 (fun b hb hlt=>(hownb b hb).2 hlt) (fun b hb=>(hownb b hb).1)
      have hs5:Sat ⟨fn.ntmps,a2.defers,w,fun _=>False,Z,0,ρ,none,false,false⟩ ρ3 V3 Z3 ⟨O2.fr,hp3,k⟩ a2 w3:=by
        refine⟨k3.nt,⟨[],rfl,⟨by simp,by simp⟩,fun _=>rfl⟩,fun t y hy=>?_,q2,hext,fun id o b ho hb hlt=>?_,fun b o hz=>q5 _ _ (k3.z0 b o hz),fun b o hz=>?_,fun id hid=>absurd hid (Nat.not_lt_zero _)⟩
        · obtain⟨i,hi,rfl⟩:=g3 t y hy
          obtain⟨p5,_⟩:=(k3.fr t _ hy).ptr_inv
          rw[p5, <- (q4 i hi).2]
          exact .ptr i 0 (q4 i hi).1
        · exact(hownb b (q7 id o b ho hb (Nat.lt_of_lt_of_le hlt k3.ext.le))).2 hlt
        · rcases q6 b o hz with p|p|p
          · exact k3.zn b o p
          · exact .inr (.inl (Nat.le_trans k3.ext.le p))
          · exact .inr (.inl (Nat.le_of_not_lt (hownb b p).2))
      obtain⟨v,hv1,hv2⟩:=J5 hs5 p1
      have hv3:=gT (O:=⟨fun _=>none,fun _=>none,0⟩) (q2.sub (F:=fun _=>none) (fun id o ho=>by cases ho)) hv2 p3
      rw[p4] at hv3
      have hv4:Rel ρ3 V3 Z3 w3 v r:=hv3.mono (fun _ _=>rfl) (fun _ h=>h) (fun b o hz=>by
        rcases hz with hz|⟨id,sz,l,h,_⟩
        · exact hz
        · cases h) (fun _ _ _=>rfl)
      refine⟨v,hv1,v,Z3,rfl,jR hv4 ?_ _ _,hext,fun b o hz=>hs5.z0 b o hz,fun b o hz=>?_⟩
      · rw[<- p4];exact Uk p2
      · rcases hs5.zn b o hz with p|p|p
        · exact .inl p
        · exact .inr ⟨p,hs5.hs.lt b o hz⟩
        · exact p.elim
  cases e<;>cases x2<;>simp only[ExR] at k1
  · exact hfin none .returning (by simp) k2 rfl
  · exact k2.elim
  · exact hfin none .returning (by simp) k2 rfl
  · obtain⟨v,rfl,hv⟩:=k1
    exact hfin (some _) (.panicking _) (by simp) k2 ⟨v,rfl,hv⟩
end Go.Am

namespace Go.Am
open Go
variable {P:Program} {E:En} {O:St}
theorem CallB.sub {f : FuncId} {vs : List AV} {k : Nat} {d : Option Nat} {K0 K : St -> Prop} {Kp0 Kp : AV -> St -> Prop} (h : CallB P f vs O k d K0 Kp0)
    (hK:∀ O',K0 O'->∃ O'',K O''/\O''.nx=O'.nx/\O''.fr=O'.fr/\∀ id o,O''.hp id=some o->O'.hp id=some o)
    (hKp:∀ x O',Kp0 x O'->∃ O'',Kp x O''/\O''.nx=O'.nx/\O''.fr=O'.fr/\∀ id o,O''.hp id=some o->O'.hp id=some o):CallB P f vs O k d K Kp:=by
  refine⟨h.1,fun E ρ V Z a w args hs hV hd hsz hrel=>(h.2 E ρ V Z a w args hs hV hd hsz hrel).mono ?_⟩
  have key:∀ {ρ' V' Z' O' O'' a' w'},Sat E ρ' V' Z' O' a' w'->O''.fr=O'.fr->(∀ id o,O''.hp id=some o->O'.hp id=some o)->Sat E ρ' V' Z' O'' a' w':=by
    intro ρ' V' Z' O' O'' a' w' g h1 h2
    exact⟨g.nt,g.df,fun t x hx=>g.fr t x (h1▸hx),g.hs.sub h2,g.ext,fun id o b ho=>g.ownd id o b (h2 _ _ ho),g.z0,g.zn,g.pn⟩
  rintro e w' ⟨ρ',V',Z',h1,h2,⟨v,O',rfl,h3,h4,h5⟩|⟨v,x,O',rfl,h3,h4,h5,h6⟩⟩
  · obtain⟨O'',g1,g2,g3,g4⟩:=hK O' h4
    exact⟨ρ',V',Z',h1,h2,.inl ⟨v,O'',rfl,g2.trans h3,g1,key h5 g3 g4⟩⟩
  · obtain⟨O'',g1,g2,g3,g4⟩:=hKp x O' h4
    exact⟨ρ',V',Z',h1,h2,.inr ⟨v,x,O'',rfl,g2.trans h3,g1,h5,key h6 g3 g4⟩⟩
def A0 (P:Program) (f:FuncId) (vs:List AV) (R Rp:AV->Prop):Prop:=
 ACall P f vs (fun _=>none) 0 0 (fun r hp'=>R r/\r.clo=true/\hp'=fun _=>none) (fun x hp'=>Rp x/\x.clo=true/\hp'=fun _=>none)
theorem A0.intro {f : FuncId} {fn : Func} {c : Code} {vs : List AV} {R Rp : AV -> Prop} (hf : P.funcs[f]? = some fn) (hb : fn.body = some c) (hfn : jJ P f = true) (hn : vs.length <= fn.ntmps)
    (h:∀ (E:En) (Q:AEx->St->Prop),E.nt=fn.ntmps->E.np=0->(∀ O,(∃ r,Jy P fn.results.toList O=some r/\R r/\r.clo=true)->Q .ret O/\Q .norm O)->(∀ x O,Rp x->x.clo=true->Q (.pan x) O)->AW P E c Q ⟨JV 0 vs,jp [],0⟩):A0 P f vs R Rp:=by
  have hid:∀ {x:AV},x.clo=true->x.ren (fun i=>i)=x:=fun _=>JH _
  have hids:∀ (p:Nat->Prop) (x:AV),x.clo=true->x.ids p:=by
    intro p
    have key:(∀ x:AV,x.clo=true->x.ids p):=by
      intro x
      exact @AV.rec (fun x=>x.clo=true->x.ids p) (fun l=>AV.cloL l=true->AV.idsL p l) (fun _ _=>trivial) (fun _ _ _=>trivial) (fun _ _=>trivial) (fun _=>trivial) (fun _ _ h=>by simp[AV.clo] at h) (fun _ _ _ _=>trivial)
        (fun _ _ _ _ h=>by simp[AV.clo] at h) (fun _=>trivial) (fun _ _ _=>trivial) (fun _ h=>by simp[AV.clo] at h) (fun _=>trivial) (fun _ h=>by simp[AV.clo] at h) (fun _=>trivial)
        (fun _ a b ha hb h=>by simp only[AV.clo,Bool.and_eq_true] at h;exact⟨ha h.1,hb h.2⟩) (fun _=>trivial) (fun _ _ hv h=>hv h) (fun _ hl h=>hl h) (fun _ hl h=>hl h) (fun _=>trivial)
        (fun _ _ ha hl h=>by simp only[AV.cloL,Bool.and_eq_true] at h;exact⟨ha h.1,hl h.2⟩) x
    exact key
  refine⟨hfn,fun ρ V Z w args hh hnp hnx hsz hrel=>?_⟩
  have hsat:=Gn (nx:=0) hn hh hnp hsz hrel
  have hbody:=h _ (fun e O=>match e with| .ret| .norm=>∃ r,Jy P fn.results.toList O=some r/\R r/\r.clo=true| .pan x=>Rp x/\x.clo=true| .exit _=>False) rfl rfl (fun O hO=>⟨hO,hO⟩) (fun x O h1 h2=>⟨h1,h2⟩) ρ V Z _ w hsat hnx
  refine Ye hf hb rfl rfl hbody ?_ ?_ (fun j O h=>h)
  · rintro ρ' V' Z' O a w' h3 hq _
    have h5:HSat ρ' V' Z' w' (fun _=>none):=h3.hs.sub (fun id o ho=>by cases ho)
    obtain⟨r,hr,hR,hc⟩:∃ r,Jy P fn.results.toList O=some r/\R r/\r.clo=true:=hq.elim (fun h=>h) (fun h=>h)
    obtain⟨v,hv1,hv2⟩:=J5 h3 hr
    exact⟨v,hv1,ρ',V',Z',fun _=>none,h5,h3.ext,h3.pn,h3.z0,h3.zn,fun id o b ho=>(by cases ho),.inl ⟨v,r,rfl,hv2,hR,hc,rfl⟩⟩
  · rintro ρ' V' Z' O a w' v x h3 hv h2
    have h5:HSat ρ' V' Z' w' (fun _=>none):=h3.hs.sub (fun id o ho=>by cases ho)
    exact⟨ρ',V',Z',fun _=>none,h5,h3.ext,h3.pn,h3.z0,h3.zn,fun id o b ho=>(by cases ho),.inr ⟨v,_,rfl,hv,h2.1,h2.2,rfl⟩⟩
theorem j5 {p:Nat->Prop} :∀ {x:AV},x.clo=true->x.ids p:=by
 intro x
 exact @AV.rec (fun x=>x.clo=true->x.ids p) (fun l=>AV.cloL l=true->AV.idsL p l) (fun _ _=>trivial) (fun _ _ _=>trivial) (fun _ _=>trivial) (fun _=>trivial) (fun _ _ h=>by simp[AV.clo] at h) (fun _ _ _ _=>trivial)
  (fun _ _ _ _ h=>by simp[AV.clo] at h) (fun _=>trivial) (fun _ _ _=>trivial) (fun _ h=>by simp[AV.clo] at h) (fun _=>trivial) (fun _ h=>by simp[AV.clo] at h) (fun _=>trivial)
  (fun _ a b ha hb h=>by simp only[AV.clo,Bool.and_eq_true] at h;exact⟨ha h.1,hb h.2⟩) (fun _=>trivial) (fun _ _ hv h=>hv h) (fun _ hl h=>hl h) (fun _ hl h=>hl h) (fun _=>trivial)
  (fun _ _ ha hl h=>by simp only[AV.cloL,Bool.and_eq_true] at h;exact⟨ha h.1,hl h.2⟩) x
theorem Jz {m:Nat->Nat} :∀ {x:AV},x.clo=true->x.ren m=x:=by
 intro x
 refine @AV.rec (fun x=>x.clo=true->x.ren m=x) (fun l=>AV.cloL l=true->AV.renL m l=l) (fun _ _=>rfl) (fun _ _ _=>rfl) (fun _ _=>rfl) (fun _=>rfl) (fun _ _ h=>by simp[AV.clo] at h) (fun _ _ _ _=>rfl)
  (fun _ _ _ _ h=>by simp[AV.clo] at h) (fun _=>rfl) (fun _ _ _=>rfl) (fun _ h=>by simp[AV.clo] at h) (fun _=>rfl) (fun _ h=>by simp[AV.clo] at h) (fun _=>rfl)
  (fun _ a b ha hb h=>by simp only[AV.clo,Bool.and_eq_true] at h;simp only[AV.ren,ha h.1,hb h.2]) (fun _=>rfl) (fun _ _ hv h=>by simp only[AV.clo] at h;simp only[AV.ren,hv h]) (fun _ hl h=>by simp only[AV.clo] at h;simp only[AV.ren,hl h]) (fun _ hl h=>by simp only[AV.clo] at h;simp only[AV.ren,hl h]) (fun _=>rfl)
  (fun _ _ ha hl h=>by simp only[AV.cloL,Bool.and_eq_true] at h;simp only[AV.renL,ha h.1,hl h.2]) x
theorem js {m:Nat->Nat} :∀ {l:List AV},AV.cloL l=true->AV.renL m l=l
 | [],_=>rfl
 |x::l,h=>by
  simp only[AV.cloL,Bool.and_eq_true] at h
  simp only[AV.renL,Jz h.1,js h.2]
theorem jt {p:Nat->Prop} :∀ {l:List AV},AV.cloL l=true->AV.idsL p l
 | [],_=>trivial
 |x::l,h=>by
  simp only[AV.cloL,Bool.and_eq_true] at h
  exact⟨j5 h.1,jt h.2⟩
theorem CallB.of_A0 {f:FuncId} {vs:List AV} {R Rp:AV->Prop} {k:Nat} {d:Option Nat} {K:St->Prop} {Kp:AV->St->Prop} (hA:A0 P f vs R Rp) (hclo:AV.cloL vs=true) (hK:∀ r,R r->K (O.put d r)) (hKp:∀ x,Rp x->Kp x O):CallB P f vs O k d K Kp:=by
 refine CallB.sub (K0:=fun O'=>∃ r,R r/\O'.nx=O.nx/\O'.fr=(O.put d r).fr/\∀ id o,O.hp id=some o->O'.hp id=some o) (Kp0:=fun x O'=>Rp x/\O'.nx=O.nx/\O'.fr=O.fr/\∀ id o,O.hp id=some o->O'.hp id=some o) ?_ ?_ ?_
 ·refine CallB.of_A hA (fun i=>i) (js hclo).symm (jt hclo) (fun id o h=>by cases h) (fun id id' o o' h=>by cases h) (fun id h=>absurd h (Nat.not_lt_zero _)) ?_ ?_ ?_ ?_
  ·rintro r hp' ⟨_,h2,rfl⟩;exact⟨j5 h2,fun id o h=>by cases h⟩
  ·rintro r hp' ⟨_,h2,rfl⟩;exact⟨j5 h2,fun id o h=>by cases h⟩
  ·rintro r hp' O' ⟨h1,h2,rfl⟩ hB
   exact⟨r,h1,hB.nx,by rw[hB.fr];simp only[Jz h2],fun id o ho=>hB.old id o ho (fun j hj=>absurd rfl hj)⟩
  ·rintro x hp' O' ⟨h1,h2,rfl⟩ hB
   rw[Jz h2]
   exact⟨h1,hB.nx,hB.fr,fun id o ho=>hB.old id o ho (fun j hj=>absurd rfl hj)⟩
 ·rintro O' ⟨r,h1,h2,h3,h4⟩
  exact⟨O.put d r,hK r h1,by rw[St.put_nx];exact h2.symm,h3.symm,fun id o ho=>h4 id o (by rw[St.put_hp] at ho;exact ho)⟩
 ·rintro x O' ⟨h1,h2,h3,h4⟩
  exact⟨O,hKp x h1,h2.symm,h3.symm,h4⟩
def onI (x:Option AV) (f:AV->Prop):Prop:=
 match x with
 |some (.iface t y)=>f (.iface t y)
 |_=>False
@[go_sem] theorem jlT {t:TypeId} {y:AV} {f:AV->Prop} :onI (some (.iface t y)) f=f (.iface t y):=_root_.id rfl
@[congr] theorem jjn {x y:Option AV} {f:AV->Prop} (h:x=y):onI x f=onI y f:=by rw[h]
@[go_sem ↓, go_sem] theorem jiR {k : Nat} {d : Option Tmp} {x : Operand} {ty : TypeId} {pos : String} {aft : Array Edge} {g : Option (Nat × Bool)} {fr : Nat -> Option AV} {hp : Nat -> Option AObj} {nx : Nat} {K : St -> Prop} {Kp : AV -> St -> Prop} :
    goX P true k ⟨d,.panic x,ty,pos,aft,g⟩ ⟨fr,hp,nx⟩ K Kp=onI (evA ⟨fr,hp,nx⟩ x) fun v=>Kp v ⟨fr,hp,nx⟩:=by
  simp only[goX,if_true,onI]
  rfl
end Go.Am

namespace Go.Am
open Go
variable {P:Program} {E:En} {O:St} {Q:AEx->St->Prop}
inductive Tr where
 |nil
 |leaf
 |alt (i:Nat) (sub rest:Tr)
def Tr.find:Tr->Nat->Option Tr
 | .alt i s r,j=>if i=j then some s else r.find j
 |_,_=>none
def Tr.isLeaf:Tr->Bool
 | .leaf=>true
 |_=>false
def okT:Nat->Tr->List (Oper×Nat)->Bool
 |0,T,r=>r.isEmpty&&T.isLeaf
 |n+1,T,r=>if r.isEmpty then T.isLeaf else(qQ r).all fun p=>match T.find p.2 with
  |some s=>okT n s (r.filter fun q=>q.2 !=p.2)
  |none=>false
def gx (P:Program) (ds:List (Option Nat)) (ops:List Oper) (K:St->Prop) (Kp:AV->St->Prop):Tr->St->Prop
 | .leaf,O=>K O
 | .nil,_=>True
 | .alt i s r,O=>(match ops[i]? with|some o=>goG P true none ds i o O (fun O'=>gx P ds ops K Kp s O') Kp|none=>False)/\gx P ds ops K Kp r O
theorem OB {ds : List (Option Nat)} {ops : List Oper} {K : St -> Prop} {Kp : AV -> St -> Prop} : ∀ {T s : Tr} {j : Nat}, gx P ds ops K Kp T O -> T.find j = some s ->
    ∃ o,ops[j]? =some o/\goG P true none ds j o O (fun O'=>gx P ds ops K Kp s O') Kp
  | .leaf,_,_,_,h=>by cases h
  | .nil,_,_,_,h=>by cases h
  | .alt i s r,s',j,hg,h=>by
    simp only[Tr.find] at h
    simp only[gx] at hg
    split at h
    · rename_i e
      subst e
      cases h
      cases ho:ops[i]? with
      |none=>simp[ho] at hg
      |some o=>simp only[ho] at hg;exact⟨o,rfl,hg.1⟩
    · exact OB hg.2 h
theorem qF {bar:Bool} {bs:Option (List Nat)} {ds:List (Option Nat)} {k:Nat} {o:Oper} {K K':St->Prop} {Kp:AV->St->Prop} (h:∀ O,K O->K' O):goG P bar bs ds k o O K Kp->goG P bar bs ds k o O K' Kp:=by
 intro hg
 unfold goG at hg ⊢
 split at hg
 ·refine⟨hg.1,?_⟩
  have hx:=hg.2
  unfold goX at hx ⊢
  split at hx
  ·split at hx
   ·split at hx
    ·rename_i hb
     rw[if_pos hb]
     refine⟨hx.1,fun E ρ V Z a w args g1 g2 g3 g4 g5=>(hx.2 E ρ V Z a w args g1 g2 g3 g4 g5).mono ?_⟩
     rintro e w' ⟨ρ',V',Z',k1,k2,k3⟩
     refine⟨ρ',V',Z',k1,k2,k3.imp ?_ (fun h=>h)⟩
     rintro⟨v,O',h1,h2,h3,h4⟩
     exact⟨v,O',h1,h2,h _ h3,h4⟩
    ·rename_i hb
     rw[if_neg hb]
     obtain⟨h1,r,h2,h3,h4⟩:=hx
     exact⟨h1,r,h2,h3,h _ h4⟩
   ·split at hx
    ·rename_i hb
     rw[if_pos hb]
     refine fun E ρ V Z a w args g1 g2 g3 g4 g5=>(hx E ρ V Z a w args g1 g2 g3 g4 g5).mono ?_
     rintro e w' ⟨ρ',V',Z',k1,k2,k3⟩
     refine⟨ρ',V',Z',k1,k2,k3.imp ?_ (fun h=>h)⟩
     rintro⟨v,O',h1,h2,h3,h4⟩
     exact⟨v,O',h1,h2,h _ h3,h4⟩
    ·exact hx.elim
   ·exact hx.elim
  ·exact hx
  ·exact hx
  ·split at hx
   ·exact⟨hx.1,h _ hx.2⟩
   ·exact hx.elim
  ·split at hx
   ·exact⟨hx.1,h _ hx.2⟩
   ·exact hx.elim
 ·exact h _ hg
 ·exact hg.elim
theorem UB {ds:List (Option Nat)} {ops:List Oper} {K:St->Prop} {Kp:AV->St->Prop} :∀ (n:Nat) (T:Tr) (r:List (Oper×Nat)) (O:St),(∀ p,p∈r->ops[p.2]? =some p.1)->okT n T r=true->gx P ds ops K Kp T O->qa P ds n r O K Kp
 |0,T,r,O,hr,hT,h=>by
  simp only[okT,Bool.and_eq_true,List.isEmpty_iff] at hT
  refine⟨hT.1,?_⟩
  cases T with
  |leaf=>exact h
  |nil=>cases hT.2
  |alt i s r=>cases hT.2
 |n+1,T,r,O,hr,hT,h=>by
  rw[qa]
  rw[okT] at hT
  split
  ·rename_i e
   subst e
   simp only[List.isEmpty_nil,if_true] at hT
   cases T with
   |leaf=>exact h
   |nil=>cases hT
   |alt i s r=>cases hT
  ·rename_i e
   have e2:r.isEmpty=false:=by cases r with|nil=>exact absurd rfl e|cons=>rfl
   rw[e2] at hT
   simp only[Bool.false_eq_true,if_false,List.all_eq_true] at hT
   intro p hp
   have h1:=hT p hp
   cases hs:T.find p.2 with
   |none=>simp[hs] at h1
   |some s=>
    simp only[hs] at h1
    obtain⟨o,ho,hg⟩:=OB h hs
    have hpr:p∈r:=by unfold qQ at hp;exact(List.mem_filter.1 hp).1
    have:=hr p hpr
    rw[ho] at this
    cases this
    exact qF (fun O' h'=>UB n s _ O' (fun q hq=>hr q (List.mem_filter.1 hq).1) h1 h') hg
theorem jjI {id : Nat} {l : List Oper} {fs : List Fm} {n : Nat} {ds : List (Option Nat)} {fr : Nat -> Option AV} {hp : Nat -> Option AObj} {nx : Nat} (T : Tr) (hm : P.follows .mixedOrders = true) (hd : yB E.nt l.toArray = true) (hback : YL l.toArray = true) (hT : okT l.length T l.zipIdx = true)
    (hn:l.length=n) (hds:l.map (·.dst)=ds)
    (h:∀ (K:St->Prop) (Kp:AV->St->Prop),(∀ O',Kq P E fs Q .norm O'->K O')->(∀ x O',Q (.pan x) O'->Kp x O')->gx P ds l (fun O'=>K { O' with nx:=nx+1048576*n }) Kp T ⟨fr,hp,nx⟩):AW P E (.region id l.toArray true) (Kq P E fs Q) ⟨fr,hp,nx⟩:=by
  subst hn
  subst hds
  refine QG hm hd hback ?_
  have hg:=h (fun O'=>Kq P E fs Q .norm O') (fun x O'=>Kq P E fs Q (.pan x) O') (fun _ h=>h) (fun x O' h=>qu h)
  exact UB _ T _ _ (fun p hp=>by
    obtain⟨o,i⟩:=p
    have:=List.mem_zipIdx hp
    simp only at this ⊢
    obtain⟨_,h2,h3⟩:=this
    simp only[Nat.zero_add,Nat.sub_zero] at h2 h3
    rw[h3];simp[h2]) hT hg
theorem xS {ds:List (Option Nat)} {ops:List Oper} {K K':St->Prop} {Kp:AV->St->Prop} (h:∀ O,K O->K' O):∀ (T:Tr) (O:St),gx P ds ops K Kp T O->gx P ds ops K' Kp T O
 | .leaf,O,hg=>h _ hg
 | .nil,_,_=>trivial
 | .alt i s r,O,hg=>by
  simp only[gx] at hg ⊢
  refine⟨?_,xS h r O hg.2⟩
  cases ho:ops[i]? with
  |none=>simp[ho] at hg
  |some o=>
   simp only[ho] at hg ⊢
   exact qF (fun O' h'=>xS h s O' h') hg.1
@[go_sem] theorem jiL {ds:List (Option Nat)} {ops:List Oper} {K:St->Prop} {Kp:AV->St->Prop} :gx P ds ops K Kp .leaf O=K O:=_root_.id rfl
theorem UC {ds:List (Option Nat)} {ops:List Oper} {K:St->Prop} {Kp:AV->St->Prop} {i:Nat} {s r:Tr} {o:Oper} (ho:ops[i]? =some o) (h1:goG P true none ds i o O (fun O'=>gx P ds ops K Kp s O') Kp) (h2:gx P ds ops K Kp r O):gx P ds ops K Kp (.alt i s r) O:=by
 simp only[gx,ho]
 exact⟨h1,h2⟩
theorem jcG {ds:List (Option Nat)} {ops:List Oper} {K:St->Prop} {Kp:AV->St->Prop} {i:Nat} {s:Tr} {o:Oper} (ho:ops[i]? =some o) (h1:goG P true none ds i o O (fun O'=>gx P ds ops K Kp s O') Kp):gx P ds ops K Kp (.alt i s .nil) O:=
 UC ho h1 trivial
end Go.Am

namespace Go.Am
open Go
variable {P:Program} {E:En} {ρ:Nat->Ref} {V:Nat->Prop} {Z:Nat->Nat->Prop} {O:St} {a:Act} {w:World}
def AV.dsn (F:Nat->Option AObj):Nat->AV->AV
 |0,a=>a
 |n+1,.rw id=>match F id with|some (.row _ l)=> .sl (l.map (AV.dsn F n))|_=> .rw id
 |_+1,.nilsl=> .sl []
 |n+1,.agg l=> .agg (l.map (AV.dsn F n))
 |n+1,.tup l=> .tup (l.map (AV.dsn F n))
 |_+1,a=>a
def AV.dsnOk (F:Nat->Option AObj):Nat->AV->Prop
 |0,_=>True
 |n+1,.rw id=>match F id with|some (.row _ l)=>∀ e,e∈l->AV.dsnOk F n e/\(e.dsn F n).cells.all AV.clo=true|_=>True
 |n+1,.agg l=>∀ e,e∈l->AV.dsnOk F n e
 |n+1,.tup l=>∀ e,e∈l->AV.dsnOk F n e
 |_+1,_=>True
theorem XI (F:Nat->Option AObj) (n:Nat) (x:AV):(x.dsn F n).one=x.one:=by
 cases n with
 |zero=>rfl
 |succ n=>cases x<;>simp only[AV.dsn]<;>first|rfl|(split<;>rfl)
theorem yn {l:List AV} {i:Nat} (hi:i<l.length):l.getD i default∈l:=by
 have:l.getD i default=l[i]:=by simp[List.getD_eq_getElem?_getD,hi]
 rw[this];exact List.getElem_mem hi
theorem getD_map {f:AV->AV} {l:List AV} {i:Nat} (hi:i<l.length):(l.map f).getD i default=f (l.getD i default):=by
 simp[List.getD_eq_getElem?_getD,hi]
theorem Gc (F:Nat->Option AObj) (n:Nat) (x:AV):(x.dsn F n).cells.length=x.cells.length/\∀ j,j<x.cells.length->∃ m,m<=n/\(x.dsn F n).cells.getD j default=(x.cells.getD j default).dsn F m/\(x.dsnOk F n->(x.cells.getD j default).dsnOk F m):=by
 cases n with
 |zero=>exact⟨rfl,fun j _=>⟨0,Nat.le_refl _,rfl,fun _=>trivial⟩⟩
 |succ n=>
  by_cases hx:∃ l,x= .agg l
  ·obtain⟨l,rfl⟩:=hx
   simp only[AV.dsn,AV.cells,List.length_map,true_and]
   intro j hj
   exact⟨n,Nat.le_succ n,getD_map hj,fun h=>h _ (yn hj)⟩
  ·have h':∀ l,x≠ .agg l:=fun l e=>hx ⟨l,e⟩
   have e1:x.cells=[x]:=by cases x<;>first|rfl|exact absurd rfl (h' _)
   have e2:(x.dsn F (n+1)).cells=[x.dsn F (n+1)]:=by
    cases x<;>first|rfl|exact absurd rfl (h' _)|(simp only[AV.dsn];split<;>rfl)
   rw[e1,e2]
   refine⟨rfl,fun j hj=>?_⟩
   obtain rfl:j=0:=by simpa using hj
   exact⟨n+1,Nat.le_refl _,rfl,fun h=>h⟩
theorem XJ {F:Nat->Option AObj} (hs:HSat ρ V Z w F) (n:Nat):∀ {v:Value} {x:AV},Rel ρ V Z w v x->x.dsnOk F n->Rel ρ V (ZR ρ Z ⟨fun _=>none,F,0⟩) w v (x.dsn F n):=by
 have hm:∀ {v x},Rel ρ V Z w v x->Rel ρ V (ZR ρ Z ⟨fun _=>none,F,0⟩) w v x:=fun h=>h.mono (fun _ _=>rfl) (fun _ h=>h) (fun _ _ h=> .inl h) (fun _ _ _=>rfl)
 induction n using Nat.strongRecOn with
 |_ n ih=>
  cases n with
  |zero=>intro v x h _;exact hm h
  |succ n=>
   intro v x h hx
   cases x with
   |rw id=>
    obtain⟨hv,hV⟩:=h.rw_inv
    simp only[AV.dsnOk] at hx
    simp only[AV.dsn]
    cases ho:F id with
    |none=>exact hm h
    |some o=>
     cases o with
     |cells l=>exact hm h
     |map es=>exact hm h
     |lp q l=>exact hm h
     |row sz l=>
      simp only[ho] at hx ⊢
      rw[hv]
      rcases(hs.obj id _ ho).2.row_cells' with ⟨h0,rfl⟩|⟨h0,cs,ty,h1,h2,h3,h4,h5⟩
      ·simp only[Ref.slice,h0,if_true,List.map_nil];exact .sl0 _ _
      ·simp only[Ref.slice,h0,Bool.false_eq_true,if_false,h2]
       have hlen:(l.map (AV.dsn F n)).length=l.length:=List.length_map ..
       rw[<- hlen]
       have hg:∀ i,i<l.length->(l.map (AV.dsn F n)).getD i default=(l.getD i default).dsn F n:=fun i hi=>getD_map hi
       refine .sl (ρ id).blk (ρ id).off (ρ id).cap sz _ (fun i j=>cs.getD ((ρ id).off+i*sz+j) undef) (by rw[hlen];exact h3) (fun i hi=>?_) (fun i j hi hj=>?_) (fun i j hi hj=>?_)
       ·rw[hlen] at hi
        rw[hg i hi,(Gc F n _).1];exact h5.1 i hi
       ·rw[hlen] at hi
        have h6:(ρ id).off+i*sz+j<cs.size:=by
         have:=Yk hi hj
         have:=Nat.mul_le_mul_right sz h3
         omega
        have hjl:j<(l.getD i default).cells.length:=by rw[h5.1 i hi];exact hj
        obtain⟨m,hm1,hm2,_⟩:=(Gc F n (l.getD i default)).2 j hjl
        refine⟨?_,.inr ⟨id,_,_,ho,h0,rfl⟩,?_,?_⟩
        ·simp[World.cell?,h1,Array.getD,h6]
        ·rw[hg i hi,hm2,XI];exact(h5.2 i j hi hj).1
        ·rw[hg i hi]
         have hall:=(hx _ (yn hi)).2
         rw[List.all_eq_true] at hall
         exact hall _ (yn (by rw[(Gc F n _).1];exact hjl))
       ·rw[hlen] at hi
        have hjl:j<(l.getD i default).cells.length:=by rw[h5.1 i hi];exact hj
        obtain⟨m,hm1,hm2,hm3⟩:=(Gc F n (l.getD i default)).2 j hjl
        rw[hg i hi,hm2]
        exact ih m (by omega) (by simpa using (h5.2 i j hi hj).2) (hm3 (hx _ (yn hi)).1)
   |nilsl=>rw[h.nilsl_inv];exact .sl0 _ _
   |agg l=>
    obtain⟨cs,rfl,h1,h2,h3⟩:=h.agg_inv
    simp only[AV.dsnOk] at hx
    simp only[AV.dsn]
    refine .agg _ _ (by rw[List.length_map];exact h1) (fun i hi=>?_) (fun i hi=>?_)
    ·rw[List.length_map] at hi;rw[getD_map hi,XI];exact h2 i hi
    ·rw[List.length_map] at hi;rw[getD_map hi];exact ih n (Nat.lt_succ_self n) (h3 i hi) (hx _ (yn hi))
   |tup l=>
    obtain⟨cs,rfl,h1,h3⟩:=h.tup_inv
    simp only[AV.dsnOk] at hx
    simp only[AV.dsn]
    refine .tup _ _ (by rw[List.length_map];exact h1) (fun i hi=>?_)
    rw[List.length_map] at hi;rw[getD_map hi];exact ih n (Nat.lt_succ_self n) (h3 i hi) (hx _ (yn hi))
   |_=>exact hm h
def Dsn (F:Nat->Option AObj) (x x':AV):Prop:=x'=x\/∃ n,x.dsnOk F n/\x'=x.dsn F n
theorem Dsn.rel {F:Nat->Option AObj} (hF:HSat ρ V Z w F) {v:Value} {x x':AV} (h:Rel ρ V Z w v x) (hx:Dsn F x x'):Rel ρ V (ZR ρ Z ⟨fun _=>none,F,0⟩) w v x':=by
 rcases hx with rfl|⟨n,h1,rfl⟩
 ·exact h.mono (fun _ _=>rfl) (fun _ h=>h) (fun _ _ h=> .inl h) (fun _ _ _=>rfl)
 ·exact XJ hF n h h1
theorem Sat.dfr (h : Sat E ρ V Z O a w) {F : Nat -> Option AObj} (hF : ∀ id o, F id = some o -> O.hp id = some o) {O' : St}
    (hfr:∀ t x',O'.fr t=some x'->∃ x,O.fr t=some x/\Dsn F x x') (hhp:∀ id o',O'.hp id=some o'->F id=none/\O.hp id=some o'):Sat E ρ V (ZR ρ Z ⟨fun _=>none,F,0⟩) O' a w:=by
  have g:=h.frz (F:=F) hF (O':=⟨fun _=>none,O'.hp,O'.nx⟩) (fun t x' hx=>by cases hx) (fun id o' ho=>⟨(hhp id o' ho).1,o',(hhp id o' ho).2,SnpO.refl _⟩)
  exact⟨g.nt,g.df,fun t x' hx=>by
    obtain⟨x,h1,h2⟩:=hfr t x' hx
    exact h2.rel (h.hs.sub hF) (h.fr t x h1),g.hs,g.ext,g.ownd,g.z0,g.zn,g.pn⟩
theorem AW.dfr {c : Code} {Q : AEx -> St -> Prop} {O' : St} (F : Nat -> Option AObj) (hF : ∀ id o, F id = some o -> O.hp id = some o)
    (hfr:∀ t x',O'.fr t=some x'->∃ x,O.fr t=some x/\Dsn F x x') (hhp:∀ id o',O'.hp id=some o'->F id=none/\O.hp id=some o') (hnx:O'.nx=O.nx) (h:AW P E c Q O'):AW P E c Q O:=
  fun ρ V Z a w hs hV=>h _ _ _ a w (hs.dfr hF hfr hhp) (fun id hid=>by rw[hnx];exact hV id hid)
theorem CallB.dfr {g : FuncId} {us : List AV} {k : Nat} {d : Option Nat} {K : St -> Prop} {Kp : AV -> St -> Prop} (F : Nat -> Option AObj) (n : Nat) (hp' : Nat -> Option AObj) (hF : ∀ id o, F id = some o -> O.hp id = some o)
    (hhp:∀ id o',hp' id=some o'->F id=none/\O.hp id=some o') (hok:∀ x,x∈us->x.dsnOk F n) (h:CallB P g (us.map (AV.dsn F n)) ⟨O.fr,hp',O.nx⟩ k d K Kp):CallB P g us O k d K Kp:=by
  refine⟨h.1,fun E ρ V Z a w args hs hV hd hsz hrel=>?_⟩
  have hs':=hs.dfr (F:=F) hF (O':=⟨O.fr,hp',O.nx⟩) (fun t x' hx=>⟨x',hx,.inl rfl⟩) hhp
  exact h.2 E ρ V _ a w args hs' hV hd (by rw[List.length_map];exact hsz) (fun i hi=>by
    rw[List.length_map] at hi
    rw[getD_map hi]
    exact XJ (hs.hs.sub hF) n (hrel i hi) (hok _ (yn hi)))
def Yv (L:List Nat) (h:Nat->Option AObj) (id:Nat):Option AObj:=if id∈L then h id else none
def gL (L:List Nat) (h:Nat->Option AObj) (id:Nat):Option AObj:=if id∈L then none else h id
theorem CallB.dfrL {g : FuncId} {us us' : List AV} {k : Nat} {d : Option Nat} {K : St -> Prop} {Kp : AV -> St -> Prop} (L : List Nat) (n : Nat) (he : us.map (AV.dsn (Yv L O.hp) n) = us') (hok : ∀ x, x ∈ us -> x.dsnOk (Yv L O.hp) n)
    (h:CallB P g us' ⟨O.fr,gL L O.hp,O.nx⟩ k d K Kp):CallB P g us O k d K Kp:=by
  subst he
  refine CallB.dfr (Yv L O.hp) n (gL L O.hp) (fun id o ho=>?_) (fun id o ho=>?_) hok h
  · unfold Yv at ho;split at ho
    · exact ho
    · cases ho
  · unfold gL at ho;split at ho
    · cases ho
    · rename_i hn;exact⟨if_neg hn,ho⟩
theorem AW.dfrL {c : Code} {Q : AEx -> St -> Prop} (L : List Nat) (n : Nat) (fr : List (Nat × AV)) (hfr : ∀ p, p ∈ fr -> ∃ x, O.fr p.1 = some x /\ x.dsnOk (Yv L O.hp) n /\ x.dsn (Yv L O.hp) n = p.2)
    (h:AW P E c Q ⟨jL fr,gL L O.hp,O.nx⟩):AW P E c Q O:=by
  have hmem:∀ {fr:List (Nat×AV)} {t:Nat} {x:AV},jL fr t=some x->(t,x)∈fr:=by
    intro fr
    induction fr with
    |nil=>intro t x h;cases h
    |cons p fr ih=>
      intro t x h
      obtain⟨t',x'⟩:=p
      simp only[jL,upd] at h
      split at h
      · rename_i e;cases h;simp[e]
      · exact List.mem_cons_of_mem _ (ih h)
  refine AW.dfr (O':=⟨jL fr,gL L O.hp,O.nx⟩) (Yv L O.hp) (fun id o ho=>?_) (fun t x' hx=>?_) (fun id o ho=>?_) rfl h
  · unfold Yv at ho;split at ho
    · exact ho
    · cases ho
  · obtain⟨x,h1,h2,h3⟩:=hfr _ (hmem hx)
    exact⟨x,h1,.inr ⟨n,h2,h3.symm⟩⟩
  · simp only[gL] at ho;split at ho
    · cases ho
    · rename_i hn;exact⟨if_neg hn,ho⟩
section
variable {F:Nat->Option AObj} {n:Nat}
def jgy (F:Nat->Option AObj) (n:Nat) (id:Nat):Option AObj->AV
 |some (.row _ l)=> .sl (l.map (AV.dsn F n))
 |_=> .rw id
def xJ (F:Nat->Option AObj) (n:Nat):Option AObj->Prop
 |some (.row _ l)=>∀ e,e∈l->AV.dsnOk F n e/\(e.dsn F n).cells.all AV.clo=true
 |_=>True
@[go_sem] theorem jnD {id:Nat} :AV.dsn F (n+1) (.rw id)=jgy F n id (F id):=by
 simp only[AV.dsn,jgy]
@[go_sem] theorem jj4 {id sz:Nat} {l:List AV} :jgy F n id (some (.row sz l))= .sl (l.map (AV.dsn F n)):=_root_.id rfl
@[go_sem] theorem jmu {l:List AV} :AV.dsn F (n+1) (.agg l)= .agg (l.map (AV.dsn F n)):=_root_.id rfl
@[go_sem] theorem jmv {k:IntKind} {i:Int} :AV.dsn F (n+1) (.int k i)= .int k i:=_root_.id rfl
@[go_sem] theorem jmw {s:ByteArray} :AV.dsn F (n+1) (.str s)= .str s:=_root_.id rfl
@[go_sem] theorem jnE {l:List AV} :AV.dsn F (n+1) (.sl l)= .sl l:=_root_.id rfl
@[go_sem] theorem jj2 {id:Nat} :AV.dsnOk F (n+1) (.rw id)=xJ F n (F id):=by
 simp only[AV.dsnOk,xJ]
@[go_sem] theorem jgz {sz:Nat} {l:List AV} :xJ F n (some (.row sz l))= ∀ e,e∈l->AV.dsnOk F n e/\(e.dsn F n).cells.all AV.clo=true:=_root_.id rfl
@[go_sem] theorem jit {l:List AV} :AV.dsnOk F (n+1) (.agg l)= ∀ e,e∈l->AV.dsnOk F n e:=_root_.id rfl
@[go_sem] theorem jiu {k:IntKind} {i:Int} :AV.dsnOk F (n+1) (.int k i)=True:=_root_.id rfl
@[go_sem] theorem jiv {s:ByteArray} :AV.dsnOk F (n+1) (.str s)=True:=_root_.id rfl
@[go_sem] theorem jj3 {l:List AV} :AV.dsnOk F (n+1) (.sl l)=True:=_root_.id rfl
@[go_sem] theorem jjp {L:List Nat} {h:Nat->Option AObj} {id:Nat} :Yv L h id=if id∈L then h id else none:=_root_.id rfl
@[go_sem] theorem jlM {L:List Nat} {h:Nat->Option AObj} {id:Nat} :gL L h id=if id∈L then none else h id:=_root_.id rfl
end
theorem jU {O:St} {t:Nat} {ty:TypeId} {id off:Nat} {T:TI} {l:List AV} {x:AV} (h1:O.fr t=some (.ptr id off)) (h2:ti P ty=some T) (h3:O.hp id=some (.cells l)) (h4:ldA T l off=some x):Jy P [.cell t ty] O=some x:=by
 simp[Jy,rvA,h1,h2,h3,h4]
theorem CallB.dpure {g : FuncId} {us us' : List AV} {r : AV} {k : Nat} {d : Option Nat} {K : St -> Prop} {Kp : AV -> St -> Prop} (L : List Nat) (n : Nat) (h : PCall P g us' r) (he : us.map (AV.dsn (Yv L O.hp) n) = us') (hok : ∀ x, x ∈ us -> x.dsnOk (Yv L O.hp) n)
    (hu:∀ h,AV.snapL h us'=us') (hs:∀ h,AV.snapOkL h us') (hf:us'.all AV.noRw=true) (hk:K (St.put ⟨O.fr,gL L O.hp,O.nx⟩ d r)):CallB P g us O k d K Kp:=
  CallB.dfrL L n he hok (CallB.of_P ⟨hs _,r,RCall.of_P (by rw[hu];exact h) _,.inr hf,hk⟩)
theorem Qv {c:Code} {Q:AEx->St->Prop} (t id:Nat) {sz:Nat} {xs:List AV} (hx:O.fr t=some (.rw id)) (h:O.hp id=some (.row sz xs)) (hc:j8 xs) (h2:AW P E c Q ⟨upd O.fr t (.sl xs),jb O.hp id none,O.nx⟩):AW P E c Q O:=by
 refine AW.frz (O':=⟨upd O.fr t (.sl xs),jb O.hp id none,O.nx⟩) (fun i=>if i=id then some (.row sz xs) else none) (fun i o h'=>?_) (fun t' x' h'=>?_) (fun i o' h'=>?_) rfl h2
 ·split at h'
  ·rename_i e;subst e;cases h';exact h
  ·cases h'
 ·simp only[upd] at h'
  split at h'
  ·rename_i e
   subst e
   cases h'
   refine⟨_,hx,.inr ⟨?_,?_⟩⟩
   ·rw[AV.snapOk];simpa using hc
   ·rw[AV.snap];simp
  ·exact⟨x',h',.inl rfl⟩
 ·simp only[jb] at h'
  split at h'
  ·cases h'
  ·rename_i e;exact⟨if_neg e,o',h',SnpO.refl _⟩
end Go.Am

namespace Go.Am
variable {P:Program} {E:En} {Q:AEx->St->Prop}
attribute [go_sem] Option.toList_some Option.toList_none List.append_nil
theorem jgi {N : Nat} {id : Nat} {l : List Oper} {fs : List Fm} {ds : List (Option Nat)} {fr : Nat -> Option AV} {hp : Nat -> Option AObj} {nx : Nat} (mid : St) (T : Tr) (hm : P.follows .mixedOrders = true) (hE : E.nt = N)
    (hrest:∀ O m,Ent E.np m O mid->Kq P E fs Q .norm O) (h:∀ (Kp:AV->St->Prop),(∀ x O',Q (.pan x) O'->Kp x O')->gx P ds l (fun O'=>∃ m,Ent E.np m O' mid) Kp T ⟨fr,hp,nx⟩)
    (hd:yB N l.toArray=true:=by rfl) (hback:YL l.toArray=true:=by rfl) (hT:okT l.length T l.zipIdx=true:=by rfl) (hds:l.map (·.dst)=ds:=by(simp only[List.map_cons,List.map_nil];rfl)):
    AW P E (.region id l.toArray true) (Kq P E fs Q) ⟨fr,hp,nx⟩:=by
  refine jjI (n:=l.length) T hm (by rw[hE];exact hd) hback hT rfl hds fun K Kp hK hKp=>?_
  refine xS (K:=fun O'=>∃ m,Ent E.np m O' mid) (fun O' hO=>?_) T _ (h Kp hKp)
  obtain⟨m,he⟩:=hO
  exact hK _ (hrest _ m ⟨he.1,he.2.1,he.2.2.1,he.2.2.2⟩)
end Go.Am
