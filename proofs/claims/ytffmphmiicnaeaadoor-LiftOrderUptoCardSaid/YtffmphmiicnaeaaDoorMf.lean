/- A part of the proof: an abstract machine for the walks, and what the walked functions compute. -/
import Derived.Recover
import Derived.Test.YtffmphmiicnaeaaDoorMe
set_option linter.unusedVariables false
set_option linter.unusedSimpArgs false
namespace Go.Am
variable {P:Program} {E:En} {ρ ρ':Nat→Ref} {V V':Nat→Prop} {Z:Nat→Nat→Prop} {σ:St} {a:Act} {w:World}
theorem fwd_list (m : Nat → Nat) {n : Nat} {l : List AV} {f : Nat → Value} (hp : AV.idsL (· < n) l) (ih : ∀ y, y ∈ l → ∀ v, y.ids (· < n) → Rel ρ V Z w v y → Rel ρ' V' Z w v (y.ren m))
    (h:∀ i,i<l.length→Rel ρ V Z w (f i) (l.getD i default)):∀ i,i<(AV.renL m l).length→Rel ρ' V' Z w (f i) ((AV.renL m l).getD i default):=by
  intro i hi
  rw[renL_len] at hi
  rw[renL_getD m l i hi]
  have hm:l.getD i default∈l:=by
    have:l.getD i default=l[i]:=by simp[List.getD_eq_getElem?_getD,hi]
    rw[this];exact List.getElem_mem hi
  exact ih _ hm _ (idsL_getD l i hi hp) (h i hi)
mutual
theorem rel_fwd (m:Nat→Nat) {n:Nat} (hm:∀ id,id<n→V id→V' (m id)∧ρ' (m id)=ρ id):∀ (x:AV) (v:Value),x.ids (· <n)→Rel ρ V Z w v x→Rel ρ' V' Z w v (x.ren m)
 | .ptr id o,v,hp,h=>by obtain⟨rfl,h2⟩:=h.ptr_inv;have h3:=hm id hp h2;rw[← h3.2];exact .ptr (m id) o h3.1
 | .rptr id sz i o,v,hp,h=>by obtain⟨rfl,h2⟩:=h.rptr_inv;have h3:=hm id hp h2;rw[← h3.2];exact .rptr (m id) sz i o h3.1
 | .rw id,v,hp,h=>by obtain⟨rfl,h2⟩:=h.rw_inv;have h3:=hm id hp h2;rw[← h3.2];exact .rw (m id) h3.1
 | .mp id,v,hp,h=>by obtain⟨rfl,h2⟩:=h.mp_inv;have h3:=hm id hp h2;rw[← h3.2];exact .mp (m id) h3.1
 | .fn f a b,v,hp,h=>by
  obtain⟨fs,cs,rfl,h1,h2,h3,h4⟩:=h.fn_inv
  exact .fn f fs cs _ _ (by rw[renL_len];exact h1) (by rw[renL_len];exact h2) (fwd_list m hp.1 (fun y hy v=>rel_fwdL m hm a y hy v) h3) (fwd_list m hp.2 (fun y hy v=>rel_fwdL m hm b y hy v) h4)
 | .iface t y,v,hp,h=>by
  obtain⟨u,rfl,h1⟩:=h.iface_inv
  exact .iface t u _ (rel_fwd m hm y u hp h1)
 | .agg l,v,hp,h=>by
  obtain⟨cs,rfl,h1,h2,h3⟩:=h.agg_inv
  refine .agg cs _ (by rw[renL_len];exact h1) (fun i hi=>?_) (fwd_list m hp (fun y hy v=>rel_fwdL m hm l y hy v) h3)
  rw[renL_len] at hi
  rw[renL_getD m l i hi,ren_one]
  exact h2 i hi
 | .tup l,v,hp,h=>by
  obtain⟨cs,rfl,h1,h3⟩:=h.tup_inv
  exact .tup cs _ (by rw[renL_len];exact h1) (fwd_list m hp (fun y hy v=>rel_fwdL m hm l y hy v) h3)
 | .bool b,v,_,h=>clo_rel h rfl _ _
 | .int k i,v,_,h=>clo_rel h rfl _ _
 | .str s,v,_,h=>clo_rel h rfl _ _
 | .nilp,v,_,h=>clo_rel h rfl _ _
 | .eptr e o,v,_,h=>clo_rel h rfl _ _
 | .nilsl,v,_,h=>clo_rel h rfl _ _
 | .sl l,v,_,h=>clo_rel h rfl _ _
 | .nilmap,v,_,h=>clo_rel h rfl _ _
 | .nilfn,v,_,h=>clo_rel h rfl _ _
 | .nilif,v,_,h=>clo_rel h rfl _ _
theorem rel_fwdL (m:Nat→Nat) {n:Nat} (hm:∀ id,id<n→V id→V' (m id)∧ρ' (m id)=ρ id):∀ (l:List AV) (y:AV),y∈l→∀ (v:Value),y.ids (· <n)→Rel ρ V Z w v y→Rel ρ' V' Z w v (y.ren m)
 | [],y,hy,_,_,_=>absurd hy List.not_mem_nil
 |x::l,y,hy,v,hp,h=>by
  rcases List.mem_cons.1 hy with e|e
  ·rw[e] at hp h ⊢;exact rel_fwd m hm x v hp h
  ·exact rel_fwdL m hm l y e v hp h
end
theorem obj_fwd (m:Nat→Nat) {n id:Nat} {o:AObj} (hm:∀ id,id<n→V id→V' (m id)∧ρ' (m id)=ρ id) (hid:id<n) (hv:V id) (hp:o.ids (· <n)) (h:ObjRel ρ V Z w id o):ObjRel ρ' V' Z w (m id) (o.ren m):=by
 have hr:=(hm id hid hv).2
 cases o with
 |cells l=>
  obtain⟨h0,cs,ty,h1,h2,h3⟩:=h
  refine⟨by rw[hr];exact h0,cs,ty,by rw[hr];exact h1,by rw[renL_len];exact h2,fun i hi=>?_⟩
  rw[renL_len] at hi
  rw[renL_getD m l i hi,ren_one]
  exact⟨(h3 i hi).1,rel_fwd m hm _ _ (idsL_getD l i hi hp) (h3 i hi).2⟩
 |row sz l=>
  rcases h with ⟨h0,h1⟩|⟨h0,cs,ty,h1,h2,h3,h4,h5,h6⟩
  ·subst h1;exact .inl ⟨by rw[hr];exact h0,rfl⟩
  ·refine .inr ⟨by rw[hr];exact h0,cs,ty,by rw[hr];exact h1,by rw[hr,renL_len];exact h2,by rw[hr,renL_len];exact h3,by rw[hr];exact h4,fun i hi=>?_,fun i j hi hj=>?_⟩
   ·rw[renL_len] at hi
    rw[renL_getD m l i hi,ren_cells,renL_len]
    exact h5 i hi
   ·rw[renL_len] at hi
    have hlen:=h5 i hi
    rw[renL_getD m l i hi,ren_cells,renL_getD m _ j (by omega),ren_one,hr]
    exact⟨(h6 i j hi hj).1,rel_fwd m hm _ _ (idsL_getD _ j (by omega) (ids_cells (idsL_getD l i hi hp))) (h6 i j hi hj).2⟩
 |map es=>
  obtain⟨h0,ents,clock,h1,h2,h3⟩:=h
  refine⟨by rw[hr];exact h0,ents,clock,by rw[hr];exact h1,by rw[List.length_map];exact h2,fun i hi=>?_⟩
  rw[List.length_map] at hi
  have e:(es.map fun p=>(p.1.ren m,p.2.ren m)).getD i default=((es.getD i default).1.ren m,(es.getD i default).2.ren m):=by
   simp[List.getD_eq_getElem?_getD,hi]
  rw[e]
  have hm':es.getD i default∈es:=by
   have:es.getD i default=es[i]:=by simp[List.getD_eq_getElem?_getD,hi]
   rw[this];exact List.getElem_mem hi
  exact⟨rel_fwd m hm _ _ (hp _ hm').1 (h3 i hi).1,rel_fwd m hm _ _ (hp _ hm').2 (h3 i hi).2⟩
 |lp q l=>
  obtain⟨h0,h1,tmps,ds,h2,h3,h4⟩:=h
  refine⟨by rw[hr];exact h0,by rw[hr];exact h1,tmps,ds,by rw[hr];exact h2,h3,fun i hi=>?_⟩
  rw[renL_len] at hi
  rw[renL_getD m l i hi]
  exact rel_fwd m hm _ _ (idsL_getD l i hi hp) (h4 i hi)
def OwnB (ρ:Nat→Ref) (hp:Nat→Option AObj) (b:Nat):Prop:=∃ id o,hp id=some o∧(ρ id).at b
def ACall (P:Program) (f:FuncId) (vs:List AV) (hp:Nat→Option AObj) (nx np:Nat) (R Rp:AV→(Nat→Option AObj)→Prop):Prop:=
 isFn P f=true∧∀ (ρ:Nat→Ref) (V:Nat→Prop) (Z:Nat→Nat→Prop) (w:World) (args:Array Value),HSat ρ V Z w hp→(∀ id,id<np→V id)→(∀ id,V id→id<nx)→args.size=vs.length→
  (∀ i,i<vs.length→Rel ρ V Z w (args.getD i undef) (vs.getD i default))→
  Calls P f args w fun e w'=>∃ ρ' V' Z' hp',HSat ρ' V' Z' w' hp'∧Ext w w' (OwnB ρ hp)∧(∀ id,id<np→V' id∧ρ' id=ρ id)∧(∀ b o,Z b o→Z' b o)∧
   (∀ b o,Z' b o→Z b o∨w.heap.size≤b∨OwnB ρ hp b)∧(∀ id o b,hp' id=some o→(ρ' id).at b→b<w.heap.size→OwnB ρ hp b)∧
   ((∃ v r,e= .returned v∧Rel ρ' V' Z' w' v r∧R r hp')∨∃ v x,e= .panicked [{ v,recovered:=false }]∧Rel ρ' V' Z' w' v x∧Rp x hp')
theorem getD_args {args:Array Value} {n t:Nat} (h:t<args.size):(args++Array.replicate n undef).getD t undef=args.getD t undef:=by
 simp only[Array.getD_eq_getD_getElem?];rw[Array.getElem?_append_left h]
theorem sat_start {vs : List AV} {hp : Nat → Option AObj} {nx np n : Nat} {args : Array Value} (hn : vs.length ≤ n) (hh : HSat ρ V Z w hp) (hnp : ∀ id, id < np → V id) (hsz : args.size = vs.length)
    (hrel:∀ i,i<vs.length→Rel ρ V Z w (args.getD i undef) (vs.getD i default)):
    Sat ⟨n,[],w,OwnB ρ hp,Z,np,ρ,none,true,true⟩ ρ V Z ⟨mkPar 0 vs,hp,nx⟩ { tmps:=args++Array.replicate (n - args.size) undef,defers:=[] } w:=by
  refine⟨?_,⟨[],rfl,⟨by simp,by simp⟩,fun _=>rfl⟩,fun t x hx=>?_,hh,⟨fun _ _ _=>rfl,Nat.le_refl _,rfl,rfl,?_⟩,fun id o b h1 h2 _=>⟨id,o,h1,h2⟩,fun _ _ h=>h,fun _ _ h=> .inl h,fun id hid=>⟨hnp id hid,rfl⟩⟩
  · simp;omega
  · replace hx:mkPar 0 vs t=some x:=hx
    rw[mkPar_eq] at hx
    simp only[Nat.zero_le,if_true,Nat.sub_zero] at hx
    have hlt:t<vs.length:=by
      rcases Nat.lt_or_ge t vs.length with h'|h'
      · exact h'
      · rw[List.getElem?_eq_none h'] at hx;cases hx
    have h1:=hrel t hlt
    have e1:vs.getD t default=x:=by simp[List.getD_eq_getElem?_getD,hx]
    rw[e1] at h1
    show Rel ρ V Z w ((args++Array.replicate (n - args.size) undef).getD t undef) x
    rw[getD_args (by omega)]
    exact h1
  · trivial
theorem sat_startF {vs : List AV} {hp : Nat → Option AObj} {nx np n : Nat} {args : Array Value} (hn : vs.length ≤ n) (hh : HSat ρ V Z w hp) (hnp : ∀ id, id < np → V id) (hsz : args.size = vs.length)
    (hrel:∀ i,i<vs.length→Rel ρ V Z w (args.getD i undef) (vs.getD i default)):
    Sat ⟨n,[],w,OwnB ρ hp,Z,np,ρ,none,false,false⟩ ρ V Z ⟨mkPar 0 vs,hp,nx⟩ { tmps:=args++Array.replicate (n - args.size) undef,defers:=[] } w:=by
  have h:=sat_start (nx:=nx) hn hh hnp hsz hrel
  exact⟨h.nt,⟨[],rfl,⟨by simp,by simp⟩,fun _=>rfl⟩,h.fr,h.hs,h.ext,h.ownd,h.z0,h.zn,h.pn⟩
theorem DfOk.none {E:En} {w:World} {a:Act} (h:DfOk E w a) (hE:E.mks=false):a.defers=E.D:=by
 obtain⟨M,h1,_,h2⟩:=h
 rw[h2 hE,List.nil_append] at h1
 exact h1
theorem ACall.of_bodyM {f : FuncId} {fn : Func} {c : Code} {vs : List AV} {hp : Nat → Option AObj} {nx np : Nat} {R Rp : AV → (Nat → Option AObj) → Prop} (hf : P.funcs[f]? = some fn) (hfn : isFn P f = true) (hb : fn.body = some c) (hn : vs.length ≤ fn.ntmps)
    (h:∀ (E:En) (Q:AEx→St→Prop),E.nt=fn.ntmps→E.np=np→(E.rd=none∧E.mks=true∧E.ex=true)→(∀ σ,(∃ r,resA P fn.results.toList σ=some r∧R r σ.hp)→Q .ret σ∧Q .norm σ)→(∀ x σ,Rp x σ.hp→Q (.pan x) σ)→AW P E c Q ⟨mkPar 0 vs,hp,nx⟩):ACall P f vs hp nx np R Rp:=by
  refine⟨hfn,fun ρ V Z w args hh hnp hnx hsz hrel=>?_⟩
  have hsat:=sat_start (nx:=nx) hn hh hnp hsz hrel
  have hbody:=h _ (fun e σ=>match e with| .ret| .norm=>∃ r,resA P fn.results.toList σ=some r∧R r σ.hp| .pan x=>Rp x σ.hp| .exit _=>False) rfl rfl ⟨rfl,rfl,rfl⟩ (fun σ hσ=>⟨hσ,hσ⟩) (fun x σ hσ=>hσ) ρ V Z _ w hsat hnx
  refine calls_of_sat hf hb rfl rfl hbody ?_ ?_ (fun j σ h=>h)
  · rintro ρ' V' Z' σ a w' h3 hq _
    obtain⟨r,hr,hR⟩:∃ r,resA P fn.results.toList σ=some r∧R r σ.hp:=hq.elim (fun h=>h) (fun h=>h)
    obtain⟨v,hv1,hv2⟩:=results_run h3 hr
    exact⟨v,hv1,ρ',V',Z',σ.hp,h3.hs,h3.ext,h3.pn,h3.z0,h3.zn,h3.ownd,.inl ⟨v,r,rfl,hv2,hR⟩⟩
  · rintro ρ' V' Z' σ a w' v x h3 hv h2
    exact⟨ρ',V',Z',σ.hp,h3.hs,h3.ext,h3.pn,h3.z0,h3.zn,h3.ownd,.inr ⟨v,_,rfl,hv,h2⟩⟩
theorem ACall.of_body {f : FuncId} {fn : Func} {c : Code} {vs : List AV} {hp : Nat → Option AObj} {nx np : Nat} {R Rp : AV → (Nat → Option AObj) → Prop} (hf : P.funcs[f]? = some fn) (hfn : isFn P f = true) (hb : fn.body = some c) (hn : vs.length ≤ fn.ntmps)
    (h:∀ (E:En) (Q:AEx→St→Prop),E.nt=fn.ntmps→E.np=np→(∀ σ,(∃ r,resA P fn.results.toList σ=some r∧R r σ.hp)→Q .ret σ∧Q .norm σ)→(∀ x σ,Rp x σ.hp→Q (.pan x) σ)→AW P E c Q ⟨mkPar 0 vs,hp,nx⟩):ACall P f vs hp nx np R Rp:=
  ACall.of_bodyM hf hfn hb hn fun E Q h1 h2 _=>h E Q h1 h2
theorem CallB.of_P {g:FuncId} {us:List AV} {k:Nat} {d:Option Nat} {K:St→Prop} {Kp:AV→St→Prop} (hc:CallP P g us σ d K):CallB P g us σ k d K Kp:=by
 obtain⟨hok,r,hR,hfl,hk⟩:=hc
 refine⟨hR.1,fun E ρ V Z a w args h hV hd hsz hargs=>(rcall_run h hd hok hR hfl hsz hargs).mono ?_⟩
 rintro e w' ⟨v,Z',rfl,hS⟩
 exact⟨ρ,V,Z',fun id hid=> .inl hid,fun _ h=>h,.inl ⟨v,_,rfl,St.put_nx _ _ _,hk,hS⟩⟩
theorem CallB_mk {g:FuncId} {vs us:List AV} {r:AV} {k:Nat} {d:Option Nat} {K:St→Prop} {Kp:AV→St→Prop} (hu:AV.snapL σ.hp vs=us) (h:PCall P g us r) (hs:AV.snapOkL σ.hp vs) (hf:r.flatR=true∨vs.all AV.noRw=true) (hk:K (σ.put d r)) {tg:Tg (CallB P g vs σ k d K Kp)} :Hold (CallB P g vs σ k d K Kp) tg:=
 CallB.of_P ⟨hs,r,RCall.of_P (by rw[hu];exact h) _,hf,hk⟩
instance {g:FuncId} {vs:List AV} {k:Nat} {d:Option Nat} {K:St→Prop} {Kp:AV→St→Prop} :Cm (CallB P g vs σ k d K Kp) P g vs σ d K:=⟨CallB.of_P⟩
def backM (m:Nat→Nat) (np base:Nat) (j:Nat):Nat:=if j<np then m j else base+(j - np)
structure Back (σ σ':St) (m:Nat→Nat) (hp:Nat→Option AObj) (np base:Nat) (d:Option Nat) (r:Option AV) (hp':Nat→Option AObj):Prop where
 nx:σ'.nx=σ.nx
 fr:σ'.fr=(match r with|some r=>(σ.put d (r.ren (backM m np base))).fr|none=>σ.fr)
 obj:∀ j o,hp' j=some o→σ'.hp (backM m np base j)=some (o.ren (backM m np base))
 old:∀ id o,σ.hp id=some o→(∀ j,hp j≠none→m j≠id)→σ'.hp id=some o
def ACallG (Run:Array Value→World→(Ending→World→Prop)→Prop) (vs:List AV) (hp:Nat→Option AObj) (nx np:Nat) (R Rp:AV→(Nat→Option AObj)→Prop):Prop:=
 ∀ (ρ:Nat→Ref) (V:Nat→Prop) (Z:Nat→Nat→Prop) (w:World) (args:Array Value),HSat ρ V Z w hp→(∀ id,id<np→V id)→(∀ id,V id→id<nx)→args.size=vs.length→
  (∀ i,i<vs.length→Rel ρ V Z w (args.getD i undef) (vs.getD i default))→
  Run args w fun e w'=>∃ ρ' V' Z' hp',HSat ρ' V' Z' w' hp'∧Ext w w' (OwnB ρ hp)∧(∀ id,id<np→V' id∧ρ' id=ρ id)∧(∀ b o,Z b o→Z' b o)∧
   (∀ b o,Z' b o→Z b o∨w.heap.size≤b∨OwnB ρ hp b)∧(∀ id o b,hp' id=some o→(ρ' id).at b→b<w.heap.size→OwnB ρ hp b)∧
   ((∃ v r,e= .returned v∧Rel ρ' V' Z' w' v r∧R r hp')∨∃ v x,e= .panicked [{ v,recovered:=false }]∧Rel ρ' V' Z' w' v x∧Rp x hp')
def CallG (Run:Array Value→World→(Ending→World→Prop)→Prop) (vs:List AV) (σ:St) (k:Nat) (dst:Option Nat) (K:St→Prop) (Kp:AV→St→Prop):Prop:=
  ∀ (E:En) ρ V Z a w (args:Array Value),Sat E ρ V Z σ a w→(∀ id,V id→¬ (σ.nx+1048576*k≤id∧id<σ.nx+1048576*k+1048576))→(∀ n,dst=some n→n<E.nt)→args.size=vs.length→
    (∀ i,i<vs.length→Rel ρ V Z w (args.getD i undef) (vs.getD i default))→
    Run args w fun e w'=>∃ ρ' V' Z',(∀ id,V' id→V id∨(σ.nx+1048576*k≤id∧id<σ.nx+1048576*k+1048576))∧(∀ id,V id→V' id)∧
      ((∃ v σ',e= .returned v∧σ'.nx=σ.nx∧K σ'∧Sat E ρ' V' Z' σ' (a.put dst v) w')∨
       (∃ v x σ',e= .panicked [{ v,recovered:=false }]∧σ'.nx=σ.nx∧Kp x σ'∧Rel ρ' V' Z' w' v x∧Sat E ρ' V' Z' σ' a w'))
def YCall (P:Program) (l:Nat) (vs:List AV) (hp:Nat→Option AObj) (nx np:Nat) (R Rp:AV→(Nat→Option AObj)→Prop):Prop:=ACallG (YRuns P l) vs hp nx np R Rp
theorem callG_of_A {Run : Array Value → World → (Ending → World → Prop) → Prop} (hmono : ∀ {args w} {R R' : Ending → World → Prop}, Run args w R → (∀ e w', R e w' → R' e w') → Run args w R') {vs : List AV} {hp : Nat → Option AObj} {nx np : Nat} {R Rp : AV → (Nat → Option AObj) → Prop} (hA : ACallG Run vs hp nx np R Rp) (m : Nat → Nat) {us : List AV} {k : Nat} {d : Option Nat} {K : St → Prop} {Kp : AV → St → Prop}
    (hus:us=AV.renL m vs) (hids:AV.idsL (· <nx) vs) (h1:∀ id o,hp id=some o→σ.hp (m id)=some (o.ren m)∧id<nx∧o.ids (· <nx)) (h2:∀ id id' o o',hp id=some o→hp id'=some o'→m id=m id'→id=id')
    (h3:∀ id,id<np→id<nx∧hp id≠none)
    (hR:∀ r hp',R r hp'→r.ids (· <np+1048576)∧∀ id o,hp' id=some o→id<np+1048576∧o.ids (· <np+1048576))
    (hRp:∀ r hp',Rp r hp'→r.ids (· <np+1048576)∧∀ id o,hp' id=some o→id<np+1048576∧o.ids (· <np+1048576))
    (hK:∀ r hp' σ',R r hp'→Back σ σ' m hp np (σ.nx+1048576*k) d (some r) hp'→K σ')
    (hKp:∀ x hp' σ',Rp x hp'→Back σ σ' m hp np (σ.nx+1048576*k) d none hp'→Kp (x.ren (backM m np (σ.nx+1048576*k))) σ'):CallG Run us σ k d K Kp:=by
  subst hus
  intro E ρ V Z a w args hs hV hd hsz hrel
  rw[renL_len] at hsz hrel
  have hh:HSat (fun i=>ρ (m i)) (fun i=>i<nx∧V (m i)) Z w hp:=by
    refine⟨fun id o ho=>?_,fun id id' o o' b ho ho' hb hb'=>?_,fun id o b ho hb=>?_,hs.hs.lt,hs.hs.gl⟩
    · obtain⟨g1,g2,g3⟩:=h1 id o ho
      obtain⟨g4,g5⟩:=hs.hs.obj _ _ g1
      exact⟨⟨g2,g4⟩,obj_ren m g3 g5⟩
    · exact h2 id id' o o' ho ho' (hs.hs.inj _ _ _ _ b (h1 id o ho).1 (h1 id' o' ho').1 hb hb')
    · exact hs.hs.sep _ _ b (h1 id o ho).1 hb
  have hpV:∀ id,id<np→V (m id):=by
    intro id hid
    obtain⟨g1,g2⟩:=h3 id hid
    cases ho:hp id with
    |none=>exact absurd ho g2
    |some o=>exact(hs.hs.obj _ _ (h1 id o ho).1).1
  refine hmono (hA _ _ Z w args hh (fun id hid=>⟨(h3 id hid).1,hpV id hid⟩) (fun id hid=>hid.1) hsz ?_) ?_
  · intro i hi
    have:=hrel i hi
    rw[renL_getD m vs i hi] at this
    exact rel_ren m _ _ (idsL_getD vs i hi hids) this
  rintro e w' ⟨ρ',V',Z',hp',k1,k2,k3,k4,k5,k6,k7⟩
  generalize hbase:σ.nx+1048576*k=base at*
  have hown:∀ b,OwnB (fun i=>ρ (m i)) hp b→b<E.w0.heap.size→E.own b:=by
    rintro b ⟨id,o,g1,g2⟩ hb
    exact hs.ownd _ _ b (h1 id o g1).1 g2 hb
  have hownZ:∀ b,OwnB (fun i=>ρ (m i)) hp b→∀ off,¬ Z b off:=by
    rintro b ⟨id,o,g1,g2⟩
    exact hs.hs.sep _ _ b (h1 id o g1).1 g2
  have hkeep:∀ b,b<w.heap.size→¬ OwnB (fun i=>ρ (m i)) hp b→w'.heap[b]? =w.heap[b]? :=k2.old
  have hdfw:∀ a2:Act,a2.defers=a.defers→DfOk E w' a2:=by
    intro a2 ha2
    obtain⟨M,m1,⟨m2,m3⟩,m4⟩:=hs.df
    refine⟨M,by rw[ha2];exact m1,⟨m2,fun dd hdd=>?_⟩,m4⟩
    obtain⟨b,rfl,hb,hbw⟩:=m3 dd hdd
    refine⟨b,rfl,?_,hbw⟩
    have hlt:b<w.heap.size:=by
      rcases Nat.lt_or_ge b w.heap.size with h1|h1
      · exact h1
      · rw[Array.getElem?_eq_none h1] at hb;cases hb
    rw[hkeep b hlt]
    · exact hb
    · rintro⟨id,o,g1,g2⟩
      exact(hh.obj id o g1).2.kind g2 _ hb
  have hcell:∀ b o,Z b o→w'.cell? ⟨b,o,none⟩=w.cell? ⟨b,o,none⟩:=fun b o hz=>cell?_of_heap (hkeep b (hs.hs.lt b o hz) (fun hb=>hownZ b hb o hz))
  let mm:=backM m np base
  let ρn:Nat→Ref:=fun id=>if base≤id∧id<base+1048576 then ρ' (id - base+np) else ρ id
  let Vn:Nat→Prop:=fun id=>V id∨(base≤id∧id<base+1048576∧V' (id - base+np))
  have hρV:∀ id,V id→ρn id=ρ id:=fun id hid=>if_neg (hV id hid)
  have hm:∀ j,j<np+1048576→V' j→Vn (mm j)∧ρn (mm j)=ρ' j:=by
    intro j hj hv
    by_cases hlt:j<np
    · have e:mm j=m j:=if_pos hlt
      rw[e]
      exact⟨.inl (hpV j hlt),(hρV _ (hpV j hlt)).trans (k3 j hlt).2.symm⟩
    · have e:mm j=base+(j - np):=if_neg hlt
      rw[e]
      have e2:base+(j - np) - base+np=j:=by omega
      refine⟨.inr ⟨by omega,by omega,by rw[e2];exact hv⟩,?_⟩
      show(if base≤base+(j - np)∧base+(j - np)<base+1048576 then ρ' (base+(j - np) - base+np) else ρ _)=_
      rw[if_pos ⟨by omega,by omega⟩,e2]
  have hinj:∀ j j',j<np+1048576→j'<np+1048576→mm j=mm j'→j=j':=by
    intro j j' hj hj' he
    by_cases hlt:j<np<;>by_cases hlt':j'<np
    · rw[show mm j=m j from if_pos hlt,show mm j'=m j' from if_pos hlt'] at he
      obtain⟨g1,g2⟩:=h3 j hlt
      obtain⟨g3,g4⟩:=h3 j' hlt'
      cases ho:hp j with
      |none=>exact absurd ho g2
      |some o=>
        cases ho':hp j' with
        |none=>exact absurd ho' g4
        |some o'=>exact h2 j j' o o' ho ho' he
    · rw[show mm j=m j from if_pos hlt,show mm j'=base+(j' - np) from if_neg hlt'] at he
      exact absurd ⟨by omega,by omega⟩ (hV _ (hpV j hlt))
    · rw[show mm j=base+(j - np) from if_neg hlt,show mm j'=m j' from if_pos hlt'] at he
      exact absurd ⟨by omega,by omega⟩ (hV _ (hpV j' hlt'))
    · rw[show mm j=base+(j - np) from if_neg hlt,show mm j'=base+(j' - np) from if_neg hlt'] at he
      omega
  classical
  let hpn:Nat→Option AObj:=fun id=>if h:∃ j o,hp' j=some o∧mm j=id then some (h.choose_spec.choose.ren mm) else if ∃ j,hp j≠none∧m j=id then none else if base≤id∧id<base+1048576 then none else σ.hp id
  have key : (∀ id o, hp' id = some o → id < np + 1048576 ∧ o.ids (· < np + 1048576)) → ∀ (a2 : Act) (fr2 : Nat → Option AV), a2.tmps.size = E.nt → DfOk E w' a2 → (∀ t x, fr2 t = some x → Rel ρn Vn Z' w' (a2.tmps.getD t undef) x) →
      Sat E ρn Vn Z' ⟨fr2,hpn,σ.nx⟩ a2 w'∧(∀ j o,hp' j=some o→hpn (mm j)=some (o.ren mm))∧(∀ id o,σ.hp id=some o→(∀ j,hp j≠none→m j≠id)→hpn id=some o):=by
    intro hB a2 fr2 hnt2 hdf2 hfr2
    have hn1:∀ j o,hp' j=some o→hpn (mm j)=some (o.ren mm):=by
      intro j o ho
      have hex:∃ j' o',hp' j'=some o'∧mm j'=mm j:=⟨j,o,ho,rfl⟩
      have g:hpn (mm j)=some (hex.choose_spec.choose.ren mm):=dif_pos hex
      have g2:=hex.choose_spec.choose_spec
      have g3:=hinj _ _ (hB _ _ g2.1).1 (hB _ _ ho).1 g2.2
      have g4:=g2.1.symm.trans ((congrArg hp' g3).trans ho)
      rw[g]
      exact congrArg some (congrArg (AObj.ren mm) (Option.some.inj g4))
    have hn2:∀ id o,hpn id=some o→(∃ j o',hp' j=some o'∧mm j=id∧o=o'.ren mm)∨(σ.hp id=some o∧∀ j,hp j≠none→m j≠id):=by
      intro id o ho
      by_cases hex:∃ j o',hp' j=some o'∧mm j=id
      · obtain⟨j,o',g1,g2⟩:=hex
        have:=hn1 j o' g1
        rw[g2,ho] at this
        exact .inl ⟨j,o',g1,g2,Option.some.inj this⟩
      · have g:hpn id=if ∃ j,hp j≠none∧m j=id then none else if base≤id∧id<base+1048576 then none else σ.hp id:=dif_neg hex
        rw[g] at ho
        by_cases hfp:∃ j,hp j≠none∧m j=id
        · rw[if_pos hfp] at ho;cases ho
        · rw[if_neg hfp] at ho
          by_cases hrg:base≤id∧id<base+1048576
          · rw[if_pos hrg] at ho;cases ho
          · rw[if_neg hrg] at ho
            exact .inr ⟨ho,fun j g1 g2=>hfp ⟨j,g1,g2⟩⟩
    have hoV:∀ id o,σ.hp id=some o→V id:=fun id o ho=>(hs.hs.obj id o ho).1
    have hob:∀ id o b,σ.hp id=some o→(∀ j,hp j≠none→m j≠id)→(ρ id).at b→b<w.heap.size∧¬ OwnB (fun i=>ρ (m i)) hp b:=by
      intro id o b ho hne hb
      refine⟨(hs.hs.obj id o ho).2.lt b hb,?_⟩
      rintro⟨j,o',g1,g2⟩
      exact hne j (by rw[g1];simp) (hs.hs.inj _ _ _ _ b (h1 j o' g1).1 ho g2 hb)
    have hn3:∀ id o,σ.hp id=some o→(∀ j,hp j≠none→m j≠id)→hpn id=some o:=by
      intro id o ho hne
      have hex:¬ ∃ j o',hp' j=some o'∧mm j=id:=by
        rintro⟨j,o',g1,g2⟩
        by_cases hlt:j<np
        · rw[show mm j=m j from if_pos hlt] at g2
          exact hne j (h3 j hlt).2 g2
        · rw[show mm j=base+(j - np) from if_neg hlt] at g2
          have:=(hB _ _ g1).1
          exact hV id (hoV id o ho) (by omega)
      have g:hpn id=if ∃ j,hp j≠none∧m j=id then none else if base≤id∧id<base+1048576 then none else σ.hp id:=dif_neg hex
      rw[g,if_neg (by rintro⟨j,g1,g2⟩;exact hne j g1 g2),if_neg (hV id (hoV id o ho))]
      exact ho
    refine⟨⟨hnt2,hdf2,hfr2,⟨?_,?_,?_,k1.lt,k1.gl⟩,⟨?_,Nat.le_trans hs.ext.le k2.le,k2.os.trans hs.ext.os,k2.out.trans hs.ext.out,?_⟩,?_,fun b o hz=>k4 _ _ (hs.z0 b o hz),?_,?_⟩,hn1,hn3⟩
    · intro id o ho
      rcases hn2 id o ho with ⟨j,o',g1,rfl,rfl⟩|⟨g1,g2⟩
      · have g3:=k1.obj j o' g1
        have g4:=hB j o' g1
        exact⟨(hm j g4.1 g3.1).1,obj_fwd mm hm g4.1 g3.1 g4.2 g3.2⟩
      · have g3:=hs.hs.obj id o g1
        exact⟨.inl g3.1,g3.2.mono g3.1 hρV (fun _ h=> .inl h) k4 hcell (fun b hb=>hkeep b (hob id o b g1 g2 hb).1 (hob id o b g1 g2 hb).2)⟩
    · intro id id' o o' b ho ho' hb hb'
      have hmix:∀ j o1 id2 o2,hp' j=some o1→σ.hp id2=some o2→(∀ j,hp j≠none→m j≠id2)→(ρ' j).at b→(ρ id2).at b→False:=by
        intro j o1 id2 o2 g1 g2 g3 g4 g5
        have g6:=hob id2 o2 b g2 g3 g5
        exact g6.2 (k6 j o1 b g1 g4 g6.1)
      rcases hn2 id o ho with ⟨j,o1,g1,rfl,rfl⟩|⟨g1,g2⟩<;>rcases hn2 id' o' ho' with ⟨j',o1',g1',rfl,rfl⟩|⟨g1',g2'⟩
      · rw[(hm j (hB j o1 g1).1 (k1.obj j o1 g1).1).2] at hb
        rw[(hm j' (hB j' o1' g1').1 (k1.obj j' o1' g1').1).2] at hb'
        rw[k1.inj j j' o1 o1' b g1 g1' hb hb']
      · rw[(hm j (hB j o1 g1).1 (k1.obj j o1 g1).1).2] at hb
        rw[hρV _ (hoV _ _ g1')] at hb'
        exact(hmix j o1 id' o' g1 g1' g2' hb hb').elim
      · rw[(hm j' (hB j' o1' g1').1 (k1.obj j' o1' g1').1).2] at hb'
        rw[hρV _ (hoV _ _ g1)] at hb
        exact(hmix j' o1' id o g1' g1 g2 hb' hb).elim
      · rw[hρV _ (hoV _ _ g1)] at hb
        rw[hρV _ (hoV _ _ g1')] at hb'
        exact hs.hs.inj id id' o o' b g1 g1' hb hb'
    · intro id o b ho hb off hz
      rcases hn2 id o ho with ⟨j,o1,g1,rfl,rfl⟩|⟨g1,g2⟩
      · rw[(hm j (hB j o1 g1).1 (k1.obj j o1 g1).1).2] at hb
        exact k1.sep j o1 b g1 hb off hz
      · rw[hρV _ (hoV _ _ g1)] at hb
        have g3:=hob id o b g1 g2 hb
        rcases k5 b off hz with g|g|g
        · exact hs.hs.sep id o b g1 hb off g
        · omega
        · exact g3.2 g
    · intro b hb hno
      have hb':b<w.heap.size:=Nat.lt_of_lt_of_le hb hs.ext.le
      rw[hkeep b hb' (fun h=>hno (hown b h hb))]
      exact hs.ext.old b hb hno
    · trivial
    · intro id o b ho hb hlt
      rcases hn2 id o ho with ⟨j,o1,g1,rfl,rfl⟩|⟨g1,g2⟩
      · rw[(hm j (hB j o1 g1).1 (k1.obj j o1 g1).1).2] at hb
        exact hown b (k6 j o1 b g1 hb (Nat.lt_of_lt_of_le hlt hs.ext.le)) hlt
      · rw[hρV _ (hoV _ _ g1)] at hb
        exact hs.ownd id o b g1 hb hlt
    · intro b o hz
      rcases k5 b o hz with g|g|g
      · exact hs.zn b o g
      · exact .inr (.inl (Nat.le_trans hs.ext.le g))
      · rcases Nat.lt_or_ge b E.w0.heap.size with g1|g1
        · exact .inr (.inr (hown b g g1))
        · exact .inr (.inl g1)
    · intro id hid
      have g:=hs.pn id hid
      exact⟨.inl g.1,(hρV _ g.1).trans g.2⟩
  have hfrm:∀ t x,σ.fr t=some x→Rel ρn Vn Z' w' (a.tmps.getD t undef) x:=fun t x hx=>(hs.fr t x hx).mono hρV (fun _ h=> .inl h) k4 hcell
  refine⟨ρn,Vn,Z',fun id hid=>hid.imp (fun h=>h) (fun h=>⟨h.1,h.2.1⟩),fun id hid=> .inl hid,?_⟩
  rcases k7 with ⟨v,r,rfl,hr,hRr⟩|⟨v,x,rfl,hr,hRr⟩
  · have hb:=hR r hp' hRr
    have hrel2:=rel_fwd mm hm r v hb.1 hr
    obtain⟨g1,g2,g3⟩:=key hb.2 (a.put d v) (σ.put d (r.ren mm)).fr (by rw[putS];exact hs.nt) (hdfw _ (putD _ _ _)) (put_fr (σ:=σ) hfrm hrel2 (fun n hn=>by rw[hs.nt];exact hd n hn))
    exact .inl ⟨v,⟨(σ.put d (r.ren mm)).fr,hpn,σ.nx⟩,rfl,rfl,hK r hp' ⟨(σ.put d (r.ren mm)).fr,hpn,σ.nx⟩ hRr ⟨rfl,rfl,g2,g3⟩,g1⟩
  · have hb:=hRp x hp' hRr
    have hrel2:=rel_fwd mm hm x v hb.1 hr
    obtain⟨g1,g2,g3⟩:=key hb.2 a σ.fr hs.nt (hdfw _ rfl) hfrm
    exact .inr ⟨v,x.ren mm,⟨σ.fr,hpn,σ.nx⟩,rfl,rfl,hKp x hp' ⟨σ.fr,hpn,σ.nx⟩ hRr ⟨rfl,rfl,g2,g3⟩,hrel2,g1⟩
theorem CallB.of_A {f : FuncId} {vs : List AV} {hp : Nat → Option AObj} {nx np : Nat} {R Rp : AV → (Nat → Option AObj) → Prop} (hA : ACall P f vs hp nx np R Rp) (m : Nat → Nat) {us : List AV} {k : Nat} {d : Option Nat} {K : St → Prop} {Kp : AV → St → Prop}
    (hus:us=AV.renL m vs) (hids:AV.idsL (· <nx) vs) (h1:∀ id o,hp id=some o→σ.hp (m id)=some (o.ren m)∧id<nx∧o.ids (· <nx)) (h2:∀ id id' o o',hp id=some o→hp id'=some o'→m id=m id'→id=id')
    (h3:∀ id,id<np→id<nx∧hp id≠none)
    (hR:∀ r hp',R r hp'→r.ids (· <np+1048576)∧∀ id o,hp' id=some o→id<np+1048576∧o.ids (· <np+1048576))
    (hRp:∀ r hp',Rp r hp'→r.ids (· <np+1048576)∧∀ id o,hp' id=some o→id<np+1048576∧o.ids (· <np+1048576))
    (hK:∀ r hp' σ',R r hp'→Back σ σ' m hp np (σ.nx+1048576*k) d (some r) hp'→K σ')
    (hKp:∀ x hp' σ',Rp x hp'→Back σ σ' m hp np (σ.nx+1048576*k) d none hp'→Kp (x.ren (backM m np (σ.nx+1048576*k))) σ'):CallB P f us σ k d K Kp:=
  ⟨hA.1,callG_of_A (Run:=Calls P f) (fun h hr=>h.mono hr) hA.2 m hus hids h1 h2 h3 hR hRp hK hKp⟩
theorem CallY.of_Y {f : Nat} {vs : List AV} {hp : Nat → Option AObj} {nx np : Nat} {R Rp : AV → (Nat → Option AObj) → Prop} (hA : YCall P f vs hp nx np R Rp) (m : Nat → Nat) {us : List AV} {k : Nat} {d : Option Nat} {K : St → Prop} {Kp : AV → St → Prop}
    (hus:us=AV.renL m vs) (hids:AV.idsL (· <nx) vs) (h1:∀ id o,hp id=some o→σ.hp (m id)=some (o.ren m)∧id<nx∧o.ids (· <nx)) (h2:∀ id id' o o',hp id=some o→hp id'=some o'→m id=m id'→id=id')
    (h3:∀ id,id<np→id<nx∧hp id≠none)
    (hR:∀ r hp',R r hp'→r.ids (· <np+1048576)∧∀ id o,hp' id=some o→id<np+1048576∧o.ids (· <np+1048576))
    (hRp:∀ r hp',Rp r hp'→r.ids (· <np+1048576)∧∀ id o,hp' id=some o→id<np+1048576∧o.ids (· <np+1048576))
    (hK:∀ r hp' σ',R r hp'→Back σ σ' m hp np (σ.nx+1048576*k) d (some r) hp'→K σ')
    (hKp:∀ x hp' σ',Rp x hp'→Back σ σ' m hp np (σ.nx+1048576*k) d none hp'→Kp (x.ren (backM m np (σ.nx+1048576*k))) σ'):CallY P f us σ k d K Kp:=
  callG_of_A (Run:=YRuns P f) (fun h hr=>h.mono hr) hA m hus hids h1 h2 h3 hR hRp hK hKp
end Go.Am

namespace Go.Am
variable {P:Program} {E:En} {ρ:Nat→Ref} {V:Nat→Prop} {Z:Nat→Nat→Prop} {σ:St} {a:Act} {w:World}
def Snp (F:Nat→Option AObj) (x x':AV):Prop:=x'=x∨(x.snapOk F∧x'=x.snap F)
def SnpO (F:Nat→Option AObj):AObj→AObj→Prop
 | .cells l,.cells l'=>l'.length=l.length∧∀ i,i<l.length→Snp F (l.getD i default) (l'.getD i default)
 | .row sz l,.row sz' l'=>sz'=sz∧l'.length=l.length∧∀ i,i<l.length→Snp F (l.getD i default) (l'.getD i default)
 | .map es,.map es'=>es'=es
 | .lp q l,.lp q' l'=>q'=q∧l'.length=l.length∧∀ i,i<l.length→Snp F (l.getD i default) (l'.getD i default)
 |_,_=>False
theorem SnpO.refl {F:Nat→Option AObj} (o:AObj):SnpO F o o:=by
 cases o with
 |cells l=>exact⟨rfl,fun i _=> .inl rfl⟩
 |row sz l=>exact⟨rfl,rfl,fun i _=> .inl rfl⟩
 |map es=>rfl
 |lp q l=>exact⟨rfl,rfl,fun i _=> .inl rfl⟩
theorem snap_cells {F:Nat→Option AObj} (x:AV):(x.snap F).cells.length=x.cells.length∧∀ j,j<x.cells.length→(x.snap F).cells.getD j default=(x.cells.getD j default).snap F:=by
 by_cases h:∃ l,x= .agg l
 ·obtain⟨l,rfl⟩:=h
  simp only[AV.snap,AV.cells]
  exact⟨snapL_len l,fun j hj=>snapL_getD l j hj⟩
 ·have h':∀ l,x≠ .agg l:=fun l e=>h ⟨l,e⟩
  have e1:x.cells=[x]:=by cases x<;>first|rfl|exact absurd rfl (h' _)
  have e2:(x.snap F).cells=[x.snap F]:=by
   cases x<;>first|rfl|exact absurd rfl (h' _)|(simp only[AV.snap];split<;>rfl)
  rw[e1,e2]
  refine⟨rfl,fun j hj=>?_⟩
  obtain rfl:j=0:=by simpa using hj
  rfl
theorem snapOk_cells {F:Nat→Option AObj} {x:AV} (h:x.snapOk F) (ht:x.isTup=false):∀ j,j<x.cells.length→(x.cells.getD j default).snapOk F:=by
 by_cases hx:∃ l,x= .agg l
 ·obtain⟨l,rfl⟩:=hx
  exact fun j hj=>snapOkL_getD l j hj h
 ·have h':∀ l,x≠ .agg l:=fun l e=>hx ⟨l,e⟩
  have e1:x.cells=[x]:=by cases x<;>first|rfl|exact absurd rfl (h' _)
  rw[e1]
  intro j hj
  obtain rfl:j=0:=by simpa using hj
  exact h
theorem HSat.sub {hp F:Nat→Option AObj} (h:HSat ρ V Z w hp) (hF:∀ id o,F id=some o→hp id=some o):HSat ρ V Z w F:=
 ⟨fun id o ho=>h.obj id o (hF id o ho),fun id id' o o' b h1 h2=>h.inj id id' o o' b (hF _ _ h1) (hF _ _ h2),fun id o b h1=>h.sep id o b (hF _ _ h1),h.lt,h.gl⟩
theorem snp_rel {F:Nat→Option AObj} (hF:HSat ρ V Z w F) {v:Value} {x x':AV} (h:Rel ρ V Z w v x) (hx:Snp F x x'):Rel ρ V (ZR ρ Z ⟨fun _=>none,F,0⟩) w v x':=by
 rcases hx with rfl|⟨h1,rfl⟩
 ·exact h.mono (fun _ _=>rfl) (fun _ h=>h) (fun _ _ h=> .inl h) (fun _ _ _=>rfl)
 ·exact snap_rel (σ:=⟨fun _=>none,F,0⟩) hF h h1
theorem snp_one {F:Nat→Option AObj} {x x':AV} (hx:Snp F x x'):x'.one=x.one:=by
 rcases hx with rfl|⟨_,rfl⟩
 ·rfl
 ·exact snap_one
theorem objrel_frz {F:Nat→Option AObj} (hF:HSat ρ V Z w F) {id:Nat} {o o':AObj} (h:ObjRel ρ V Z w id o) (ho:SnpO F o o'):ObjRel ρ V (ZR ρ Z ⟨fun _=>none,F,0⟩) w id o':=by
 have hm:∀ {v x},Rel ρ V Z w v x→Rel ρ V (ZR ρ Z ⟨fun _=>none,F,0⟩) w v x:=fun h=>h.mono (fun _ _=>rfl) (fun _ h=>h) (fun _ _ h=> .inl h) (fun _ _ _=>rfl)
 cases o with
 |cells l=>
  cases o'<;>try exact ho.elim
  rename_i l'
  obtain⟨e1,e2⟩:=ho
  obtain⟨h0,cs,ty,h1,h2,h3⟩:=h
  exact⟨h0,cs,ty,h1,by rw[h2,e1],fun i hi=>by rw[e1] at hi;exact⟨by rw[snp_one (e2 i hi)];exact(h3 i hi).1,snp_rel hF (h3 i hi).2 (e2 i hi)⟩⟩
 |row sz l=>
  cases o'<;>try exact ho.elim
  rename_i sz' l'
  obtain⟨rfl,e1,e2⟩:=ho
  rcases h with ⟨h0,h1⟩|⟨h0,cs,ty,h1,h2,h3,h4,h5,h6⟩
  ·subst h1
   exact .inl ⟨h0,List.length_eq_zero_iff.1 e1⟩
  ·have hc:∀ i,i<l.length→(l'.getD i default).cells.length=(l.getD i default).cells.length∧∀ j,j<(l.getD i default).cells.length→Snp F ((l.getD i default).cells.getD j default) ((l'.getD i default).cells.getD j default):=by
    intro i hi
    rcases e2 i hi with e|⟨g1,g2⟩
    ·rw[e];exact⟨rfl,fun j _=> .inl rfl⟩
    ·rw[g2]
     refine⟨(snap_cells _).1,fun j hj=> .inr ⟨?_,(snap_cells _).2 j hj⟩⟩
     by_cases ht:(l.getD i default).isTup=false
     ·exact snapOk_cells g1 ht j hj
     ·exfalso
      have h7:=h5 i hi
      have:∃ t,l.getD i default= .tup t:=by
       revert ht
       cases l.getD i default<;>simp[AV.isTup]
      obtain⟨t,e⟩:=this
      rw[e] at h7 hj
      simp only[AV.cells,List.length_cons,List.length_nil] at h7 hj
      have:=(h6 i j hi (by omega)).1
      rw[e] at this
      obtain rfl:j=0:=by omega
      simp[AV.cells,AV.one] at this
   refine .inr ⟨h0,cs,ty,h1,by rw[h2,e1],by rw[e1];exact h3,h4,fun i hi=>?_,fun i j hi hj=>?_⟩
   ·rw[e1] at hi
    rw[(hc i hi).1];exact h5 i hi
   ·rw[e1] at hi
    have hj':j<(l.getD i default).cells.length:=by rw[h5 i hi];exact hj
    have:=(hc i hi).2 j hj'
    exact⟨by rw[snp_one this];exact(h6 i j hi hj).1,snp_rel hF (h6 i j hi hj).2 this⟩
 |map es=>
  cases o'<;>try exact ho.elim
  rename_i es'
  obtain rfl:es'=es:=ho
  obtain⟨h0,ents,clock,h1,h2,h3⟩:=h
  exact⟨h0,ents,clock,h1,h2,fun i hi=>⟨hm (h3 i hi).1,hm (h3 i hi).2⟩⟩
 |lp q l=>
  cases o'<;>try exact ho.elim
  rename_i q' l'
  obtain⟨rfl,e1,e2⟩:=ho
  obtain⟨h0,h1,tmps,ds,h2,h3,h4⟩:=h
  exact⟨h0,h1,tmps,ds,h2,h3,fun i hi=>by rw[e1] at hi;exact snp_rel hF (h4 i hi) (e2 i hi)⟩
theorem Sat.frz (h : Sat E ρ V Z σ a w) {F : Nat → Option AObj} (hF : ∀ id o, F id = some o → σ.hp id = some o) {σ' : St}
    (hfr:∀ t x',σ'.fr t=some x'→∃ x,σ.fr t=some x∧Snp F x x') (hhp:∀ id o',σ'.hp id=some o'→F id=none∧∃ o,σ.hp id=some o∧SnpO F o o'):Sat E ρ V (ZR ρ Z ⟨fun _=>none,F,0⟩) σ' a w:=by
  have hFs:=h.hs.sub hF
  refine⟨h.nt,h.df,fun t x' hx=>?_,⟨fun id o' ho=>?_,fun id id' o o' b ho ho'=>?_,fun id o' b ho hb off hz=>?_,fun b off hz=>?_,h.hs.gl.mono (fun _ _ _=>rfl) (fun _ _ hz=> .inl hz)⟩,h.ext,fun id o' b ho=>?_,fun b o hz=> .inl (h.z0 b o hz),fun b o hz=>?_,h.pn⟩
  · obtain⟨x,h1,h2⟩:=hfr t x' hx
    exact snp_rel hFs (h.fr t x h1) h2
  · obtain⟨h1,o,h2,h3⟩:=hhp id o' ho
    have h4:=h.hs.obj id o h2
    exact⟨h4.1,objrel_frz hFs h4.2 h3⟩
  · obtain⟨_,o1,h2,_⟩:=hhp id o ho
    obtain⟨_,o2,h3,_⟩:=hhp id' o' ho'
    exact h.hs.inj id id' o1 o2 b h2 h3
  · obtain⟨h1,o,h2,_⟩:=hhp id o' ho
    rcases hz with hz|⟨id2,sz2,l2,g1,g2⟩
    · exact h.hs.sep id o b h2 hb off hz
    · have:=h.hs.inj id id2 o _ b h2 (hF _ _ g1) hb g2
      subst this
      replace g1:F id=some (.row sz2 l2):=g1
      rw[h1] at g1;cases g1
  · rcases hz with hz|⟨id2,sz2,l2,g1,g2⟩
    · exact h.hs.lt b off hz
    · exact(h.hs.obj id2 _ (hF _ _ g1)).2.lt b g2
  · obtain⟨_,o1,h2,_⟩:=hhp id o' ho
    exact h.ownd id o1 b h2
  · rcases hz with hz|⟨id2,sz2,l2,g1,g2⟩
    · exact h.zn b o hz
    · rcases Nat.lt_or_ge b E.w0.heap.size with g3|g3
      · exact .inr (.inr (h.ownd id2 _ b (hF _ _ g1) g2 g3))
      · exact .inr (.inl g3)
theorem AW.frz {c : Code} {Q : AEx → St → Prop} {σ' : St} (F : Nat → Option AObj) (hF : ∀ id o, F id = some o → σ.hp id = some o)
    (hfr:∀ t x',σ'.fr t=some x'→∃ x,σ.fr t=some x∧Snp F x x') (hhp:∀ id o',σ'.hp id=some o'→F id=none∧∃ o,σ.hp id=some o∧SnpO F o o') (hnx:σ'.nx=σ.nx) (h:AW P E c Q σ'):AW P E c Q σ:=
  fun ρ V Z a w hs hV=>h _ _ _ a w (hs.frz hF hfr hhp) (fun id hid=>by rw[hnx];exact hV id hid)
theorem CallB.frz {g : FuncId} {us us' : List AV} {k : Nat} {d : Option Nat} {K : St → Prop} {Kp : AV → St → Prop} {σ' : St} (F : Nat → Option AObj) (hF : ∀ id o, F id = some o → σ.hp id = some o)
    (hfr:∀ t x',σ'.fr t=some x'→∃ x,σ.fr t=some x∧Snp F x x') (hhp:∀ id o',σ'.hp id=some o'→F id=none∧∃ o,σ.hp id=some o∧SnpO F o o') (hnx:σ'.nx=σ.nx)
    (hl:us'.length=us.length) (hus:∀ i,i<us.length→Snp F (us.getD i default) (us'.getD i default)) (h:CallB P g us' σ' k d K Kp):CallB P g us σ k d K Kp:=by
  refine⟨h.1,fun E ρ V Z a w args hs hV hd hsz hrel=>?_⟩
  refine(h.2 E ρ V _ a w args (hs.frz hF hfr hhp) (by rw[hnx];exact hV) hd (by rw[hl];exact hsz) (fun i hi=>?_)).mono ?_
  · rw[hl] at hi
    exact snp_rel (hs.hs.sub hF) (hrel i hi) (hus i hi)
  · rintro e w' ⟨ρ',V',Z',h1,h2,h3⟩
    rw[hnx] at h1
    refine⟨ρ',V',Z',h1,h2,?_⟩
    rcases h3 with ⟨v,σ2,e1,e2,h4⟩|⟨v,x,σ2,e1,e2,h4⟩
    · exact .inl ⟨v,σ2,e1,e2.trans hnx,h4⟩
    · exact .inr ⟨v,x,σ2,e1,e2.trans hnx,h4⟩
end Go.Am

namespace Go.Am
open Go
theorem Sat.cellrow {E : En} {ρ : Nat → Ref} {V : Nat → Prop} {Z : Nat → Nat → Prop} {σ : St} {a : Act} {w : World} (h : Sat E ρ V Z σ a w) {X id j : Nat} {l : List AV}
    (hX:σ.hp X=some (.cells l)) (hj:l[j]? =some .nilsl) (hid:V id) (hr:ρ id=nilRef):Sat E ρ V Z { σ with hp:=updo σ.hp X (some (.cells (l.set j (.rw id)))) } a w:=by
  have hback:∀ i o,updo σ.hp X (some (.cells (l.set j (.rw id)))) i=some o→∃ o',σ.hp i=some o':=by
    intro i o ho
    by_cases e:i=X
    · subst e;exact⟨_,hX⟩
    · simp only[updo,if_neg e] at ho;exact⟨_,ho⟩
  refine⟨h.nt,h.df,h.fr,⟨fun i o ho=>?_,fun i i' o o' b ho ho'=>?_,fun i o b ho=>?_,h.hs.lt,h.hs.gl⟩,h.ext,fun i o b ho=>?_,h.z0,h.zn,h.pn⟩
  · by_cases e:i=X
    · subst e
      simp only[updo,if_true] at ho
      cases ho
      obtain⟨hv,h0,cs,ty,h1,h2,h3⟩:=h.hs.obj _ _ hX
      refine⟨hv,h0,cs,ty,h1,by simpa using h2,fun k hk=>?_⟩
      rw[List.length_set] at hk
      obtain⟨g1,g2⟩:=h3 k hk
      by_cases e2:k=j
      · subst e2
        have e3:(l.set k (AV.rw id)).getD k default= .rw id:=by simp[List.getD_eq_getElem?_getD,hk]
        have e4:l.getD k default= .nilsl:=by simp[List.getD_eq_getElem?_getD,hj]
        rw[e3]
        rw[e4] at g2
        refine⟨rfl,?_⟩
        have:=Rel.rw (ρ:=ρ) (V:=V) (Z:=Z) (w:=w) id hid
        rw[g2.nilsl_inv]
        rw[hr] at this
        simpa [Ref.slice,nilRef] using this
      · have e3:(l.set j (AV.rw id)).getD k default=l.getD k default:=by simp only[List.getD_eq_getElem?_getD];rw[List.getElem?_set_ne (fun e=>e2 e.symm)]
        rw[e3];exact⟨g1,g2⟩
    · simp only[updo,if_neg e] at ho
      exact h.hs.obj _ _ ho
  · obtain⟨_,g⟩:=hback _ _ ho
    obtain⟨_,g'⟩:=hback _ _ ho'
    exact h.hs.inj _ _ _ _ b g g'
  · obtain⟨_,g⟩:=hback _ _ ho
    exact h.hs.sep _ _ b g
  · obtain⟨_,g⟩:=hback _ _ ho
    exact h.ownd _ _ b g
theorem AW_nilc {P : Program} {E : En} {c : Code} {Q : AEx → St → Prop} {σ : St} (X j sz : Nat) {l : List AV} (hX : σ.hp X = some (.cells l)) (hj : l[j]? = some .nilsl)
    (h:AW P E c Q { fr:=σ.fr,hp:=updo (updo σ.hp σ.nx (some (.row sz []))) X (some (.cells (l.set j (.rw σ.nx)))),nx:=σ.nx+1 }):AW P E c Q σ:=by
  intro ρ V Z a w hs hV
  have hnv:¬ V σ.nx:=fun hv=>by have:=hV _ hv;omega
  have hXn:X≠σ.nx:=fun e=>hnv (e▸(hs.hs.obj _ _ hX).1)
  have h1:=hs.newnil (d:=none) (fun n hn=>by cases hn) hnv sz
  have h2:=h1.cellrow (X:=X) (id:=σ.nx) (j:=j) (l:=l) (by simp only[St.put,updo,if_neg hXn];exact hX) hj (.inr rfl) (by simp)
  refine h _ _ Z a w (h2.nx _) (fun id hid=>?_)
  rcases hid with hid|hid
  · have:=hV id hid;simp only;omega
  · simp only;omega

variable {P:Program} {E:En}
def readyR (r:List (Oper×Nat)):List (Oper×Nat):=r.filter fun p=>p.1.after.toList.all fun e=>!Region.binds .any e||!(r.any fun q=>q.2==e.on)
def goAll (P:Program) (ds:List (Option Nat)):Nat→List (Oper×Nat)→St→(St→Prop)→(AV→St→Prop)→Prop
 |0,r,σ,K,Kp=>r=[]∧K σ
 |n+1,r,σ,K,Kp=>if r=[] then K σ else ∀ p,p∈readyR r→goG P true none ds p.2 p.1 σ (fun σ'=>goAll P ds n (r.filter fun q=>q.2 !=p.2) σ' K Kp) Kp
theorem rem_set' {ops:Array Oper} {listed:Array Bool} {i:Nat} (hi:i<listed.size):rem ops (listed.setIfInBounds i true)=(rem ops listed).filter fun p=>p.2 !=i:=by
 unfold rem
 rw[List.filter_filter]
 congr 1
 funext p
 by_cases e:p.2=i
 ·subst e;simp[Array.getD,hi]
 ·have e2:(listed.setIfInBounds i true).getD p.2 true=listed.getD p.2 true:=by
   simp[Array.getD_eq_getD_getElem?,Array.getElem?_setIfInBounds_ne (Ne.symm e)]
  rw[e2]
  simp[e]
theorem wpAny_goAll {ops : Array Oper} (hback : okBack ops = true) (hdst : ∀ (i : Nat) (o : Oper), ops[i]? = some o → ∀ n, o.dst = some n → n < E.nt) {nx : Nat} {K : St → Prop} {Kp : AV → St → Prop} {Q : Exit → Act → World → Prop}
    (hfin:∀ σ' a' w' ρ' V' Z',K σ'→σ'.nx=nx→Sat E ρ' V' Z' σ' a' w'→(∀ id,V' id→id<nx+1048576*ops.size)→Q .normal a' w')
    (hP:∀ σ,σ.nx=nx→Panic' E σ Kp Q):∀ (fuel:Nat) (listed:Array Bool) (σ:St) (ρ:Nat→Ref) (V:Nat→Prop) (Z:Nat→Nat→Prop) (a:Act) (w:World),listed.size=ops.size→Sat E ρ V Z σ a w→σ.nx=nx→
      (∀ id,V id→id<nx+1048576*ops.size)→(∀ o k,(o,k)∈rem ops listed→∀ id,V id→¬ (nx+1048576*k≤id∧id<nx+1048576*k+1048576))→
      goAll P (ops.toList.map (·.dst)) fuel (rem ops listed) σ K Kp→wpAnyIn (rfn E.rd) 0 P .any ops Q fuel listed a w:=by
  have hnone:∀ (listed:Array Bool),listed.size=ops.size→Region.ready .any ops listed=[]→rem ops listed=[]:=by
    intro listed hs hr
    cases hrem:rem ops listed with
    |nil=>rfl
    |cons p r=>
      exfalso
      obtain⟨o,i⟩:=p
      have hm:(o,i)∈rem ops listed:=by rw[hrem];simp
      obtain⟨h1,h2⟩:=(mem_rem hs).1 hm
      have hil:i<ops.size:=by
        rcases Nat.lt_or_ge i ops.size with h'|h'
        · exact h'
        · rw[Array.getElem?_eq_none h'] at h1;cases h1
      have hin:i∈Region.ready .any ops listed:=by
        refine mem_ready.2 ⟨hil,by simp[Array.getD_eq_getD_getElem?,h2],o,h1,fun e he hb=>?_⟩
        have hlt:=okBack_spec hback h1 e he hb
        have hel:e.on<listed.size:=by omega
        cases hv:listed.getD e.on false with
        |true=>rfl
        |false=>
          exfalso
          have hl:listed[e.on]? =some false:=by
            simp[Array.getD,hel] at hv
            rw[Array.getElem?_eq_getElem hel,hv]
          have hm2:(ops[e.on]'(by omega),e.on)∈rem ops listed:=(mem_rem hs).2 ⟨Array.getElem?_eq_getElem _,hl⟩
          have hsort:=rem_sorted ops listed
          rw[hrem,List.pairwise_cons] at hsort
          rw[hrem] at hm2
          rcases List.mem_cons.1 hm2 with h5|h5
          · have:=congrArg Prod.snd h5;simp at this;omega
          · have:=hsort.1 _ h5;simp at this;omega
      rw[hr] at hin
      cases hin
  have hmt:∀ (listed:Array Bool) (i:Nat),listed.size=ops.size→i∈Region.ready .any ops listed→∃ y,ops[i]? =some y∧(y,i)∈rem ops listed∧(y,i)∈readyR (rem ops listed):=by
    intro listed i hs hi
    obtain⟨h1,h2,y,h3,h4⟩:=mem_ready.1 hi
    have hi2:i<listed.size:=by omega
    have hm:(y,i)∈rem ops listed:=(mem_rem hs).2 ⟨h3,by
      simp[Array.getD,hi2] at h2
      rw[Array.getElem?_eq_getElem hi2,h2]⟩
    refine⟨y,h3,hm,List.mem_filter.2 ⟨hm,?_⟩⟩
    rw[List.all_eq_true]
    intro e he
    cases hb:Region.binds .any e with
    |false=>rfl
    |true=>
      have hl:=h4 e he hb
      simp only[Bool.not_true,Bool.false_or,Bool.not_eq_true',List.any_eq_false]
      intro q hq hqe
      simp only[beq_iff_eq] at hqe
      obtain⟨o,j⟩:=q
      simp only at hqe
      subst hqe
      have:=((mem_rem hs).1 hq).2
      simp[Array.getD_eq_getD_getElem?,this] at hl
  intro fuel
  induction fuel with
  |zero=>
    intro listed σ ρ V Z a w hs h hnx hVb hVk hgo
    refine⟨?_,hfin _ _ _ _ _ _ hgo.2 hnx h hVb⟩
    rw[List.eq_nil_iff_forall_not_mem]
    intro i hi
    obtain⟨y,_,g,_⟩:=hmt listed i hs hi
    rw[hgo.1] at g
    cases g
  |succ fuel ih=>
    intro listed σ ρ V Z a w hs h hnx hVb hVk hgo
    refine⟨fun hr=>?_,fun i hi=>?_⟩
    · rw[goAll,if_pos (hnone listed hs hr)] at hgo
      exact hfin _ _ _ _ _ _ hgo hnx h hVb
    · obtain⟨y,h3,hm,hrd⟩:=hmt listed i hs hi
      have hi2:i<listed.size:=by
        have:=(mem_ready.1 hi).1;omega
      rw[goAll,if_neg (fun e=>by rw[e] at hm;cases hm)] at hgo
      have hfront:=hgo _ hrd
      simp only at hfront
      refine goG_wp h h3 (fun id hid=>by rw[hnx];exact hVk y i hm id hid) (hdst i y h3) hfront ?_ (hP σ hnx)
      intro σ' a' w' ρ' V' Z' hgo' hnx' hS' hV1 hV2
      rw[hnx] at hV1 hnx'
      refine ih (listed.setIfInBounds i true) σ' ρ' V' Z' a' w' (by simpa using hs) hS' hnx' ?_ ?_ ?_
      · intro id hid
        rcases hV1 id hid with h5|h5
        · exact hVb id h5
        · have:=(mem_ready.1 hi).1;omega
      · intro o k hok' id hid
        rw[rem_set' hi2,List.mem_filter] at hok'
        have hki:k≠i:=by simpa using hok'.2
        rcases hV1 id hid with h5|h5
        · exact hVk o k hok'.1 id h5
        · omega
      · rw[rem_set' hi2];exact hgo'
theorem AW_drawAll {id : Nat} {ops : Array Oper} {Q : AEx → St → Prop} {σ : St} (hm : P.follows .mixedOrders = true) (hd : dstOk E.nt ops = true) (hback : okBack ops = true)
    (h:goAll P (ops.toList.map (·.dst)) ops.size ops.toList.zipIdx σ (fun σ'=>Q .norm { σ' with nx:=σ.nx+1048576*ops.size }) (fun x σ'=>Q (.pan x) σ')):AW P E (.region id ops true) Q σ:=by
  intro ρ V Z a w hs hV
  refine wpX_region_any hm ?_
  have hs':=hs.drew (w':= { w with drawn:=w.drawn+1 }) rfl rfl rfl
  refine wpAny_goAll (E:=E) (nx:=σ.nx) (K:=fun σ'=>Q .norm { σ' with nx:=σ.nx+1048576*ops.size }) (Kp:=fun x σ'=>Q (.pan x) σ') hback (dstOk_spec hd) ?_ ?_ _ _ σ ρ V Z a _ (by simp) hs' rfl (fun id hid=>by have:=hV id hid;omega) ?_ (by rw[rem_init];exact h)
  · intro σ' a' w' ρ' V' Z' hK hnx hS hb
    exact⟨ρ',V',Z',_,.norm,trivial,hK,hS.nx _,fun _=>hb⟩
  · intro σ1 hnx x v σ' ρ' V' Z' a' w' hK _ hr hS
    exact⟨ρ',V',Z',σ',.pan x,⟨v,rfl,hr⟩,hK,hS,fun hx=>absurd rfl (hx x)⟩
  · intro o k _ id hid
    have:=hV id hid
    omega
end Go.Am

namespace Go.Am
open Go
variable {P:Program} {E:En} {ρ:Nat→Ref} {V:Nat→Prop} {Z:Nat→Nat→Prop} {σ:St} {a:Act} {w:World}
theorem wp_mono' {c:Code} {Q Q':Exit→Act→World→Prop} {a:Act} {w:World} (hq:∀ e a w,Q e a w→Q' e a w) (h:c.wp P Q a w):c.wp P Q' a w:=wp_mono h hq
def ModeR (ρ:Nat→Ref) (V:Nat→Prop) (Z:Nat→Nat→Prop) (w:World) (u:FrameMode):Option AV→Prop
 |none=>u= .returning
 |some x=>∃ v,u= .panicking [{ v,recovered:=false }]∧Rel ρ V Z w v x
def recX:Option AV→AV
 |none=> .nilif
 |some x=>x
def DCall (P:Program) (f:FuncId) (vs:List AV) (hp:Nat→Option AObj) (nx np:Nat) (x:Option AV) (R:(Nat→Option AObj)→Prop):Prop:=
 isFn P f=true∧∀ (ρ:Nat→Ref) (V:Nat→Prop) (Z:Nat→Nat→Prop) (w:World) (args:Array Value) (u:FrameMode),HSat ρ V Z w hp→(∀ id,id<np→V id)→(∀ id,V id→id<nx)→args.size=vs.length→
  (∀ i,i<vs.length→Rel ρ V Z w (args.getD i undef) (vs.getD i default))→ModeR ρ V Z w u x→
  CallsD P f args u w fun e u' w'=>(∃ v,e= .returned v)∧settle u'= .returning∧∃ ρ' V' Z' hp',HSat ρ' V' Z' w' hp'∧Ext w w' (OwnB ρ hp)∧(∀ id,id<np→V' id∧ρ' id=ρ id)∧(∀ b o,Z b o→Z' b o)∧
   (∀ b o,Z' b o→Z b o∨w.heap.size≤b∨OwnB ρ hp b)∧(∀ id o b,hp' id=some o→(ρ' id).at b→b<w.heap.size→OwnB ρ hp b)∧R hp'
theorem DCall.of_body {f : FuncId} {fn : Func} {c : Code} {vs : List AV} {hp : Nat → Option AObj} {nx np : Nat} {x : Option AV} {R : (Nat → Option AObj) → Prop} {i d1 d2 : Nat} {ts : Array TypeId} {ty1 ty2 : TypeId} {p1 p2 : String} {af1 af2 : Array Edge}
    (hf:P.funcs[f]? =some fn) (hfn:isFn P f=true)
    (hb:fn.body=some (.seq (.region i #[⟨some d1,.call ⟨.builtin .recover, #[],ts⟩,ty1,p1,af1,none⟩,⟨some d2,.assign (.tmp d1),ty2,p2,af2,none⟩] false) c))
    (hd1:d1<fn.ntmps) (hd2:d2<fn.ntmps) (hres:fn.results= #[]) (hn:vs.length≤fn.ntmps)
    (h:∀ (E:En) (Q:AEx→St→Prop),E.nt=fn.ntmps→E.np=np→(∀ σ,R σ.hp→Q .ret σ∧Q .norm σ)→AW P E c Q ⟨upd (upd (mkPar 0 vs) d1 (recX x)) d2 (recX x),hp,nx⟩):DCall P f vs hp nx np x R:=by
  refine⟨hfn,fun ρ V Z w args u hh hnp hnx hsz hrel hu=>?_⟩
  refine callsD_of_wpS hf hb fun c₀ cs hc=>?_
  have hsat:=sat_startF (nx:=nx) hn hh hnp hsz hrel
  have key : ∀ (v : Value) (u' : FrameMode), Rel ρ V Z w v (recX x) → settle u' = .returning → c.wpS P (bodyPostS P fn c₀ cs fun e u' w' => (∃ v, e = .returned v) ∧ settle u' = .returning ∧ ∃ ρ' V' Z' hp', HSat ρ' V' Z' w' hp' ∧ Ext w w' (OwnB ρ hp) ∧ (∀ id, id < np → V' id ∧ ρ' id = ρ id) ∧ (∀ b o, Z b o → Z' b o) ∧
      (∀ b o,Z' b o→Z b o∨w.heap.size≤b∨OwnB ρ hp b)∧(∀ id o b,hp' id=some o→(ρ' id).at b→b<w.heap.size→OwnB ρ hp b)∧R hp')
      (({ tmps:=args++Array.replicate (fn.ntmps - args.size) undef,defers:=[] } :Act).put (some d1) v |>.put (some d2) v) ({ c₀ with mode:=u' } ::cs) w:=by
    intro v u' hv hs
    have hs1:=hsat.val (d:=some d1) (fun n hn=>by cases hn;exact hd1) rfl rfl rfl hv
    have hs2:=hs1.val (d:=some d2) (fun n hn=>by cases hn;exact hd2) rfl rfl rfl hv
    have hbody:=h _ (fun e σ=>match e with| .ret| .norm=>R σ.hp|_=>False) rfl rfl (fun σ hσ=>⟨hσ,hσ⟩) ρ V Z _ w hs2 hnx
    refine wpS_of_wp (wpX_wp (wpX_mono ?_ hbody))
    rintro e a w' ⟨ρ',V',Z',σ,y,h1,h2,h3,h4⟩
    have hret:R σ.hp→a.defers=[]∧∃ u'',({ c₀ with mode:=u' } ::cs:List Frame)= { c₀ with mode:=u'' } ::cs∧∃ v,(results fn a.tmps).run P w'= .ok v w'∧(∃ v',Ending.returned v= .returned v')∧settle u''= .returning∧∃ ρ' V' Z' hp',HSat ρ' V' Z' w' hp'∧Ext w w' (OwnB ρ hp)∧(∀ id,id<np→V' id∧ρ' id=ρ id)∧(∀ b o,Z b o→Z' b o)∧
      (∀ b o,Z' b o→Z b o∨w.heap.size≤b∨OwnB ρ hp b)∧(∀ id o b,hp' id=some o→(ρ' id).at b→b<w.heap.size→OwnB ρ hp b)∧R hp':=by
      intro hR
      obtain⟨v,hv1,hv2⟩:=results_run h3 (fn:=fn) (r:= .tup []) (by rw[hres];rfl)
      exact⟨h3.df.none rfl,u',rfl,v,hv1,⟨v,rfl⟩,hs,ρ',V',Z',σ.hp,h3.hs,h3.ext,h3.pn,h3.z0,h3.zn,h3.ownd,hR⟩
    cases e<;>cases y<;>simp only[ExR] at h1
    · exact hret h2
    · exact h2.elim
    · exact hret h2
    · exact h2.elim
  apply wpS_seq
  apply wpS_region
  have hd1':d1<(args++Array.replicate (fn.ntmps - args.size) undef).size:=by have:=hsat.nt;simp only at this;omega
  revert key hd1'
  generalize args++Array.replicate (fn.ntmps - args.size) undef=T
  generalize bodyPostS P fn c₀ cs _=QQ
  intro key hd1'
  have hget:∀ v:Value,(T.setIfInBounds d1 v)[d1]?.getD undef=v:=by
    intro v
    rw[Array.getElem?_setIfInBounds_self]
    simp[hd1']
  have e2:List.range 2=[0,1]:=rfl
  have hrec:∀ g:Operand→Value,(execOp g ⟨some d1,.call ⟨.builtin .recover, #[],ts⟩,ty1,p1,af1,none⟩).run P w= .ok .recover w:=fun g=>rfl
  clear h hsat hrel
  cases x with
  |none=>
    have hu':u= .returning:=hu
    have hk:=key .nilIface .returning .nilif rfl
    have e:({ c₀ with mode:= .returning } :Frame)=c₀:=by rw[← hu', ← hc]
    rw[e] at hk
    simp only[List.size_toArray,List.length_cons,List.length_nil,Nat.zero_add,Nat.reduceAdd,e2]
    simp[wpOpsS,recoverD,hc,hu',Region.wanted,hrec,execOp,Act.put,Act.eval,Oper.upon,Exit.thenS,hget,Array.getD_eq_getD_getElem?]
    exact hk
  |some y=>
    obtain⟨v,hv1,hv2⟩:=hu
    have hk:=key v (.panicking [{ v,recovered:=true }]) hv2 rfl
    simp only[List.size_toArray,List.length_cons,List.length_nil,Nat.zero_add,Nat.reduceAdd,e2]
    simp[wpOpsS,recoverD,hc,hv1,Region.wanted,hrec,execOp,Act.put,Act.eval,Oper.upon,Exit.thenS,hget,Array.getD_eq_getD_getElem?]
    exact hk
mutual
theorem ren_id:∀ x:AV,x.ren (fun i=>i)=x
 | .fn f a b=>by simp only[AV.ren,renL_id a,renL_id b]
 | .iface t v=>by simp only[AV.ren,ren_id v]
 | .agg l=>by simp only[AV.ren,renL_id l]
 | .tup l=>by simp only[AV.ren,renL_id l]
 | .ptr _ _| .rptr _ _ _ _| .rw _| .mp _| .bool _| .int _ _| .str _| .nilp| .eptr _ _| .nilsl| .sl _| .nilmap| .nilfn| .nilif=>rfl
theorem renL_id:∀ l:List AV,AV.renL (fun i=>i) l=l
 | []=>rfl
 |x::l=>by simp only[AV.renL,ren_id x,renL_id l]
end
theorem oren_id (o:AObj):o.ren (fun i=>i)=o:=by
 cases o with
 |cells l=>simp only[AObj.ren,renL_id]
 |row sz l=>simp only[AObj.ren,renL_id]
 |map es=>simp[AObj.ren,ren_id]
 |lp q l=>simp only[AObj.ren,renL_id]
def ptrs (k:Nat):List AV:=(List.range k).map fun i=> .ptr i 0
theorem ptrs_len (k:Nat):(ptrs k).length=k:=by simp[ptrs]
theorem ptrs_getD {k i:Nat} (h:i<k):(ptrs k).getD i default= .ptr i 0:=by simp[ptrs,List.getD_eq_getElem?_getD,h]
mutual
theorem clo_snap {h:Nat→Option AObj} :∀ {x:AV},x.clo=true→(x.snap h).clo=true
 | .rw _,hx=>by simp[AV.clo] at hx
 | .nilsl,_=>by simp[AV.snap,AV.clo]
 | .agg l,hx=>by simp only[AV.clo] at hx;simp only[AV.snap,AV.clo];exact cloL_snap hx
 | .tup l,hx=>by simp only[AV.clo] at hx;simp only[AV.snap,AV.clo];exact cloL_snap hx
 | .fn _ _ _,hx| .iface _ _,hx| .ptr _ _,hx| .rptr _ _ _ _,hx| .mp _,hx| .bool _,hx| .int _ _,hx| .str _,hx| .nilp,hx| .eptr _ _,hx| .sl _,hx| .nilmap,hx| .nilfn,hx| .nilif,hx=>hx
theorem cloL_snap {h:Nat→Option AObj} :∀ {l:List AV},AV.cloL l=true→AV.cloL (AV.snapL h l)=true
 | [],_=>rfl
 |x::l,hx=>by
  simp only[AV.cloL,Bool.and_eq_true] at hx
  simp only[AV.snapL,AV.cloL,Bool.and_eq_true]
  exact⟨clo_snap hx.1,cloL_snap hx.2⟩
end
theorem Ext.trans {w0 w1 w2:World} {own B:Nat→Prop} (h:Ext w0 w1 own) (g:Ext w1 w2 B) (hB:∀ b,B b→b<w0.heap.size→own b) (hl:∀ b,B b→b<w1.heap.size):Ext w0 w2 own:=by
 classical
 refine⟨fun b hb hno=>?_,Nat.le_trans h.le g.le,g.os.trans h.os,g.out.trans h.out,trivial⟩
 ·rw[g.old b (Nat.lt_of_lt_of_le hb h.le) (fun hh=>hno (hB b hh hb))]
  exact h.old b hb hno
def ExE (m:Nat→Nat) (n:Nat):AEx→AEx→Prop
 | .pan x,.pan y=>x=y.ren m∧y.ids (· <n)
 | .norm,.norm=>True
 | .ret,.ret=>True
 | .exit i,.exit j=>i=j
 |_,_=>False
def repQ (n:Nat) (m:Nat→Nat) (Q:AEx→St→Prop) (e:AEx) (σ:St):Prop:=
 ∃ σ3 e',Ent 0 m σ σ3∧(∀ i,i<n→i<σ3.nx)∧ExE m σ3.nx e e'∧Q e' σ3
theorem AW.repinM {c : Code} {Q : AEx → St → Prop} {σ' : St} (n2 : Nat) (m m2 : Nat → Nat) (he : Ent 0 m σ σ') (hv : ∀ j, j < n2 → ∃ o, σ'.hp j = some o) (hm : ∀ i, i < E.np → m2 i < n2 ∧ m (m2 i) = i)
    (h:∀ E':En,E'.nt=E.nt→E'.np=n2→(E'.rd=E.rd∧E'.mks=E.mks∧E'.ex=E.ex)→AW P E' c (repQ E.np m2 Q) σ'):AW P E c Q σ:=by
  intro ρ V Z a w hs hV
  have hs0:Sat { E with np:=0 } ρ V Z σ a w:=⟨hs.nt,hs.df,hs.fr,hs.hs,hs.ext,hs.ownd,hs.z0,hs.zn,fun id hid=>absurd hid (Nat.not_lt_zero _)⟩
  have hs1:=hs0.ent he
  have hs2:Sat { E with np:=n2,r0:=fun i=>ρ (m i) } (fun i=>ρ (m i)) (fun i=>i<σ'.nx∧V (m i)) Z σ' a w:=
    ⟨hs1.nt,hs1.df,hs1.fr,hs1.hs,hs1.ext,hs1.ownd,hs1.z0,hs1.zn,fun id hid=>by
      obtain⟨o,ho⟩:=hv id hid
      exact⟨(hs1.hs.obj id o ho).1,rfl⟩⟩
  refine wpX_mono ?_ (h { E with np:=n2,r0:=fun i=>ρ (m i) } rfl rfl ⟨rfl,rfl,rfl⟩ _ _ Z a w hs2 (fun id hid=>hid.1))
  rintro e a2 w2 ⟨ρ2,V2,Z2,σ2,x2,k1,⟨σ3,e',g1,g2,g3,g4⟩,k3,k4⟩
  have k3':Sat { E with np:=0 } ρ2 V2 Z2 σ2 a2 w2:=⟨k3.nt,k3.df,k3.fr,k3.hs,k3.ext,k3.ownd,k3.z0,k3.zn,fun id hid=>absurd hid (Nat.not_lt_zero _)⟩
  have k5:=k3'.ent g1
  refine⟨_,_,Z2,σ3,e',?_,g4,⟨k5.nt,k5.df,k5.fr,k5.hs,k5.ext,k5.ownd,k5.z0,k5.zn,fun id hid=>?_⟩,fun _ id hid=>hid.1⟩
  · cases e<;>cases x2<;>simp only[ExR] at k1<;>cases e'<;>simp only[ExE] at g3
    · trivial
    · simp only[ExR];rw[k1,g3]
    · trivial
    · obtain⟨v,rfl,hv⟩:=k1
      obtain⟨rfl,hid⟩:=g3
      exact⟨v,rfl,rel_ren m2 _ v hid hv⟩
  · obtain⟨p1,p2⟩:=hm id hid
    obtain⟨p3,p4⟩:=k3.pn (m2 id) p1
    refine⟨⟨g2 id hid,p3⟩,?_⟩
    rw[p4]
    show ρ (m (m2 id))=E.r0 id
    rw[p2]
    exact(hs.pn id hid).2
theorem AW.repin {c : Code} {Q : AEx → St → Prop} {σ' : St} (n2 : Nat) (m m2 : Nat → Nat) (he : Ent 0 m σ σ') (hv : ∀ j, j < n2 → ∃ o, σ'.hp j = some o) (hm : ∀ i, i < E.np → m2 i < n2 ∧ m (m2 i) = i)
    (h:∀ E':En,E'.nt=E.nt→E'.np=n2→AW P E' c (repQ E.np m2 Q) σ'):AW P E c Q σ:=AW.repinM n2 m m2 he hv hm fun E' h1 h2 _=>h E' h1 h2
end Go.Am

namespace Go.Am
open Go
variable {P:Program} {E:En} {σ:St}
theorem CallB.sub {f : FuncId} {vs : List AV} {k : Nat} {d : Option Nat} {K0 K : St → Prop} {Kp0 Kp : AV → St → Prop} (h : CallB P f vs σ k d K0 Kp0)
    (hK:∀ σ',K0 σ'→∃ σ'',K σ''∧σ''.nx=σ'.nx∧σ''.fr=σ'.fr∧∀ id o,σ''.hp id=some o→σ'.hp id=some o)
    (hKp:∀ x σ',Kp0 x σ'→∃ σ'',Kp x σ''∧σ''.nx=σ'.nx∧σ''.fr=σ'.fr∧∀ id o,σ''.hp id=some o→σ'.hp id=some o):CallB P f vs σ k d K Kp:=by
  refine⟨h.1,fun E ρ V Z a w args hs hV hd hsz hrel=>(h.2 E ρ V Z a w args hs hV hd hsz hrel).mono ?_⟩
  have key:∀ {ρ' V' Z' σ' σ'' a' w'},Sat E ρ' V' Z' σ' a' w'→σ''.fr=σ'.fr→(∀ id o,σ''.hp id=some o→σ'.hp id=some o)→Sat E ρ' V' Z' σ'' a' w':=by
    intro ρ' V' Z' σ' σ'' a' w' g h1 h2
    exact⟨g.nt,g.df,fun t x hx=>g.fr t x (h1▸hx),g.hs.sub h2,g.ext,fun id o b ho=>g.ownd id o b (h2 _ _ ho),g.z0,g.zn,g.pn⟩
  rintro e w' ⟨ρ',V',Z',h1,h2,⟨v,σ',rfl,h3,h4,h5⟩|⟨v,x,σ',rfl,h3,h4,h5,h6⟩⟩
  · obtain⟨σ'',g1,g2,g3,g4⟩:=hK σ' h4
    exact⟨ρ',V',Z',h1,h2,.inl ⟨v,σ'',rfl,g2.trans h3,g1,key h5 g3 g4⟩⟩
  · obtain⟨σ'',g1,g2,g3,g4⟩:=hKp x σ' h4
    exact⟨ρ',V',Z',h1,h2,.inr ⟨v,x,σ'',rfl,g2.trans h3,g1,h5,key h6 g3 g4⟩⟩
def A0 (P:Program) (f:FuncId) (vs:List AV) (R Rp:AV→Prop):Prop:=
 ACall P f vs (fun _=>none) 0 0 (fun r hp'=>R r∧r.clo=true∧hp'=fun _=>none) (fun x hp'=>Rp x∧x.clo=true∧hp'=fun _=>none)
theorem A0.intro {f : FuncId} {fn : Func} {c : Code} {vs : List AV} {R Rp : AV → Prop} (hf : P.funcs[f]? = some fn) (hb : fn.body = some c) (hfn : isFn P f = true) (hn : vs.length ≤ fn.ntmps)
    (h:∀ (E:En) (Q:AEx→St→Prop),E.nt=fn.ntmps→E.np=0→(∀ σ,(∃ r,resA P fn.results.toList σ=some r∧R r∧r.clo=true)→Q .ret σ∧Q .norm σ)→(∀ x σ,Rp x→x.clo=true→Q (.pan x) σ)→AW P E c Q ⟨mkPar 0 vs,mkHp [],0⟩):A0 P f vs R Rp:=by
  have hid:∀ {x:AV},x.clo=true→x.ren (fun i=>i)=x:=fun _=>ren_id _
  have hids:∀ (p:Nat→Prop) (x:AV),x.clo=true→x.ids p:=by
    intro p
    have key:(∀ x:AV,x.clo=true→x.ids p):=by
      intro x
      exact @AV.rec (fun x=>x.clo=true→x.ids p) (fun l=>AV.cloL l=true→AV.idsL p l) (fun _ _=>trivial) (fun _ _ _=>trivial) (fun _ _=>trivial) (fun _=>trivial) (fun _ _ h=>by simp[AV.clo] at h) (fun _ _ _ _=>trivial)
        (fun _ _ _ _ h=>by simp[AV.clo] at h) (fun _=>trivial) (fun _ _ _=>trivial) (fun _ h=>by simp[AV.clo] at h) (fun _=>trivial) (fun _ h=>by simp[AV.clo] at h) (fun _=>trivial)
        (fun _ a b ha hb h=>by simp only[AV.clo,Bool.and_eq_true] at h;exact⟨ha h.1,hb h.2⟩) (fun _=>trivial) (fun _ _ hv h=>hv h) (fun _ hl h=>hl h) (fun _ hl h=>hl h) (fun _=>trivial)
        (fun _ _ ha hl h=>by simp only[AV.cloL,Bool.and_eq_true] at h;exact⟨ha h.1,hl h.2⟩) x
    exact key
  refine⟨hfn,fun ρ V Z w args hh hnp hnx hsz hrel=>?_⟩
  have hsat:=sat_start (nx:=0) hn hh hnp hsz hrel
  have hbody:=h _ (fun e σ=>match e with| .ret| .norm=>∃ r,resA P fn.results.toList σ=some r∧R r∧r.clo=true| .pan x=>Rp x∧x.clo=true| .exit _=>False) rfl rfl (fun σ hσ=>⟨hσ,hσ⟩) (fun x σ h1 h2=>⟨h1,h2⟩) ρ V Z _ w hsat hnx
  refine calls_of_sat hf hb rfl rfl hbody ?_ ?_ (fun j σ h=>h)
  · rintro ρ' V' Z' σ a w' h3 hq _
    have h5:HSat ρ' V' Z' w' (fun _=>none):=h3.hs.sub (fun id o ho=>by cases ho)
    obtain⟨r,hr,hR,hc⟩:∃ r,resA P fn.results.toList σ=some r∧R r∧r.clo=true:=hq.elim (fun h=>h) (fun h=>h)
    obtain⟨v,hv1,hv2⟩:=results_run h3 hr
    exact⟨v,hv1,ρ',V',Z',fun _=>none,h5,h3.ext,h3.pn,h3.z0,h3.zn,fun id o b ho=>(by cases ho),.inl ⟨v,r,rfl,hv2,hR,hc,rfl⟩⟩
  · rintro ρ' V' Z' σ a w' v x h3 hv h2
    have h5:HSat ρ' V' Z' w' (fun _=>none):=h3.hs.sub (fun id o ho=>by cases ho)
    exact⟨ρ',V',Z',fun _=>none,h5,h3.ext,h3.pn,h3.z0,h3.zn,fun id o b ho=>(by cases ho),.inr ⟨v,_,rfl,hv,h2.1,h2.2,rfl⟩⟩
theorem clo_ids {p:Nat→Prop} :∀ {x:AV},x.clo=true→x.ids p:=by
 intro x
 exact @AV.rec (fun x=>x.clo=true→x.ids p) (fun l=>AV.cloL l=true→AV.idsL p l) (fun _ _=>trivial) (fun _ _ _=>trivial) (fun _ _=>trivial) (fun _=>trivial) (fun _ _ h=>by simp[AV.clo] at h) (fun _ _ _ _=>trivial)
  (fun _ _ _ _ h=>by simp[AV.clo] at h) (fun _=>trivial) (fun _ _ _=>trivial) (fun _ h=>by simp[AV.clo] at h) (fun _=>trivial) (fun _ h=>by simp[AV.clo] at h) (fun _=>trivial)
  (fun _ a b ha hb h=>by simp only[AV.clo,Bool.and_eq_true] at h;exact⟨ha h.1,hb h.2⟩) (fun _=>trivial) (fun _ _ hv h=>hv h) (fun _ hl h=>hl h) (fun _ hl h=>hl h) (fun _=>trivial)
  (fun _ _ ha hl h=>by simp only[AV.cloL,Bool.and_eq_true] at h;exact⟨ha h.1,hl h.2⟩) x
theorem clo_ren {m:Nat→Nat} :∀ {x:AV},x.clo=true→x.ren m=x:=by
 intro x
 refine @AV.rec (fun x=>x.clo=true→x.ren m=x) (fun l=>AV.cloL l=true→AV.renL m l=l) (fun _ _=>rfl) (fun _ _ _=>rfl) (fun _ _=>rfl) (fun _=>rfl) (fun _ _ h=>by simp[AV.clo] at h) (fun _ _ _ _=>rfl)
  (fun _ _ _ _ h=>by simp[AV.clo] at h) (fun _=>rfl) (fun _ _ _=>rfl) (fun _ h=>by simp[AV.clo] at h) (fun _=>rfl) (fun _ h=>by simp[AV.clo] at h) (fun _=>rfl)
  (fun _ a b ha hb h=>by simp only[AV.clo,Bool.and_eq_true] at h;simp only[AV.ren,ha h.1,hb h.2]) (fun _=>rfl) (fun _ _ hv h=>by simp only[AV.clo] at h;simp only[AV.ren,hv h]) (fun _ hl h=>by simp only[AV.clo] at h;simp only[AV.ren,hl h]) (fun _ hl h=>by simp only[AV.clo] at h;simp only[AV.ren,hl h]) (fun _=>rfl)
  (fun _ _ ha hl h=>by simp only[AV.cloL,Bool.and_eq_true] at h;simp only[AV.renL,ha h.1,hl h.2]) x
theorem cloL_renL {m:Nat→Nat} :∀ {l:List AV},AV.cloL l=true→AV.renL m l=l
 | [],_=>rfl
 |x::l,h=>by
  simp only[AV.cloL,Bool.and_eq_true] at h
  simp only[AV.renL,clo_ren h.1,cloL_renL h.2]
theorem cloL_idsL {p:Nat→Prop} :∀ {l:List AV},AV.cloL l=true→AV.idsL p l
 | [],_=>trivial
 |x::l,h=>by
  simp only[AV.cloL,Bool.and_eq_true] at h
  exact⟨clo_ids h.1,cloL_idsL h.2⟩
theorem CallB.of_A0 {f:FuncId} {vs:List AV} {R Rp:AV→Prop} {k:Nat} {d:Option Nat} {K:St→Prop} {Kp:AV→St→Prop} (hA:A0 P f vs R Rp) (hclo:AV.cloL vs=true) (hK:∀ r,R r→K (σ.put d r)) (hKp:∀ x,Rp x→Kp x σ):CallB P f vs σ k d K Kp:=by
 refine CallB.sub (K0:=fun σ'=>∃ r,R r∧σ'.nx=σ.nx∧σ'.fr=(σ.put d r).fr∧∀ id o,σ.hp id=some o→σ'.hp id=some o) (Kp0:=fun x σ'=>Rp x∧σ'.nx=σ.nx∧σ'.fr=σ.fr∧∀ id o,σ.hp id=some o→σ'.hp id=some o) ?_ ?_ ?_
 ·refine CallB.of_A hA (fun i=>i) (cloL_renL hclo).symm (cloL_idsL hclo) (fun id o h=>by cases h) (fun id id' o o' h=>by cases h) (fun id h=>absurd h (Nat.not_lt_zero _)) ?_ ?_ ?_ ?_
  ·rintro r hp' ⟨_,h2,rfl⟩;exact⟨clo_ids h2,fun id o h=>by cases h⟩
  ·rintro r hp' ⟨_,h2,rfl⟩;exact⟨clo_ids h2,fun id o h=>by cases h⟩
  ·rintro r hp' σ' ⟨h1,h2,rfl⟩ hB
   exact⟨r,h1,hB.nx,by rw[hB.fr];simp only[clo_ren h2],fun id o ho=>hB.old id o ho (fun j hj=>absurd rfl hj)⟩
  ·rintro x hp' σ' ⟨h1,h2,rfl⟩ hB
   rw[clo_ren h2]
   exact⟨h1,hB.nx,hB.fr,fun id o ho=>hB.old id o ho (fun j hj=>absurd rfl hj)⟩
 ·rintro σ' ⟨r,h1,h2,h3,h4⟩
  exact⟨σ.put d r,hK r h1,by rw[St.put_nx];exact h2.symm,h3.symm,fun id o ho=>h4 id o (by rw[St.put_hp] at ho;exact ho)⟩
 ·rintro x σ' ⟨h1,h2,h3,h4⟩
  exact⟨σ,hKp x h1,h2.symm,h3.symm,h4⟩
def onI (x:Option AV) (f:AV→Prop):Prop:=
 match x with
 |some (.iface t y)=>f (.iface t y)
 |_=>False
@[go_sem] theorem onI_some {t:TypeId} {y:AV} {f:AV→Prop} :onI (some (.iface t y)) f=f (.iface t y):=_root_.id rfl
@[congr] theorem onI_congr {x y:Option AV} {f:AV→Prop} (h:x=y):onI x f=onI y f:=by rw[h]
@[go_sem ↓, go_sem] theorem goX_panic {k : Nat} {d : Option Tmp} {x : Operand} {ty : TypeId} {pos : String} {aft : Array Edge} {g : Option (Nat × Bool)} {fr : Nat → Option AV} {hp : Nat → Option AObj} {nx : Nat} {K : St → Prop} {Kp : AV → St → Prop} :
    goX P true k ⟨d,.panic x,ty,pos,aft,g⟩ ⟨fr,hp,nx⟩ K Kp=onI (evA ⟨fr,hp,nx⟩ x) fun v=>Kp v ⟨fr,hp,nx⟩:=by
  simp only[goX,if_true,onI]
  rfl
end Go.Am

namespace Go.Am
open Go
variable {P:Program} {E:En} {σ:St} {Q:AEx→St→Prop}
inductive Tr where
 |nil
 |leaf
 |alt (i:Nat) (sub rest:Tr)
def Tr.find:Tr→Nat→Option Tr
 | .alt i s r,j=>if i=j then some s else r.find j
 |_,_=>none
theorem goG_monoB {bar:Bool} {bs:Option (List Nat)} {ds:List (Option Nat)} {k:Nat} {o:Oper} {K K':St→Prop} {Kp:AV→St→Prop} (h:∀ σ,K σ→K' σ):goG P bar bs ds k o σ K Kp→goG P bar bs ds k o σ K' Kp:=by
 intro hg
 unfold goG at hg ⊢
 split at hg
 ·refine⟨hg.1,?_⟩
  have hx:=hg.2
  unfold goX at hx ⊢
  split at hx
  ·split at hx
   ·split at hx
    ·rename_i hb
     rw[if_pos hb]
     refine⟨hx.1,fun E ρ V Z a w args g1 g2 g3 g4 g5=>(hx.2 E ρ V Z a w args g1 g2 g3 g4 g5).mono ?_⟩
     rintro e w' ⟨ρ',V',Z',k1,k2,k3⟩
     refine⟨ρ',V',Z',k1,k2,k3.imp ?_ (fun h=>h)⟩
     rintro⟨v,σ',h1,h2,h3,h4⟩
     exact⟨v,σ',h1,h2,h _ h3,h4⟩
    ·rename_i hb
     rw[if_neg hb]
     obtain⟨h1,r,h2,h3,h4⟩:=hx
     exact⟨h1,r,h2,h3,h _ h4⟩
   ·split at hx
    ·rename_i hb
     rw[if_pos hb]
     refine fun E ρ V Z a w args g1 g2 g3 g4 g5=>(hx E ρ V Z a w args g1 g2 g3 g4 g5).mono ?_
     rintro e w' ⟨ρ',V',Z',k1,k2,k3⟩
     refine⟨ρ',V',Z',k1,k2,k3.imp ?_ (fun h=>h)⟩
     rintro⟨v,σ',h1,h2,h3,h4⟩
     exact⟨v,σ',h1,h2,h _ h3,h4⟩
    ·exact hx.elim
   ·exact hx.elim
  ·exact hx
  ·exact hx
  ·split at hx
   ·exact⟨hx.1,h _ hx.2⟩
   ·exact hx.elim
  ·split at hx
   ·exact⟨hx.1,h _ hx.2⟩
   ·exact hx.elim
 ·exact h _ hg
 ·exact hg.elim
end Go.Am

namespace Go.Am
open Go
variable {P:Program} {E:En} {ρ:Nat→Ref} {V:Nat→Prop} {Z:Nat→Nat→Prop} {σ:St} {a:Act} {w:World}
def AV.dsn (F:Nat→Option AObj):Nat→AV→AV
 |0,a=>a
 |n+1,.rw id=>match F id with|some (.row _ l)=> .sl (l.map (AV.dsn F n))|_=> .rw id
 |_+1,.nilsl=> .sl []
 |n+1,.agg l=> .agg (l.map (AV.dsn F n))
 |n+1,.tup l=> .tup (l.map (AV.dsn F n))
 |_+1,a=>a
def AV.dsnOk (F:Nat→Option AObj):Nat→AV→Prop
 |0,_=>True
 |n+1,.rw id=>match F id with|some (.row _ l)=>∀ e,e∈l→AV.dsnOk F n e∧(e.dsn F n).cells.all AV.clo=true|_=>True
 |n+1,.agg l=>∀ e,e∈l→AV.dsnOk F n e
 |n+1,.tup l=>∀ e,e∈l→AV.dsnOk F n e
 |_+1,_=>True
theorem dsn_one (F:Nat→Option AObj) (n:Nat) (x:AV):(x.dsn F n).one=x.one:=by
 cases n with
 |zero=>rfl
 |succ n=>cases x<;>simp only[AV.dsn]<;>first|rfl|(split<;>rfl)
theorem getD_mem {l:List AV} {i:Nat} (hi:i<l.length):l.getD i default∈l:=by
 have:l.getD i default=l[i]:=by simp[List.getD_eq_getElem?_getD,hi]
 rw[this];exact List.getElem_mem hi
theorem getD_map {f:AV→AV} {l:List AV} {i:Nat} (hi:i<l.length):(l.map f).getD i default=f (l.getD i default):=by
 simp[List.getD_eq_getElem?_getD,hi]
theorem dsn_cells (F:Nat→Option AObj) (n:Nat) (x:AV):(x.dsn F n).cells.length=x.cells.length∧∀ j,j<x.cells.length→∃ m,m≤n∧(x.dsn F n).cells.getD j default=(x.cells.getD j default).dsn F m∧(x.dsnOk F n→(x.cells.getD j default).dsnOk F m):=by
 cases n with
 |zero=>exact⟨rfl,fun j _=>⟨0,Nat.le_refl _,rfl,fun _=>trivial⟩⟩
 |succ n=>
  by_cases hx:∃ l,x= .agg l
  ·obtain⟨l,rfl⟩:=hx
   simp only[AV.dsn,AV.cells,List.length_map,true_and]
   intro j hj
   exact⟨n,Nat.le_succ n,getD_map hj,fun h=>h _ (getD_mem hj)⟩
  ·have h':∀ l,x≠ .agg l:=fun l e=>hx ⟨l,e⟩
   have e1:x.cells=[x]:=by cases x<;>first|rfl|exact absurd rfl (h' _)
   have e2:(x.dsn F (n+1)).cells=[x.dsn F (n+1)]:=by
    cases x<;>first|rfl|exact absurd rfl (h' _)|(simp only[AV.dsn];split<;>rfl)
   rw[e1,e2]
   refine⟨rfl,fun j hj=>?_⟩
   obtain rfl:j=0:=by simpa using hj
   exact⟨n+1,Nat.le_refl _,rfl,fun h=>h⟩
theorem dsn_rel {F:Nat→Option AObj} (hs:HSat ρ V Z w F) (n:Nat):∀ {v:Value} {x:AV},Rel ρ V Z w v x→x.dsnOk F n→Rel ρ V (ZR ρ Z ⟨fun _=>none,F,0⟩) w v (x.dsn F n):=by
 have hm:∀ {v x},Rel ρ V Z w v x→Rel ρ V (ZR ρ Z ⟨fun _=>none,F,0⟩) w v x:=fun h=>h.mono (fun _ _=>rfl) (fun _ h=>h) (fun _ _ h=> .inl h) (fun _ _ _=>rfl)
 induction n using Nat.strongRecOn with
 |_ n ih=>
  cases n with
  |zero=>intro v x h _;exact hm h
  |succ n=>
   intro v x h hx
   cases x with
   |rw id=>
    obtain⟨hv,hV⟩:=h.rw_inv
    simp only[AV.dsnOk] at hx
    simp only[AV.dsn]
    cases ho:F id with
    |none=>exact hm h
    |some o=>
     cases o with
     |cells l=>exact hm h
     |map es=>exact hm h
     |lp q l=>exact hm h
     |row sz l=>
      simp only[ho] at hx ⊢
      rw[hv]
      rcases(hs.obj id _ ho).2.row_cells' with ⟨h0,rfl⟩|⟨h0,cs,ty,h1,h2,h3,h4,h5⟩
      ·simp only[Ref.slice,h0,if_true,List.map_nil];exact .sl0 _ _
      ·simp only[Ref.slice,h0,Bool.false_eq_true,if_false,h2]
       have hlen:(l.map (AV.dsn F n)).length=l.length:=List.length_map ..
       rw[← hlen]
       have hg:∀ i,i<l.length→(l.map (AV.dsn F n)).getD i default=(l.getD i default).dsn F n:=fun i hi=>getD_map hi
       refine .sl (ρ id).blk (ρ id).off (ρ id).cap sz _ (fun i j=>cs.getD ((ρ id).off+i*sz+j) undef) (by rw[hlen];exact h3) (fun i hi=>?_) (fun i j hi hj=>?_) (fun i j hi hj=>?_)
       ·rw[hlen] at hi
        rw[hg i hi,(dsn_cells F n _).1];exact h5.1 i hi
       ·rw[hlen] at hi
        have h6:(ρ id).off+i*sz+j<cs.size:=by
         have:=row_idx hi hj
         have:=Nat.mul_le_mul_right sz h3
         omega
        have hjl:j<(l.getD i default).cells.length:=by rw[h5.1 i hi];exact hj
        obtain⟨m,hm1,hm2,_⟩:=(dsn_cells F n (l.getD i default)).2 j hjl
        refine⟨?_,.inr ⟨id,_,_,ho,h0,rfl⟩,?_,?_⟩
        ·simp[World.cell?,h1,Array.getD,h6]
        ·rw[hg i hi,hm2,dsn_one];exact(h5.2 i j hi hj).1
        ·rw[hg i hi]
         have hall:=(hx _ (getD_mem hi)).2
         rw[List.all_eq_true] at hall
         exact hall _ (getD_mem (by rw[(dsn_cells F n _).1];exact hjl))
       ·rw[hlen] at hi
        have hjl:j<(l.getD i default).cells.length:=by rw[h5.1 i hi];exact hj
        obtain⟨m,hm1,hm2,hm3⟩:=(dsn_cells F n (l.getD i default)).2 j hjl
        rw[hg i hi,hm2]
        exact ih m (by omega) (by simpa using (h5.2 i j hi hj).2) (hm3 (hx _ (getD_mem hi)).1)
   |nilsl=>rw[h.nilsl_inv];exact .sl0 _ _
   |agg l=>
    obtain⟨cs,rfl,h1,h2,h3⟩:=h.agg_inv
    simp only[AV.dsnOk] at hx
    simp only[AV.dsn]
    refine .agg _ _ (by rw[List.length_map];exact h1) (fun i hi=>?_) (fun i hi=>?_)
    ·rw[List.length_map] at hi;rw[getD_map hi,dsn_one];exact h2 i hi
    ·rw[List.length_map] at hi;rw[getD_map hi];exact ih n (Nat.lt_succ_self n) (h3 i hi) (hx _ (getD_mem hi))
   |tup l=>
    obtain⟨cs,rfl,h1,h3⟩:=h.tup_inv
    simp only[AV.dsnOk] at hx
    simp only[AV.dsn]
    refine .tup _ _ (by rw[List.length_map];exact h1) (fun i hi=>?_)
    rw[List.length_map] at hi;rw[getD_map hi];exact ih n (Nat.lt_succ_self n) (h3 i hi) (hx _ (getD_mem hi))
   |_=>exact hm h
def Dsn (F:Nat→Option AObj) (x x':AV):Prop:=x'=x∨∃ n,x.dsnOk F n∧x'=x.dsn F n
theorem Dsn.rel {F:Nat→Option AObj} (hF:HSat ρ V Z w F) {v:Value} {x x':AV} (h:Rel ρ V Z w v x) (hx:Dsn F x x'):Rel ρ V (ZR ρ Z ⟨fun _=>none,F,0⟩) w v x':=by
 rcases hx with rfl|⟨n,h1,rfl⟩
 ·exact h.mono (fun _ _=>rfl) (fun _ h=>h) (fun _ _ h=> .inl h) (fun _ _ _=>rfl)
 ·exact dsn_rel hF n h h1
theorem Sat.dfr (h : Sat E ρ V Z σ a w) {F : Nat → Option AObj} (hF : ∀ id o, F id = some o → σ.hp id = some o) {σ' : St}
    (hfr:∀ t x',σ'.fr t=some x'→∃ x,σ.fr t=some x∧Dsn F x x') (hhp:∀ id o',σ'.hp id=some o'→F id=none∧σ.hp id=some o'):Sat E ρ V (ZR ρ Z ⟨fun _=>none,F,0⟩) σ' a w:=by
  have g:=h.frz (F:=F) hF (σ':=⟨fun _=>none,σ'.hp,σ'.nx⟩) (fun t x' hx=>by cases hx) (fun id o' ho=>⟨(hhp id o' ho).1,o',(hhp id o' ho).2,SnpO.refl _⟩)
  exact⟨g.nt,g.df,fun t x' hx=>by
    obtain⟨x,h1,h2⟩:=hfr t x' hx
    exact h2.rel (h.hs.sub hF) (h.fr t x h1),g.hs,g.ext,g.ownd,g.z0,g.zn,g.pn⟩
theorem AW.dfr {c : Code} {Q : AEx → St → Prop} {σ' : St} (F : Nat → Option AObj) (hF : ∀ id o, F id = some o → σ.hp id = some o)
    (hfr:∀ t x',σ'.fr t=some x'→∃ x,σ.fr t=some x∧Dsn F x x') (hhp:∀ id o',σ'.hp id=some o'→F id=none∧σ.hp id=some o') (hnx:σ'.nx=σ.nx) (h:AW P E c Q σ'):AW P E c Q σ:=
  fun ρ V Z a w hs hV=>h _ _ _ a w (hs.dfr hF hfr hhp) (fun id hid=>by rw[hnx];exact hV id hid)
theorem CallB.dfr {g : FuncId} {us : List AV} {k : Nat} {d : Option Nat} {K : St → Prop} {Kp : AV → St → Prop} (F : Nat → Option AObj) (n : Nat) (hp' : Nat → Option AObj) (hF : ∀ id o, F id = some o → σ.hp id = some o)
    (hhp:∀ id o',hp' id=some o'→F id=none∧σ.hp id=some o') (hok:∀ x,x∈us→x.dsnOk F n) (h:CallB P g (us.map (AV.dsn F n)) ⟨σ.fr,hp',σ.nx⟩ k d K Kp):CallB P g us σ k d K Kp:=by
  refine⟨h.1,fun E ρ V Z a w args hs hV hd hsz hrel=>?_⟩
  have hs':=hs.dfr (F:=F) hF (σ':=⟨σ.fr,hp',σ.nx⟩) (fun t x' hx=>⟨x',hx,.inl rfl⟩) hhp
  exact h.2 E ρ V _ a w args hs' hV hd (by rw[List.length_map];exact hsz) (fun i hi=>by
    rw[List.length_map] at hi
    rw[getD_map hi]
    exact dsn_rel (hs.hs.sub hF) n (hrel i hi) (hok _ (getD_mem hi)))
def onlyIn (L:List Nat) (h:Nat→Option AObj) (id:Nat):Option AObj:=if id∈L then h id else none
def notIn (L:List Nat) (h:Nat→Option AObj) (id:Nat):Option AObj:=if id∈L then none else h id
theorem CallB.dfrL {g : FuncId} {us us' : List AV} {k : Nat} {d : Option Nat} {K : St → Prop} {Kp : AV → St → Prop} (L : List Nat) (n : Nat) (he : us.map (AV.dsn (onlyIn L σ.hp) n) = us') (hok : ∀ x, x ∈ us → x.dsnOk (onlyIn L σ.hp) n)
    (h:CallB P g us' ⟨σ.fr,notIn L σ.hp,σ.nx⟩ k d K Kp):CallB P g us σ k d K Kp:=by
  subst he
  refine CallB.dfr (onlyIn L σ.hp) n (notIn L σ.hp) (fun id o ho=>?_) (fun id o ho=>?_) hok h
  · unfold onlyIn at ho;split at ho
    · exact ho
    · cases ho
  · unfold notIn at ho;split at ho
    · cases ho
    · rename_i hn;exact⟨if_neg hn,ho⟩
theorem AW.dfrL {c : Code} {Q : AEx → St → Prop} (L : List Nat) (n : Nat) (fr : List (Nat × AV)) (hfr : ∀ p, p ∈ fr → ∃ x, σ.fr p.1 = some x ∧ x.dsnOk (onlyIn L σ.hp) n ∧ x.dsn (onlyIn L σ.hp) n = p.2)
    (h:AW P E c Q ⟨mkFr fr,notIn L σ.hp,σ.nx⟩):AW P E c Q σ:=by
  have hmem:∀ {fr:List (Nat×AV)} {t:Nat} {x:AV},mkFr fr t=some x→(t,x)∈fr:=by
    intro fr
    induction fr with
    |nil=>intro t x h;cases h
    |cons p fr ih=>
      intro t x h
      obtain⟨t',x'⟩:=p
      simp only[mkFr,upd] at h
      split at h
      · rename_i e;cases h;simp[e]
      · exact List.mem_cons_of_mem _ (ih h)
  refine AW.dfr (σ':=⟨mkFr fr,notIn L σ.hp,σ.nx⟩) (onlyIn L σ.hp) (fun id o ho=>?_) (fun t x' hx=>?_) (fun id o ho=>?_) rfl h
  · unfold onlyIn at ho;split at ho
    · exact ho
    · cases ho
  · obtain⟨x,h1,h2,h3⟩:=hfr _ (hmem hx)
    exact⟨x,h1,.inr ⟨n,h2,h3.symm⟩⟩
  · simp only[notIn] at ho;split at ho
    · cases ho
    · rename_i hn;exact⟨if_neg hn,ho⟩
section
variable {F:Nat→Option AObj} {n:Nat}
def dsnR (F:Nat→Option AObj) (n:Nat) (id:Nat):Option AObj→AV
 |some (.row _ l)=> .sl (l.map (AV.dsn F n))
 |_=> .rw id
def dsnRok (F:Nat→Option AObj) (n:Nat):Option AObj→Prop
 |some (.row _ l)=>∀ e,e∈l→AV.dsnOk F n e∧(e.dsn F n).cells.all AV.clo=true
 |_=>True
@[go_sem] theorem dsn_rw {id:Nat} :AV.dsn F (n+1) (.rw id)=dsnR F n id (F id):=by
 simp only[AV.dsn,dsnR]
@[go_sem] theorem dsnR_row {id sz:Nat} {l:List AV} :dsnR F n id (some (.row sz l))= .sl (l.map (AV.dsn F n)):=_root_.id rfl
@[go_sem] theorem dsn_nilsl:AV.dsn F (n+1) .nilsl= .sl []:=_root_.id rfl
@[go_sem] theorem dsn_agg {l:List AV} :AV.dsn F (n+1) (.agg l)= .agg (l.map (AV.dsn F n)):=_root_.id rfl
@[go_sem] theorem dsn_int {k:IntKind} {i:Int} :AV.dsn F (n+1) (.int k i)= .int k i:=_root_.id rfl
@[go_sem] theorem dsn_str {s:ByteArray} :AV.dsn F (n+1) (.str s)= .str s:=_root_.id rfl
@[go_sem] theorem dsn_sl {l:List AV} :AV.dsn F (n+1) (.sl l)= .sl l:=_root_.id rfl
@[go_sem] theorem dsnOk_rw {id:Nat} :AV.dsnOk F (n+1) (.rw id)=dsnRok F n (F id):=by
 simp only[AV.dsnOk,dsnRok]
@[go_sem] theorem dsnRok_row {sz:Nat} {l:List AV} :dsnRok F n (some (.row sz l))= ∀ e,e∈l→AV.dsnOk F n e∧(e.dsn F n).cells.all AV.clo=true:=_root_.id rfl
@[go_sem] theorem dsnOk_nilsl:AV.dsnOk F (n+1) .nilsl=True:=_root_.id rfl
@[go_sem] theorem dsnOk_agg {l:List AV} :AV.dsnOk F (n+1) (.agg l)= ∀ e,e∈l→AV.dsnOk F n e:=_root_.id rfl
@[go_sem] theorem dsnOk_int {k:IntKind} {i:Int} :AV.dsnOk F (n+1) (.int k i)=True:=_root_.id rfl
@[go_sem] theorem dsnOk_str {s:ByteArray} :AV.dsnOk F (n+1) (.str s)=True:=_root_.id rfl
@[go_sem] theorem dsnOk_sl {l:List AV} :AV.dsnOk F (n+1) (.sl l)=True:=_root_.id rfl
@[go_sem] theorem onlyIn_at {L:List Nat} {h:Nat→Option AObj} {id:Nat} :onlyIn L h id=if id∈L then h id else none:=_root_.id rfl
@[go_sem] theorem notIn_at {L:List Nat} {h:Nat→Option AObj} {id:Nat} :notIn L h id=if id∈L then none else h id:=_root_.id rfl
end
theorem resA_cell {σ:St} {t:Nat} {ty:TypeId} {id off:Nat} {T:TI} {l:List AV} {x:AV} (h1:σ.fr t=some (.ptr id off)) (h2:ti P ty=some T) (h3:σ.hp id=some (.cells l)) (h4:ldA T l off=some x):resA P [.cell t ty] σ=some x:=by
 simp[resA,rvA,h1,h2,h3,h4]
theorem CallB.dpure {g : FuncId} {us us' : List AV} {r : AV} {k : Nat} {d : Option Nat} {K : St → Prop} {Kp : AV → St → Prop} (L : List Nat) (n : Nat) (h : PCall P g us' r) (he : us.map (AV.dsn (onlyIn L σ.hp) n) = us') (hok : ∀ x, x ∈ us → x.dsnOk (onlyIn L σ.hp) n)
    (hu:∀ h,AV.snapL h us'=us') (hs:∀ h,AV.snapOkL h us') (hf:us'.all AV.noRw=true) (hk:K (St.put ⟨σ.fr,notIn L σ.hp,σ.nx⟩ d r)):CallB P g us σ k d K Kp:=
  CallB.dfrL L n he hok (CallB.of_P ⟨hs _,r,RCall.of_P (by rw[hu];exact h) _,.inr hf,hk⟩)
theorem AW_frz1 {c:Code} {Q:AEx→St→Prop} (t id:Nat) {sz:Nat} {xs:List AV} (hx:σ.fr t=some (.rw id)) (h:σ.hp id=some (.row sz xs)) (hc:CloRow xs) (h2:AW P E c Q ⟨upd σ.fr t (.sl xs),updo σ.hp id none,σ.nx⟩):AW P E c Q σ:=by
 refine AW.frz (σ':=⟨upd σ.fr t (.sl xs),updo σ.hp id none,σ.nx⟩) (fun i=>if i=id then some (.row sz xs) else none) (fun i o h'=>?_) (fun t' x' h'=>?_) (fun i o' h'=>?_) rfl h2
 ·split at h'
  ·rename_i e;subst e;cases h';exact h
  ·cases h'
 ·simp only[upd] at h'
  split at h'
  ·rename_i e
   subst e
   cases h'
   refine⟨_,hx,.inr ⟨?_,?_⟩⟩
   ·rw[AV.snapOk];simpa using hc
   ·rw[AV.snap];simp
  ·exact⟨x',h',.inl rfl⟩
 ·simp only[updo] at h'
  split at h'
  ·cases h'
  ·rename_i e;exact⟨if_neg e,o',h',SnpO.refl _⟩
end Go.Am

namespace Go.Am
variable {P:Program} {E:En} {Q:AEx→St→Prop}
attribute [go_sem] Option.toList_some Option.toList_none List.append_nil
end Go.Am
