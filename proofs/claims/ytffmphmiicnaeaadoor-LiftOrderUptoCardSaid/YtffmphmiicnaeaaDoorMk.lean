/- A part of the proof: an abstract machine for the walks, and what the walked functions compute. -/
import Derived.Lib.SliceRun
import Derived.Test.YtffmphmiicnaeaaDoorMj
set_option linter.unusedVariables false
set_option linter.unusedSimpArgs false
namespace Go.Am
open Go
variable {P:Program} {E:En} {ρ:Nat→Ref} {V:Nat→Prop} {Z:Nat→Nat→Prop} {σ:St} {a:Act} {w:World}
theorem mkFr_mem':∀ {fr:List (Nat×AV)} {t:Nat} {x:AV},mkFr fr t=some x→(t,x)∈fr:=by
 intro fr
 induction fr with
 |nil=>intro t x h;cases h
 |cons p fr ih=>
  intro t x h
  obtain⟨t',x'⟩:=p
  simp only[mkFr,upd] at h
  split at h
  ·rename_i e;cases h;simp[e]
  ·exact List.mem_cons_of_mem _ (ih h)
end Go.Am

namespace Go.Am
open Go
variable {P:Program} {E:En} {σ:St} {Q:AEx→St→Prop}
theorem Rel.sl_nil_inv {ρ:Nat→Ref} {V:Nat→Prop} {Z:Nat→Nat→Prop} {w:World} {v:Value} (h:Rel ρ V Z w v (.sl [])):∃ a n c,v= .slice a n c:=by
 generalize hx:AV.sl []=x at h
 cases h with
 |sl0 a cap=>exact⟨_,_,_,rfl⟩
 |sl b o cap sz l' cs h0 h1 h2 h3=>exact⟨_,_,_,rfl⟩
 |_=>cases hx
theorem AW_nilq {id d0 d1 t0 : Nat} {ty te y0 y1 y2 : TypeId} {p1 p2 : String} {a1 a2 : Array Edge} {n' c' : Nat} (hu : P.underlying ty = some (.slice te)) (hd0 : d0 < E.nt) (hd1 : d1 < E.nt) (h01 : d0 ≠ d1) (h0 : σ.fr t0 = some (.sl []))
    (h:∀ b,Q .norm ⟨upd (upd σ.fr d0 (.sl [])) d1 (.bool b),σ.hp,σ.nx⟩):
    AW P E (.region id #[{ dst:=some d0,op:= .move (.tmp t0),type:=y0,pos:=p1,after:=a1,guard:=none },{ dst:=some d1,op:= .binOp .eql ty (.tmp d0) (.const (.slice none n' c')) y1,type:=y2,pos:=p2,after:=a2,guard:=none }] false) Q σ:=by
  intro ρ V Z a w hs hV
  refine wpX_region ?_
  show wpOpsIn _ _ _ _ _ [0,1] a w
  obtain⟨x,n,c,hx⟩:=(hs.fr t0 _ h0).sl_nil_inv
  have hr0:=hs.fr t0 _ h0
  have e1:a.eval (.tmp t0)= .slice x n c:=hx
  rw[hx] at hr0
  have hlt:d0<a.tmps.size:=by rw[hs.nt];exact hd0
  have hnd0:∀ n,some d0=some n→n<E.nt:=fun n hn=>by cases hn;exact hd0
  have hnd1:∀ n,some d1=some n→n<E.nt:=fun n hn=>by cases hn;exact hd1
  have s1:=hs.val hnd0 rfl rfl rfl hr0
  have e2:(a.put (some d0) (.slice x n c)).eval (.tmp d0)= .slice x n c:=by
    simp[Act.put,Act.eval,hlt]
  have s2:=s1.val (v:= .bool x.isNone) (x:= .bool x.isNone) hnd1 rfl rfl rfl (.bool _)
  show Oper.wpIn _ _ _ _ _ _ _ _
  refine wpIn_intro (res:= .ok (.value (.slice x n c)) w) (fun c=>by simp) ?_ ?_
  · change (execOp a.eval ({ dst:=some d0,op:= .move (.tmp t0),type:=y0,pos:=p1,after:=a1,guard:=none } :Oper)).run P w=_
    simp only[execOp,e1]
    rfl
  · show Oper.wpIn _ _ _ _ _ _ _ _
    refine wpIn_intro (res:= .ok (.value (.bool x.isNone)) w) (fun c=>by simp) ?_ ?_
    · change (execOp (a.put (some d0) (.slice x n c)).eval ({ dst:=some d1,op:= .binOp .eql ty (.tmp d0) (.const (.slice none n' c')) y1,type:=y2,pos:=p2,after:=a2,guard:=none } :Oper)).run P w=_
      simp only[execOp,e2]
      rw[show Act.eval (a.put (some d0) (.slice x n c)) (.const (.slice none n' c'))= .slice none n' c' from rfl]
      simp[Sem.run_bind,eqGuard_ok (P:=P) (w:=w) (op:= .eql) (t:=ty) (x:= .tmp d0) (y:= .const (.slice none n' c')) (a:= .slice x n c) (b:= .slice none n' c') ⟨(fun c h=>by cases h),(fun h=>by cases h)⟩,Go.Lib.run_eql_slice_nil w ty te x _ _ _ _ hu]
    · exact⟨ρ,V,Z,_,.norm,trivial,h x.isNone,s2,fun _=>hV⟩
end Go.Am

namespace Go.Am
open Go
variable {P:Program} {E:En} {σ:St} {Q:AEx→St→Prop}
theorem Sat.sub {ρ:Nat→Ref} {V:Nat→Prop} {Z:Nat→Nat→Prop} {a:Act} {w:World} (h:Sat E ρ V Z σ a w) {τ:St} (hfr:τ.fr=σ.fr) (hhp:∀ id o,τ.hp id=some o→σ.hp id=some o):Sat E ρ V Z τ a w:=
 { h with fr:=fun t x ht=>h.fr t x (by rw[← hfr];exact ht),hs:=h.hs.sub hhp,ownd:=fun id o b ho=>h.ownd id o b (hhp id o ho) }
def putL (hp:Nat→Option AObj) (base:Nat):List (Nat×AObj)→Nat→Option AObj
 | []=>hp
 |(i,o)::L=>updo (putL hp base L) (base+i) (some (o.ren (base+ ·)))
@[go_sem] theorem putL_nil (hp:Nat→Option AObj) (base:Nat):putL hp base []=hp:=rfl
@[go_sem] theorem putL_cons (hp:Nat→Option AObj) (base i:Nat) (o:AObj) (L:List (Nat×AObj)):putL hp base ((i,o)::L)=updo (putL hp base L) (base+i) (some (o.ren (base+ ·))):=rfl
theorem putL_get {hp:Nat→Option AObj} {base:Nat} :∀ {L:List (Nat×AObj)} {id:Nat} {o:AObj},putL hp base L id=some o→(∃ j o',mkHp L j=some o'∧id=base+j∧o=o'.ren (base+ ·))∨hp id=some o
 | [],id,o,h=> .inr h
 |(i,x)::L,id,o,h=>by
  rw[putL_cons] at h
  unfold updo at h
  split at h
  ·rename_i e
   refine .inl ⟨i,x,?_,e,(Option.some.inj h).symm⟩
   simp[mkHp,updo]
  ·rename_i e
   rcases putL_get h with ⟨j,o',h1,h2,h3⟩|h1
   ·refine .inl ⟨j,o',?_,h2,h3⟩
    have:j≠i:=fun e2=>e (by rw[h2,e2])
    simp[mkHp,updo,this,h1]
   ·exact .inr h1
theorem CallB.new {f : FuncId} {vs : List AV} {r0 : AV} {L : List (Nat × AObj)} {d : Option Nat} {k : Nat} {K : St → Prop} {Kp : AV → St → Prop} (hA : ACall P f vs (fun _ => none) 0 0 (fun r hp' => r = r0 ∧ hp' = mkHp L) (fun _ _ => False))
    (hvs:AV.cloL vs=true) (hr:r0.ids (· <1048576)) (hL:∀ p,p∈L→p.1<1048576∧p.2.ids (· <1048576))
    (hK:K ⟨(σ.put d (r0.ren ((σ.nx+1048576*k)+ ·))).fr,putL σ.hp (σ.nx+1048576*k) L,σ.nx⟩):CallB P f vs σ k d K Kp:=by
  have hmem:∀ id o,mkHp L id=some o→id<1048576∧o.ids (· <1048576):=by
    intro id o ho
    obtain⟨p,hp,rfl,rfl⟩:∃ p,p∈L∧p.1=id∧p.2=o:=by
      clear hK hA hL
      induction L with
      |nil=>cases ho
      |cons q L ih=>
        obtain⟨i,x⟩:=q
        simp only[mkHp,updo] at ho
        split at ho
        · rename_i e
          exact⟨(i,x),by simp,e.symm,Option.some.inj ho⟩
        · obtain⟨p,h1,h2⟩:=ih ho
          exact⟨p,List.mem_cons_of_mem _ h1,h2⟩
    exact hL p hp
  have hb:=CallB.of_A (σ:=σ) (k:=k) (d:=d) (Kp:=Kp) (K:=fun σ'=>∃ hp',Back σ σ' (fun i=>i) (fun _=>none) 0 (σ.nx+1048576*k) d (some r0) hp'∧hp'=mkHp L) hA (fun i=>i) (cloL_renL hvs).symm (cloL_idsL hvs)
    (fun id o h=>by cases h) (fun id id' o o' h=>by cases h) (fun id h=>absurd h (Nat.not_lt_zero _))
    (by rintro r hp' ⟨rfl,rfl⟩;exact⟨by simpa using hr,fun id o ho=>by simpa using hmem id o ho⟩) (fun r hp' h=>h.elim)
    (by rintro r hp' σ' ⟨rfl,rfl⟩ hB;exact⟨_,hB,rfl⟩) (fun x hp' σ' h=>h.elim)
  refine⟨hb.1,fun E ρ V Z a w args hs hV hd hsz hrel=>(hb.2 E ρ V Z a w args hs hV hd hsz hrel).mono ?_⟩
  rintro e w' ⟨ρ',V',Z',h1,h2,⟨v,σ',he,hnx,⟨hp',hB,rfl⟩,hS⟩|h⟩
  · refine⟨ρ',V',Z',h1,h2,.inl ⟨v,_,he,?_,hK,hS.sub ?_ ?_⟩⟩
    · rfl
    · rw[hB.fr]
      have e1:backM (fun i=>i) 0 (σ.nx+1048576*k)=((σ.nx+1048576*k)+ ·):=by
        funext j;unfold backM;rw[if_neg (by omega)];simp
      rw[e1]
    · intro id o ho
      have e1:backM (fun i=>i) 0 (σ.nx+1048576*k)=((σ.nx+1048576*k)+ ·):=by
        funext j;unfold backM;rw[if_neg (by omega)];simp
      rcases putL_get ho with ⟨j,o',g1,rfl,rfl⟩|g1
      · have:=hB.obj j o' g1
        rw[e1] at this
        exact this
      · exact hB.old id o g1 (fun j hj=>absurd rfl hj)
  · exact⟨ρ',V',Z',h1,h2,.inr h⟩
theorem CallB.newP {fr : Nat → Option AV} {hp : Nat → Option AObj} {nx : Nat} {f : FuncId} {vs : List AV} {r0 : AV} {L : List (Nat × AObj)} {d : Option Nat} {k : Nat} {K : St → Prop} {Kp : AV → St → Prop} (hA : ACall P f vs (fun _ => none) 0 0 (fun r hp' => r = r0 ∧ hp' = mkHp L) (fun _ _ => False))
    (hvs:AV.cloL vs=true) (hr:r0.ids (· <1048576)) (hL:∀ p,p∈L→p.1<1048576∧p.2.ids (· <1048576))
    (hK:K ⟨(St.put ⟨fr,hp,nx⟩ d (r0.ren ((nx+1048576*k)+ ·))).fr,putL hp (nx+1048576*k) L,nx⟩):CallB P f vs ⟨fr,hp,nx⟩ k d K Kp:=CallB.new hA hvs hr hL hK
theorem CallB.newRow {fr : Nat → Option AV} {hp : Nat → Option AObj} {nx : Nat} {f : FuncId} {vs : List AV} {sz : Nat} {l : List AV} {d : Option Nat} {k : Nat} {K : St → Prop} {Kp : AV → St → Prop} (hA : ACall P f vs (fun _ => none) 0 0 (fun r hp' => r = .rw 0 ∧ hp' = mkHp [(0, .row sz l)]) (fun _ _ => False))
    (hvs:AV.cloL vs=true) (hl:AV.cloL l=true) (hK:K ⟨(St.put ⟨fr,hp,nx⟩ d (.rw (nx+1048576*k))).fr,updo hp (nx+1048576*k) (some (.row sz l)),nx⟩):CallB P f vs ⟨fr,hp,nx⟩ k d K Kp:=by
  refine CallB.new hA hvs (by simp[AV.ids]) (by intro p hp;simp only[List.mem_cons,List.not_mem_nil,or_false] at hp;subst hp;exact⟨by show 0<1048576;decide,by simp only[AObj.ids];exact cloL_idsL hl⟩) ?_
  simp only[putL,AObj.ren,AV.ren,Nat.add_zero]
  rw[cloL_renL hl]
  exact hK
theorem ent_gen {np : Nat} {m : Nat → Nat} {fr : List (Nat × AV)} {hp' : Nat → Option AObj} {nx' : Nat} (h1 : ∀ p, p ∈ fr → σ.fr p.1 = some (p.2.ren m) ∧ p.2.ids (· < nx')) (h2 : ∀ id o, hp' id = some o → σ.hp (m id) = some (o.ren m) ∧ id < nx' ∧ o.ids (· < nx'))
    (h3:∀ id id' o o',hp' id=some o→hp' id'=some o'→m id=m id'→id=id') (h4:∀ id,id<np→m id=id∧id<nx'):Ent np m σ ⟨mkFr fr,hp',nx'⟩:=
  ⟨fun t x ht=>h1 (t,x) (mkFr_mem' ht),h2,h3,h4⟩
theorem ent_idG {np : Nat} {fr : List (Nat × AV)} {hp' : Nat → Option AObj} {nx' : Nat} (h1 : ∀ p, p ∈ fr → σ.fr p.1 = some p.2 ∧ p.2.ids (· < nx')) (h2 : ∀ id o, hp' id = some o → σ.hp id = some o ∧ id < nx' ∧ o.ids (· < nx'))
    (h4:np≤nx'):Ent np (fun i=>i) σ ⟨mkFr fr,hp',nx'⟩:=
  ent_gen (fun p hp=>by rw[ren_id];exact h1 p hp) (fun id o ho=>by rw[oren_id];exact h2 id o ho) (fun _ _ _ _ _ _ h=>h) (fun id hid=>⟨rfl,by omega⟩)
theorem objids_mono {p q:Nat→Prop} (ob:AObj) (h:∀ i,p i→q i) (hx:ob.ids p):ob.ids q:=by
 cases ob with
 |cells l=>exact idsL_imp h hx
 |row _ l=>exact idsL_imp h hx
 |map es=>exact fun z hz=>⟨ids_imp h (hx z hz).1,ids_imp h (hx z hz).2⟩
 |lp _ l=>exact idsL_imp h hx
theorem CallY.use {fr : Nat → Option AV} {hp0 : Nat → Option AObj} {n0 : Nat} {f : Nat} {vs : List AV} {hp : Nat → Option AObj} {nx np : Nat} {R Rp : AV → (Nat → Option AObj) → Prop} (hA : YCall P f vs hp nx np R Rp) (m : Nat → Nat) {us : List AV} {k : Nat} {d : Option Nat} {K : St → Prop} {Kp : AV → St → Prop}
    (hus:us=AV.renL m vs) (hids:AV.idsL (· <nx) vs) (h1:∀ id o,hp id=some o→hp0 (m id)=some (o.ren m)∧id<nx∧o.ids (· <nx)) (h2:∀ id id' o o',hp id=some o→hp id'=some o'→m id=m id'→id=id')
    (h3:∀ id,id<np→id<nx∧hp id≠none)
    (hR:∀ r hp',R r hp'→r.ids (· <np+1048576)∧∀ id o,hp' id=some o→id<np+1048576∧o.ids (· <np+1048576))
    (hRp:∀ r hp',Rp r hp'→r.ids (· <np+1048576)∧∀ id o,hp' id=some o→id<np+1048576∧o.ids (· <np+1048576))
    (hK:∀ r hp' fr' hpn,R r hp'→fr'=(St.put ⟨fr,hp0,n0⟩ d (r.ren (backM m np (n0+1048576*k)))).fr→(∀ j o,hp' j=some o→hpn (backM m np (n0+1048576*k) j)=some (o.ren (backM m np (n0+1048576*k))))→
      (∀ id o,hp0 id=some o→(∀ j,hp j≠none→m j≠id)→hpn id=some o)→K ⟨fr',hpn,n0⟩)
    (hKp:∀ x hp' hpn,Rp x hp'→(∀ j o,hp' j=some o→hpn (backM m np (n0+1048576*k) j)=some (o.ren (backM m np (n0+1048576*k))))→
      (∀ id o,hp0 id=some o→(∀ j,hp j≠none→m j≠id)→hpn id=some o)→Kp (x.ren (backM m np (n0+1048576*k))) ⟨fr,hpn,n0⟩):CallY P f us ⟨fr,hp0,n0⟩ k d K Kp:=
  CallY.of_Y hA m hus hids h1 h2 h3 hR hRp (fun r hp' σ' h hB=>by
    obtain⟨fr',hpn,nx'⟩:=σ'
    have:=hB.nx
    simp only at this
    subst this
    exact hK r hp' fr' hpn h hB.fr hB.obj hB.old) (fun x hp' σ' h hB=>by
    obtain⟨fr',hpn,nx'⟩:=σ'
    have h1:=hB.nx
    have h2:=hB.fr
    simp only at h1 h2
    subst h1 h2
    exact hKp x hp' hpn h hB.obj hB.old)
theorem CallB.use {fr : Nat → Option AV} {hp0 : Nat → Option AObj} {n0 : Nat} {f : FuncId} {vs : List AV} {hp : Nat → Option AObj} {nx np : Nat} {R Rp : AV → (Nat → Option AObj) → Prop} (hA : ACall P f vs hp nx np R Rp) (m : Nat → Nat) {us : List AV} {k : Nat} {d : Option Nat} {K : St → Prop} {Kp : AV → St → Prop}
    (hus:us=AV.renL m vs) (hids:AV.idsL (· <nx) vs) (h1:∀ id o,hp id=some o→hp0 (m id)=some (o.ren m)∧id<nx∧o.ids (· <nx)) (h2:∀ id id' o o',hp id=some o→hp id'=some o'→m id=m id'→id=id')
    (h3:∀ id,id<np→id<nx∧hp id≠none)
    (hR:∀ r hp',R r hp'→r.ids (· <np+1048576)∧∀ id o,hp' id=some o→id<np+1048576∧o.ids (· <np+1048576))
    (hRp:∀ r hp',Rp r hp'→r.ids (· <np+1048576)∧∀ id o,hp' id=some o→id<np+1048576∧o.ids (· <np+1048576))
    (hK:∀ r hp' fr' hpn,R r hp'→fr'=(St.put ⟨fr,hp0,n0⟩ d (r.ren (backM m np (n0+1048576*k)))).fr→(∀ j o,hp' j=some o→hpn (backM m np (n0+1048576*k) j)=some (o.ren (backM m np (n0+1048576*k))))→
      (∀ id o,hp0 id=some o→(∀ j,hp j≠none→m j≠id)→hpn id=some o)→K ⟨fr',hpn,n0⟩)
    (hKp:∀ x hp' hpn,Rp x hp'→(∀ j o,hp' j=some o→hpn (backM m np (n0+1048576*k) j)=some (o.ren (backM m np (n0+1048576*k))))→
      (∀ id o,hp0 id=some o→(∀ j,hp j≠none→m j≠id)→hpn id=some o)→Kp (x.ren (backM m np (n0+1048576*k))) ⟨fr,hpn,n0⟩):CallB P f us ⟨fr,hp0,n0⟩ k d K Kp:=
  CallB.of_A hA m hus hids h1 h2 h3 hR hRp (fun r hp' σ' h hB=>by
    obtain⟨fr',hpn,nx'⟩:=σ'
    have:=hB.nx
    simp only at this
    subst this
    exact hK r hp' fr' hpn h hB.fr hB.obj hB.old) (fun x hp' σ' h hB=>by
    obtain⟨fr',hpn,nx'⟩:=σ'
    have h1:=hB.nx
    have h2:=hB.fr
    simp only at h1 h2
    subst h1 h2
    exact hKp x hp' hpn h hB.obj hB.old)
theorem backM_lt {m:Nat→Nat} {np base i:Nat} (h:i<np):backM m np base i=m i:=if_pos h
theorem backM_ge {m:Nat→Nat} {np base i:Nat} (h:np≤i):backM m np base i=base+(i - np):=if_neg (by omega)
theorem cloL_getD:∀ {l:List AV},AV.cloL l=true→∀ i,i<l.length→(l.getD i default).clo=true
 | [],_,i,hi=>absurd hi (Nat.not_lt_zero _)
 |y::l,h,0,_=>by simp only[AV.cloL,Bool.and_eq_true] at h;simpa using h.1
 |y::l,h,i+1,hi=>by
  simp only[AV.cloL,Bool.and_eq_true] at h
  simpa using cloL_getD h.2 i (by simpa using hi)
theorem PCall.of_A {f:FuncId} {vs:List AV} {r:AV} (hclo:AV.cloL vs=true) (hA:ACall P f vs (fun _=>none) 0 0 (fun r' hp'=>r'.snapOk hp'∧r'.snap hp'=r∧r.clo=true) (fun _ _=>False)):PCall P f vs r:=by
 refine⟨hA.1,fun ρ V Z w args hZ hgl hsz hrel=>?_⟩
 have hno:∀ b,OwnB ρ (fun _=>none) b→False:=fun b ⟨id,o,h,_⟩=>by cases h
 refine(hA.2 ρ (fun _=>False) Z w args ⟨fun id o ho=>(by cases ho),fun id id' o o' b ho=>(by cases ho),fun id o b ho=>(by cases ho),hZ,hgl⟩ (fun id hid=>absurd hid (Nat.not_lt_zero _)) (fun id h=>h.elim) hsz (fun i hi=>clo_rel (hrel i hi) (cloL_getD hclo i hi) ρ _)).mono ?_
 rintro e w' ⟨ρ',V',Z',hp',k1,k2,k3,k4,k5,k6,⟨v,r',rfl,h1,h2,h3,h4⟩|⟨_,_,_,_,h⟩⟩
 ·have hv3:=snap_rel (σ:=⟨fun _=>none,hp',0⟩) k1 h1 h2
  rw[h3] at hv3
  have hv4:=clo_rel hv3 h4 ρ V
  refine⟨v,_,rfl,hv4,?_,fun b o hz=> .inl (k4 b o hz),?_⟩
  ·exact⟨fun b hb hn=>k2.old b hb (fun h=>hno b h),k2.le,k2.os,k2.out,trivial⟩
  ·rintro b o (hz|⟨id,sz,l,g1,g2⟩)
   ·rcases k5 b o hz with g|g|g
    ·exact .inl g
    ·exact .inr ⟨g,k1.lt b o hz⟩
    ·exact(hno b g).elim
   ·have g3:=(k1.obj id _ g1).2.lt b g2
    refine .inr ⟨?_,g3⟩
    rcases Nat.lt_or_ge b w.heap.size with g4|g4
    ·exact(hno b (k6 id _ b g1 g2 g4)).elim
    ·exact g4
 ·exact h.elim
theorem ACallG.ent {Run : Array Value → World → (Ending → World → Prop) → Prop} (hmono : ∀ {args w} {R R' : Ending → World → Prop}, Run args w R → (∀ e w', R e w' → R' e w') → Run args w R') {vs : List AV} {hp : Nat → Option AObj} {nx np : Nat} {R Rp R' Rp' : AV → (Nat → Option AObj) → Prop} (hA : ACallG Run vs hp nx np R' Rp')
    (hR:∀ r hp',R' r hp'→∃ y m hc nc,r=y.ren m∧y.ids (· <nc)∧Ent np m ⟨fun _=>none,hp',0⟩ ⟨fun _=>none,hc,nc⟩∧R y hc)
    (hRp:∀ r hp',Rp' r hp'→∃ y m hc nc,r=y.ren m∧y.ids (· <nc)∧Ent np m ⟨fun _=>none,hp',0⟩ ⟨fun _=>none,hc,nc⟩∧Rp y hc):ACallG Run vs hp nx np R Rp:=by
  intro ρ V Z w args hh hnp hnx hsz hrel
  refine hmono (hA ρ V Z w args hh hnp hnx hsz hrel) ?_
  rintro e w' ⟨ρ',V',Z',hp',k1,k2,k3,k4,k5,k6,k7⟩
  have hS:Sat ⟨0,[],w,OwnB ρ hp,Z,np,ρ,none,true,true⟩ ρ' V' Z' ⟨fun _=>none,hp',0⟩ { tmps:= #[],defers:=[] } w':=
    ⟨rfl,⟨[],rfl,⟨by simp,by simp⟩,fun _=>rfl⟩,fun t x h=>(by cases h),k1,k2,k6,k4,k5,k3⟩
  rcases k7 with ⟨v,r,rfl,h1,h2⟩|⟨v,x,rfl,h1,h2⟩
  · obtain⟨y,m,hc,nc,rfl,hid,he,hR⟩:=hR r hp' h2
    have h5:=hS.ent he
    exact⟨_,_,Z',hc,h5.hs,h5.ext,h5.pn,h5.z0,h5.zn,h5.ownd,.inl ⟨v,y,rfl,rel_ren m y v hid h1,hR⟩⟩
  · obtain⟨y,m,hc,nc,rfl,hid,he,hR⟩:=hRp x hp' h2
    have h5:=hS.ent he
    exact⟨_,_,Z',hc,h5.hs,h5.ext,h5.pn,h5.z0,h5.zn,h5.ownd,.inr ⟨v,y,rfl,rel_ren m y v hid h1,hR⟩⟩
end Go.Am
