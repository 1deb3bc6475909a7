/- A part of the proof: an abstract machine for the walks, and what the walked functions compute. -/
import Derived.Test.YtfpcjabbcpgbjaaDoorRe
import Derived.Test.YtfpcjabbcpgbjaaDoorRb
import Derived.Test.YtfpcjabbcpgbjaaDoorHz
import Derived.Test.YtfpcjabbcpgbjaaDoorHw
set_option linter.unusedVariables false
set_option linter.unusedSimpArgs false
namespace Go.Gl
open Go Go.Am Go.Hv
structure Rs where
 L:List Cl
 ok:Bool
def Uz (D:List Dd) (k id vr:Int) (len:Nat) (a b:Ty):Bool:=
  match D[a.id.toNat]?,D[b.id.toNat]? with
  | some p, some q => k == 2 && (id == a.id && (decide (0 <= vr) && (decide (vr < (p.vs.length : Int)) && (decide (vr < (q.vs.length : Int)) &&
      ((len==((p.vs[vr.toNat]?).map fun v=>v.fs.length).getD 0)&&(len==((q.vs[vr.toNat]?).map fun v=>v.fs.length).getD 0))))))
  |_,_=>false
def gh (D:List Dd) (a:Ty) (vr:Int):List Ty:=match D[a.id.toNat]? with|some p=>((p.vs[vr.toNat]?).map Dv.fs).getD []|none=>[]
mutual
def Jc (D:List Dd) (en:Nat->Ty->Ty->Rs->Rs):Vl->Ty->Ty->Rs->Rs×Vl
 | .mk k id vr n fs e p l,a,b,s=>
  if !s.ok||a.kind !=b.kind then(⟨s.L,false⟩,.mk k id vr n fs e p l)
  else if a.kind=1 then(⟨s.L,k==1⟩,.mk k id vr n fs e p l)
  else if a.kind=4 then(⟨s.L,k==4⟩,.mk k id vr n fs e p l)
  else if a.kind=3 then
   if k=3/\0<=n/\n<(s.L.length:Int) then(en n.toNat (a.args.headD default) (b.args.headD default) s,.mk k id vr n fs e p l) else(⟨s.L,false⟩,.mk k id vr n fs e p l)
  else if a.kind=2 then
   if Uz D k id vr fs.length a b then
    ((J8 D en fs (gh D a vr) (gh D b vr) s).1,.mk k b.id vr n (J8 D en fs (gh D a vr) (gh D b vr) s).2 e p l)
   else(⟨s.L,false⟩,.mk k id vr n fs e p l)
  else(⟨s.L,false⟩,.mk k id vr n fs e p l)
def J8 (D:List Dd) (en:Nat->Ty->Ty->Rs->Rs):List Vl->List Ty->List Ty->Rs->Rs×List Vl
 |x::fs,a::la,b::lb,s=>((J8 D en fs la lb (Jc D en x a b s).1).1,(Jc D en x a b s).2::(J8 D en fs la lb (Jc D en x a b s).1).2)
 |_,_,_,s=>(s,[])
end
def uJ (L:List Cl) (n:Nat) (v:Vl):List Cl:=match L[n]? with|some c=>L.set n ⟨c.live,c.arena,v⟩|none=>L
def j4 (D:List Dd):Nat->Nat->Ty->Ty->Rs->Rs
 |0,_,_,_,s=>s
 |k+1,n,a,b,s=>match s.L[n]? with
  |some c=>⟨uJ (Jc D (j4 D k) c.v a b s).1.L n (Jc D (j4 D k) c.v a b s).2,(Jc D (j4 D k) c.v a b s).1.ok⟩
  |none=>s
theorem jdv (L:List Cl) (n:Nat) (v:Vl):(uJ L n v).length=L.length:=by unfold uJ;split<;>simp
theorem Y2 (L:List Cl) (n i:Nat) (v:Vl):(uJ L n v)[i]? =if i=n then(L[n]?).map fun c=>⟨c.live,c.arena,v⟩ else L[i]? :=by
 unfold uJ
 cases h:L[n]? with
 |none=>
  simp only[Option.map_none]
  split
  ·rename_i e;subst e;exact h
  ·rfl
 |some c=>
  simp only[Option.map_some]
  have hl:=(List.getElem?_eq_some_iff.1 h).1
  split
  ·rename_i e;subst e;simp[hl]
  ·rename_i e;rw[List.getElem?_set_ne (Ne.symm e)]
structure Rin (h:Hp) (o:Ow) (s:Rs):Prop where
 len:s.L.length=h.cells.length
 out:∀ i:Nat,i∉o.cs->s.L[i]? =h.cells[i]?
 mrk:∀ i:Nat,(s.L[i]?).map (fun c:Cl=>(c.live,c.arena))=(h.cells[i]?).map fun c:Cl=>(c.live,c.arena)
def Rkp (h:Hp) (o o':Ow) (s s':Rs):Prop:=Rin h o' s'/\∀ i:Nat,i∈o.cs->s'.L[i]? =s.L[i]?
theorem Rin.le {h:Hp} {o o':Ow} {s:Rs} (hI:Rin h o s) (hl:o.Le o'):Rin h o' s:=⟨hI.len,fun i hi=>hI.out i fun hj=>hi (by obtain⟨l,e⟩:=hl.cs;rw[e];exact List.mem_append_left _ hj),hI.mrk⟩
theorem Rin.ok {h:Hp} {o:Ow} {s:Rs} (hI:Rin h o s) (b:Bool):Rin h o ⟨s.L,b⟩:=⟨hI.len,hI.out,hI.mrk⟩
theorem od {o o':Ow} (hl:o.Le o') {i:Nat} (hi:i∈o.cs):i∈o'.cs:=by obtain⟨l,e⟩:=hl.cs;rw[e];exact List.mem_append_left _ hi
def KE (D:List Dd) (h:Hp) (k:Nat):Prop:=∀ n o o' a b s,o.Ok h->(∃ c,h.cells[n]? =some c/\c.live=true)->jy h k n o=some o'->Rin h o s->Rkp h o o' s (j4 D k n a b s)
mutual
theorem yj {D:List Dd} {h:Hp} {k:Nat} (hE:KE D h k):∀ (v:Vl) (o o':Ow) (a b:Ty) (s:Rs),o.Ok h->jP h (jy h k) v o=some o'->Rin h o s->Rkp h o o' s (Jc D (j4 D k) v a b s).1
 | .mk kd id vr n fs e p l,o,o',a,b,s,ho,hv,hI=>by
  have hle:=(jD (jo h k) (.mk kd id vr n fs e p l) o o' ho hv).2
  have triv:∀ bb,Rkp h o o' s ⟨s.L,bb⟩:=fun bb=>⟨(hI.ok bb).le hle,fun i _=>rfl⟩
  rw[Jc]
  split
  ·exact triv _
  split
  ·exact triv _
  split
  ·exact triv _
  split
  ·split
   ·rename_i hb
    obtain⟨h3,hn0,hnl⟩:=hb
    subst h3
    rw[jP] at hv
    simp only[if_neg (show ¬ (3:Int)=2 by decide),if_pos] at hv
    split at hv
    ·rename_i hbx
     obtain⟨m,c,rfl,hc,hlv,_⟩:=JX hbx
     exact hE m o o' _ _ s ho ⟨c,hc,hlv⟩ hv hI
    ·cases hv
   ·exact triv _
  split
  ·split
   ·rename_i hf
    have hk2:kd=2:=by
     unfold Uz at hf
     split at hf
     ·simp only[Bool.and_eq_true,beq_iff_eq] at hf;exact hf.1
     ·cases hf
    subst hk2
    rw[jP,if_pos rfl] at hv
    exact qR hE fs { o with ids:=o.ids++[id] } o' _ _ s ⟨ho.nd,ho.lt,ho.and,ho.alt⟩ hv ⟨hI.len,hI.out,hI.mrk⟩
   ·exact triv _
  ·exact triv _
theorem qR {D:List Dd} {h:Hp} {k:Nat} (hE:KE D h k):∀ (fs:List Vl) (o o':Ow) (la lb:List Ty) (s:Rs),o.Ok h->Jk h (jy h k) fs o=some o'->Rin h o s->Rkp h o o' s (J8 D (j4 D k) fs la lb s).1
 | [],o,o',la,lb,s,ho,hv,hI=>by
  rw[Jk] at hv;cases hv
  rw[J8]
  ·exact⟨hI,fun i _=>rfl⟩
  ·intro x fs a la b lb h1;cases h1
 |x::fs,o,o',la,lb,s,ho,hv,hI=>by
  have hv0:=hv
  rw[Jk] at hv
  obtain⟨o1,h1,h2⟩:=Option.bind_eq_some_iff.1 hv
  obtain⟨g1,g2⟩:=jD (jo h k) x o o1 ho h1
  obtain⟨g3,g4⟩:=yf (jo h k) fs o1 o' g1 h2
  have triv:Rkp h o o' s s:=⟨hI.le (g2.trans g4),fun i _=>rfl⟩
  match la,lb with
  |a::la,b::lb=>
   rw[J8]
   obtain⟨i1,m1⟩:=yj hE x o o1 a b s ho h1 hI
   obtain⟨i2,m2⟩:=qR hE fs o1 o' la lb _ g1 h2 i1
   exact⟨i2,fun i hi=>(m2 i (od g2 hi)).trans (m1 i hi)⟩
  | [],_=>rw[J8];exact triv;intro x' fs' a la b lb _ h1;cases h1
  |_::_,[]=>rw[J8];exact triv;intro x' fs' a la b lb _ _ h1;cases h1
end
theorem yi {D:List Dd} {h:Hp} :∀ k,KE D h k
 |0,n,o,o',a,b,s,_,_,hv,_=>by rw[jy] at hv;cases hv
 |k+1,n,o,o',a,b,s,ho,⟨c,hc,hlv⟩,hv,hI=>by
  rw[jy] at hv
  split at hv
  ·cases hv
  rename_i hno
  rw[hc] at hv
  simp only at hv
  have hsn:s.L[n]? =some c:=(hI.out n hno).trans hc
  rw[j4,hsn]
  simp only
  have ho2:=ho.enter hno hc hlv
  obtain⟨g1,g2⟩:=jD (jo h k) c.v _ o' ho2 hv
  have hin:n∈o'.cs:=od g2 (List.mem_append_right _ (by simp))
  obtain⟨i1,m1⟩:=yj (yi k) c.v _ o' a b s ho2 hv (hI.le ⟨⟨[n],rfl⟩,⟨[],by simp⟩,⟨[],by simp⟩⟩)
  generalize (Jc D (j4 D k) c.v a b s).2=w
  generalize hs1:(Jc D (j4 D k) c.v a b s).1=s1 at i1 m1 ⊢
  refine⟨⟨by rw[jdv];exact i1.len,fun i hi=>?_,fun i=>?_⟩,fun i hi=>?_⟩
  ·rw[Y2,if_neg (show ¬ i=n from fun e=>hi (by rw[e];exact hin))];exact i1.out i hi
  ·rw[Y2]
   split
   ·rename_i e;subst e
    rw[<- i1.mrk i]
    cases s1.L[i]? <;>rfl
   ·exact i1.mrk i
  ·rw[Y2,if_neg (show ¬ i=n from fun e=>hno (by rw[<- e];exact hi))]
   exact m1 i (List.mem_append_left _ hi)
end Go.Gl

namespace Go.Gl
open Go Go.Am Go.Hv Go.Proofs.YtfpcjabbcpgbjaaDoor
def IdR (D:List Dd) (i j:Int):Prop:=∃ m m' x x',i=((m:Nat):Int)/\j=((m':Nat):Int)/\D[m]? =some x/\D[m']? =some x'/\x.dr=x'.dr
inductive IdsR (D:List Dd):List Int->List Int->Prop
 |nil:IdsR D [] []
 |cons {i j l m} :IdR D i j->IdsR D l m->IdsR D (i::l) (j::m)
theorem IdsR.app {D:List Dd} {l m l' m':List Int} (h:IdsR D l m) (h':IdsR D l' m'):IdsR D (l++l') (m++m'):=by
 induction h with
 |nil=>exact h'
 |cons h1 _ ih=>exact .cons h1 ih
def Sim (D:List Dd) (h:Hp) (o o':Ow) (s':Rs) (run:Hp->Ow->Option Ow):Prop:=
 ∀ h2:Hp,h2.arenas=h.arenas->h2.cells.length=h.cells.length->(∀ i:Nat,(h2.cells[i]?).map (fun c:Cl=>(c.live,c.arena))=(h.cells[i]?).map fun c:Cl=>(c.live,c.arena))->
  (∀ i:Nat,i∈o'.cs->i∉o.cs->h2.cells[i]? =s'.L[i]?)->∀ u:Ow,u.cs=o.cs->u.ags=o.ags->
  ∃ u',run h2 u=some u'/\u'.cs=o'.cs/\u'.ags=o'.ags/\∃ l l2,o'.ids=o.ids++l/\u'.ids=u.ids++l2/\IdsR D l l2
theorem Uf {D E:List Dd} {a b:Ty} (h:bis D E a b) {j:Nat} {x y:Ty} (hx:(kids D a)[j]? =some x) (hy:(kids E b)[j]? =some y):bis D E x y:=fun n=>(h (n+1)).2.2 j x y hx hy
theorem jdS {α:Type} (f g:α->Nat):∀ (l m:List α) (n:Nat),l.map f=m.map f->((l.take n).map f).sum=((m.take n).map f).sum:=by
 intro l m n h
 rw[List.map_take,List.map_take,h]
theorem UA (l:List Dv):(l.flatMap Dv.fs).length=(l.map fun v=>v.fs.length).sum:=by
 induction l with
 |nil=>rfl
 |cons v l ih=>rw[List.flatMap_cons,List.length_append,ih,List.map_cons,List.sum_cons]
theorem jbJ {D : List Dd} {a b : Ty} (h : bis D D a b) (hk : a.kind = 2) {p q : Dd} (hp : D[a.id.toNat]? = some p) (hq : D[b.id.toNat]? = some q) :
    p.dr=q.dr/\p.vs.map (fun v=>v.fs.length)=q.vs.map (fun v=>v.fs.length)/\∀ (i j:Nat) (v w:Dv) (x y:Ty),p.vs[i]? =some v->q.vs[i]? =some w->v.fs[j]? =some x->w.fs[j]? =some y->bis D D x y:=by
  have hkb:b.kind=2:=by rw[<- Ug h];exact hk
  have e1:vsO D a=some p:=by unfold vsO;rw[if_pos hk,hp]
  have e2:vsO D b=some q:=by unfold vsO;rw[if_pos hkb,hq]
  have h1:=(h 1).1
  unfold lab at h1
  rw[e1,e2] at h1
  simp only[List.cons_append,List.nil_append,List.cons.injEq] at h1
  obtain⟨_,h2,h3,h4⟩:=h1
  have h5:p.vs.map (fun v=>v.fs.length)=q.vs.map (fun v=>v.fs.length):=by
    have:=congrArg (List.map Int.toNat) h4
    simpa [List.map_map,Function.comp_def] using this
  refine⟨h2,h5,fun i j v w x y hv hw hx hy=>?_⟩
  have f1:=flat_get hv hx
  have f2:=flat_get hw hy
  have e3:((p.vs.take i).flatMap Dv.fs).length=((q.vs.take i).flatMap Dv.fs).length:=by
    rw[UA,UA];exact jdS _ (fun v:Dv=>0) _ _ _ h5
  refine Uf h (j:=((p.vs.take i).flatMap Dv.fs).length+j) ?_ ?_
  · unfold kids;rw[e1];exact f1
  · unfold kids;rw[e2,e3];exact f2
theorem jes {D:List Dd} {a b x y:Ty} (h:bis D D a b) (hk:a.kind=3) (ha:a.args=[x]) (hb:b.args=[y]):bis D D x y:=by
 have hkb:b.kind=3:=by rw[<- Ug h];exact hk
 exact Uf h (j:=0) (by rw[JB hk ha];rfl) (by rw[JB hkb hb];rfl)
theorem jfm {D:List Dd} {en:Nat->Ty->Ty->Rs->Rs} (v:Vl) (a b:Ty) (s:Rs) (h:s.ok=false):(Jc D en v a b s).1.ok=false:=by
 cases v;rw[Jc];simp[h]
theorem jag {D:List Dd} {en:Nat->Ty->Ty->Rs->Rs} :∀ (fs:List Vl) (la lb:List Ty) (s:Rs),s.ok=false->(J8 D en fs la lb s).1.ok=false
 |x::fs,a::la,b::lb,s,h=>by rw[J8];exact jag fs la lb _ (jfm x a b s h)
 | [],la,lb,s,h=>by rw[J8];exact h;intro x fs a la b lb h1;cases h1
 |x::fs,[],lb,s,h=>by rw[J8];exact h;intro x fs a la b lb _ h1;cases h1
 |x::fs,a::la,[],s,h=>by rw[J8];exact h;intro x fs a la b lb _ _ h1;cases h1
def jgl (D:List Dd) (h:Hp) (k:Nat):Prop:=∀ n o o' a b s,o.Ok h->(∃ c,h.cells[n]? =some c/\c.live=true)->jy h k n o=some o'->Rin h o s->(j4 D k n a b s).ok=true->bis D D a b->Pl D a->Pl D b->Sim D h o o' (j4 D k n a b s) fun h2 u=>jy h2 k n u
theorem jbM {h h2:Hp} (hm:∀ i:Nat,(h2.cells[i]?).map (fun c:Cl=>(c.live,c.arena))=(h.cells[i]?).map fun c:Cl=>(c.live,c.arena)) (n:Int):yg h2 n=yg h n:=by
 unfold yg
 have:=hm n.toNat
 cases h1:h2.cells[n.toNat]? <;>cases h3:h.cells[n.toNat]? <;>rw[h1,h3] at this<;>simp at this
 ·simp only[this.1,this.2]
theorem uH {D:List Dd} (hdt:dtB D=true) {a:Ty} {p:Dd} {v:Dv} {f:Ty} {i:Nat} (hp:D[i]? =some p) (hv:v∈p.vs) (hf:f∈v.fs):Pl D f:=by
 unfold dtB at hdt
 simp only[List.all_eq_true] at hdt
 exact⟨8,hdt p (List.mem_of_getElem? hp) v hv f hf⟩
mutual
theorem oz {D : List Dd} (hdt : dtB D = true) {h : Hp} {k : Nat} (hK : KE D h k) (hE : jgl D h k) : ∀ (v : Vl) (o o' : Ow) (a b : Ty) (s : Rs), o.Ok h -> jP h (jy h k) v o = some o' -> Rin h o s -> (Jc D (j4 D k) v a b s).1.ok = true -> bis D D a b -> Pl D a -> Pl D b ->
    Sim D h o o' (Jc D (j4 D k) v a b s).1 fun h2 u=>jP h2 (jy h2 k) (Jc D (j4 D k) v a b s).2 u
  | .mk kd id vr n fs e p l,o,o',a,b,s,ho,hv,hI,hok,hab,hpa,hpb=>by
    rw[Jc] at hok ⊢
    split at hok
    · cases hok
    rename_i hs
    rw[if_neg hs]
    simp only[Bool.or_eq_true,Bool.not_eq_true',bne_iff_ne,ne_eq,not_or,Decidable.not_not] at hs
    split at hok
    · rename_i h1
      rw[if_pos h1]
      have hk:kd=1:=by simpa using hok
      subst hk
      rw[jP] at hv
      simp at hv
      subst hv
      intro h2 _ _ _ _ u hu1 hu2
      exact⟨u,by simp[jP],hu1,hu2,[],[],by simp,by simp,.nil⟩
    rename_i h1
    rw[if_neg h1]
    split at hok
    · rename_i h4
      rw[if_pos h4]
      have hk:kd=4:=by simpa using hok
      subst hk
      rw[jP] at hv
      simp at hv
      subst hv
      intro h2 _ _ _ _ u hu1 hu2
      exact⟨u,by simp[jP],hu1,hu2,[],[],by simp,by simp,.nil⟩
    rename_i h4
    rw[if_neg h4]
    split at hok
    · rename_i h3
      rw[if_pos h3]
      split at hok
      · rename_i hb
        rw[if_pos hb]
        obtain⟨hk3,hn0,hnl⟩:=hb
        subst hk3
        obtain⟨x,hx,hxp⟩:=JS hpa h3
        obtain⟨y,hy,hyp⟩:=JS hpb (hs.2▸h3)
        rw[hx,hy] at hok ⊢
        simp only[List.headD_cons] at hok ⊢
        rw[jP] at hv
        simp only[if_neg (show ¬ (3:Int)=2 by decide),if_pos] at hv
        split at hv
        · rename_i hbx
          obtain⟨m,c,rfl,hc,hlv,_⟩:=JX hbx
          have hsim:=hE m o o' x y s ho ⟨c,hc,hlv⟩ hv hI hok (jes hab h3 hx hy) hxp hyp
          intro h2 ha hl hm hg u hu1 hu2
          obtain⟨u',g1,g2⟩:=hsim h2 ha hl hm hg u hu1 hu2
          refine⟨u',?_,g2⟩
          show jP h2 (jy h2 k) _ u=some u'
          rw[jP]
          simp only[if_neg (show ¬ (3:Int)=2 by decide),if_pos]
          rw[jbM hm,if_pos hbx]
          exact g1
        · cases hv
      · cases hok
    rename_i h3
    rw[if_neg h3]
    split at hok
    · rename_i h2
      rw[if_pos h2]
      split at hok
      · rename_i hf
        rw[if_pos hf]
        have hf0:=hf
        unfold Uz at hf
        split at hf
        · rename_i p1 q1 hp1 hq1
          simp only[Bool.and_eq_true,beq_iff_eq,decide_eq_true_eq] at hf
          obtain⟨hk2,hid,hv0,hvp,hvq,hlp,hlq⟩:=hf
          subst hk2
          obtain⟨v1,hv1⟩:=get?_of (show vr.toNat<p1.vs.length by omega)
          obtain⟨w1,hw1⟩:=get?_of (show vr.toNat<q1.vs.length by omega)
          rw[hv1] at hlp
          rw[hw1] at hlq
          simp only[Option.map_some,Option.getD_some] at hlp hlq
          obtain⟨hdr,hlen,hbf⟩:=jbJ hab h2 hp1 hq1
          have e1:gh D a vr=v1.fs:=by unfold gh;rw[hp1];simp[hv1]
          have e2:gh D b vr=w1.fs:=by unfold gh;rw[hq1];simp[hw1]
          rw[e1,e2] at hok ⊢
          have hA0:=(yK hpa h2)
          have hB0:=(yK hpb (hs.2▸h2))
          obtain⟨_,_,ha0,_⟩:=hA0
          obtain⟨_,_,hb0,_⟩:=hB0
          rw[jP,if_pos rfl] at hv
          have hsim:=U2 hdt hK hE fs { o with ids:=o.ids++[id] } o' v1.fs w1.fs s ⟨ho.nd,ho.lt,ho.and,ho.alt⟩ hv ⟨hI.len,hI.out,hI.mrk⟩ hok hlp hlq
            (fun j x y hx hy=>⟨hbf _ j v1 w1 x y hv1 hw1 hx hy,uH hdt (a:=a) hp1 (List.mem_of_getElem? hv1) (List.mem_of_getElem? hx),uH hdt (a:=a) hq1 (List.mem_of_getElem? hw1) (List.mem_of_getElem? hy)⟩)
          intro h2' ha hl hm hg u hu1 hu2
          obtain⟨u',g1,g2,g3,l1,l2,g4,g5,g6⟩:=hsim h2' ha hl hm hg { u with ids:=u.ids++[b.id] } hu1 hu2
          refine⟨u',?_,g2,g3,id::l1,b.id::l2,by rw[g4];simp,by rw[g5];simp,.cons ⟨a.id.toNat,b.id.toNat,p1,q1,by omega,by omega,hp1,hq1,hdr⟩ g6⟩
          show jP h2' (jy h2' k) _ u=some u'
          rw[jP,if_pos rfl]
          exact g1
        · cases hf
      · cases hok
    · cases hok
theorem U2 {D : List Dd} (hdt : dtB D = true) {h : Hp} {k : Nat} (hK : KE D h k) (hE : jgl D h k) : ∀ (fs : List Vl) (o o' : Ow) (la lb : List Ty) (s : Rs), o.Ok h -> Jk h (jy h k) fs o = some o' -> Rin h o s -> (J8 D (j4 D k) fs la lb s).1.ok = true -> fs.length = la.length -> fs.length = lb.length ->
    (∀ (j:Nat) x y,la[j]? =some x->lb[j]? =some y->bis D D x y/\Pl D x/\Pl D y)->
    Sim D h o o' (J8 D (j4 D k) fs la lb s).1 fun h2 u=>Jk h2 (jy h2 k) (J8 D (j4 D k) fs la lb s).2 u
  | [],o,o',la,lb,s,ho,hv,hI,hok,hl1,hl2,hbs=>by
    rw[Jk] at hv;cases hv
    have e:J8 D (j4 D k) [] la lb s=(s,[]):=by rw[J8];intro x fs a la b lb h1;cases h1
    rw[e]
    intro h2 _ _ _ _ u hu1 hu2
    exact⟨u,by simp[Jk],hu1,hu2,[],[],by simp,by simp,.nil⟩
  |x::fs,o,o',la,lb,s,ho,hv,hI,hok,hl1,hl2,hbs=>by
    rw[Jk] at hv
    obtain⟨o1,h1,h2⟩:=Option.bind_eq_some_iff.1 hv
    obtain⟨g1,g2⟩:=jD (jo h k) x o o1 ho h1
    obtain⟨g3,g4⟩:=yf (jo h k) fs o1 o' g1 h2
    match la,lb,hl1,hl2,hbs,hok with
    |a::la,b::lb,hl1,hl2,hbs,hok=>
      rw[J8] at hok ⊢
      simp only at hok ⊢
      have hok1:(Jc D (j4 D k) x a b s).1.ok=true:=by
        cases hq:(Jc D (j4 D k) x a b s).1.ok
        · rw[jag fs la lb _ hq] at hok;exact hok
        · rfl
      obtain⟨b0,pa,pb⟩:=hbs 0 a b rfl rfl
      obtain⟨i1,m1⟩:=yj hK x o o1 a b s ho h1 hI
      obtain⟨i2,m2⟩:=qR hK fs o1 o' la lb _ g1 h2 i1
      have s1:=oz hdt hK hE x o o1 a b s ho h1 hI hok1 b0 pa pb
      have s2:=U2 hdt hK hE fs o1 o' la lb _ g1 h2 i1 hok (by simpa using hl1) (by simpa using hl2) (fun j x y hx hy=>hbs (j+1) x y hx hy)
      intro h2' ha hl hm hg u hu1 hu2
      obtain⟨u1,r1,r2,r3,l1,l2,r4,r5,r6⟩:=s1 h2' ha hl hm (fun i hi hni=>(hg i (od g4 hi) hni).trans (m2 i hi)) u hu1 hu2
      obtain⟨u2,t1,t2,t3,l3,l4,t4,t5,t6⟩:=s2 h2' ha hl hm (fun i hi hni=>hg i hi fun hj=>hni (od g2 hj)) u1 r2 r3
      refine⟨u2,?_,t2,t3,l1++l3,l2++l4,by rw[t4,r4,List.append_assoc],by rw[t5,r5,List.append_assoc],r6.app t6⟩
      simp only at r1 t1
      show Jk h2' (jy h2' k) _ u=some u2
      rw[Jk,r1]
      exact t1
    | [],_,hl1,_,_,_=>simp at hl1
    |_::_,[],_,hl2,_,_=>simp at hl2
end
theorem U1 {D:List Dd} (hdt:dtB D=true) {h:Hp} :∀ k,jgl D h k
 |0,n,o,o',a,b,s,_,_,hv,_,_,_,_,_=>by rw[jy] at hv;cases hv
 |k+1,n,o,o',a,b,s,ho,⟨c,hc,hlv⟩,hv,hI,hok,hab,hpa,hpb=>by
  rw[jy] at hv
  split at hv
  ·cases hv
  rename_i hno
  rw[hc] at hv
  simp only at hv
  have hsn:s.L[n]? =some c:=(hI.out n hno).trans hc
  have er:j4 D (k+1) n a b s=⟨uJ (Jc D (j4 D k) c.v a b s).1.L n (Jc D (j4 D k) c.v a b s).2,(Jc D (j4 D k) c.v a b s).1.ok⟩:=by rw[j4,hsn]
  rw[er] at hok ⊢
  simp only at hok
  have ho2:=ho.enter hno hc hlv
  have hI2:Rin h { o with cs:=o.cs++[n] } s:=hI.le ⟨⟨[n],rfl⟩,⟨[],by simp⟩,⟨[],by simp⟩⟩
  obtain⟨g1,g2⟩:=jD (jo h k) c.v _ o' ho2 hv
  have hin:n∈o'.cs:=od g2 (List.mem_append_right _ (by simp))
  obtain⟨i1,m1⟩:=yj (yi k) c.v _ o' a b s ho2 hv hI2
  have hsim:=oz hdt (yi k) (U1 hdt k) c.v _ o' a b s ho2 hv hI2 hok hab hpa hpb
  have hs1n:=(m1 n (List.mem_append_right _ (by simp))).trans hsn
  generalize (Jc D (j4 D k) c.v a b s).2=w at hsim ⊢
  generalize hs1:(Jc D (j4 D k) c.v a b s).1=s1 at i1 m1 hsim hs1n ⊢
  intro h2 ha hl hm hg u hu1 hu2
  have hgn:=hg n hin hno
  simp only at hg hgn
  rw[Y2,if_pos rfl,hs1n] at hgn
  obtain⟨u',r1,r2⟩:=hsim h2 ha hl hm (fun i hi hni=>by
   have hne:¬ i=n:=fun e=>hni (by rw[e];exact List.mem_append_right _ (by simp))
   rw[hg i hi (fun hj=>hni (List.mem_append_left _ hj)),Y2,if_neg hne]) { u with cs:=u.cs++[n] } (by rw[hu1]) hu2
  refine⟨u',?_,r2⟩
  simp only
  rw[jy,if_neg (by rw[hu1];exact hno),hgn]
  exact r1
end Go.Gl

set_option maxHeartbeats 4000000
set_option maxRecDepth 100000
namespace Go.Proofs.YtfpcjabbcpgbjaaDoor
open Go.Am Go.Proofs Go.Hv
open Classical
attribute [local irreducible] AW jA CallB CallY
structure Dt where
 nm:ByteArray
 md:Int
 pr:Int
 vs:List AV
 dr:Int
def Dt.av (d:Dt):AV:= .agg [.str d.nm,.i d.md,.i d.pr,.sl d.vs,.i d.dr]
theorem Dt.av_clo (d:Dt):d.av.clo=true:=rfl
def dl (l:List Dt):List AV:=l.map Dt.av
@[go_sem] theorem jb8 (l:List Dt):(dl l).length=l.length:=List.length_map ..
@[go_sem] theorem jnB (l:List Dt) (i:Nat):(dl l)[i]? =(l[i]?).map Dt.av:=List.getElem?_map ..
def drs (l:List Dt):List Int:=l.map Dt.dr
theorem jeL {l:List Dt} {i:Nat} {d:Dt} (h:l[i]? =some d):(drs l).getD i 0=d.dr:=by simp[drs,List.getD_eq_getElem?_getD,h]
abbrev oU:AV:= .fn (.func 42) [] [.ptr 0 0,.ptr 1 0,.ptr 2 0,.ptr 3 0,.ptr 4 0,.ptr 5 0]
def objP (D:List Dt) (h:Hp) (f:Fa):Nat->Option AObj:=jp [(0,.cells [.bool f.pan]),(1,.cells [.i (f.cnt:Int)]),(2,.cells [.sl (dl D)]),(3,.cells [.rw 6]),(4,.cells [oU]),(5,.cells h.cs),(6,.row 1 (il f.out))]
section
variable (D:List Dt) (h:Hp) (f:Fa)
theorem qM:objP D h f 0=some (.cells [.bool f.pan]):=rfl
theorem x6:objP D h f 1=some (.cells [.i (f.cnt:Int)]):=rfl
theorem ol:objP D h f 2=some (.cells [.sl (dl D)]):=rfl
theorem om:objP D h f 3=some (.cells [.rw 6]):=rfl
theorem oo:objP D h f 4=some (.cells [oU]):=rfl
theorem GF:objP D h f 5=some (.cells h.cs):=rfl
theorem oq:objP D h f 6=some (.row 1 (il f.out)):=rfl
end
theorem j7 {D:List Dt} {h:Hp} {f:Fa} {id:Nat} {ob:AObj} (ho:objP D h f id=some ob):id<7/\ob.ids (· <7):=by
 simp only[objP,jp,jb] at ho
 repeat' split at ho
 all_goals first|(cases ho;done)|skip
 all_goals cases ho;subst_vars
 all_goals refine⟨by decide,?_⟩
 all_goals simp[AObj.ids,AV.ids,AV.idsL,Hp.cs,go_sem]
theorem QE (D:List Dt) (h:Hp) (f:Fa) (id:Nat) (hid:id<7):objP D h f id≠none:=by
 have:id=0\/id=1\/id=2\/id=3\/id=4\/id=5\/id=6:=by omega
 rcases this with rfl|rfl|rfl|rfl|rfl|rfl|rfl<;>simp[objP,jp,jb]
theorem ot {D:List Dt} {h:Hp} {f:Fa} {O:St} {np:Nat} (hnp:np<=7) (hs:∀ id ob,objP D h f id=some ob->O.hp id=some ob):Ent np (fun i=>i) O ⟨fun _=>none,objP D h f,7⟩:=
 j6 (fr:=[]) (by simp) (fun id ob ho=>⟨hs id ob ho,j7 ho⟩) hnp
def DrpC (D:List Dt) (h:Hp) (v:Vl) (r:Fa->Fa) (f:Fa):Prop:=
 ACall Tryd.prog 42 [.agg v.cs,.ptr 0 0,.ptr 1 0,.ptr 2 0,.ptr 3 0,.ptr 4 0,.ptr 5 0] (objP D h f) 7 6 (fun x hp'=>x= .tup []/\hp'=objP D h (r f)) (fun _ _=>False)
theorem jeK (D:List Dt) (h:Hp) (v:Vl) (r:Fa->Fa) (f:Fa) (hp:f.pan=true) (hr:r f=f):DrpC D h v r f:=by
 unfold DrpC
 rw[hr,show v.cs=[.i v.kind,.i v.id,.i v.var,.i v.n,.sl (Vl.avL v.fs),.bool v.excl,.sl (il v.path),.sl (il v.loans)] from rfl]
 refine ACall.of_bodyR Tryd.func42 OF rfl (by simp[Tryd.f42]) fun E Q hE hN hQ hQp=>jg ?_
 have h0:=qM D h f
 rw[hp] at h0
 repeat'(first|apply nx|refine zx ?_|rw[zw]|refine zk ?_|refine zp ?_|(apply zA;exact zb)|((first|refine zR hE @fun K Kp hK hKp hg=>?_|refine zT hE @fun K Kp hK hKp anc hanc hg=>?_|refine zF hE @fun K Kp hK hKp anc hanc hg=>?_|refine zg (fun hg=>?_) fun hg=>?_)<;>simp only[go_sem,h0,hg])|(refine zc (fun hc=>?_) (fun hc=>?_)<;>try exact zh hc))
 refine jl ?_
 refine(hQ _ ⟨.tup [],fun i=>i,objP D h f,7,rfl,trivial,ot (by decide) (fun id ob ho=>?_),rfl,rfl⟩).2
 have:=(j7 ho).1
 simp only[jb]
 rw[if_neg (by omega)]
 exact ho
theorem jaP (D:List Dt) (h:Hp) (v:Vl) (r:Fa->Fa) (f:Fa) (hp:f.pan=false) (h2:v.kind≠2) (h3:v.kind≠3) (h5:v.kind≠5) (hr:r f=f):DrpC D h v r f:=by
 have q2:(v.kind==2)=false:=by simpa using h2
 have q3:(v.kind==3)=false:=by simpa using h3
 have q5:(v.kind==5)=false:=by simpa using h5
 unfold DrpC
 rw[hr,show v.cs=[.i v.kind,.i v.id,.i v.var,.i v.n,.sl (Vl.avL v.fs),.bool v.excl,.sl (il v.path),.sl (il v.loans)] from rfl]
 refine ACall.of_bodyR Tryd.func42 OF rfl (by simp[Tryd.f42]) fun E Q hE hN hQ hQp=>jg ?_
 have h0:=qM D h f
 rw[hp] at h0
 repeat'(first|apply nx|refine zx ?_|rw[zw]|refine zk ?_|refine zp ?_|(apply zA;exact zb)|((first|refine zR hE @fun K Kp hK hKp hg=>?_|refine zT hE @fun K Kp hK hKp anc hanc hg=>?_|refine zF hE @fun K Kp hK hKp anc hanc hg=>?_|refine zg (fun hg=>?_) fun hg=>?_)<;>simp only[go_sem,h0,q2,q3,q5,hg])|(refine zc (fun hc=>?_) (fun hc=>?_)<;>try exact zh hc))
 refine jl ?_
 refine(hQ _ ⟨.tup [],fun i=>i,objP D h f,7,rfl,trivial,ot (by decide) (fun id ob ho=>?_),rfl,rfl⟩).2
 have:=(j7 ho).1
 simp only[jb]
 rw[if_neg (by omega)]
 exact ho
theorem jca (D : List Dt) (h : Hp) (v : Vl) (r : Fa -> Fa) (en : Vl -> Fa -> Fa) (d : Dt) (f : Fa) (hp : f.pan = false) (hk : v.kind = 2) (hl : v.fs.length <= 2 ^ 30) (m : Nat) (hid : v.id = m) (hd : D[m]? = some d) (hD : D.length <= 2 ^ 30) (hc0 : f.cnt <= 2 ^ 43) (ho0 : f.out.length <= 2 ^ 43)
    (P:Nat->Fa->Prop) (hP:P 0 (f.add d.dr)) (hf:∀ i x f,v.fs[i]? =some x->P i f->DrpC D h x (en x) f) (hs:∀ i x f,v.fs[i]? =some x->P i f->P (i+1) (en x f)) (hr:r f=v.fs.foldl (fun f x=>en x f) (f.add d.dr)):DrpC D h v r f:=by
  have q2:(v.kind==2)=true:=by simpa using hk
  unfold DrpC
  rw[hr,show v.cs=[.i v.kind,.i v.id,.i v.var,.i v.n,.sl (Vl.avL v.fs),.bool v.excl,.sl (il v.path),.sl (il v.loans)] from rfl]
  refine ACall.of_bodyR Tryd.func42 OF rfl (by simp[Tryd.f42]) fun E Q hE hN hQ hQp=>jg ?_
  have h0:=qM D h f
  rw[hp] at h0
  have hml:m<D.length:=(List.getElem?_eq_some_iff.1 hd).1
  have hsz:=szok_il [d.dr]
  have q4:decide ((d.dr:Int)>0)=decide (0<d.dr):=by simp
  cases hc1:decide (0<d.dr)
  have hn:¬ 0<d.dr:=by simpa using hc1
  have e1:(f.add d.dr).out=f.out:=if_neg hn
  repeat'(first|apply nx|refine zx ?_|rw[zw]|refine zk ?_|refine zp ?_|(apply zA;exact zb)|((first|refine zR hE @fun K Kp hK hKp hg=>?_|refine zT hE @fun K Kp hK hKp anc hanc hg=>?_|refine zF hE @fun K Kp hK hKp anc hanc hg=>?_|refine zg (fun hg=>?_) fun hg=>?_)<;>simp only[go_sem,h0,q2,x6,ol,om,GF,oq,hid,hd,Dt.av,ja hml,hc1,hg])|(refine zc (fun hc=>?_) (fun hc=>?_)<;>try exact zh hc))
  refine AW.ent (O':=⟨jL [(1,.ptr 0 0),(2,.ptr 1 0),(3,.ptr 2 0),(4,.ptr 3 0),(5,.ptr 4 0),(6,.ptr 5 0),(36,.sl (Vl.avL v.fs)),(37,.i v.fs.length),(38,.i (0:Nat))],objP D h (f.add d.dr),7⟩) (fun i=>i) ?_ ?_
  · skip
    show Ent _ _ _ (jx [(1,.ptr 0 0),(2,.ptr 1 0),(3,.ptr 2 0),(4,.ptr 3 0),(5,.ptr 4 0),(6,.ptr 5 0),(36,.sl (Vl.avL v.fs)),(37,.i v.fs.length),(38,.i ((0:Nat):Int))] [(0,.cells [.bool (f.add d.dr).pan]),(1,.cells [.i ((f.add d.dr).cnt:Int)]),(2,.cells [.sl (dl D)]),(3,.cells [.rw 6]),(4,.cells [oU]),(5,.cells h.cs),(6,.row 1 (il (f.add d.dr).out))] 7)
    rw[e1]
    refine jc (by simp[go_sem,AV.ids]) (by simp[go_sem,AV.ids,AV.idsL,ol,om,oo,GF,oq,Hp.cs,Fa.add]) (by simp) (fun id hid=>?_)
    rw[hN] at hid
    exact⟨rfl,by omega⟩
  rotate_left
  have hn:0<d.dr:=by simpa using hc1
  have e1:(f.add d.dr).out=f.out++[d.dr]:=if_pos hn
  repeat'(first|apply nx|refine zx ?_|rw[zw]|refine zk ?_|refine zp ?_|(apply zA;exact zb)|((first|refine zR hE @fun K Kp hK hKp hg=>?_|refine zT hE @fun K Kp hK hKp anc hanc hg=>?_|refine zF hE @fun K Kp hK hKp anc hanc hg=>?_|refine zg (fun hg=>?_) fun hg=>?_)<;>simp only[go_sem,h0,q2,x6,ol,om,GF,oq,hid,hd,Dt.av,ja hml,hc1,hg])|(refine zc (fun hc=>?_) (fun hc=>?_)<;>try exact zh hc))
  refine AW.ent (O':=⟨jL [(1,.ptr 0 0),(2,.ptr 1 0),(3,.ptr 2 0),(4,.ptr 3 0),(5,.ptr 4 0),(6,.ptr 5 0),(36,.sl (Vl.avL v.fs)),(37,.i v.fs.length),(38,.i (0:Nat))],objP D h (f.add d.dr),7⟩) (fun i=>if i=6 then 26214407 else i) ?_ ?_
  · skip
    show Ent _ _ _ (jx [(1,.ptr 0 0),(2,.ptr 1 0),(3,.ptr 2 0),(4,.ptr 3 0),(5,.ptr 4 0),(6,.ptr 5 0),(36,.sl (Vl.avL v.fs)),(37,.i v.fs.length),(38,.i ((0:Nat):Int))] [(0,.cells [.bool (f.add d.dr).pan]),(1,.cells [.i ((f.add d.dr).cnt:Int)]),(2,.cells [.sl (dl D)]),(3,.cells [.rw 6]),(4,.cells [oU]),(5,.cells h.cs),(6,.row 1 (il (f.add d.dr).out))] 7)
    rw[e1]
    refine jc (by simp[go_sem,AV.ids]) (by simp[go_sem,AV.ids,AV.idsL,ol,om,oo,GF,oq,Hp.cs,Fa.add,il_app]) (by simp) (fun id hid=>?_)
    rw[hN] at hid
    exact⟨if_neg (by omega),by omega⟩
  all_goals
    clear h0 hc1 hsz q4 hml
    refine jB (X:=Nat×Fa) (fun x=>x.1<=v.fs.length/\v.fs.foldl (fun f x=>en x f) (f.add d.dr)=(v.fs.drop x.1).foldl (fun f x=>en x f) x.2/\P x.1 x.2) (fun x=>⟨jL [(1,.ptr 0 0),(2,.ptr 1 0),(3,.ptr 2 0),(4,.ptr 3 0),(5,.ptr 4 0),(6,.ptr 5 0),(36,.sl (Vl.avL v.fs)),(37,.i v.fs.length),(38,.i x.1)],objP D h x.2,7⟩) (fun x=>v.fs.length - x.1) (0,f.add d.dr) ⟨Nat.zero_le _,by simp,hP⟩ (fun i=>i) (j6 (by simp[go_sem,AV.ids,AV.idsL]) (fun id ob ho=>⟨ho,j7 ho⟩) (by rw[hN];decide)) ?_
    rintro⟨i,f1⟩ ⟨hi,ht,hPi⟩
    simp only at hi ht hPi
    by_cases hlt:i<v.fs.length
    · obtain⟨x,hx⟩:=get?_of hlt
      rw[jS hx,List.foldl_cons] at ht
      have hv1:=hf i x f1 hx hPi
      unfold DrpC at hv1
      rw[show x.cs=[.i x.kind,.i x.id,.i x.var,.i x.n,.sl (Vl.avL x.fs),.bool x.excl,.sl (il x.path),.sl (il x.loans)] from rfl] at hv1
      repeat'(first|apply nx|refine zx ?_|rw[zw]|refine zk ?_|refine zp ?_|(apply zA;exact zb)|((first|refine zR hE @fun K Kp hK hKp hg=>?_|refine zT hE @fun K Kp hK hKp anc hanc hg=>?_|refine zF hE @fun K Kp hK hKp anc hanc hg=>?_|refine zg (fun hg=>?_) fun hg=>?_)<;>simp only[go_sem,ja hlt,hx,Vl.av_eq,oo,hg])|(refine zc (fun hc=>?_) (fun hc=>?_)<;>try exact zh hc))
      refine Hold.mk (CallB.use hv1 (fun i=>i) (by rw[jv]) (by simp[AV.ids,AV.idsL,go_sem]) (fun id ob ho=>⟨?_,j7 ho⟩) (fun _ _ _ _ _ _ e=>e) (fun id hid=>⟨by omega,QE _ _ _ _ (by omega)⟩) ?_ (fun _ _ hx=>hx.elim) ?_ (fun _ _ _ hx=>hx.elim))
      · rw[jw]
        have:=(j7 ho).1
        simp only[jb]
        rw[if_neg (by omega)]
        first|exact ho|(rw[if_neg (by omega)];exact ho)
      · rintro r hp' ⟨rfl,rfl⟩
        exact⟨trivial,fun id ob ho=>⟨by have:=(j7 ho).1;omega,jf _ (fun j hj=>by omega) (j7 ho).2⟩⟩
      · rintro r hp' fr' hpn ⟨rfl,rfl⟩ hfr hobj _
        simp only[St.put,AV.ren,Jg,AV.renL] at hfr
        clear hQ hQp
        subst hfr
        simp only[go_sem]
        refine hK.h _ ?_
        repeat'(first|apply nx|refine zx ?_|rw[zw]|refine zk ?_|refine zp ?_|(apply zA;exact zb)|((first|refine zR hE @fun K Kp hK hKp hg=>?_|refine zT hE @fun K Kp hK hKp anc hanc hg=>?_|refine zF hE @fun K Kp hK hKp anc hanc hg=>?_|refine zg (fun hg=>?_) fun hg=>?_)<;>simp only[go_sem,hg])|(refine zc (fun hc=>?_) (fun hc=>?_)<;>try exact zh hc))
        have hb:∀ i,i<6->jn (fun i=>i) 6 7340039 i=i:=fun i hi=>jz hi
        refine⟨(i+1,en x f1),⟨by simp only;omega,by simp only;rw[ht],hs i x f1 hx hPi⟩,by simp only;omega,jn (fun i=>i) 6 7340039,Jl (m:=jn (fun i=>i) 6 7340039) (by simp[go_sem,AV.ids,AV.idsL];exact⟨(hb 0 (by decide)).symm,(hb 1 (by decide)).symm,(hb 2 (by decide)).symm,(hb 3 (by decide)).symm,(hb 4 (by decide)).symm,(hb 5 (by decide)).symm⟩) (fun id ob ho=>⟨hobj id ob ho,j7 ho⟩) (fun _ _ _ _ _ _ e=>jQ (by omega) e) (fun id hid=>⟨jz (by omega),by omega⟩)⟩
    · obtain rfl:i=v.fs.length:=by omega
      rw[List.drop_length,List.foldl_nil] at ht
      repeat'(first|apply nx|refine zx ?_|rw[zw]|refine zk ?_|refine zp ?_|(apply zA;exact zb)|((first|refine zR hE @fun K Kp hK hKp hg=>?_|refine zT hE @fun K Kp hK hKp anc hanc hg=>?_|refine zF hE @fun K Kp hK hKp anc hanc hg=>?_|refine zg (fun hg=>?_) fun hg=>?_)<;>simp only[go_sem,jE,hg])|(refine zc (fun hc=>?_) (fun hc=>?_)<;>try exact zh hc))
      refine jl ?_
      refine(hQ _ ⟨.tup [],fun i=>i,objP D h f1,7,rfl,trivial,ot (by decide) (fun id ob ho=>ho),rfl,by rw[ht]⟩).2
end Go.Proofs.YtfpcjabbcpgbjaaDoor

set_option maxHeartbeats 4000000
set_option maxRecDepth 100000
namespace Go.Proofs.YtfpcjabbcpgbjaaDoor
open Go.Am Go.Proofs Go.Hv
open Classical
attribute [local irreducible] AW jA CallB CallY
theorem jeJ (D:List Dt) (h:Hp) (v:Vl) (r:Fa->Fa) (f:Fa) (hp:f.pan=false) (hk:v.kind=3) (hl:h.cells.length<=2 ^ 20) (m:Nat) (c:Cl) (hm:v.n=m) (hcc:h.cells[m]? =some c) (hv:DrpC D h c.v r f):DrpC D h v r f:=by
 have q2:(v.kind==2)=false:=by simp[hk]
 have q3:(v.kind==3)=true:=by simp[hk]
 unfold DrpC at hv ⊢
 rw[show v.cs=[.i v.kind,.i v.id,.i v.var,.i v.n,.sl (Vl.avL v.fs),.bool v.excl,.sl (il v.path),.sl (il v.loans)] from rfl]
 rw[show c.v.cs=[.i c.v.kind,.i c.v.id,.i c.v.var,.i c.v.n,.sl (Vl.avL c.v.fs),.bool c.v.excl,.sl (il c.v.path),.sl (il c.v.loans)] from rfl] at hv
 refine ACall.of_bodyR Tryd.func42 OF rfl (by simp[Tryd.f42]) fun E Q hE hN hQ hQp=>jg ?_
 have h0:=qM D h f
 rw[hp] at h0
 have h2:=(List.getElem?_eq_some_iff.1 hcc).1
 repeat'(first|apply nx|refine zx ?_|rw[zw]|refine zk ?_|refine zp ?_|(apply zA;exact zb)|((first|refine zR hE @fun K Kp hK hKp hg=>?_|refine zT hE @fun K Kp hK hKp anc hanc hg=>?_|refine zF hE @fun K Kp hK hKp anc hanc hg=>?_|refine zg (fun hg=>?_) fun hg=>?_)<;>simp only[go_sem,h0,q2,q3,oo,GF,Hp.cs,hm,ja h2,hcc,Cl.av,Cl.cs_eq,hg])|(refine zc (fun hc=>?_) (fun hc=>?_)<;>try exact zh hc))
 refine Hold.mk (CallB.use hv (fun i=>i) (by rw[jv]) (by simp[AV.ids,AV.idsL,go_sem]) (fun id ob ho=>⟨?_,j7 ho⟩) (fun _ _ _ _ _ _ e=>e) (fun id hid=>⟨by omega,QE _ _ _ _ (by omega)⟩) ?_ (fun _ _ hx=>hx.elim) ?_ (fun _ _ _ hx=>hx.elim))
 ·rw[jw]
  have:=(j7 ho).1
  simp only[jb]
  rw[if_neg (by omega)]
  exact ho
 ·rintro r hp' ⟨rfl,rfl⟩
  exact⟨trivial,fun id ob ho=>⟨by have:=(j7 ho).1;omega,jf _ (fun j hj=>by omega) (j7 ho).2⟩⟩
 ·rintro r' hp' fr' hpn ⟨rfl,rfl⟩ hfr hobj _
  simp only[go_sem]
  refine hK.h _ ?_
  clear hK hKp
  repeat(first|refine jj ?_|refine jl ?_)
  refine(hQ _ ⟨.tup [],_,objP D h (r f),7,rfl,trivial,Jl (fr:=[]) (by simp) (fun id ob ho=>⟨hobj id ob ho,j7 ho⟩) (fun _ _ _ _ _ _ e=>jQ (by omega) e) (fun id hid=>⟨jz hid,by show id<7;omega⟩),rfl,rfl⟩).2

def YG (D:List Dt) (h:Hp) (v:Vl) (f:Fa):Nat->Option AObj:=jp [(0,.cells [.bool f.pan]),(1,.cells [.i (f.cnt:Int)]),(2,.cells [.sl (dl D)]),(3,.cells [.rw 9]),(4,.cells [oU]),(5,.cells h.cs),(6,.cells v.cs),(7,.cells h.cs),(9,.row 1 (il f.out))]
theorem UR {D:List Dt} {h:Hp} {v:Vl} {f:Fa} {id:Nat} {ob:AObj} (ho:YG D h v f id=some ob):(id<1000000/\id≠8)/\ob.ids (fun j=>j<1000000/\j≠8):=by
 simp only[YG,jp,jb] at ho
 repeat' split at ho
 all_goals first|(cases ho;done)|skip
 all_goals cases ho;subst_vars
 all_goals refine⟨by decide,?_⟩
 all_goals simp[AObj.ids,AV.ids,AV.idsL,Hp.cs,go_sem]
theorem US (D:List Dt) (h:Hp) (v:Vl) (f:Fa) (id:Nat) (hid:id<8):YG D h v f id≠none:=by
 have:id=0\/id=1\/id=2\/id=3\/id=4\/id=5\/id=6\/id=7:=by omega
 rcases this with rfl|rfl|rfl|rfl|rfl|rfl|rfl|rfl<;>simp[YG,jp,jb]
abbrev frQ:List (Nat×AV):=[(1,.ptr 0 0),(2,.ptr 1 0),(3,.ptr 2 0),(4,.ptr 3 0),(5,.ptr 4 0),(6,.ptr 5 0),(7,.ptr 6 0),(64,.fn (.func 68) [] [.ptr 7 0])]
theorem jcr {D : List Dt} {h : Hp} {v : Vl} {o' : Fa} {hpn : Nat -> Option AObj} {fr' : Nat -> Option AV} {n' B : Nat} {q : Lp} (hB : 100 < B) (hobj : ∀ j ob, objP D h o' j = some ob -> hpn (jn (fun i => if i = 6 then 9 else i) 6 B j) = some (ob.ren (jn (fun i => if i = 6 then 9 else i) 6 B)))
    (h6:hpn 6=some (.cells v.cs)) (h7:hpn 7=some (.cells h.cs)) (h8:hpn 8=some (.lp q [.ptr 4 0,.ptr 6 0])):
    Ent (8+1) (fun i=>if i=9 then B else i) ⟨fr',hpn,n'⟩ ⟨jL [],jb (YG D h v o') 8 (some (.lp q [.ptr 4 0,.ptr 6 0])),1000000⟩:=by
  have hb:∀ j,j<6->jn (fun i=>if i=6 then 9 else i) 6 B j=j:=fun j hj=>by rw[jz hj];exact if_neg (by omega)
  have hb6:jn (fun i=>if i=6 then 9 else i) 6 B 6=B:=by rw[Jq (by decide)];rfl
  have b0:=hb 0 (by decide)
  have b1:=hb 1 (by decide)
  have b2:=hb 2 (by decide)
  have b3:=hb 3 (by decide)
  have b4:=hb 4 (by decide)
  have b5:=hb 5 (by decide)
  have k0:=hobj 0 _ rfl
  have k1:=hobj 1 _ rfl
  have k2:=hobj 2 _ rfl
  have k3:=hobj 3 _ rfl
  have k4:=hobj 4 _ rfl
  have k5:=hobj 5 _ rfl
  have k6:=hobj 6 _ rfl
  simp only[b0,b1,b2,b3,b4,b5,hb6,AObj.ren,AV.ren,AV.renL,Hp.cs] at k0 k1 k2 k3 k4 k5 k6
  rw[js (qG _)] at k6
  show Ent _ _ _ (jx [] [(8,.lp q [.ptr 4 0,.ptr 6 0]),(0,.cells [.bool o'.pan]),(1,.cells [.i (o'.cnt:Int)]),(2,.cells [.sl (dl D)]),(3,.cells [.rw 9]),(4,.cells [oU]),(5,.cells h.cs),(6,.cells v.cs),(7,.cells h.cs),(9,.row 1 (il o'.out))] 1000000)
  refine jc (by simp) (by simp[go_sem,AV.ids,AV.idsL,k0,k1,k2,k3,k4,k5,k6,h6,h7,h8,Hp.cs]) (by simp;omega) (fun id hid=>⟨if_neg (by omega),by omega⟩)
theorem jaZ {D:List Dt} {h:Hp} {v:Vl} {s':Fa} {m':Nat->Nat} {O:St} {fr:List (Nat×AV)} (he:Ent 6 m' O ⟨jL fr,YG D h v s',1000000⟩):∃ m'',Ent 6 m'' O ⟨fun _=>none,objP D h s',7⟩:=by
 obtain⟨_,e2,e3,e4⟩:=he
 have b:∀ i,i<6->m' i=i:=fun i hi=>(e4 i hi).1
 have k0:=(e2 0 _ rfl).1
 have k1:=(e2 1 _ rfl).1
 have k2:=(e2 2 _ rfl).1
 have k3:=(e2 3 _ rfl).1
 have k4:=(e2 4 _ rfl).1
 have k5:=(e2 5 _ rfl).1
 have k9:=(e2 9 _ rfl).1
 have n9:∀ i,i<6->¬ m' 9=i:=by
  intro i hi hh
  have hne:=US D h v s' i (by omega)
  obtain⟨ob,hob⟩:=Option.ne_none_iff_exists'.1 hne
  have:=e3 9 i _ ob rfl hob (by rw[b i hi];exact hh)
  omega
 simp only[b 0 (by decide),b 1 (by decide),b 2 (by decide),b 3 (by decide),b 4 (by decide),b 5 (by decide),AObj.ren,AV.ren,AV.renL,Hp.cs] at k0 k1 k2 k3 k4 k5 k9
 rw[js (qG _)] at k9
 have n0:=n9 0 (by decide)
 have n1:=n9 1 (by decide)
 have n2:=n9 2 (by decide)
 have n3:=n9 3 (by decide)
 have n4:=n9 4 (by decide)
 have n5:=n9 5 (by decide)
 refine⟨fun i=>if i=6 then m' 9 else i,?_⟩
 show Ent _ _ _ (jx [] [(0,.cells [.bool s'.pan]),(1,.cells [.i (s'.cnt:Int)]),(2,.cells [.sl (dl D)]),(3,.cells [.rw 6]),(4,.cells [oU]),(5,.cells h.cs),(6,.row 1 (il s'.out))] 7)
 refine jc (by simp) (by simp[go_sem,AV.ids,AV.idsL,k0,k1,k2,k3,k4,k5,k9,Hp.cs]) (by simp[n0,n1,n2,n3,n4,n5,Ne.symm n0,Ne.symm n1,Ne.symm n2,Ne.symm n3,Ne.symm n4,Ne.symm n5]) (fun id hid=>⟨if_neg (by omega),by omega⟩)
theorem jaO (D : List Dt) (h : Hp) (v : Vl) (r : Fa -> Fa) (en : Nat -> Fa -> Fa) (f : Fa) (hp : f.pan = false) (hk : v.kind = 5) (hl : h.cells.length <= 2 ^ 20) (m : Nat) (hm : v.n = m) (P : Nat -> Fa -> Prop) (hP : P 0 f)
    (hen:∀ i c f,P i f->h.cells[i]? =some c->c.live=true->c.arena=m->DrpC D h c.v (en i) f) (hs:∀ i c f,P i f->h.cells[i]? =some c->c.live=true->c.arena=m->P (i+1) (en i f))
    (hn:∀ i c f,P i f->h.cells[i]? =some c->(c.live&&(c.arena==(m:Int)))=false->P (i+1) f) (hr:r f=gI en (JF h.cells m 0) f) (hal:h.arenas.length<=2 ^ 20):DrpC D h v r f:=by
  have hlf:=UK h
  rw[Hp.av_eq] at hlf
  unfold DrpC
  rw[hr,show v.cs=[.i v.kind,.i v.id,.i v.var,.i v.n,.sl (Vl.avL v.fs),.bool v.excl,.sl (il v.path),.sl (il v.loans)] from rfl]
  have q2:(v.kind==2)=false:=by simp[hk]
  have q3:(v.kind==3)=false:=by simp[hk]
  have q5:(v.kind==5)=true:=by simp[hk]
  refine ACall.of_bodyRM Tryd.func42 OF rfl (by simp[Tryd.f42]) fun E Q hE hN hM hQ hQp=>jg ?_
  have h0:=qM D h f
  rw[hp] at h0
  repeat'(first|apply nx|refine zx ?_|rw[zw]|refine zk ?_|refine zp ?_|(apply zA;exact zb)|((first|refine zR hE @fun K Kp hK hKp hg=>?_|refine zT hE @fun K Kp hK hKp anc hanc hg=>?_|refine zF hE @fun K Kp hK hKp anc hanc hg=>?_|refine zg (fun hg=>?_) fun hg=>?_)<;>simp only[go_sem,h0,q2,q3,q5,GF,Hp.cs,hm,hg])|(refine zc (fun hc=>?_) (fun hc=>?_)<;>try exact zh hc))
  refine Hold.mk (CallB.newP hlf (by simp[AV.cloL,AV.clo]) (by simp[AV.ids,AV.idsL]) (by intro p hp;simp only[List.mem_cons,List.not_mem_nil,or_false] at hp;subst hp;exact⟨by show 0<1048576;decide,by simp[AObj.ids,Hp.cs,AV.ids,AV.idsL,go_sem]⟩) ?_)
  simp only[go_sem,AObj.ren,Hp.cs]
  refine hK.h _ ?_
  clear hK hKp
  repeat'(first|apply nx|refine zx ?_|rw[zw]|refine zk ?_|refine zp ?_|(apply zA;exact zb)|((first|refine zR hE @fun K Kp hK hKp hg=>?_|refine zT hE @fun K Kp hK hKp anc hanc hg=>?_|refine zF hE @fun K Kp hK hKp anc hanc hg=>?_|refine zg (fun hg=>?_) fun hg=>?_)<;>simp only[go_sem,hg])|(refine zc (fun hc=>?_) (fun hc=>?_)<;>try exact zh hc))
  refine AW.ent (O':=⟨jL frQ,YG D h v f,1000000⟩) (fun i=>if i=6 then 7 else if i=7 then 16777223 else if i=9 then 6 else i) (by
    show Ent _ _ _ (jx frQ [(0,.cells [.bool f.pan]),(1,.cells [.i (f.cnt:Int)]),(2,.cells [.sl (dl D)]),(3,.cells [.rw 9]),(4,.cells [oU]),(5,.cells h.cs),(6,.cells v.cs),(7,.cells h.cs),(9,.row 1 (il f.out))] 1000000)
    refine jc (by simp[go_sem,AV.ids,AV.idsL]) (by simp[go_sem,AV.ids,AV.idsL,qM,x6,ol,om,oo,GF,oq,Hp.cs,Vl.cs,hm]) (by simp) (fun id hid=>?_)
    rw[hN] at hid
    exact⟨by rw[if_neg (by omega),if_neg (by omega),if_neg (by omega)],by omega⟩) ?_
  clear h0
  refine XA hM h hl (YG D h v) 8 7 (by decide) (by decide) (by rw[hN];decide) (fun s=>rfl) (fun s id o ho=>UR ho) (fun s id hid=>US _ _ _ _ _ hid) frQ (by simp[AV.ids,AV.idsL]) (by simp[go_sem]) (by simp[go_sem]) [5,7] [.ptr 4 0,.ptr 6 0] (by intro i hi;match i,hi with|0,_=>rfl|1,_=>rfl) (by simp[AV.ids,AV.idsL]) rfl (by rw[hE];simp[Tryd.f42])
    (fun i s=>gI en (JF h.cells m 0) f=gI en (JF h.cells m i) s/\P i s) (fun x s=>False) (fun x s hx=>hx.elim) ?_ (fun i c s hi hc hv=>⟨by rw[hi.1,JD hc,hv];rfl,hn i c s hi.2 hc (by rw[hv];rfl)⟩) _ ⟨rfl,hP⟩ ?_ ?_
  · intro l fnn i c s E' Q' ⟨hi,hPs⟩ hcc hv hE' hN' hnorm hpan
    have hi20:i<h.cells.length:=(List.getElem?_eq_some_iff.1 hcc).1
    rw[JD hcc,hv,Bool.true_and] at hi
    unfold qw
    refine jg ?_
    show AW Tryd.prog E' _ _ ⟨upd (upd (jL [(5,.ptr 4 0),(7,.ptr 6 0)]) 65 (.i i)) 66 (.agg c.cs),jb (YG D h v s) 8 _,1000000⟩
    rw[hE] at hE'
    replace hE:=hE'
    repeat'(first|apply nx|refine zx ?_|rw[zw]|refine zk ?_|refine zp ?_|(apply zA;exact zb)|((first|refine zR hE @fun K Kp hK hKp hg=>?_|refine zT hE @fun K Kp hK hKp anc hanc hg=>?_|refine zF hE @fun K Kp hK hKp anc hanc hg=>?_|refine zg (fun hg=>?_) fun hg=>?_)<;>simp only[go_sem,Cl.cs_eq,hg])|(refine zc (fun hc=>?_) (fun hc=>?_)<;>try exact zh hc))
    refine jl ?_
    refine⟨[.ptr 4 0,.ptr 6 0],by simp[jb],jg ?_⟩
    show AW Tryd.prog E' _ _ ⟨_,_,3097152⟩
    have ho4:YG D h v s 4=some (.cells [oU]):=rfl
    have ho6:YG D h v s 6=some (.cells v.cs):=rfl
    by_cases hcm:c.arena=m
    · have q7:(c.arena==(m:Int))=true:=by simpa using hcm
      rw[if_pos q7,gI] at hi
      have he1:=hen i c s hPs hcc hv hcm
      unfold DrpC at he1
      rw[show c.v.cs=[.i c.v.kind,.i c.v.id,.i c.v.var,.i c.v.n,.sl (Vl.avL c.v.fs),.bool c.v.excl,.sl (il c.v.path),.sl (il c.v.loans)] from rfl] at he1
      repeat'(first|apply nx|refine zx ?_|rw[zw]|refine zk ?_|refine zp ?_|(apply zA;exact zb)|((first|refine zR hE @fun K Kp hK hKp hg=>?_|refine zT hE @fun K Kp hK hKp anc hanc hg=>?_|refine zF hE @fun K Kp hK hKp anc hanc hg=>?_|refine zg (fun hg=>?_) fun hg=>?_)<;>simp only[go_sem,ho4,ho6,Vl.cs,hm,q7,hg])|(refine zc (fun hc=>?_) (fun hc=>?_)<;>try exact zh hc))
      have hm3:∀ id,id=6\/id=7\/id=8->∀ j,objP D h s j≠none->(if j=6 then 9 else j)≠id:=by
        intro id hid j hj
        obtain⟨ob,hob⟩:=Option.ne_none_iff_exists'.1 hj
        have:=(j7 hob).1
        split<;>omega
      refine Hold.mk (CallB.use he1 (fun i=>if i=6 then 9 else i) (by simp[AV.renL,AV.ren,go_sem]) (by simp[AV.ids,AV.idsL,go_sem]) (fun id ob ho=>⟨?_,j7 ho⟩) (fun id id' _ _ h1 h2 e=>?_) (fun id hid=>⟨by omega,QE _ _ _ _ (by omega)⟩) ?_ (fun _ _ hx=>hx.elim) ?_ (fun _ _ _ hx=>hx.elim))
      · simp only[objP,jp,jb] at ho
        repeat' split at ho
        all_goals first|(cases ho;done)|skip
        all_goals cases ho;subst_vars
        all_goals simp[jb,YG,jp,AObj.ren,AV.ren,AV.renL,Hp.cs,go_sem]
      · have g1:=(j7 h1).1
        have g2:=(j7 h2).1
        have e':(if id=6 then 9 else id)=(if id'=6 then 9 else id'):=e
        split at e'<;>split at e'<;>omega
      · rintro r hp' ⟨rfl,rfl⟩
        exact⟨trivial,fun id ob ho=>⟨by have:=(j7 ho).1;omega,jf _ (fun j hj=>by omega) (j7 ho).2⟩⟩
      · rintro r' hp' fr' hpn ⟨rfl,rfl⟩ hfr hobj hold
        simp only[go_sem]
        refine hK.h _ ?_
        clear hK hKp
        repeat(first|refine jj ?_|refine jl ?_)
        refine hnorm _ (en i s) (fun i=>if i=9 then 11485760 else i) ⟨by rw[hi],hs i c s hPs hcc hv hcm⟩ ?_
        refine jcr (by decide) hobj ?_ ?_ ?_
        · exact hold 6 _ (by simp[jb,YG,jp]) (hm3 6 (.inl rfl))
        · exact hold 7 _ (by simp[jb,YG,jp]) (hm3 7 (.inr (.inl rfl)))
        · exact hold 8 _ (by simp[jb]) (hm3 8 (.inr (.inr rfl)))
    · have q7:(c.arena==(m:Int))=false:=by simpa using hcm
      rw[if_neg (by simp[q7])] at hi
      repeat'(first|apply nx|refine zx ?_|rw[zw]|refine zk ?_|refine zp ?_|(apply zA;exact zb)|((first|refine zR hE @fun K Kp hK hKp hg=>?_|refine zT hE @fun K Kp hK hKp anc hanc hg=>?_|refine zF hE @fun K Kp hK hKp anc hanc hg=>?_|refine zg (fun hg=>?_) fun hg=>?_)<;>simp only[go_sem,ho4,ho6,Vl.cs,hm,q7,hg])|(refine zc (fun hc=>?_) (fun hc=>?_)<;>try exact zh hc))
      refine jl (hnorm _ s (fun i=>i) ⟨hi,hn i c s hPs hcc (by rw[q7,Bool.and_false])⟩ (j6 (fr:=[]) (by simp) (fun id ob ho=>?_) (by decide)))
      by_cases e:id=8
      · subst e
        simp only[jb,if_true] at ho
        cases ho
        exact⟨by simp[jb],by decide,by simp[AObj.ids,AV.ids,AV.idsL]⟩
      · simp only[jb,if_neg e] at ho
        have g:=UR ho
        refine⟨?_,g.1.1,jf _ (fun j hj=>hj.1) g.2⟩
        simp only[jb,if_neg e]
        repeat rw[if_neg (by omega)]
        exact ho
  · intro O s' m' ⟨hi,_⟩ he
    rw[GA,gI] at hi
    rw[hN] at he
    obtain⟨m'',he2⟩:=jaZ he
    refine jj ?_
    refine jj ?_
    refine jl ?_
    exact(hQ _ ⟨.tup [],m'',objP D h s',7,rfl,trivial,he2,rfl,by rw[hi]⟩).2
  · intro x O s' m' hx he
    exact hx.elim
end Go.Proofs.YtfpcjabbcpgbjaaDoor

set_option maxHeartbeats 4000000
set_option maxRecDepth 100000
namespace Go.Proofs.YtfpcjabbcpgbjaaDoor
open Go.Am Go.Proofs Go.Hv
open Classical
theorem xy {l:List Cl} {n:Int} {i j:Nat} (h:i∈JF l n j):∃ c,l[i]? =some c/\c.live=true/\c.arena=n:=by
 unfold JF at h
 obtain⟨_,h2⟩:=List.mem_filter.1 h
 unfold uq at h2
 split at h2
 ·rename_i c hc
  simp only[Bool.and_eq_true,beq_iff_eq] at h2
  exact⟨c,hc,h2.1,h2.2⟩
 ·cases h2
def InR (D:List Dt) (o:Ow):Prop:=∀ x,x∈o.ids->∃ m:Nat,x=m/\m<D.length
theorem InR.le {D:List Dt} {o o':Ow} (h:InR D o') (hl:o.Le o'):InR D o:=fun x hx=>by
 obtain⟨l,e⟩:=hl.ids
 exact h x (by rw[e];exact List.mem_append_left _ hx)
def jjG (D:List Dt) (h:Hp) (k:Nat):Prop:=∀ n c o o' f,h.cells[n]? =some c->c.live=true->o.Ok h->jy h k n o=some o'->InR D o'->Fle f o->bud (2 ^ 20) h o<=2 ^ 42->DrpC D h c.v (JU (drs D) h k n) f
theorem DrpC.congr {D:List Dt} {h:Hp} {v:Vl} {r r':Fa->Fa} {f:Fa} (hr:r f=r' f) (he:DrpC D h v r f):DrpC D h v r' f:=by
 unfold DrpC at he ⊢
 rw[<- hr]
 exact he
theorem XH {D:List Dt} {h:Hp} (hD:D.length<=2 ^ 30) (hl:h.cells.length<=2 ^ 20) (hal:h.arenas.length<=2 ^ 20) (hM:∀ c,c∈h.cells->c.v.sz<=2 ^ 20) {k:Nat} (hE:jjG D h k):∀ (N:Nat) (v:Vl) (o o':Ow) (f:Fa),v.sz<N->v.sz<=2 ^ 20->o.Ok h->jP h (jy h k) v o=some o'->InR D o'->Fle f o->bud (2 ^ 20) h o+v.sz<=2 ^ 42->DrpC D h v (JK (drs D) h (JU (drs D) h k) v) f:=by
 intro N
 induction N with
 |zero=>intro v o o' f h0;omega
 |succ N ih=>
 intro v o o' f hN hv20 ho hw hI hF hbud
 by_cases hp:f.pan=true
 ·exact jeK D h v _ f hp (Yo v f hp)
 have hp:f.pan=false:=by simpa using hp
 have hsz:=v.sz_eq
 have hfl:=Vl.len_le v.fs
 have hids:o.ids.length<=bud (2 ^ 20) h o:=Nat.le_add_right _ _
 have hF1:=hF.out
 have hF2:=hF.cnt
 have hkp:=jo h k
 have hLe:=(jD hkp v o o' ho hw).2
 obtain⟨kd,id,vr,n,fs,ex,pa,lo⟩:=v
 simp only[Vl.fs,Vl.path,Vl.loans] at hsz hfl
 rw[jP] at hw
 by_cases h2:kd=2
 ·rw[if_pos h2] at hw
  have ho1:Ow.Ok h { o with ids:=o.ids++[id] } :=⟨ho.nd,ho.lt,ho.and,ho.alt⟩
  have hL1:=(yf hkp fs _ o' ho1 hw).2
  obtain⟨m,hm,hmD⟩:=hI.le hL1 id (by simp)
  have hd:D[m]? =some D[m]:=List.getElem?_eq_getElem hmD
  have eb:bud (2 ^ 20) h { o with ids:=o.ids++[id] } =bud (2 ^ 20) h o+1:=by simp only[bud,List.length_append,List.length_singleton];omega
  refine jca D h _ _ (fun x f=>JK (drs D) h (JU (drs D) h k) x f) D[m] f hp h2 (by simp only[Vl.fs];omega) m hm hd hD (by omega) (by omega)
   (fun i f=>∃ o1:Ow,o1.Ok h/\Jk h (jy h k) (fs.drop i) o1=some o'/\Fle f o1/\bud (2 ^ 20) h o1+Vl.szL (fs.drop i)<=2 ^ 42) ⟨_,ho1,by simpa using hw,hF.add _ id,by rw[eb,List.drop_zero];omega⟩ ?_ ?_ ?_
  ·rintro i x f1 hx ⟨o1,g1,g2,g3,g4⟩
   have hx:fs[i]? =some x:=hx
   rw[jS hx,Jk] at g2
   rw[jS hx,Vl.szL] at g4
   obtain⟨o2,g5,g6⟩:=Option.bind_eq_some_iff.1 g2
   have:=Vl.sz_mem (List.mem_of_getElem? hx)
   have k1:=jD hkp x o1 o2 g1 g5
   exact ih x o1 o2 f1 (by omega) (by omega) g1 g5 (hI.le (yf hkp _ _ _ k1.1 g6).2) g3 (by omega)
  ·rintro i x f1 hx ⟨o1,g1,g2,g3,g4⟩
   have hx:fs[i]? =some x:=hx
   rw[jS hx,Jk] at g2
   rw[jS hx,Vl.szL] at g4
   obtain⟨o2,g5,g6⟩:=Option.bind_eq_some_iff.1 g2
   have k1:=jD hkp x o1 o2 g1 g5
   have k2:=yY hkp (yb hM k) x o1 o2 g1 g5
   exact⟨o2,k1.1,g6,G5 hkp (G4 k) x o1 o2 f1 g1 g5 g3,by omega⟩
  ·rw[JK,if_neg (by simp[hp]),if_pos h2,Qf,hm,Int.toNat_natCast,jeL hd]
   rfl
 rw[if_neg h2] at hw
 by_cases h3:kd=3
 ·rw[if_pos h3] at hw
  split at hw
  ·rename_i hb
   obtain⟨m,c,rfl,hcc,hv,_⟩:=JX hb
   rw[Int.toNat_natCast] at hw
   refine jeJ D h _ _ f hp h3 hl m c rfl hcc ?_
   refine DrpC.congr ?_ (hE m c o o' f hcc hv ho hw hI hF (by omega))
   rw[JK,if_neg (by simp[hp]),if_neg h2,if_pos h3,Int.toNat_natCast]
  ·cases hw
 rw[if_neg h3] at hw
 by_cases h5:kd=5
 ·rw[if_pos h5] at hw
  split at hw
  ·rename_i hb
   simp only[Bool.and_eq_true,Bool.not_eq_true',decide_eq_false_iff_not] at hb
   obtain⟨m,rfl,hm⟩:=J6 hb.1
   rw[Int.toNat_natCast,YD] at hw
   have hm2:m∉o.ags:=by have:=hb.2;rwa [Int.toNat_natCast] at this
   have eb:bud (2 ^ 20) h (Ow.mk o.cs (o.ags++[m]) o.ids)=bud (2 ^ 20) h o:=rfl
   refine jaO D h _ _ (JU (drs D) h k) f hp h5 hl m rfl (fun i f=>∃ o1:Ow,o1.Ok h/\enL (jy h k) (JF h.cells m i) o1=some o'/\Fle f o1/\bud (2 ^ 20) h o1<=2 ^ 42) ⟨_,ho.arena hm2 hm,hw,⟨hF.out,hF.cnt⟩,by show bud (2 ^ 20) h (Ow.mk o.cs (o.ags++[m]) o.ids)<=2 ^ 42;rw[eb];omega⟩ ?_ ?_ ?_ ?_ hal
   ·rintro i c f1 ⟨o1,g1,g2,g3,g4⟩ hcc hv hca
    rw[JD hcc,hv,Bool.true_and,if_pos (by simpa using hca),enL] at g2
    obtain⟨o2,g5,g6⟩:=Option.bind_eq_some_iff.1 g2
    have k1:=hkp i o1 o2 g1 ⟨c,hcc,hv⟩ g5
    exact hE i c o1 o2 f1 hcc hv g1 g5 (hI.le (Yp hkp _ _ _ k1.1 (fun n hn=>by obtain⟨c,q1,q2,_⟩:=xy hn;exact⟨c,q1,q2⟩) g6).2) g3 g4
   ·rintro i c f1 ⟨o1,g1,g2,g3,g4⟩ hcc hv hca
    rw[JD hcc,hv,Bool.true_and,if_pos (by simpa using hca),enL] at g2
    obtain⟨o2,g5,g6⟩:=Option.bind_eq_some_iff.1 g2
    have k1:=hkp i o1 o2 g1 ⟨c,hcc,hv⟩ g5
    have k2:=yb hM k i o1 o2 g1 ⟨c,hcc,hv⟩ g5
    exact⟨o2,k1.1,g6,G4 k i o1 o2 f1 g1 ⟨c,hcc,hv⟩ g5 g3,by omega⟩
   ·rintro i c f1 ⟨o1,g1,g2,g3,g4⟩ hcc hx
    rw[JD hcc,hx] at g2
    exact⟨o1,g1,g2,g3,g4⟩
   ·rw[JK,if_neg (by simp[hp]),if_neg h2,if_neg h3,if_pos h5,YD]
  ·cases hw
 refine jaP D h _ _ f hp h2 h3 h5 ?_
 rw[JK,if_neg (by simp[hp]),if_neg h2,if_neg h3,if_neg h5]
theorem jj0 {D:List Dt} {h:Hp} (hD:D.length<=2 ^ 30) (hl:h.cells.length<=2 ^ 20) (hal:h.arenas.length<=2 ^ 20) (hM:∀ c,c∈h.cells->c.v.sz<=2 ^ 20):∀ k,jjG D h k
 |0=>fun n c o o' f hc hv ho hw=>by rw[jy] at hw;cases hw
 |k+1=>fun n c o o' f hc hv ho hw hI hF hbud=>by
  rw[jy] at hw
  split at hw
  ·cases hw
  rename_i hn
  rw[hc] at hw
  have g1:=ho.len_lt hn (List.getElem?_eq_some_iff.1 hc).1
  have g2:=hM c (List.mem_of_getElem? hc)
  refine DrpC.congr ?_ (XH hD hl hal hM (jj0 hD hl hal hM k) (c.v.sz+1) c.v _ o' f (by omega) g2 (ho.enter hn hc hv) hw hI ⟨hF.out,hF.cnt⟩ ?_)
  ·rw[JU,hc]
  ·have e:bud (2 ^ 20) h { o with cs:=o.cs++[n] } +2 ^ 20=bud (2 ^ 20) h o:=by
    unfold bud
    simp only[List.length_append,List.length_singleton]
    have:h.cells.length - o.cs.length=(h.cells.length - (o.cs.length+1))+1:=by omega
    rw[this,Nat.add_mul]
    omega
   omega
theorem jgx {D:List Dt} {h:Hp} (hD:D.length<=2 ^ 30) {v:Vl} (hm:Sm h v) {o:Ow} (hw:yc h v=some o) (hI:InR D o):DrpC D h v (JK (drs D) h (JU (drs D) h h.cells.length) v) Fa.nil:=
 XH hD hm.l hm.a hm.m (jj0 hD hm.l hm.a hm.m _) (v.sz+1) v _ o Fa.nil (by omega) hm.v (Ow.nil_ok h) hw hI (Fle.nil _) (by
  have:=hm.l
  have:=hm.v
  rw[GV]
  omega)
end Go.Proofs.YtfpcjabbcpgbjaaDoor

set_option maxHeartbeats 4000000
set_option maxRecDepth 100000
namespace Go.Proofs.YtfpcjabbcpgbjaaDoor
open Nat (reduceAdd reduceMul reduceEqDiff reduceLT reduceLeDiff reduceSub reduceDiv)
open Int (reduceBNe reduceLE reduceEq)
open Go.Am Go.Proofs Go.Hv
open Classical
attribute [local irreducible] AW jA CallB CallY
theorem jfB (D:List AV):∀ l:List Int,YM D l<=l.length
 | []=>Nat.le_refl _
 |n::l=>by
  have:=jfB D l
  rw[YM]
  split
  ·exact Nat.zero_le _
  ·simp only[List.length_cons];omega
theorem xe (D:List AV):∀ l:List Int,decide (YM D l<l.length)=l.any (gX D)
 | []=>rfl
 |n::l=>by
  have ih:=xe D l
  rw[YM,List.any_cons, <- ih]
  cases gX D n
  ·simp;omega
  ·simp
theorem jel {D:List Dt} {o:Ow} (h:o.ids.any (gX (dl D))=false):InR D o:=by
 intro x hx
 have:=List.any_eq_false.1 h x hx
 simp only[gX,Bool.or_eq_true,decide_eq_true_eq,not_or,jb8] at this
 exact⟨x.toNat,by omega,by omega⟩
def gv (D:List Dt) (h:Hp) (v:Vl):Hp×Fa×Int:=
 match yc h v with
 |none=>(hp0,Fa.nil,1)
 |some o=>if o.ids.any (gX (dl D)) then(hp0,Fa.nil,1) else(j0 h o,Gb (drs D) h v,0)
def jdD (p:Hp×Fa×Int):AV:= .tup [p.1.av,.sl (il p.2.1.out),.i (p.2.1.cnt:Int),.bool p.2.1.pan,.i p.2.2]
theorem jaM (D:List Dt) (h:Hp) (v:Vl) (hm:Sm h v) (hD:D.length<=2 ^ 30) (hs:yc h v=none):PCall Tryd.prog 18 [.sl (dl D),h.av,v.av] (jdD (hp0,Fa.nil,1)):=by
 have hw:=OX hm hs
 rw[Hp.av_eq,Vl.av_eq] at hw ⊢
 refine pI Tryd.func18 jfT fun E Q hE hN hQ=>?_
 repeat'(first|apply nx|refine zx ?_|rw[zw]|refine zk ?_|refine zp ?_|(apply zA;exact zb)|((first|refine zR hE @fun K Kp hK hKp hg=>?_|refine zT hE @fun K Kp hK hKp anc hanc hg=>?_|refine zF hE @fun K Kp hK hKp anc hanc hg=>?_|refine zg (fun hg=>?_) fun hg=>?_)<;>simp only[go_sem,hg])|(refine zc (fun hc=>?_) (fun hc=>?_)<;>try exact zh hc))
 refine Hold.mk (CallB.newP hw (by simp[AV.cloL,AV.clo]) (by simp[AV.ids,AV.idsL]) (by simp) ?_)
 simp only[go_sem]
 repeat'(first|apply nx|refine zx ?_|rw[zw]|refine zk ?_|refine zp ?_|(apply zA;exact zb)|((first|refine zR hE @fun K Kp hK hKp hg=>?_|refine zT hE @fun K Kp hK hKp anc hanc hg=>?_|refine zF hE @fun K Kp hK hKp anc hanc hg=>?_|refine zg (fun hg=>?_) fun hg=>?_)<;>simp only[go_sem,hg])|(refine zc (fun hc=>?_) (fun hc=>?_)<;>try exact zh hc))
 refine je (hQ _ ⟨.tup [.agg [.nilsl,.nilsl],.nilsl,.i 0,.bool false,.i 1],(by simp[Jy,rvA,Tryd.f18,go_sem];rfl),(by simp[AV.snapOk,AV.snapOkL,go_sem]),(by rfl),(by first|rfl|simp[AV.clo,AV.cloL,go_sem])⟩).1
def YC (h:Hp) (o:Ow) (f:Fa) (D:Nat->Bool) (O:St):Prop:=
 O.nx=9/\O.fr 4=some (.ptr 3 0)/\O.fr 6=some (.ptr 4 0)/\O.fr 11=some (.ptr 0 0)/\O.fr 14=some (.ptr 5 0)/\O.fr 15=some (.ptr 7 0)/\O.fr 16=some (.ptr 8 0)/\
 O.hp 0=some (.cells [.mp 1,.mp 2,.sl (il o.ids)])/\O.hp 3=some (.cells [.sl (cl h.cells),.sl (bl h.arenas)])/\O.hp 5=some (.cells [.rw 6])/\O.hp 6=some (.row 1 (il f.out))/\O.hp 7=some (.cells [.i (f.cnt:Int)])/\O.hp 8=some (.cells [.bool f.pan])/\
 (D 2=false->O.hp 1=some (.map (mkE o.cs)))/\(D 2=false->O.hp 2=some (.map (mkE o.ags)))/\(D 6=false->O.hp 4=some (.cells [.nilsl,.nilsl]))/\(D 6=true->O.hp 4=some (.cells [.rw 2097161,.rw 2097162]))/\
 (D 2=true->O.hp 2097161=some (.row 10 (cl (j0 h o).cells)))/\(D 2=true->O.hp 2097162=some (.row 1 (bl (j0 h o).arenas)))/\
 (D 0=true->O.fr 38=some (.agg [.mp 1,.mp 2,.sl (il o.ids)]))/\(D 1=true->O.fr 39=some (.agg [.sl (cl h.cells),.sl (bl h.arenas)]))/\(D 2=true->O.fr 40=some (.agg [.rw 2097161,.rw 2097162]))/\
 (D 3=true->O.fr 41=some (.rw 6))/\(D 4=true->O.fr 42=some (.i (f.cnt:Int)))/\(D 5=true->O.fr 43=some (.bool f.pan))/\
 (D 7=true->O.fr 7=some (.rw 6))/\(D 8=true->O.fr 8=some (.i (f.cnt:Int)))/\(D 9=true->O.fr 9=some (.bool f.pan))/\(D 10=true->O.fr 10=some (.i 0))
theorem jaN (D:List Dt) (h:Hp) (v:Vl) (hm:Sm h v) (hD:D.length<=2 ^ 30) (o:Ow) (hs:yc h v=some o) (hl:o.ids.length<=2 ^ 43):PCall Tryd.prog 18 [.sl (dl D),h.av,v.av] (jdD (if o.ids.any (gX (dl D)) then(hp0,Fa.nil,1) else(j0 h o,Gb (drs D) h v,0))):=by
 have hw:=OY hm hs
 have hany:=jgm (dl D) o.ids hl
 rw[xe] at hany
 rw[Hp.av_eq,Vl.av_eq] at hw ⊢
 refine pI Tryd.func18 jfT fun E Q hE hN hQ=>?_
 repeat'(first|apply nx|refine zx ?_|rw[zw]|refine zk ?_|refine zp ?_|(apply zA;exact zb)|((first|refine zR hE @fun K Kp hK hKp hg=>?_|refine zT hE @fun K Kp hK hKp anc hanc hg=>?_|refine zF hE @fun K Kp hK hKp anc hanc hg=>?_|refine zg (fun hg=>?_) fun hg=>?_)<;>simp only[go_sem,hg])|(refine zc (fun hc=>?_) (fun hc=>?_)<;>try exact zh hc))
 refine Hold.mk (CallB.newP hw (by simp[AV.cloL,AV.clo]) (by simp[AV.ids,AV.idsL,go_sem]) (xi o) ?_)
 simp only[go_sem,Ji]
 repeat'(first|apply nx|refine zx ?_|rw[zw]|refine zk ?_|refine zp ?_|(apply zA;exact zb)|((first|refine zR hE @fun K Kp hK hKp hg=>?_|refine zT hE @fun K Kp hK hKp anc hanc hg=>?_|refine zF hE @fun K Kp hK hKp anc hanc hg=>?_|refine zg (fun hg=>?_) fun hg=>?_)<;>simp only[go_sem,hg])|(refine zc (fun hc=>?_) (fun hc=>?_)<;>try exact zh hc))
 refine Hold.mk (CallB.use hany (fun i=>i) (by simp[AV.renL,AV.ren,go_sem]) (by simp[AV.ids,AV.idsL,go_sem]) (fun id ob ho=>⟨?_,Jm ho⟩) (fun _ _ _ _ _ _ e=>e) (fun id hid=>⟨hid,ux _ id hid⟩) ?_ (fun r hp' h=>h.elim) ?_ (fun x hp' hpn h=>h.elim))
 ·have:=(Jm ho).1
  obtain rfl:id=0:=by omega
  cases ho
  simp[go_sem]
 ·rintro r hp' ⟨rfl,rfl⟩
  exact⟨trivial,fun id ob ho=>⟨by have:=(Jm ho).1;omega,jf _ (fun j hj=>by omega) (Jm ho).2⟩⟩
 rintro r hp' fr' hpn ⟨rfl,rfl⟩ hfr hobj hold
 simp only[St.put,AV.ren,Jg] at hfr
 subst hfr
 have hne:∀ (j id:Nat),id≠0->gi (dl D) j≠none->j≠id:=fun j id hid hj=>by
  obtain⟨ob,hob⟩:=Option.ne_none_iff_exists'.1 hj
  have:=(Jm hob).1
  omega
 have g0:hpn 0=some (.cells [.sl (dl D)]):=by simpa [jn,go_sem] using hobj 0 _ rfl
 have g1:=hold 1048576 (.cells [.sl (cl h.cells),.sl (bl h.arenas)]) (by simp[go_sem]) (fun j hj=>hne j _ (by decide) hj)
 have g2:=hold 2097152 (.cells v.cs) (by simp[go_sem,Vl.cs]) (fun j hj=>hne j _ (by decide) hj)
 have g3:=hold 3145728 (.cells [.nilsl,.nilsl]) (by simp[go_sem]) (fun j hj=>hne j _ (by decide) hj)
 have g4:=hold 10485763 (.map (mkE o.ags)) (by simp[go_sem]) (fun j hj=>hne j _ (by decide) hj)
 have g5:=hold 10485762 (.map (mkE o.cs)) (by simp[go_sem]) (fun j hj=>hne j _ (by decide) hj)
 have g6:=hold 14680064 (.cells [.mp 10485762,.mp 10485763,.sl (il o.ids)]) (by simp[go_sem]) (fun j hj=>hne j _ (by decide) hj)
 clear hobj hold
 cases ha:o.ids.any (gX (dl D))
 case true=>
  rw[ha,if_pos rfl] at hQ
  simp only[go_sem]
  repeat'(first|apply nx|refine zx ?_|rw[zw]|refine zk ?_|refine zp ?_|(apply zA;exact zb)|((first|refine zR hE @fun K Kp hK hKp hg=>?_|refine zT hE @fun K Kp hK hKp anc hanc hg=>?_|refine zF hE @fun K Kp hK hKp anc hanc hg=>?_|refine zg (fun hg=>?_) fun hg=>?_)<;>simp only[go_sem,g3,hg])|(refine zc (fun hc=>?_) (fun hc=>?_)<;>try exact zh hc))
  refine je (hQ _ ⟨.tup [.agg [.nilsl,.nilsl],.nilsl,.i 0,.bool false,.i 1],(by simp[Jy,rvA,Tryd.f18,go_sem,g3];rfl),(by simp[AV.snapOk,AV.snapOkL,go_sem,g3]),(by rfl),(by first|rfl|simp[AV.clo,AV.cloL,go_sem,g3])⟩).1
 rw[ha,if_neg (by simp)] at hQ
 have hI:=jel ha
 have hdc:=jgx hD hm hs hI
 unfold DrpC at hdc
 rw[show JK (drs D) h (JU (drs D) h h.cells.length) v Fa.nil=Gb (drs D) h v from rfl,show v.cs=[.i v.kind,.i v.id,.i v.var,.i v.n,.sl (Vl.avL v.fs),.bool v.excl,.sl (il v.path),.sl (il v.loans)] from rfl] at hdc
 generalize Gb (drs D) h v=f at hdc hQ
 simp only[go_sem]
 repeat'(first|apply nx|refine zx ?_|rw[zw]|refine zk ?_|refine zp ?_|(apply zA;exact zb)|((fail_if_success refine j3 9 ?_);(first|refine zR hE @fun K Kp hK hKp hg=>?_|refine zT hE @fun K Kp hK hKp anc hanc hg=>?_|refine zF hE @fun K Kp hK hKp anc hanc hg=>?_|refine zg (fun hg=>?_) fun hg=>?_)<;>simp only[go_sem,g3,hg])|(refine zc (fun hc=>?_) (fun hc=>?_)<;>try exact zh hc))
 refine Qw 28311552 0 1 (by simp only[jb,Nat.reduceEqDiff,if_true,if_false];rfl) rfl ?_
 refine AW.ent (O':=jx [(4,.ptr 5 0),(5,.ptr 11 0),(6,.ptr 8 0),(11,.ptr 7 0),(14,.ptr 3 0),(15,.ptr 1 0),(16,.ptr 0 0),(17,.ptr 4 0)] [(0,.cells [.bool false]),(1,.cells [.i 0]),(2,.cells [.sl (dl D)]),(3,.cells [.rw 6]),(4,.cells [oU]),(5,.cells h.cs),(6,.row 1 []),(7,.cells [.mp 9,.mp 10,.sl (il o.ids)]),(8,.cells [.nilsl,.nilsl]),(9,.map (mkE o.cs)),(10,.map (mkE o.ags)),(11,.cells v.cs)] 12)
  (fun i=>if i=0 then 30408704 else if i=1 then 29360128 else if i=2 then 0 else if i=3 then 28311552 else if i=4 then 33554432 else if i=5 then 1048576 else if i=6 then 36700160 else if i=7 then 14680064 else if i=8 then 3145728 else if i=9 then 10485762 else if i=10 then 10485763 else 2097152) ?_ ?_
 ·refine jc (by simp[go_sem]) (by simp[go_sem,g0,g1,g2,g3,g4,g5,g6,Hp.cs,Ji];exact⟨fun _ _=>jZ,fun _ _=>jZ⟩) (by simp) (by simp[hN])
 clear g0 g1 g2 g3 g4 g5 g6
 repeat'(first|apply nx|refine zx ?_|rw[zw]|refine zk ?_|refine zp ?_|(apply zA;exact zb)|((first|refine zR hE @fun K Kp hK hKp hg=>?_|refine zT hE @fun K Kp hK hKp anc hanc hg=>?_|refine zF hE @fun K Kp hK hKp anc hanc hg=>?_|refine zg (fun hg=>?_) fun hg=>?_)<;>simp only[go_sem,Vl.cs,hg])|(refine zc (fun hc=>?_) (fun hc=>?_)<;>try exact zh hc))
 refine Hold.mk (CallB.use hdc (fun i=>i) (by rw[jv]) (by simp[AV.ids,AV.idsL,go_sem]) (fun id ob ho=>⟨?_,j7 ho⟩) (fun _ _ _ _ _ _ e=>e) (fun id hid=>⟨by omega,QE _ _ _ _ (by omega)⟩) ?_ (fun _ _ hx=>hx.elim) ?_ (fun _ _ _ hx=>hx.elim))
 ·rw[jw]
  simp only[objP,jp,jb] at ho
  repeat' split at ho
  all_goals first|(cases ho;done)|skip
  all_goals cases ho;subst_vars
  all_goals simp[jb,jp,Fa.nil,il]
 ·rintro r hp' ⟨rfl,rfl⟩
  exact⟨trivial,fun id ob ho=>⟨by have:=(j7 ho).1;omega,jf _ (fun j hj=>by omega) (j7 ho).2⟩⟩
 rintro r hp' fr' hpn ⟨rfl,rfl⟩ hfr hobj hold
 simp only[St.put,AV.ren,AV.renL,Jg] at hfr
 subst hfr
 have hne:∀ (j id:Nat),7<=id->objP D h Fa.nil j≠none->j≠id:=fun j id hid hj=>by
  obtain⟨ob,hob⟩:=Option.ne_none_iff_exists'.1 hj
  have:=(j7 hob).1
  omega
 have k0:hpn 0=some (.cells [.bool f.pan]):=by simpa [jn,go_sem] using hobj 0 _ rfl
 have k1:hpn 1=some (.cells [.i (f.cnt:Int)]):=by simpa [jn,go_sem] using hobj 1 _ rfl
 have k3:hpn 3=some (.cells [.rw 2097164]):=by simpa [jn,go_sem] using hobj 3 _ rfl
 have k5:hpn 5=some (.cells h.cs):=by simpa [jn,go_sem,Hp.cs] using hobj 5 _ rfl
 have k6:hpn 2097164=some (.row 1 (il f.out)):=by simpa [jn,go_sem] using hobj 6 _ rfl
 have k7:=hold 7 (.cells [.mp 9,.mp 10,.sl (il o.ids)]) (by simp[go_sem]) (fun j hj=>hne j _ (by decide) hj)
 have k8:=hold 8 (.cells [.nilsl,.nilsl]) (by simp[go_sem]) (fun j hj=>hne j _ (by decide) hj)
 have k9:=hold 9 (.map (mkE o.cs)) (by simp[go_sem]) (fun j hj=>hne j _ (by decide) hj)
 have k10:=hold 10 (.map (mkE o.ags)) (by simp[go_sem]) (fun j hj=>hne j _ (by decide) hj)
 clear hobj hold
 simp only[go_sem]
 refine hK.h _ ?_;clear hK hKp K Kp;try clear hanc anc
 repeat(first|refine jk ?_|refine jj ?_|refine jK ?_)
 refine Qa ?_
 refine AW.ent (O':=jx [(4,.ptr 3 0),(6,.ptr 4 0),(11,.ptr 0 0),(14,.ptr 5 0),(15,.ptr 7 0),(16,.ptr 8 0)] [(0,.cells [.mp 1,.mp 2,.sl (il o.ids)]),(1,.map (mkE o.cs)),(2,.map (mkE o.ags)),(3,.cells [.sl (cl h.cells),.sl (bl h.arenas)]),(4,.cells [.nilsl,.nilsl]),(5,.cells [.rw 6]),(6,.row 1 (il f.out)),(7,.cells [.i (f.cnt:Int)]),(8,.cells [.bool f.pan])] 9)
  (fun i=>if i=0 then 7 else if i=1 then 9 else if i=2 then 10 else if i=3 then 5 else if i=4 then 8 else if i=5 then 3 else if i=6 then 2097164 else if i=7 then 1 else 0) ?_ ?_
 ·refine jc (by simp[go_sem]) (by simp[go_sem,k0,k1,k3,k5,k6,k7,k8,k9,k10,Hp.cs,Ji];exact⟨fun _ _=>jZ,fun _ _=>jZ⟩) (by simp) (by simp[hN])
 clear k0 k1 k3 k5 k6 k7 k8 k9 k10 hne hdc hany hw
 have hcl:=Ul hm.l hm.a (jdX hs)
 rw[Hp.av_eq] at hcl
 refine uZ (n:=11) (YC h o f) mixed hE ?_ ?_ (fun Kp hKp=>?_) ?_ rfl
 ·intro D D' O h
  have:=fun j=>(h j).symm
  unfold YC
  simp only[this]
  exact fun h=>h
 ·simp[YC,go_sem]
 ·refine⟨?_,?_,?_,?_,?_,?_,?_,?_,?_,?_,?_,trivial⟩
  all_goals rintro D' ⟨fr,hp,nx⟩ hD' hr ⟨hn,f1,f2,f3,f4,f5,f6,h0,h3,h5,h6,h7,h8,b1,b2,b4,b4',r1,r2,d0,d1,d2,d3,d4,d5,d7,d8,d9,d10⟩
  all_goals simp[Region.binds] at hn f1 f2 f3 f4 f5 f6 h0 h3 h5 h6 h7 h8 b1 b2 b4 b4' r1 r2 d0 d1 d2 d3 d4 d5 d7 d8 d9 d10 hD' hr
  all_goals subst hn
  all_goals try clear hQ
  ·simp only[go_sem,f3,h0]
   (simp only[YC,upd,jb];simp[f1,f2,f3,f4,f5,f6,h0,h3,h5,h6,h7,h8];simp_all)
  ·simp only[go_sem,f1,h3]
   (simp only[YC,upd,jb];simp[f1,f2,f3,f4,f5,f6,h0,h3,h5,h6,h7,h8];simp_all)
  ·obtain⟨hr0,hr1⟩:=hr
   have m1:=b1 hD'
   have m2:=b2 hD'
   simp only[go_sem,d0 hr0,d1 hr1]
   refine Hold.mk (CallB.use hcl (fun i=>1+i) (by simp[AV.renL,AV.ren,go_sem]) (by simp[AV.ids,AV.idsL,go_sem]) (fun id ob hx=>?_) (fun _ _ _ _ _ _ e=>by omega) (fun id hid=>⟨hid,jhS _ _ hid⟩) ?_ (fun _ _ hx=>hx.elim) ?_ (fun _ _ _ hx=>hx.elim))
   ·rcases OM hx with ⟨rfl,rfl⟩|⟨rfl,rfl⟩
    ·exact⟨by simp[go_sem,Ji,m1],by decide,fun p hp=>jZ hp⟩
    ·exact⟨by simp[go_sem,Ji,m2],by decide,fun p hp=>jZ hp⟩
   ·rintro r hp' ⟨rfl,rfl⟩
    refine⟨by simp[AV.ids,AV.idsL],fun id ob hx=>?_⟩
    simp only[jp,jb] at hx
    repeat' split at hx
    all_goals first|(cases hx;done)|skip
    all_goals cases hx;subst_vars
    all_goals exact⟨by decide,by simp[AObj.ids,go_sem]⟩
   ·rintro r hp' fr' hpn ⟨rfl,rfl⟩ hfr hobj hold
    have q3:hpn 2097161=some (.row 10 (cl (j0 h o).cells)):=by simpa [jn,go_sem] using hobj 2 (.row 10 (cl (j0 h o).cells)) rfl
    have q4:hpn 2097162=some (.row 1 (bl (j0 h o).arenas)):=by simpa [jn,go_sem] using hobj 3 (.row 1 (bl (j0 h o).arenas)) rfl
    have hne:∀ id:Nat,id≠1->id≠2->∀ j,obC o j≠none->1+j≠id:=fun id e1 e2 j hj=>by
     obtain⟨ob,hob⟩:=Option.ne_none_iff_exists'.1 hj
     rcases OM hob with ⟨rfl,_⟩|⟨rfl,_⟩<;>omega
    have n0:=hold 0 _ h0 (hne 0 (by decide) (by decide))
    have n3:=hold 3 _ h3 (hne 3 (by decide) (by decide))
    have n5:=hold 5 _ h5 (hne 5 (by decide) (by decide))
    have n6:=hold 6 _ h6 (hne 6 (by decide) (by decide))
    have n7:=hold 7 _ h7 (hne 7 (by decide) (by decide))
    have n8:=hold 8 _ h8 (hne 8 (by decide) (by decide))
    have n4:D' 6=false->hpn 4=some (.cells [.nilsl,.nilsl]):=fun hd=>hold 4 _ (b4 hd) (hne 4 (by decide) (by decide))
    have n4':D' 6=true->hpn 4=some (.cells [.rw 2097161,.rw 2097162]):=fun hd=>hold 4 _ (b4' hd) (hne 4 (by decide) (by decide))
    have er:fr'=upd fr 40 (.agg [.rw 2097161,.rw 2097162]):=hfr
    clear hobj hold hfr hcl b4 b4' b1 b2 h0 h3 h5 h6 h7 h8 r1 r2
    subst er
    simp only[YC,upd]
    simp[f1,f2,f3,f4,f5,f6,n0,n3,n5,n6,n7,n8,q3,q4,n4,n4']
    simp_all
  ·simp only[go_sem,f4,h5]
   (simp only[YC,upd,jb];simp[f1,f2,f3,f4,f5,f6,h0,h3,h5,h6,h7,h8];simp_all)
  ·simp only[go_sem,f5,h7]
   (simp only[YC,upd,jb];simp[f1,f2,f3,f4,f5,f6,h0,h3,h5,h6,h7,h8];simp_all)
  ·simp only[go_sem,f6,h8]
   (simp only[YC,upd,jb];simp[f1,f2,f3,f4,f5,f6,h0,h3,h5,h6,h7,h8];simp_all)
  ·have z4:=b4 hD'
   simp only[go_sem,f2,d2 hr.1,z4]
   (simp only[YC,upd,jb];simp[f1,f2,f3,f4,f5,f6,h0,h3,h5,h6,h7,h8];simp_all)
  ·simp only[go_sem,d3 hr.1]
   (simp only[YC,upd,jb];simp[f1,f2,f3,f4,f5,f6,h0,h3,h5,h6,h7,h8];simp_all)
  ·simp only[go_sem,d4 hr.1]
   (simp only[YC,upd,jb];simp[f1,f2,f3,f4,f5,f6,h0,h3,h5,h6,h7,h8];simp_all)
  ·simp only[go_sem,d5 hr.1]
   (simp only[YC,upd,jb];simp[f1,f2,f3,f4,f5,f6,h0,h3,h5,h6,h7,h8];simp_all)
  ·simp only[go_sem]
   (simp only[YC,upd,jb];simp[f1,f2,f3,f4,f5,f6,h0,h3,h5,h6,h7,h8];simp_all)
 ·rintro⟨fr,hp,nx⟩ D' hD' ⟨hn,f1,f2,f3,f4,f5,f6,h0,h3,h5,h6,h7,h8,b1,b2,b4,b4',r1,r2,d0,d1,d2,d3,d4,d5,d7,d8,d9,d10⟩
  simp only at hn f1 f2 f3 f4 f5 f6 h0 h3 h5 h6 h7 h8 b1 b2 b4 b4' r1 r2 d0 d1 d2 d3 d4 d5 d7 d8 d9 d10
  have z4:=b4' (hD' 6)
  have z1:=r1 (hD' 2)
  have z2:=r2 (hD' 2)
  have y7:=d7 (hD' 7)
  have y8:=d8 (hD' 8)
  have y9:=d9 (hD' 9)
  have y10:=d10 (hD' 10)
  refine jk ?_
  refine je (hQ _ ⟨.tup [.agg [.rw 2097161,.rw 2097162],.rw 6,.i (f.cnt:Int),.bool f.pan,.i 0],(by simp[Jy,rvA,Tryd.f18,go_sem,f2,z4,y7,y8,y9,y10];rfl),?_,?_,rfl⟩).1
  ·simp[AV.snapOk,AV.snapOkL,go_sem,z1,z2,h6]
  ·simp[AV.snap,AV.snapL,go_sem,z1,z2,h6,jdD,Hp.av_eq]
theorem Om (D:List Dt) (h:Hp) (v:Vl) (hm:Sm h v) (hD:D.length<=2 ^ 30):PCall Tryd.prog 18 [.sl (dl D),h.av,v.av] (jdD (gv D h v)):=by
 unfold gv
 cases hs:yc h v with
 |none=>exact jaM D h v hm hD hs
 |some o=>
  refine jaN D h v hm hD o hs ?_
  have:=(yY (jo h _) (yb hm.m _) v Ow.nil o (Ow.nil_ok h) hs)
  rw[GV] at this
  have h1:o.ids.length<=bud (2 ^ 20) h o:=Nat.le_add_right _ _
  have:=hm.l
  have:=hm.v
  omega
end Go.Proofs.YtfpcjabbcpgbjaaDoor

namespace Go.Gl
open Go Go.Am Go.Hv Go.Proofs.YtfpcjabbcpgbjaaDoor
def dtL (D:List Dd):List Dt:=D.map fun x=>⟨x.nm,x.md,x.pr,dvl x.vs,x.dr⟩
theorem jcc (D:List Dd):dl (dtL D)=ddl D:=by simp[dl,dtL,ddl,List.map_map,Function.comp_def,Dt.av,Dd.av,Dd.cs]
theorem XK (D:List Dd):(dtL D).length=D.length:=by simp[dtL]
theorem jcb {D:List Dd} {m:Nat} {x:Dd} (h:D[m]? =some x):(drs (dtL D)).getD m 0=x.dr:=by simp[drs,dtL,List.getD_eq_getElem?_getD,h]
theorem jcK {D:List Dd} {l m:List Int} (h:IdsR D l m):∀ f:Fa,l.foldl (gU (drs (dtL D))) f=m.foldl (gU (drs (dtL D))) f:=by
 induction h with
 |nil=>intro f;rfl
 |cons h1 _ ih=>
  intro f
  obtain⟨m1,m2,x1,x2,rfl,rfl,e1,e2,e3⟩:=h1
  rw[List.foldl_cons,List.foldl_cons]
  have:gU (drs (dtL D)) f ((m1:Nat):Int)=gU (drs (dtL D)) f ((m2:Nat):Int):=by
   unfold gU
   simp only[Int.toNat_natCast]
   rw[jcb e1,jcb e2,e3]
  rw[this]
  exact ih _
theorem je8 {D:List Dd} {l m:List Int} (h:IdsR D l m):l.any (gX (dl (dtL D)))=false/\m.any (gX (dl (dtL D)))=false:=by
 induction h with
 |nil=>exact⟨rfl,rfl⟩
 |cons h1 _ ih=>
  obtain⟨m1,m2,x1,x2,rfl,rfl,e1,e2,e3⟩:=h1
  have l1:=(List.getElem?_eq_some_iff.1 e1).1
  have l2:=(List.getElem?_eq_some_iff.1 e2).1
  have hn:(dl (dtL D)).length=D.length:=by rw[jb8,XK]
  have u1:gX (dl (dtL D)) ((m1:Nat):Int)=false:=by unfold gX;rw[hn];simp;omega
  have u2:gX (dl (dtL D)) ((m2:Nat):Int)=false:=by unfold gX;rw[hn];simp;omega
  simp[List.any_cons,u1,u2,ih.1,ih.2]
def rlS (D:List Dd) (h:Hp) (v:Vl) (a b:Ty):Rs×Vl:=Jc D (j4 D h.cells.length) v a b ⟨h.cells,true⟩
def rlH (D:List Dd) (h:Hp) (v:Vl) (a b:Ty):Hp:=⟨(rlS D h v a b).1.L,h.arenas⟩
theorem jfo {D : List Dd} (hdt : dtB D = true) {h : Hp} {v : Vl} {o : Ow} {a b : Ty} (hw : yc h v = some o) (hok : (rlS D h v a b).1.ok = true) (hab : bis D D a b) (hpa : Pl D a) (hpb : Pl D b) :
    ∃ (F:Fa) (o2:Ow),gv (dtL D) h v=(j0 h o,F,0)/\gv (dtL D) (rlH D h v a b) (rlS D h v a b).2=(j0 (rlH D h v a b) o2,F,0)/\o2.cs=o.cs/\(rlH D h v a b).cells.length=h.cells.length/\
      ∀ k:Nat,((j0 h o).cells[k]?).map Cl.live=((j0 (rlH D h v a b) o2).cells[k]?).map Cl.live:=by
  have hI:Rin h Ow.nil ⟨h.cells,true⟩:=⟨rfl,fun i _=>rfl,fun i=>rfl⟩
  obtain⟨i1,_⟩:=yj (yi (D:=D) h.cells.length) v Ow.nil o a b ⟨h.cells,true⟩ (Ow.nil_ok h) hw hI
  have hsim:=oz hdt (yi h.cells.length) (U1 hdt h.cells.length) v Ow.nil o a b ⟨h.cells,true⟩ (Ow.nil_ok h) hw hI hok hab hpa hpb
  obtain⟨o2,r1,r2,r3,l,l2,r4,r5,r6⟩:=hsim (rlH D h v a b) rfl i1.len (fun i=>i1.mrk i) (fun i _ _=>rfl) Ow.nil rfl rfl
  have hlen:(rlH D h v a b).cells.length=h.cells.length:=i1.len
  have hw2:yc (rlH D h v a b) (rlS D h v a b).2=some o2:=by unfold yc;rw[hlen];exact r1
  have e1:o.ids=l:=r4
  have e2:o2.ids=l2:=r5
  have d1:=Qe hw (drs (dtL D))
  have d2:=Qe hw2 (drs (dtL D))
  have hf:=jcK r6 Fa.nil
  obtain⟨u1,u2⟩:=je8 r6
  refine⟨Gb (drs (dtL D)) h v,o2,?_,?_,r2,hlen,fun k=>?_⟩
  · unfold gv;rw[hw];simp only[e1,u1];rfl
  · unfold gv;rw[hw2];simp only[e2,u2]
    rw[d1,d2,e1,e2,hf];rfl
  · have hm:=i1.mrk k
    have hm2:((rlH D h v a b).cells[k]?).map Cl.live=(h.cells[k]?).map Cl.live:=by
      have:=congrArg (Option.map Prod.fst) hm
      simp only[Option.map_map,Function.comp_def] at this
      exact this
    simp only[j0]
    rw[gE,gE,r2,hlen]
    split
    · rfl
    · exact hm2.symm
def Rsz (M:Nat) (s:Rs):Prop:=∀ c,c∈s.L->c.v.sz<=M
theorem je1 {D:List Dd} {k id vr:Int} {len:Nat} {a b:Ty} (h:Uz D k id vr len a b=true):len=(gh D a vr).length/\len=(gh D b vr).length:=by
 unfold Uz at h
 split at h
 ·rename_i p q hp hq
  simp only[Bool.and_eq_true,beq_iff_eq] at h
  obtain⟨_,_,_,_,_,h1,h2⟩:=h
  unfold gh
  rw[hp,hq]
  simp only
  constructor
  ·rw[h1];cases p.vs[vr.toNat]? <;>rfl
  ·rw[h2];cases q.vs[vr.toNat]? <;>rfl
 ·cases h
mutual
theorem uL (D:List Dd) (M:Nat) (en:Nat->Ty->Ty->Rs->Rs) (hen:∀ n a b s,Rsz M s->Rsz M (en n a b s)):∀ (v:Vl) (a b:Ty) (s:Rs),Rsz M s->Rsz M (Jc D en v a b s).1/\(Jc D en v a b s).2.sz=v.sz
 | .mk k id vr n fs e p l,a,b,s,hs=>by
  rw[Jc]
  split
  ·exact⟨hs,rfl⟩
  split
  ·exact⟨hs,rfl⟩
  split
  ·exact⟨hs,rfl⟩
  split
  ·split
   ·exact⟨hen _ _ _ _ hs,rfl⟩
   ·exact⟨hs,rfl⟩
  split
  ·split
   ·rename_i hf
    obtain⟨f1,f2⟩:=je1 hf
    obtain⟨g1,g2,_⟩:=jah D M en hen fs _ _ s hs f1 f2
    exact⟨g1,by rw[Vl.sz,Vl.sz,g2]⟩
   ·exact⟨hs,rfl⟩
  ·exact⟨hs,rfl⟩
theorem jah (D:List Dd) (M:Nat) (en:Nat->Ty->Ty->Rs->Rs) (hen:∀ n a b s,Rsz M s->Rsz M (en n a b s)):∀ (fs:List Vl) (la lb:List Ty) (s:Rs),Rsz M s->fs.length=la.length->fs.length=lb.length->Rsz M (J8 D en fs la lb s).1/\Vl.szL (J8 D en fs la lb s).2=Vl.szL fs/\(J8 D en fs la lb s).2.length=fs.length
 |x::fs,a::la,b::lb,s,hs,h1,h2=>by
  rw[J8]
  obtain⟨g1,g2⟩:=uL D M en hen x a b s hs
  obtain⟨g3,g4,g5⟩:=jah D M en hen fs la lb _ g1 (by simpa using h1) (by simpa using h2)
  exact⟨g3,by simp only[Vl.szL,g2,g4],by simp only[List.length_cons,g5]⟩
 | [],la,lb,s,hs,_,_=>by
  have e:J8 D en [] la lb s=(s,[]):=by rw[J8];intro x fs a la b lb h1;cases h1
  rw[e];exact⟨hs,rfl,rfl⟩
 |_::_,[],_,_,_,h1,_=>by simp at h1
 |_::_,_::_,[],_,_,_,h2=>by simp at h2
end
theorem jaf (D:List Dd) (M:Nat):∀ (k n:Nat) (a b:Ty) (s:Rs),Rsz M s->Rsz M (j4 D k n a b s)
 |0,n,a,b,s,hs=>by rw[j4];exact hs
 |k+1,n,a,b,s,hs=>by
  rw[j4]
  split
  ·rename_i c hc
   obtain⟨g1,g2⟩:=uL D M (j4 D k) (jaf D M k) c.v a b s hs
   intro x hx
   simp only at hx
   obtain⟨i,hi⟩:=List.getElem?_of_mem hx
   rw[Y2] at hi
   split at hi
   ·obtain⟨y,hy,rfl⟩:=Option.map_eq_some_iff.1 hi
    simp only
    rw[g2];exact hs c (List.mem_of_getElem? hc)
   ·exact g1 x (List.mem_of_getElem? hi)
  ·exact hs
theorem jl3 {D:List Dd} {h:Hp} {v:Vl} (hm:Sm h v) {a b:Ty} (hl:(rlH D h v a b).cells.length=h.cells.length):Sm (rlH D h v a b) (rlS D h v a b).2:=by
 obtain⟨g1,g2⟩:=uL D (2 ^ 20) (j4 D h.cells.length) (jaf D (2 ^ 20) _) v a b ⟨h.cells,true⟩ hm.m
 exact⟨by rw[hl];exact hm.l,hm.a,g1,by unfold rlS;rw[g2];exact hm.v⟩
end Go.Gl

set_option maxHeartbeats 4000000
set_option maxRecDepth 100000
namespace Go.Proofs.YtfpcjabbcpgbjaaDoor
open Go.Am Go.Proofs Go.Hv Go.Gl
open Classical
attribute [local irreducible] AW jA CallB CallY
def ou (D:List Dd) (ar:List Bool) (s:Rs):Nat->Option AObj:=jp [(0,.cells [.sl (ddl D),.rw 1,.rw 2,.bool s.ok]),(1,.row 10 (cl s.L)),(2,.row 1 (bl ar))]
theorem Xa (D:List Dd) (ar:List Bool) (s:Rs):ou D ar s 0=some (.cells [.sl (ddl D),.rw 1,.rw 2,.bool s.ok]):=rfl
theorem jku (D:List Dd) (ar:List Bool):Fam (ou D ar) 3:=by
 refine⟨fun s id o ho=>jM (p:=fun id o=>id<3/\o.ids (· <3)) (fun q hq=>?_) id o ho,fun s id hid=>?_⟩
 ·simp only[List.mem_cons,List.not_mem_nil,or_false] at hq
  rcases hq with rfl|rfl|rfl
  ·exact⟨by show 0<3;decide,by simp[AObj.ids,AV.ids,AV.idsL,go_sem]⟩
  ·exact⟨by show 1<3;decide,by simp[AObj.ids,go_sem]⟩
  ·exact⟨by show 2<3;decide,by simp[AObj.ids,go_sem]⟩
 ·rcases(by omega:id=0\/id=1\/id=2) with rfl|rfl|rfl<;>simp[ou,jp,jb]
theorem gG {D : List Dd} {ar : List Bool} {s : Rs} {fr : Nat -> Option AV} {hp : Nat -> Option AObj} {nx : Nat} (h0 : hp 0 = some (.cells [.sl (ddl D), .rw 1, .rw 2, .bool s.ok])) (h1 : hp 1 = some (.row 10 (cl s.L))) (h2 : hp 2 = some (.row 1 (bl ar))) :
    Ent 3 (fun i=>i) ⟨fr,hp,nx⟩ ⟨fun _=>none,ou D ar s,3⟩:=by
  refine j6 (fr:=[]) (by simp) (fun id o ho=>?_) (by decide)
  have hlt:=(jku D ar).lt s id o ho
  refine⟨?_,hlt⟩
  revert id o
  intro id o ho _
  exact jM (p:=fun id o=>hp id=some o) (by
    intro q hq
    simp only[List.mem_cons,List.not_mem_nil,or_false] at hq
    rcases hq with rfl|rfl|rfl
    · exact h0
    · exact h1
    · exact h2) id o ho
theorem oP {D : List Dd} {ar : List Bool} {vs : List AV} {r : AV} {s s2 : Rs} (hA : MCallR Tryd.prog 17 vs (ou D ar) 3 3 s r (fun s' => s' = s2)) (hvs : AV.idsL (· < 3) vs) {fr : Nat -> Option AV} {hp0 : Nat -> Option AObj} {n0 k : Nat} {d : Option Nat} {K : St -> Prop} {Kp : AV -> St -> Prop}
    (h0:hp0 0=some (.cells [.sl (ddl D),.rw 1,.rw 2,.bool s.ok])) (h1:hp0 1=some (.row 10 (cl s.L))) (h2:hp0 2=some (.row 1 (bl ar)))
    (hK:∀ hpn,hpn 0=some (.cells [.sl (ddl D),.rw 1,.rw 2,.bool s2.ok])->hpn 1=some (.row 10 (cl s2.L))->hpn 2=some (.row 1 (bl ar))->(∀ id o,3<=id->hp0 id=some o->hpn id=some o)->K ⟨Jg fr d r,hpn,n0⟩):
    CallB Tryd.prog 17 vs ⟨fr,hp0,n0⟩ k d K Kp:=by
  refine MCallR.useG (jku D ar) (by decide) (by decide) hA hvs (fun id o ho=>?_) ?_
  · exact jM (p := fun id o => hp0 id = some o) (by
      intro q hq
      simp only[List.mem_cons,List.not_mem_nil,or_false] at hq
      rcases hq with rfl|rfl|rfl
      · exact h0
      · exact h1
      · exact h2) id o ho
  · rintro x' hpn rfl hobj hold
    have b0:=hobj 0 _ rfl
    have b1:=hobj 1 _ rfl
    have b2:=hobj 2 _ rfl
    simp[jn,AObj.ren,AV.renL,AV.ren,go_sem] at b0 b1 b2
    exact hK hpn b0 b1 b2 hold
def zV:List AV:=[.i 0,.i 0,.i 0,.i 0,.nilsl,.bool false,.nilsl,.nilsl]
def jbE (D : List Dd) (ar : List Bool) (h : Hp) (k N : Nat) : Prop := ∀ (v : Vl) (o o' : Ow) (a b : Ty) (s : Rs), v.sz <= N -> o.Ok h -> jP h (jy h k) v o = some o' -> Rin h o s -> Pl D a -> Pl D b ->
    MCallR Tryd.prog 17 [.ptr 0 0,v.av,a.av,b.av] (ou D ar) 3 3 s (Jc D (j4 D k) v a b s).2.av (fun s'=>s'=(Jc D (j4 D k) v a b s).1)
abbrev lsX (D:List Dd) (ar:List Bool) (s:Rs) (kd id vr n:Int) (F:AV) (e:Bool) (p l:List Int) (a b:Ty) (r:List AV):List (Nat×AObj):=
 [(0,.cells [.sl (ddl D),.rw 1,.rw 2,.bool s.ok]),(1,.row 10 (cl s.L)),(2,.row 1 (bl ar)),(3,.cells [.i kd,.i id,.i vr,.i n,F,.bool e,.sl (il p),.sl (il l)]),(4,.cells [.i a.kind,.i a.id,.sl (Ty.avL a.args)]),(5,.cells [.i b.kind,.i b.id,.sl (Ty.avL b.args)]),(6,.cells r)]
def jee (DD:List Dd) (ar:List Bool) (L L1 L2:List Cl) (m:Nat) (ok1:Bool) (c3 ca cb:List AV) (xA yA cv wv:List AV) (D:Nat->Bool) (O:St):Prop:=
 O.nx=7/\O.fr 0=some (.ptr 0 0)/\O.fr 5=some (.ptr 3 0)/\O.fr 6=some (.ptr 4 0)/\O.fr 7=some (.ptr 5 0)/\O.fr 8=some (.ptr 6 0)/\(D 26=false->O.hp 0=some (.cells [.sl (ddl DD),.rw 1,.rw 2,.bool true]))/\(D 26=false->O.hp 1=some (.row 10 (Hv.cl L)))/\O.hp 2=some (.row 1 (bl ar))/\O.hp 3=some (.cells c3)/\O.hp 4=some (.cells ca)/\O.hp 5=some (.cells cb)/\O.hp 6=some (.cells [.i 0,.i 0,.i 0,.i 0,.nilsl,.bool false,.nilsl,.nilsl])/\(D 0=true->O.fr 78=some (.ptr 0 0))/\(D 1=true->O.fr 79=some (.ptr 0 0))/\(D 2=true->O.fr 80=some (.ptr 0 1))/\(D 3=true->O.fr 81=some (.ptr 0 1))/\(D 4=true->O.fr 82=some (.rw 1))/\(D 5=true->O.fr 83=some (.ptr 3 3))/\(D 6=true->O.fr 84=some (.i (m:Nat)))/\(D 7=true->O.fr 85=some (.ptr 0 0))/\(D 8=true->O.fr 86=some (.ptr 0 0))/\(D 9=true->O.fr 87=some (.ptr 0 0))/\(D 10=true->O.fr 88=some (.ptr 0 1))/\(D 11=true->O.fr 89=some (.ptr 0 1))/\(D 12=true->O.fr 90=some (.rw 1))/\(D 13=true->O.fr 91=some (.ptr 3 3))/\(D 14=true->O.fr 92=some (.i (m:Nat)))/\(D 15=true->O.fr 93=some (.rptr 1 10 m 0))/\(D 16=true->O.fr 94=some (.rptr 1 10 m 2))/\(D 17=true->O.fr 95=some (.agg cv))/\(D 18=true->O.fr 96=some (.ptr 4 2))/\(D 19=true->O.fr 97=some (.sl [.agg xA]))/\(D 20=true->O.fr 98=some ((AV.agg xA).eptr 0))/\(D 21=true->O.fr 99=some (.agg xA))/\(D 22=true->O.fr 100=some (.ptr 5 2))/\(D 23=true->O.fr 101=some (.sl [.agg yA]))/\(D 24=true->O.fr 102=some ((AV.agg yA).eptr 0))/\(D 25=true->O.fr 103=some (.agg yA))/\(D 26=true->O.fr 104=some (.agg wv))/\(D 27=true->O.fr 105=some (.rptr 1 10 m 0))/\(D 28=true->O.fr 106=some (.rptr 1 10 m 2))/\(D 26=true->O.hp 0=some (.cells [.sl (ddl DD),.rw 1,.rw 2,.bool ok1]))/\(D 26=true->D 29=false->O.hp 1=some (.row 10 (Hv.cl L1)))/\(D 29=true->O.hp 1=some (.row 10 (Hv.cl L2)))/\(D 29=true->D 26=true)/\(D 29=true->D 27=true)/\(D 28=true->D 27=true)/\(D 29=true->D 28=true)/\(D 26=true->D 17=true)/\(D 17=true->D 16=true)/\(D 16=true->D 15=true)/\(D 15=true->D 12=true)
theorem jbr {D : List Dd} (hD : DB D) (hdt : dtB D = true) {ar : List Bool} {h : Hp} (hl20 : h.cells.length <= 2 ^ 20) (hM : ∀ c, c ∈ h.cells -> c.v.sz <= 2 ^ 20) {k : Nat} (hbx : ∀ k', k = k' + 1 -> jbE D ar h k' (2 ^ 20))
    (kd id vr n:Int) (fs:List Vl) (e:Bool) (p l:List Int) (o o':Ow) (a b:Ty) (s:Rs) (hs:(Vl.mk kd id vr n fs e p l).sz<=2 ^ 20) (ho:o.Ok h) (hv:jP h (jy h k) (.mk kd id vr n fs e p l) o=some o') (hI:Rin h o s) (hpa:Pl D a) (hpb:Pl D b) (hso:s.ok=true) (hkk:(a.kind !=b.kind)=false) (h3:a.kind=3):
    MCallR Tryd.prog 17 [.ptr 0 0,(Vl.mk kd id vr n fs e p l).av,a.av,b.av] (ou D ar) 3 3 s (Jc D (j4 D k) (.mk kd id vr n fs e p l) a b s).2.av (fun s'=>s'=(Jc D (j4 D k) (.mk kd id vr n fs e p l) a b s).1):=by
  have hka:=yL hpa
  have hkb:=yL hpb
  have hLl:=hI.len
  rw[Vl.av_eq (.mk kd id vr n fs e p l),Ty.av_eq a,Ty.av_eq b]
  simp only[Vl.kind,Vl.id,Vl.var,Vl.n,Vl.fs,Vl.excl,Vl.path,Vl.loans]
  refine MCallR.intro (Vl.av_clo _) Tryd.func17 jcQ rfl (by simp[Tryd.f17]) fun E Q hE hN hMk hQ=>jg ?_
  repeat'(first|apply nx|refine zx ?_|rw[zw]|refine zk ?_|refine zp ?_|(apply zA;exact zb)|((fail_if_success refine j3 1 ?_);(first|refine zR hE @fun K Kp hK hKp hg=>?_|refine zT hE @fun K Kp hK hKp anc hanc hg=>?_|refine zF hE @fun K Kp hK hKp anc hanc hg=>?_|refine zg (fun hg=>?_) fun hg=>?_)<;>simp only[go_sem,Xa,hg])|(refine zc (fun hc=>?_) (fun hc=>?_)<;>try exact zh hc))
  refine AW.ent (O':=jx [(0,.ptr 0 0),(5,.ptr 3 0),(6,.ptr 4 0),(7,.ptr 5 0),(8,.ptr 6 0)] (lsX D ar s kd id vr n (.sl (Vl.avL fs)) e p l a b zV) 7) (fun i=>if i=4 then 1048579 else if i=5 then 2097155 else if i=6 then 3145731 else i) ?_ ?_
  · refine jc (by simp[go_sem]) ?_ (by simp) (by rw[hN];exact fun id hid=>⟨by rw[if_neg (by omega),if_neg (by omega),if_neg (by omega)],by omega⟩)
    simp[go_sem,ou,jp,jb,zV]
  unfold lsX zV
  rw[hso]
  have hs0:¬ ((!s.ok||a.kind !=b.kind)=true):=by simp[hso,hkk]
  have h1:¬ a.kind=1:=by omega
  have h4:¬ a.kind=4:=by omega
  have q1:(a.kind==1)=false:=by simp[h1]
  have q4:(a.kind==4)=false:=by simp[h4]
  have q3:(a.kind==3)=true:=by simp[h3]
  by_cases hb:kd=3/\0<=n/\n<(s.L.length:Int)
  case neg=>
    have er:Jc D (j4 D k) (.mk kd id vr n fs e p l) a b s=(⟨s.L,false⟩,.mk kd id vr n fs e p l):=by rw[Jc,if_neg hs0,if_neg h1,if_neg h4,if_pos h3,if_neg hb]
    rw[er] at hQ
    by_cases hk3:kd=3
    case neg=>
      have q5:(kd==3)=false:=by simp[hk3]
      repeat'(first|apply nx|refine zx ?_|rw[zw]|refine zk ?_|refine zp ?_|(apply zA;exact zb)|((first|refine zR hE @fun K Kp hK hKp hg=>?_|refine zT hE @fun K Kp hK hKp anc hanc hg=>?_|refine zF hE @fun K Kp hK hKp anc hanc hg=>?_|refine zg (fun hg=>?_) fun hg=>?_)<;>simp only[go_sem,hkk,q1,q4,q3,q5,hg])|(refine zc (fun hc=>?_) (fun hc=>?_)<;>try exact zh hc))
      refine je (hQ _ (by rw[Vl.av];exact jU (id:=6) (off:=0) (by simp only[go_sem]) gy (by simp only[go_sem];rfl) rfl) ⟨fun i=>i,3,_,?_,rfl⟩).1
      exact gG (by simp only[go_sem]) (by simp only[go_sem]) (by simp only[go_sem])
    have q5:(kd==3)=true:=by simp[hk3]
    by_cases hn0:0<=n
    case neg=>
      have q6:decide (n>=0)=false:=decide_eq_false (by omega)
      repeat'(first|apply nx|refine zx ?_|rw[zw]|refine zk ?_|refine zp ?_|(apply zA;exact zb)|((first|refine zR hE @fun K Kp hK hKp hg=>?_|refine zT hE @fun K Kp hK hKp anc hanc hg=>?_|refine zF hE @fun K Kp hK hKp anc hanc hg=>?_|refine zg (fun hg=>?_) fun hg=>?_)<;>simp only[go_sem,hkk,q1,q4,q3,q5,q6,hg])|(refine zc (fun hc=>?_) (fun hc=>?_)<;>try exact zh hc))
      refine je (hQ _ (by rw[Vl.av];exact jU (id:=6) (off:=0) (by simp only[go_sem]) gy (by simp only[go_sem];rfl) rfl) ⟨fun i=>i,3,_,?_,rfl⟩).1
      exact gG (by simp only[go_sem]) (by simp only[go_sem]) (by simp only[go_sem])
    have q6:decide (n>=0)=true:=decide_eq_true (by omega)
    have q7:decide (n<(s.L.length:Int))=false:=decide_eq_false (by omega)
    repeat'(first|apply nx|refine zx ?_|rw[zw]|refine zk ?_|refine zp ?_|(apply zA;exact zb)|((first|refine zR hE @fun K Kp hK hKp hg=>?_|refine zT hE @fun K Kp hK hKp anc hanc hg=>?_|refine zF hE @fun K Kp hK hKp anc hanc hg=>?_|refine zg (fun hg=>?_) fun hg=>?_)<;>simp only[go_sem,hkk,q1,q4,q3,q5,q6,q7,hg])|(refine zc (fun hc=>?_) (fun hc=>?_)<;>try exact zh hc))
    refine je (hQ _ (by rw[Vl.av];exact jU (id:=6) (off:=0) (by simp only[go_sem]) gy (by simp only[go_sem];rfl) rfl) ⟨fun i=>i,3,_,?_,rfl⟩).1
    exact gG (by simp only[go_sem]) (by simp only[go_sem]) (by simp only[go_sem])
  obtain⟨hk3,hn0,hnl⟩:=hb
  have er:Jc D (j4 D k) (.mk kd id vr n fs e p l) a b s=(j4 D k n.toNat (a.args.headD default) (b.args.headD default) s,.mk kd id vr n fs e p l):=by rw[Jc,if_neg hs0,if_neg h1,if_neg h4,if_pos h3,if_pos ⟨hk3,hn0,hnl⟩]
  rw[er] at hQ
  have q5:(kd==3)=true:=by simp[hk3]
  have q6:decide (n>=0)=true:=decide_eq_true (by omega)
  have q7:decide (n<(s.L.length:Int))=true:=decide_eq_true (by omega)
  repeat'(first|apply nx|refine zx ?_|rw[zw]|refine zk ?_|refine zp ?_|(apply zA;exact zb)|((fail_if_success refine j3 13 ?_);(first|refine zR hE @fun K Kp hK hKp hg=>?_|refine zT hE @fun K Kp hK hKp anc hanc hg=>?_|refine zF hE @fun K Kp hK hKp anc hanc hg=>?_|refine zg (fun hg=>?_) fun hg=>?_)<;>simp only[go_sem,hkk,q1,q4,q3,q5,q6,q7,hg])|(refine zc (fun hc=>?_) (fun hc=>?_)<;>try exact zh hc))
  refine AW.ent (O':=jx [(0,.ptr 0 0),(5,.ptr 3 0),(6,.ptr 4 0),(7,.ptr 5 0),(8,.ptr 6 0)] [(0,.cells [.sl (ddl D),.rw 1,.rw 2,.bool true]),(1,.row 10 (cl s.L)),(2,.row 1 (bl ar)),(3,.cells [.i kd,.i id,.i vr,.i n,.sl (Vl.avL fs),.bool e,.sl (il p),.sl (il l)]),(4,.cells [.i a.kind,.i a.id,.sl (Ty.avL a.args)]),(5,.cells [.i b.kind,.i b.id,.sl (Ty.avL b.args)]),(6,.cells [.i 0,.i 0,.i 0,.i 0,.nilsl,.bool false,.nilsl,.nilsl])] 7) (fun i=>i) ?_ ?_
  · refine jc (by simp[go_sem]) ?_ (by simp) (by rw[hN];exact fun id hid=>⟨rfl,by omega⟩)
    simp[go_sem]
  obtain⟨x,hx,hxp⟩:=JS hpa h3
  obtain⟨y,hy,hyp⟩:=JS hpb (by rw[<- (by simpa using hkk:a.kind=b.kind)];exact h3)
  obtain⟨m,rfl⟩:=Int.eq_ofNat_of_zero_le hn0
  have hml:m<s.L.length:=by omega
  subst hk3
  rw[jP] at hv
  simp only[if_neg (show ¬ (3:Int)=2 by decide),if_pos] at hv
  split at hv
  case isFalse=>cases hv
  rename_i hbok
  obtain⟨m',c,hmm,hcc,hlv,_⟩:=JX hbok
  obtain rfl:m=m':=by omega
  rw[Int.toNat_natCast] at hv
  cases k with
  |zero=>rw[jy] at hv;cases hv
  |succ k=>
  rw[jy] at hv
  split at hv
  case isTrue=>cases hv
  rename_i hno
  rw[hcc] at hv
  simp only at hv
  have hsm:s.L[m]? =some c:=(hI.out m hno).trans hcc
  have hcal:=hbx k rfl c.v { o with cs:=o.cs++[m] } o' x y s (hM c (List.mem_of_getElem? hcc)) (ho.enter hno hcc hlv) hv (hI.le ⟨⟨[m],rfl⟩,⟨[],by simp⟩,⟨[],by simp⟩⟩) hxp hyp
  have ere:j4 D (k+1) m x y s=⟨uJ (Jc D (j4 D k) c.v x y s).1.L m (Jc D (j4 D k) c.v x y s).2,(Jc D (j4 D k) c.v x y s).1.ok⟩:=by rw[j4,hsm]
  obtain⟨i1,_⟩:=yj (yi (D:=D) k) c.v _ o' x y s (ho.enter hno hcc hlv) hv (hI.le ⟨⟨[m],rfl⟩,⟨[],by simp⟩,⟨[],by simp⟩⟩)
  rw[hx,hy] at hQ
  simp only[List.headD_cons,Int.toNat_natCast,ere] at hQ
  clear er
  generalize hs1:(Jc D (j4 D k) c.v x y s).1=s1 at*
  generalize hw1:(Jc D (j4 D k) c.v x y s).2=w at*
  have hl1:s1.L.length=s.L.length:=by rw[i1.len,hLl]
  obtain⟨c1,hc1⟩:=get?_of (show m<s1.L.length by omega)
  have ep:uJ s1.L m w=s1.L.set m ⟨c1.live,c1.arena,w⟩:=by unfold uJ;rw[hc1]
  have hal:m<s.L.length:=hml
  have hal1:m<s1.L.length:=by omega
  have hax:Ty.avL a.args=[x.av]:=by rw[hx];simp[Ty.avL]
  have hay:Ty.avL b.args=[y.av]:=by rw[hy];simp[Ty.avL]
  rw[hax,hay]
  rw[Vl.av_eq c.v,Ty.av_eq x,Ty.av_eq y] at hcal
  rw[Ty.av_eq x,Ty.av_eq y]
  have q0:((0:Int))<(([AV.agg [.i x.kind,.i x.id,.sl (Ty.avL x.args)]]:List AV).length:Int):=by simp
  have e29:(Hv.cl s1.L).set m (.agg [.bool c1.live,.i c1.arena,.i w.kind,.i w.id,.i w.var,.i w.n,.sl (Vl.avL w.fs),.bool w.excl,.sl (il w.path),.sl (il w.loans)])=Hv.cl (s1.L.set m ⟨c1.live,c1.arena,w⟩):=by rw[<- jbT];rfl
  rw[Vl.av_eq w] at hcal
  repeat(first|apply w1|apply w2)
  refine uZ (n:=30) (jee D ar s.L s1.L (s1.L.set m ⟨c1.live,c1.arena,w⟩) m s1.ok [.i 3,.i id,.i vr,.i (m:Nat),.sl (Vl.avL fs),.bool e,.sl (il p),.sl (il l)] [.i a.kind,.i a.id,.sl [.agg [.i x.kind,.i x.id,.sl (Ty.avL x.args)]]] [.i b.kind,.i b.id,.sl [.agg [.i y.kind,.i y.id,.sl (Ty.avL y.args)]]] [.i x.kind,.i x.id,.sl (Ty.avL x.args)] [.i y.kind,.i y.id,.sl (Ty.avL y.args)] [.i c.v.kind,.i c.v.id,.i c.v.var,.i c.v.n,.sl (Vl.avL c.v.fs),.bool c.v.excl,.sl (il c.v.path),.sl (il c.v.loans)] [.i w.kind,.i w.id,.i w.var,.i w.n,.sl (Vl.avL w.fs),.bool w.excl,.sl (il w.path),.sl (il w.loans)]) mixed hE ?_ ?_ (fun Kp hKp=>?_) ?_ rfl
  · intro D D' O h
    have:=fun j=>(h j).symm
    unfold jee
    simp only[this]
    exact fun h=>h
  · simp[jee,go_sem,hsm,Cl.av,Cl.cs_eq,ja hal,ja hal1,hc1,e29]
  · refine⟨?_,?_,?_,?_,?_,?_,?_,?_,?_,?_,?_,?_,?_,?_,?_,?_,?_,?_,?_,?_,?_,?_,?_,?_,?_,?_,?_,?_,?_,?_,trivial⟩
    all_goals rintro D' ⟨fr,hp,nx⟩ hD' hr ⟨hn,f0,f5,f6,f7,f8,h0,h1,h2,h3,h4,h5,h6,d0,d1,d2,d3,d4,d5,d6,d7,d8,d9,d10,d11,d12,d13,d14,d15,d16,d17,d18,d19,d20,d21,d22,d23,d24,d25,d26,d27,d28,s26h0,s26h1,s29,o29_26,o29_27,o28_27,o29_28,o26_17,o17_16,o16_15,o15_12⟩
    all_goals simp[Region.binds] at hn f0 f5 f6 f7 f8 h0 h1 h2 h3 h4 h5 h6 d0 d1 d2 d3 d4 d5 d6 d7 d8 d9 d10 d11 d12 d13 d14 d15 d16 d17 d18 d19 d20 d21 d22 d23 d24 d25 d26 d27 d28 s26h0 s26h1 s29 o29_26 o29_27 o28_27 o29_28 o26_17 o17_16 o16_15 o15_12 hD' hr
    all_goals subst hn
    all_goals try clear hQ
    simp only[go_sem,f0,hsm,Cl.av,Cl.cs_eq,ja hal,ja hal1,hc1,e29]
    rotate_left
    have zd0:=d0 (by simp[hr,hD'])
    simp only[go_sem,zd0,hsm,Cl.av,Cl.cs_eq,ja hal,ja hal1,hc1,e29]
    rotate_left
    have zd1:=d1 (by simp[hr,hD'])
    simp only[go_sem,zd1,hsm,Cl.av,Cl.cs_eq,ja hal,ja hal1,hc1,e29]
    rotate_left
    have zd2:=d2 (by simp[hr,hD'])
    simp only[go_sem,zd2,hsm,Cl.av,Cl.cs_eq,ja hal,ja hal1,hc1,e29]
    rotate_left
    have zd3:=d3 (by simp[hr,hD'])
    have hO:∃ ok2,hp 0=some (.cells [.sl (ddl D),.rw 1,.rw 2,.bool ok2]):=by(cases h26:D' 26;exact⟨_,h0 h26⟩;exact⟨_,s26h0 h26⟩)
    obtain⟨ok2,hO2⟩:=hO
    simp only[go_sem,zd3,hO2]
    rotate_left
    simp only[go_sem,f5,hsm,Cl.av,Cl.cs_eq,ja hal,ja hal1,hc1,e29]
    rotate_left
    have zd5:=d5 (by simp[hr,hD'])
    simp only[go_sem,zd5,h3,hsm,Cl.av,Cl.cs_eq,ja hal,ja hal1,hc1,e29]
    rotate_left
    simp only[go_sem,f0,hsm,Cl.av,Cl.cs_eq,ja hal,ja hal1,hc1,e29]
    rotate_left
    simp only[go_sem,f0,hsm,Cl.av,Cl.cs_eq,ja hal,ja hal1,hc1,e29]
    rotate_left
    have zd8:=d8 (by simp[hr,hD'])
    simp only[go_sem,zd8,hsm,Cl.av,Cl.cs_eq,ja hal,ja hal1,hc1,e29]
    rotate_left
    have zd9:=d9 (by simp[hr,hD'])
    simp only[go_sem,zd9,hsm,Cl.av,Cl.cs_eq,ja hal,ja hal1,hc1,e29]
    rotate_left
    have zd10:=d10 (by simp[hr,hD'])
    simp only[go_sem,zd10,hsm,Cl.av,Cl.cs_eq,ja hal,ja hal1,hc1,e29]
    rotate_left
    have zd11:=d11 (by simp[hr,hD'])
    have zh0:=h0 (by first|(simp[hr,hD'];done)|(cases hq:D' 26<;>simp_all))
    simp only[go_sem,zd11,zh0,hsm,Cl.av,Cl.cs_eq,ja hal,ja hal1,hc1,e29]
    rotate_left
    simp only[go_sem,f5,hsm,Cl.av,Cl.cs_eq,ja hal,ja hal1,hc1,e29]
    rotate_left
    have zd13:=d13 (by simp[hr,hD'])
    simp only[go_sem,zd13,h3,hsm,Cl.av,Cl.cs_eq,ja hal,ja hal1,hc1,e29]
    rotate_left
    have zd12:=d12 (by simp[hr,hD'])
    have zd14:=d14 (by simp[hr,hD'])
    have zh1:=h1 (by first|(simp[hr,hD'];done)|(cases hq:D' 26<;>simp_all))
    simp only[go_sem,zd12,zd14,zh1,hsm,Cl.av,Cl.cs_eq,ja hal,ja hal1,hc1,e29]
    rotate_left
    have zd15:=d15 (by simp[hr,hD'])
    simp only[go_sem,zd15,hsm,Cl.av,Cl.cs_eq,ja hal,ja hal1,hc1,e29]
    rotate_left
    have zd16:=d16 (by simp[hr,hD'])
    have zh1:=h1 (by first|(simp[hr,hD'];done)|(cases hq:D' 26<;>simp_all))
    simp only[go_sem,zd16,zh1,hsm,Cl.av,Cl.cs_eq,ja hal,ja hal1,hc1,e29]
    rotate_left
    simp only[go_sem,f6,hsm,Cl.av,Cl.cs_eq,ja hal,ja hal1,hc1,e29]
    rotate_left
    have zd18:=d18 (by simp[hr,hD'])
    simp only[go_sem,zd18,h4,hsm,Cl.av,Cl.cs_eq,ja hal,ja hal1,hc1,e29]
    rotate_left
    have zd19:=d19 (by simp[hr,hD'])
    simp only[go_sem,zd19,hsm,Cl.av,Cl.cs_eq,ja hal,ja hal1,hc1,e29]
    rotate_left
    have zd20:=d20 (by simp[hr,hD'])
    simp only[go_sem,zd20,hsm,Cl.av,Cl.cs_eq,ja hal,ja hal1,hc1,e29]
    rotate_left
    simp only[go_sem,f7,hsm,Cl.av,Cl.cs_eq,ja hal,ja hal1,hc1,e29]
    rotate_left
    have zd22:=d22 (by simp[hr,hD'])
    simp only[go_sem,zd22,h5,hsm,Cl.av,Cl.cs_eq,ja hal,ja hal1,hc1,e29]
    rotate_left
    have zd23:=d23 (by simp[hr,hD'])
    simp only[go_sem,zd23,hsm,Cl.av,Cl.cs_eq,ja hal,ja hal1,hc1,e29]
    rotate_left
    have zd24:=d24 (by simp[hr,hD'])
    simp only[go_sem,zd24,hsm,Cl.av,Cl.cs_eq,ja hal,ja hal1,hc1,e29]
    rotate_left
    have zd7:=d7 (by simp[hr,hD'])
    have zd17:=d17 (by simp[hr,hD'])
    have zd21:=d21 (by simp[hr,hD'])
    have zd25:=d25 (by simp[hr,hD'])
    have zh0:=h0 (by first|(simp[hr,hD'];done)|(cases hq:D' 26<;>simp_all))
    have zh1:=h1 (by first|(simp[hr,hD'];done)|(cases hq:D' 26<;>simp_all))
    simp only[go_sem,zd7,zd17,zd21,zd25,zh0,zh1,hsm,Cl.av,Cl.cs_eq,ja hal,ja hal1,hc1,e29]
    refine Hold.mk (oP hcal (by simp[AV.ids,AV.idsL,go_sem]) (by rw[hso];exact zh0) zh1 h2 fun hpn b0 b1 b2 hold=>?_)
    have yh3:=hold 3 _ (by decide) (h3)
    have yh4:=hold 4 _ (by decide) (h4)
    have yh5:=hold 5 _ (by decide) (h5)
    have yh6:=hold 6 _ (by decide) (h6)
    clear hold
    simp only[go_sem,Jg]
    rotate_left
    have zd4:=d4 (by simp[hr,hD'])
    have zd6:=d6 (by simp[hr,hD'])
    have zs26h1:=s26h1 (by first|(simp[hr,hD'];done)|(cases hq:D' 26<;>simp_all)) (by first|(simp[hr,hD'];done)|(cases hq:D' 29<;>simp_all))
    simp only[go_sem,zd4,zd6,zs26h1,hsm,Cl.av,Cl.cs_eq,ja hal,ja hal1,hc1,e29]
    rotate_left
    have zd27:=d27 (by simp[hr,hD'])
    simp only[go_sem,zd27,hsm,Cl.av,Cl.cs_eq,ja hal,ja hal1,hc1,e29]
    rotate_left
    have zd28:=d28 (by simp[hr,hD'])
    have zd26:=d26 (by simp[hr,hD'])
    have zs26h1:=s26h1 (by first|(simp[hr,hD'];done)|(cases hq:D' 26<;>simp_all)) (by first|(simp[hr,hD'];done)|(cases hq:D' 29<;>simp_all))
    simp only[go_sem,zd28,zd26,zs26h1,hsm,Cl.av,Cl.cs_eq,ja hal,ja hal1,hc1,e29]
    rotate_left
    all_goals (simp only[jee,upd,jb];simp[f0,f5,f6,f7,f8,h2,h3,h4,h5,h6];simp_all)
  rintro⟨fr,hp,nx⟩ D' hD' ⟨hn,f0,f5,f6,f7,f8,h0,h1,h2,h3,h4,h5,h6,d0,d1,d2,d3,d4,d5,d6,d7,d8,d9,d10,d11,d12,d13,d14,d15,d16,d17,d18,d19,d20,d21,d22,d23,d24,d25,d26,d27,d28,s26h0,s26h1,s29,o29_26,o29_27,o28_27,o29_28,o26_17,o17_16,o16_15,o15_12⟩
  simp only at hn f0 f5 f6 f7 f8 h0 h1 h2 h3 h4 h5 h6 d0 d1 d2 d3 d4 d5 d6 d7 d8 d9 d10 d11 d12 d13 d14 d15 d16 d17 d18 d19 d20 d21 d22 d23 d24 d25 d26 d27 d28 s26h0 s26h1 s29 o29_26 o29_27 o28_27 o29_28 o26_17 o17_16 o16_15 o15_12
  have zd0:=d0 (hD' 0)
  have zd1:=d1 (hD' 1)
  have zd2:=d2 (hD' 2)
  have zd3:=d3 (hD' 3)
  have zd4:=d4 (hD' 4)
  have zd5:=d5 (hD' 5)
  have zd6:=d6 (hD' 6)
  have zd7:=d7 (hD' 7)
  have zd8:=d8 (hD' 8)
  have zd9:=d9 (hD' 9)
  have zd10:=d10 (hD' 10)
  have zd11:=d11 (hD' 11)
  have zd12:=d12 (hD' 12)
  have zd13:=d13 (hD' 13)
  have zd14:=d14 (hD' 14)
  have zd15:=d15 (hD' 15)
  have zd16:=d16 (hD' 16)
  have zd17:=d17 (hD' 17)
  have zd18:=d18 (hD' 18)
  have zd19:=d19 (hD' 19)
  have zd20:=d20 (hD' 20)
  have zd21:=d21 (hD' 21)
  have zd22:=d22 (hD' 22)
  have zd23:=d23 (hD' 23)
  have zd24:=d24 (hD' 24)
  have zd25:=d25 (hD' 25)
  have zd26:=d26 (hD' 26)
  have zd27:=d27 (hD' 27)
  have zd28:=d28 (hD' 28)
  have zs26h0:=s26h0 (hD' 26)
  have zs29:=s29 (hD' 29)
  repeat(first|refine jk ?_|refine jj ?_|refine jK ?_)
  refine AW.ent (O':=jx [(0,.ptr 0 0),(5,.ptr 3 0),(8,.ptr 4 0)] [(0,.cells [.sl (ddl D),.rw 1,.rw 2,.bool s1.ok]),(1,.row 10 (Hv.cl (s1.L.set m ⟨c1.live,c1.arena,w⟩))),(2,.row 1 (bl ar)),(3,.cells [.i 3,.i id,.i vr,.i (m:Nat),.sl (Vl.avL fs),.bool e,.sl (il p),.sl (il l)]),(4,.cells [.i 0,.i 0,.i 0,.i 0,.nilsl,.bool false,.nilsl,.nilsl])] 5) (fun i=>if i=0 then 0 else if i=1 then 1 else if i=2 then 2 else if i=3 then 3 else 6) (by refine jc (by simp[go_sem,f0,f5,f6,f7,f8,h2,h3,h4,h5,h6,zd0,zd1,zd2,zd3,zd4,zd5,zd6,zd7,zd8,zd9,zd10,zd11,zd12,zd13,zd14,zd15,zd16,zd17,zd18,zd19,zd20,zd21,zd22,zd23,zd24,zd25,zd26,zd27,zd28,zs26h0,zs29,hsm,Cl.av,Cl.cs_eq,ja hal,ja hal1,hc1,e29]) (by simp[go_sem,f0,f5,f6,f7,f8,h2,h3,h4,h5,h6,zd0,zd1,zd2,zd3,zd4,zd5,zd6,zd7,zd8,zd9,zd10,zd11,zd12,zd13,zd14,zd15,zd16,zd17,zd18,zd19,zd20,zd21,zd22,zd23,zd24,zd25,zd26,zd27,zd28,zs26h0,zs29,hsm,Cl.av,Cl.cs_eq,ja hal,ja hal1,hc1,e29]) (by simp) (by first|(simp[hN];done)|(rw[hN];intro id hid;rcases(by omega:id=0\/id=1\/id=2) with rfl|rfl|rfl<;>simp))) ?_
  clear zd0 zd1 zd2 zd3 zd4 zd5 zd6 zd7 zd8 zd9 zd10 zd11 zd12 zd13 zd14 zd15 zd16 zd17 zd18 zd19 zd20 zd21 zd22 zd23 zd24 zd25 zd26 zd27 zd28 zs26h0 zs29 hn f0 f5 f6 f7 f8 h0 h1 h2 h3 h4 h5 h6 d0 d1 d2 d3 d4 d5 d6 d7 d8 d9 d10 d11 d12 d13 d14 d15 d16 d17 d18 d19 d20 d21 d22 d23 d24 d25 d26 d27 d28 s26h0 s26h1 s29 o29_26 o29_27 o28_27 o29_28 o26_17 o17_16 o16_15 o15_12 hD' fr hp nx D'
  repeat'(first|apply nx|refine zx ?_|rw[zw]|refine zk ?_|refine zp ?_|(apply zA;exact zb)|((first|refine zR hE @fun K Kp hK hKp hg=>?_|refine zT hE @fun K Kp hK hKp anc hanc hg=>?_|refine zF hE @fun K Kp hK hKp anc hanc hg=>?_|refine zg (fun hg=>?_) fun hg=>?_)<;>simp only[go_sem,hg])|(refine zc (fun hc=>?_) (fun hc=>?_)<;>try exact zh hc))
  rw[ep] at hQ
  refine je (hQ _ (by rw[Vl.av];exact jU (id:=4) (off:=0) (by simp only[go_sem]) gy (by simp only[go_sem];rfl) rfl) ⟨fun i=>i,3,_,?_,rfl⟩).1
  exact gG (by simp only[go_sem]) (by simp only[go_sem]) (by simp only[go_sem])
end Go.Proofs.YtfpcjabbcpgbjaaDoor
