/- A part of the proof: an abstract machine for the walks, and what the walked functions compute. -/
import Derived.Maps.RangeRun
import Derived.Test.YtfpcjabbcpgbjaaDoorMo
set_option linter.unusedVariables false
set_option linter.unusedSimpArgs false
namespace Go.Am
open Go
open Go.ChangeMaps (setBlock)
variable {P:Program} {E:En} {ρ:Nat->Ref} {V:Nat->Prop} {Z:Nat->Nat->Prop} {O:St} {a:Act} {w:World}
theorem Sat.beside (h : Sat E ρ V Z O a w) {r : Nat} {w' : World} (hr : E.w0.heap.size <= r) (hno : ∀ id o, O.hp id = some o -> ¬ (ρ id).at r) (hZr : ∀ o, ¬ Z r o) (hk : ∀ ds, w.heap[r]? ≠ some (.deferred ds))
    (hc:∀ b,b<w.heap.size->b≠r->w'.heap[b]? =w.heap[b]?) (hle:w.heap.size<=w'.heap.size) (hos:w'.os=w.os) (hout:w'.output=w.output):Sat E ρ V Z O a w':=by
  have hcell:∀ b o,Z b o->w'.cell? ⟨b,o,none⟩=w.cell? ⟨b,o,none⟩:=fun b o hz=>cell?_of_heap (hc b (h.hs.lt b o hz) (fun e=>hZr o (e▸hz)))
  refine⟨h.nt,?_,fun t x hx=>(h.fr t x hx).mono (fun _ _=>rfl) (fun _ h=>h) (fun _ _ h=>h) hcell,⟨fun id o ho=>?_,h.hs.inj,h.hs.sep,fun b o hz=>Nat.lt_of_lt_of_le (h.hs.lt b o hz) hle,h.hs.gl.mono (fun b ⟨o,hz⟩ _=>hc b (h.hs.lt b o hz) (fun e=>hZr o (e▸hz))) (fun _ _ h=>h)⟩,⟨fun b hb hno2=>?_,Nat.le_trans h.ext.le hle,hos.trans h.ext.os,hout.trans h.ext.out,trivial⟩,h.ownd,h.z0,h.zn,h.pn⟩
  · obtain⟨M,m1,⟨m2,m3⟩,m4⟩:=h.df
    refine⟨M,m1,⟨m2,fun d hd=>?_⟩,m4⟩
    obtain⟨b,e,hb,hw⟩:=m3 d hd
    refine⟨b,e,?_,hw⟩
    have hlt:b<w.heap.size:=(Array.getElem?_eq_some_iff.1 hb).1
    rw[hc b hlt (fun e=>hk _ (e▸hb))]
    exact hb
  · obtain⟨g1,g2⟩:=h.hs.obj id o ho
    exact⟨g1,g2.mono g1 (fun _ _=>rfl) (fun _ h=>h) (fun _ _ h=>h) hcell (fun b hb=>hc b (g2.lt b hb) (fun e=>hno id o ho (e▸hb)))⟩
  · rw[hc b (Nat.lt_of_lt_of_le hb h.ext.le) (by omega)]
    exact h.ext.old b hb hno2
theorem Sat.slot (h:Sat E ρ V Z O a w) {t:Nat} (ht:O.fr t=none) (v:Value):Sat E ρ V Z O (a.put (some t) v) w:=by
 refine⟨by rw[jfl];exact h.nt,?_,fun t' x hx=>?_,h.hs,h.ext,h.ownd,h.z0,h.zn,h.pn⟩
 ·obtain⟨M,m1,m2,m3⟩:=h.df
  exact⟨M,by rw[jdu];exact m1,m2,m3⟩
 ·have hne:t'≠t:=fun e=>by rw[e,ht] at hx;cases hx
  have:(a.put (some t) v).tmps.getD t' undef=a.tmps.getD t' undef:=by
   simp[Act.put,Array.getD_eq_getD_getElem?,Array.getElem?_setIfInBounds,Ne.symm hne]
  rw[this]
  exact h.fr t' x hx
theorem Jn {a:Act} {t:Nat} {v:Value} (ht:t<a.tmps.size):(a.put (some t) v).eval (.tmp t)=v:=by
 simp[Act.put,Act.eval,ht]
theorem yV {a:Act} {t t':Nat} {v:Value} (h:t'≠t):(a.put (some t) v).eval (.tmp t')=a.eval (.tmp t'):=by
 simp[Act.put,Act.eval,Array.getElem?_setIfInBounds,Ne.symm h,Array.getD_eq_getD_getElem?]
theorem ObjRel.noit {id:Nat} {o:AObj} (h:ObjRel ρ V Z w id o) {b:Nat} (hb:(ρ id).at b) (m:Option Nat) (s:Nat) (l:Array Nat) (c:Nat):w.heap[b]? ≠some (.mapIter m s l c):=by
 obtain⟨hn,rfl⟩:=hb
 cases o with
 |cells l=>obtain⟨_,cs,ty,h1,_⟩:=h;rw[h1];simp
 |row sz l=>
  rcases h with ⟨h0,_⟩|⟨_,cs,ty,h1,_⟩
  ·rw[hn] at h0;cases h0
  ·rw[h1];simp
 |map es=>obtain⟨_,cs,ty,h1,_⟩:=h;rw[h1];simp
 |lp q l=>obtain⟨_,_,tmps,ds,h1,_⟩:=h;rw[h1];simp
structure ItR (ents:Array MapEntry) (seen:Array Nat) (n:Nat) (done:List Nat):Prop where
 sz:ents.size=n
 nd:done.Nodup
 lt:∀ j,j∈done->j<n
 iff:∀ j e,ents[j]? =some e->(seen.contains e.born=true↔j∈done)
theorem ItR.step {ents:Array MapEntry} {seen:Array Nat} {n:Nat} {done:List Nat} (h:ItR ents seen n done) (hst:(ents.toList.map (·.born)).Nodup) {j:Nat} {e:MapEntry} (he:ents[j]? =some e) (hj:j∉done):ItR ents (seen.push e.born) n (done++[j]):=by
 refine⟨h.sz,?_,fun i hi=>?_,fun i e' he'=>?_⟩
 ·rw[List.nodup_append]
  exact⟨h.nd,by simp,fun x hx y hy=>by simp only[List.mem_singleton] at hy;subst hy;exact fun e=>hj (e▸hx)⟩
 ·rcases List.mem_append.1 hi with hi|hi
  ·exact h.lt i hi
  ·simp only[List.mem_singleton] at hi
   subst hi
   rw[<- h.sz]
   exact(Array.getElem?_eq_some_iff.1 he).1
 ·rw[contains_push,Bool.or_eq_true,h.iff i e' he',List.mem_append,List.mem_singleton]
  refine or_congr Iff.rfl ?_
  rw[beq_iff_eq]
  constructor
  ·intro hb
   have h1:(ents.toList.map (·.born))[i]? =some e'.born:=by rw[List.getElem?_map,Array.getElem?_toList,he'];rfl
   have h2:(ents.toList.map (·.born))[j]? =some e.born:=by rw[List.getElem?_map,Array.getElem?_toList,he];rfl
   have hi:i<(ents.toList.map (·.born)).length:=(List.getElem?_eq_some_iff.1 h1).1
   exact(List.getElem?_inj hi hst).1 (by rw[h1,h2,hb])
  ·rintro rfl
   rw[he] at he'
   cases he'
   rfl
def gp (frs:Nat->Option AV) (it kt N:Nat) (hp:Nat->Option AObj) (k:AV):St:=⟨upd (upd frs it (.ptr N 0)) kt k,hp,N+1⟩
theorem jbK {frs : Nat -> Option AV} {hp : Nat -> Option AObj} {X N : Nat} {es : List (AV × AV)} (h : Sat E ρ V Z ⟨frs, jb hp X (some (.map es)), N⟩ a w) (hV : ∀ id, V id -> id < N) (hnp : E.np <= N) (hall : ∀ id, id < N -> V id) (hX : X < N) (hpX : hp X = none) (hes : (AObj.map es).ids (· < N))
    (hfrs:∀ t x,frs t=some x->x.ids (· <N)) (hH:∀ id o,hp id=some o->id<N/\o.ids (· <N)) {it kt:Nat} (hit0:frs it=none) {k:AV} {r since:Nat} {seen:Array Nat} {c0:Nat} (hk:k.clo=true)
    (hkr:Rel ρ V Z w (a.eval (.tmp kt)) k) (hit:a.eval (.tmp it)= .pointer (some ⟨r,0,none⟩)) (hir:w.heap[r]? =some (.mapIter (some (ρ X).blk) since seen c0)) (hZr:∀ o,¬ Z r o) (hr0:E.w0.heap.size<=r)
    {c:Code} {hp2:Nat->Option AObj} (hH2:∀ id o,hp2 id=some o->id<N/\id≠X/\o.ids (· <N)) {Q:Exit->Act->World->Prop}
    (hb:∀ E':En,E'.nt=E.nt->E'.np=N+1->AW P E' c (fun e O'=>e= .norm/\∃ m,Ent (N+1) m O' ⟨upd frs it (.ptr N 0),hp2,N+1⟩) (gp frs it kt N hp k))
    (hQ:∀ ρ' V' Z' a' w',Sat E ρ' V' Z' ⟨frs,jb hp2 X (some (.map es)),N⟩ a' w'->(∀ id,V' id->id<N)->(∀ id,id<N->V' id/\ρ' id=ρ id)->a'.eval (.tmp it)= .pointer (some ⟨r,0,none⟩)->w'.heap[r]? =w.heap[r]? ->w'.heap[(ρ X).blk]? =w.heap[(ρ X).blk]? ->(∀ o,¬ Z' r o)->Q .normal a' w'):
    wpX P E.rd E.ex c Q a w:=by
  have hrlt:r<w.heap.size:=(Array.getElem?_eq_some_iff.1 hir).1
  have hXo:jb hp X (some (.map es)) X=some (.map es):=by simp[jb]
  have hsub:∀ id o,hp id=some o->jb hp X (some (.map es)) id=some o:=fun id o ho=>by
    have:id≠X:=fun e=>by rw[e,hpX] at ho;cases ho
    simp[jb,this,ho]
  have hXobj:=h.hs.obj X _ hXo
  have hXnil:(ρ X).nil=false:=hXobj.2.1
  have hXlt:(ρ X).blk<w.heap.size:=hXobj.2.lt _ ⟨hXnil,rfl⟩
  have hXno:∀ id o,hp id=some o->¬ (ρ id).at (ρ X).blk:=fun id o ho hat=>by
    have:=h.hs.inj id X o _ _ (hsub id o ho) hXo hat ⟨hXnil,rfl⟩
    rw[this,hpX] at ho;cases ho
  have hrno:∀ id o,jb hp X (some (.map es)) id=some o->¬ (ρ id).at r:=fun id o ho hat=>(h.hs.obj id o ho).2.noit hat _ _ _ _ hir
  let ρ':Nat->Ref:=fun i=>if i=N then { blk:=r } else ρ i
  let V':Nat->Prop:=fun i=>V i\/i=N
  have hρ:∀ id,V id->ρ' id=ρ id:=fun id hid=>if_neg (by have:=hV id hid;omega)
  let E':En:=⟨E.nt,a.defers,w,Jx ρ hp,Z,N+1,ρ',E.rd,false,E.ex⟩
  have hfr':∀ t x,(gp frs it kt N hp k).fr t=some x->Rel ρ' V' Z w (a.tmps.getD t undef) x:=by
    intro t x hx
    simp only[gp,upd] at hx
    split at hx
    · rename_i e
      cases hx
      have:a.tmps.getD t undef=a.eval (.tmp kt):=by rw[e];simp[Act.eval,Array.getD_eq_getD_getElem?]
      rw[this]
      exact jR hkr hk _ _
    · split at hx
      · rename_i e
        cases hx
        have:a.tmps.getD t undef= .pointer (some ⟨r,0,none⟩):=by rw[<- hit,e];simp[Act.eval,Array.getD_eq_getD_getElem?]
        rw[this]
        have e2:(ρ' N).blk=r:=by simp[ρ']
        have:=Rel.ptr (ρ:=ρ') (V:=V') (Z:=Z) (w:=w) N 0 (.inr rfl)
        rw[e2] at this
        exact this
      · exact(h.fr t x hx).mono hρ (fun _ h=> .inl h) (fun _ _ h=>h) (fun _ _ _=>rfl)
  have hS':Sat E' ρ' V' Z (gp frs it kt N hp k) a w:=by
    refine⟨h.nt,⟨[],rfl,⟨by simp,by simp⟩,fun _=>rfl⟩,hfr',⟨fun id o ho=>?_,fun id id' o o' b ho ho' hb hb'=>?_,fun id o b ho hb=>?_,h.hs.lt,h.hs.gl⟩,⟨fun _ _ _=>rfl,Nat.le_refl _,rfl,rfl,trivial⟩,fun id o b ho hb hlt=>?_,fun _ _ h=>h,fun _ _ h=> .inl h,fun id hid=>⟨?_,rfl⟩⟩
    · obtain⟨g1,g2⟩:=h.hs.obj id o (hsub id o ho)
      exact⟨.inl g1,g2.mono g1 hρ (fun _ h=> .inl h) (fun _ _ h=>h) (fun _ _ _=>rfl) (fun _ _=>rfl)⟩
    · rw[hρ id (h.hs.obj id o (hsub id o ho)).1] at hb
      rw[hρ id' (h.hs.obj id' o' (hsub id' o' ho')).1] at hb'
      exact h.hs.inj id id' o o' b (hsub id o ho) (hsub id' o' ho') hb hb'
    · rw[hρ id (h.hs.obj id o (hsub id o ho)).1] at hb
      exact h.hs.sep id o b (hsub id o ho) hb
    · rw[hρ id (h.hs.obj id o (hsub id o ho)).1] at hb
      exact⟨id,o,ho,hb⟩
    · have hid':id<N+1:=hid
      by_cases e:id=N
      · exact .inr e
      · exact .inl (hall id (by omega))
  have hbody:=hb E' rfl rfl ρ' V' Z a w hS' (fun id hid=>by rcases hid with h1|h1<;>first|(have:=hV id h1;show id<N+1;omega)|(show id<N+1;omega))
  refine yd ?_ hbody
  rintro e a2 w2 ⟨ρ2,V2,Z2,O2,x2,k1,⟨rfl,m,he⟩,k3,k4⟩
  cases e<;>simp only[ExR] at k1
  have k5:=k3.ent he
  generalize hr3:(fun i=>ρ2 (m i))=ρ3 at k5
  generalize hV3:(fun i=>i<(⟨upd frs it (.ptr N 0),hp2,N+1⟩:St).nx/\V2 (m i))=V3 at k5
  have hpn:∀ id,id<N->V3 id/\ρ3 id=ρ id:=fun id hid=>by
    obtain⟨g1,g2⟩:=k5.pn id (show id<N+1 by omega)
    exact⟨g1,g2.trans (if_neg (by omega))⟩
  have hownlt:∀ b,Jx ρ hp b->b<E.w0.heap.size->E.own b:=by
    rintro b ⟨id,o,g1,g2⟩ hlt
    exact h.ownd id o b (hsub id o g1) g2 hlt
  have hown:∀ b,Jx ρ hp b->b<w.heap.size:=by
    rintro b ⟨id,o,g1,g2⟩
    exact(h.hs.obj id o (hsub id o g1)).2.lt b g2
  have hkeep:∀ b,b<w.heap.size->¬ Jx ρ hp b->w2.heap[b]? =w.heap[b]? :=k5.ext.old
  have hkr:w2.heap[r]? =w.heap[r]? :=hkeep r hrlt (fun⟨id,o,g1,g2⟩=>hrno id o (hsub id o g1) g2)
  have hkX:w2.heap[(ρ X).blk]? =w.heap[(ρ X).blk]? :=hkeep _ hXlt (fun⟨id,o,g1,g2⟩=>hXno id o g1 g2)
  have hZ:∀ b o,Z b o->Z2 b o:=k5.z0
  have hcell:∀ b o,Z b o->w2.cell? ⟨b,o,none⟩=w.cell? ⟨b,o,none⟩:=fun b o hz=>cell?_of_heap (hkeep b (h.hs.lt b o hz) (fun⟨id,ob,g1,g2⟩=>h.hs.sep id ob b (hsub id ob g1) g2 o hz))
  have hXobj2:ObjRel ρ3 V3 Z2 w2 X (.map es):=hXobj.2.mono hXobj.1 (fun id hid=>(hpn id (hV id hid)).2) (fun id hid=>(hpn id (hV id hid)).1) hZ hcell (fun b hb=>by rw[<- hb.2];exact hkX)
  have hZ2n:∀ b o,Z2 b o->Z b o\/w.heap.size<=b\/Jx ρ hp b:=k5.zn
  have hXZ:∀ o,¬ Z2 (ρ X).blk o:=fun o hz=>by
    rcases hZ2n _ o hz with g|g|⟨id,ob,g1,g2⟩
    · exact h.hs.sep X _ _ hXo ⟨hXnil,rfl⟩ o g
    · omega
    · exact hXno id ob g1 g2
  have hXno2:∀ id o,hp2 id=some o->¬ (ρ3 id).at (ρ X).blk:=fun id o ho hat=>by
    obtain⟨i,ob,g1,g2⟩:=k5.ownd id o _ ho hat hXlt
    exact hXno i ob g1 g2
  have hEXT:Ext E.w0 w2 E.own:=h.ext.trans k5.ext hownlt hown
  have hfull:Sat E ρ3 (fun i=>i<N/\V3 i) Z2 ⟨frs,jb hp2 X (some (.map es)),N⟩ a2 w2:=by
    have hobj:∀ id o,hp2 id=some o->ObjRel ρ3 (fun i=>i<N/\V3 i) Z2 w2 id o:=fun id o ho=>by
      obtain⟨g1,g2⟩:=k5.hs.obj id o ho
      obtain⟨g3,_,g4⟩:=hH2 id o ho
      have:=Gh (ρ':=ρ3) (V':=fun i=>i<N/\V3 i) (fun i=>i) (n:=N) (fun id hid hv=>⟨⟨hid,hv⟩,rfl⟩) g3 g1 g4 g2
      rw[jw] at this
      exact this
    have hXobj3:ObjRel ρ3 (fun i=>i<N/\V3 i) Z2 w2 X (.map es):=by
      have:=Gh (ρ':=ρ3) (V':=fun i=>i<N/\V3 i) (fun i=>i) (n:=N) (fun id hid hv=>⟨⟨hid,hv⟩,rfl⟩) hX (hpn X hX).1 hes hXobj2
      rw[jw] at this
      exact this
    have hcase:∀ id o,jb hp2 X (some (.map es)) id=some o->(id=X/\o= .map es)\/(id≠X/\hp2 id=some o):=fun id o ho=>by
      simp only[jb] at ho
      split at ho
      · rename_i e;exact .inl ⟨e,(Option.some.inj ho).symm⟩
      · rename_i e;exact .inr ⟨e,ho⟩
    have hXat:∀ id o b,hp2 id=some o->(ρ3 id).at b->(ρ3 X).at b->False:=fun id o b ho hb hb'=>by
      rw[(hpn X hX).2] at hb'
      obtain⟨_,rfl⟩:=hb'
      exact hXno2 id o ho hb
    refine⟨k5.nt,?_,fun t x hx=>?_,⟨fun id o ho=>?_,fun id id' o o' b ho ho' hb hb'=>?_,fun id o b ho hb=>?_,k5.hs.lt,k5.hs.gl⟩,hEXT,fun id o b ho hb hlt=>?_,fun b o hz=>hZ _ _ (h.z0 b o hz),fun b o hz=>?_,fun id hid=>?_⟩
    · obtain⟨M,m1,⟨m2,m3⟩,m4⟩:=h.df
      have hd2:a2.defers=a.defers:=k5.df.none rfl
      refine⟨M,by rw[hd2];exact m1,⟨m2,fun d hd=>?_⟩,m4⟩
      obtain⟨b,e,hb,hw⟩:=m3 d hd
      refine⟨b,e,?_,hw⟩
      rw[hkeep b (Array.getElem?_eq_some_iff.1 hb).1]
      · exact hb
      · rintro⟨id,o,g1,g2⟩
        exact(h.hs.obj id o (hsub id o g1)).2.kind g2 _ hb
    · have hx:frs t=some x:=hx
      have hne:t≠it:=fun e=>by rw[e,hit0] at hx;cases hx
      have:=k5.fr t x (by show upd frs it _ t=_;simp only[upd,if_neg hne];exact hx)
      have:=yM (ρ':=ρ3) (V':=fun i=>i<N/\V3 i) (fun i=>i) (n:=N) (fun id hid hv=>⟨⟨hid,hv⟩,rfl⟩) x _ (hfrs t x hx) this
      rw[JH] at this
      exact this
    · rcases hcase id o ho with ⟨rfl,rfl⟩|⟨g1,g2⟩
      · exact⟨⟨hX,(hpn _ hX).1⟩,hXobj3⟩
      · exact⟨⟨(hH2 id o g2).1,(hpn _ (hH2 id o g2).1).1⟩,hobj id o g2⟩
    · rcases hcase id o ho with ⟨rfl,rfl⟩|⟨g1,g2⟩<;>rcases hcase id' o' ho' with ⟨rfl,rfl⟩|⟨g3,g4⟩
      · rfl
      · exact(hXat id' o' b g4 hb' hb).elim
      · exact(hXat id o b g2 hb hb').elim
      · exact k5.hs.inj id id' o o' b g2 g4 hb hb'
    · rcases hcase id o ho with ⟨rfl,rfl⟩|⟨g1,g2⟩
      · rw[(hpn _ hX).2] at hb
        obtain⟨_,rfl⟩:=hb
        exact hXZ
      · exact k5.hs.sep id o b g2 hb
    · rcases hcase id o ho with ⟨rfl,rfl⟩|⟨g1,g2⟩
      · rw[(hpn _ hX).2] at hb
        exact h.ownd _ _ b hXo hb hlt
      · exact hownlt b (k5.ownd id o b g2 hb (Nat.lt_of_lt_of_le hlt h.ext.le)) hlt
    · rcases hZ2n b o hz with g|g|g
      · exact h.zn b o g
      · exact .inr (.inl (Nat.le_trans h.ext.le g))
      · rcases Nat.lt_or_ge b E.w0.heap.size with h1|h1
        · exact .inr (.inr (hownlt b g h1))
        · exact .inr (.inl h1)
    · have hid':id<N:=by omega
      refine⟨⟨hid',(hpn id hid').1⟩,?_⟩
      rw[(hpn id hid').2]
      exact(h.pn id hid).2
  refine hQ ρ3 _ Z2 a2 w2 hfull (fun id hid=>hid.1) (fun id hid=>⟨⟨hid,(hpn id hid).1⟩,(hpn id hid).2⟩) ?_ hkr hkX (fun o hz=>?_)
  · have h1:=k5.fr it (.ptr N 0) (by show upd frs it (.ptr N 0) it=_;simp[upd])
    obtain⟨h2,_⟩:=h1.ptr_inv
    have h3:(ρ3 N).blk=r:=by
      rw[(k5.pn N (show N<N+1 by omega)).2]
      simp[E',ρ']
    rw[h3] at h2
    rw[<- h2]
    simp[Act.eval,Array.getD_eq_getD_getElem?]
  · rcases hZ2n r o hz with g|g|⟨id,ob,g1,g2⟩
    · exact hZr o g
    · omega
    · exact hrno id ob (hsub id ob g1) g2
theorem qZ {Q : AEx -> St -> Prop} {id0 id3 id4 bl bl2 it d13 d14 d15 d16 kt tm : Nat} {mt y0 y1 y2 y3 y4 y5 y6 y7 kty ety : TypeId} {p0 p1 p2 p3 p4 p5 p6 p7 : String} {a0 a1 a2 a3 a4 a5 a6 a7 : Array Edge} {dst0 dst1 : Option Nat} {op0 op1 : Op} {BODY : Code}
    (frs:Nat->Option AV) (H:List Nat->Nat->Option AObj) (X N:Nat) (es:List (AV×AV)) (hu:P.underlying mt=some (.map kty ety)) (hnp:E.np<=N) (hX:X<N)
    (hHX:∀ done,H done X=none) (hfrs:∀ t x,frs t=some x->x.ids (· <N)) (hH:∀ done id o,H done id=some o->id<N/\o.ids (· <N)) (hes:∀ p,p∈es->p.1.clo=true/\p.2.clo=true)
    (hall:∀ id,id<N->id=X\/∃ o,H [] id=some o) (hdis: [it,d13,d14,d15,d16,kt].Nodup) (hlt:∀ t,t∈ [it,d13,d14,d15,d16,kt]->t<E.nt) (hno:∀ t,t∈ [it,d13,d14,d15,d16,kt]->frs t=none)
    (hd0:∀ n,dst0=some n->n<E.nt) (hd1:∀ n,dst1=some n->n<E.nt)
    (h2:goX P true 0 ⟨dst0,op0,y0,p0,a0,none⟩ O (fun O1=>goX P true 1 ⟨dst1,op1,y1,p1,a1,none⟩ O1 (fun O2=>O2.fr tm=some (.mp X)/\(∀ t x,frs t=some x->O2.fr t=some x)/\∀ id o,jb (H []) X (some (.map es)) id=some o->O2.hp id=some o) (fun _ _=>False)) (fun _ _=>False))
    (hbody:∀ done j k x,done.Nodup->(∀ i,i∈done->i<es.length)->j∉done->es[j]? =some (k,x)->∀ E':En,E'.nt=E.nt->E'.np=N+1->AW P E' BODY (fun e O'=>e= .norm/\∃ m,Ent (N+1) m O' ⟨upd frs it (.ptr N 0),H (done++[j]),N+1⟩) (gp frs it kt N (H done) k))
    (hend:∀ done,done.Nodup->(∀ i,i∈done↔i<es.length)->Q .norm ⟨frs,jb (H done) X (some (.map es)),N⟩):
    AW P E (.seq (.region id0 #[⟨dst0,op0,y0,p0,a0,none⟩,⟨dst1,op1,y1,p1,a1,none⟩,⟨some it,.range mt (.tmp tm),y2,p2,a2,none⟩] false)
      (.block bl (.loop (.seq (.region id3 #[⟨some d13,.next (.tmp it) false,y3,p3,a3,none⟩,⟨some d14,.extract (.tmp d13) 0,y4,p4,a4,none⟩] false)
        (.seq (.cond (.tmp d14) .skip (.exit bl)) (.block bl2 (.seq (.region id4 #[⟨some d15,.entry (.tmp it),y5,p5,a5,none⟩,⟨some d16,.extract (.tmp d15) 0,y6,p6,a6,none⟩,⟨some kt,.assign (.tmp d16),y7,p7,a7,none⟩] false) BODY))))))) Q O:=by
  intro ρ V Z a w hs hV
  have hm:∀ t,t∈ [it,d13,d14,d15,d16,kt]->t<E.nt/\frs t=none:=fun t ht=>⟨hlt t ht,hno t ht⟩
  simp only[List.mem_cons,List.not_mem_nil,or_false,forall_eq_or_imp,forall_eq] at hm
  obtain⟨⟨l1,n1⟩,⟨l2,n2⟩,⟨l3,n3⟩,⟨l4,n4⟩,⟨l5,n5⟩,⟨l6,n6⟩⟩:=hm
  simp only[List.nodup_cons,List.mem_cons,List.not_mem_nil,or_false,not_or,List.nodup_nil,and_true,not_false_eq_true] at hdis
  obtain⟨⟨q1,q2,q3,q4,q5⟩,⟨q6,q7,q8,q9⟩,⟨q10,q11,q12⟩,⟨q13,q14⟩,q15⟩:=hdis
  have hesi:(AObj.map es).ids (· <N):=fun p hp=>⟨j5 (hes p hp).1,j5 (hes p hp).2⟩
  refine Gs (YA ?_)
  show wpOpsIn _ _ _ _ _ [0,1,2] a w
  show Oper.wpIn _ _ _ _ _ _ _ _
  refine xT hs (k:=0) (fun id hid=>by have:=hV id hid;omega) hd0 h2 ?_ (fun x v O' ρ' V' Z' a' w' h=>h.elim)
  intro O1 b1 w1 ρ1 V1 Z1 hK1 hnx1 hS1 hV1 hV1'
  show Oper.wpIn _ _ _ _ _ _ _ _
  refine xT hS1 (k:=1) (fun id hid=>by rw[hnx1];rcases hV1 id hid with h|h;(have:=hV id h;omega);omega) hd1 hK1 ?_ (fun x v O' ρ' V' Z' a' w' h=>h.elim)
  rintro O2 b2 w2 ρ2 V2 Z2 ⟨g1,g2,g3⟩ hnx2 hS2 _ _
  have hfull:∀ id o,jb (H []) X (some (.map es)) id=some o->id<N/\o.ids (· <N):=fun id o ho=>by
    simp only[jb] at ho
    split at ho
    · rename_i e;cases ho;subst e;exact⟨hX,hesi⟩
    · exact hH [] id o ho
  have hmp:=hS2.fr tm _ g1
  obtain⟨hmv,_⟩:=hmp.mp_inv
  have hS3:=hS2.ent (m:=fun i=>i) (O':=⟨frs,jb (H []) X (some (.map es)),N⟩) ⟨fun t x hx=>⟨by rw[JH];exact g2 t x hx,hfrs t x hx⟩,fun id o ho=>⟨by rw[jw];exact g3 id o ho,hfull id o ho⟩,fun _ _ _ _ _ _ e=>e,fun id hid=>⟨rfl,show id<N by omega⟩⟩
  have hXo:jb (H []) X (some (.map es)) X=some (.map es):=by simp[jb]
  obtain⟨hX1,hX0,ents,clock,hb,⟨hsz,hst⟩,hrel⟩:=hS3.hs.obj X _ hXo
  have hblt:(ρ2 X).blk<w2.heap.size:=(Array.getElem?_eq_some_iff.1 hb).1
  show Oper.wpIn _ _ _ _ _ _ _ _
  refine jX (res:= .ok (.value (.pointer (some ⟨w2.heap.size,0,none⟩))) (w2.alloc (.mapIter (some (ρ2 X).blk) clock #[] clock))) (fun c=>by simp) ?_ ?_
  · change (execOp b2.eval ({ dst:=some it,op:= .range mt (.tmp tm),type:=y2,pos:=p2,after:=a2,guard:=none } :Oper)).run P w2=_
    have e1:b2.eval (.tmp tm)= .map (some (ρ2 X).blk):=by rw[<- hmv];simp[Act.eval,Array.getD_eq_getD_getElem?]
    simp only[execOp,e1,Sem.run_bind,run_range_map w2 mt kty ety (ρ2 X).blk ents clock hu hb,Result.andThen]
    rfl
  show wpX P E.rd E.ex (.block bl _) _ _ _
  have hS4:=hS3.beside (r:=w2.heap.size) (w':=w2.alloc (.mapIter (some (ρ2 X).blk) clock #[] clock)) hS3.ext.le (fun id o ho hat=>by have:=(hS3.hs.obj id o ho).2.lt _ hat;omega) (fun o hz=>by have:=hS3.hs.lt _ o hz;omega)
    (fun ds h=>by rw[Array.getElem?_eq_none (Nat.le_refl _)] at h;cases h) (fun b hb _=>alloc_old hb) (by rw[World.size_alloc];omega) rfl rfl
  have hS5:=hS4.slot n1 (.pointer (some ⟨w2.heap.size,0,none⟩))
  clear h2 hK1 hS1 hs hS4
  refine qX (Qp (fun n a w=>∃ (ρ:Nat->Ref) (V:Nat->Prop) (Z:Nat->Nat->Prop) (done:List Nat) (seen:Array Nat) (c0 r:Nat),Sat E ρ V Z ⟨frs,jb (H done) X (some (.map es)),N⟩ a w/\(∀ id,V id->id<N)/\(∀ id,id<N->V id)/\
    a.eval (.tmp it)= .pointer (some ⟨r,0,none⟩)/\w.heap[r]? =some (.mapIter (some (ρ X).blk) clock seen c0)/\w.heap[(ρ X).blk]? =some (.map ents clock)/\ItR ents seen es.length done/\E.w0.heap.size<=r/\(∀ o,¬ Z r o)/\clock<=c0/\n=(leftOf ents seen).size)
    (n:=(leftOf ents #[]).size) ⟨_,_,_,[], #[],clock,w2.heap.size,hS5,fun id hid=>hid.1,fun id hid=>⟨hid,?_⟩,Jn (by rw[hS2.nt];exact l1),World.alloc_heap_new _ _,(alloc_old hblt).trans hb,⟨hsz,List.nodup_nil,fun j hj=>(by cases hj),fun j e _=>by simp⟩,hS3.ext.le,fun o hz=>by have:=hS3.hs.lt _ o hz;omega,Nat.le_refl _,rfl⟩ ?_)
  · rcases hall id hid with rfl|⟨o,ho⟩
    · exact hX1.2
    · have : jb (H []) X (some (.map es)) id = some o := by
        have:id≠X:=fun e=>by rw[e,hHX] at ho;cases ho
        simp[jb,this,ho]
      exact(hS3.hs.obj id o this).1.2
  clear hS5 hS2 hS3 hV1 hV1' hnx1 hnx2 g1 g2 g3 hmp hmv hX1 hX0 hb hblt hrel hV
  rintro n a w ⟨ρ,V,Z,done,seen,c0,r,hS,hV,hVa,hit,hr,hb,hI,hr0,hZr,hcc,rfl⟩
  have hno':∀ id o,jb (H done) X (some (.map es)) id=some o->¬ (ρ id).at r:=fun id o ho hat=>(hS.hs.obj id o ho).2.noit hat _ _ _ _ hr
  have hrX:r≠(ρ X).blk:=fun e=>by rw[e,hb] at hr;cases hr
  have hXo':jb (H done) X (some (.map es)) X=some (.map es):=by simp[jb]
  refine Gs (YA ?_)
  show wpOpsIn _ _ _ _ _ [0,1] a w
  show Oper.wpIn _ _ _ _ _ _ _ _
  rcases run_next_at (P:=P) w y3 r (ρ X).blk clock c0 seen ents clock hr hb hst.2 hcc with ⟨h0,hrun⟩|⟨e,he,w1,hal,hrun⟩
  · -- nothing is left
    refine jX (res:= .ok (.value (.tuple #[.bool false])) w) (fun c=>by simp) ?_ ?_
    · change (execOp a.eval ({ dst:=some d13,op:= .next (.tmp it) false,type:=y3,pos:=p3,after:=a3,guard:=none } :Oper)).run P w=_
      simp only[execOp,hit,Sem.run_bind,hrun,Result.andThen]
      rfl
    show Oper.wpIn _ _ _ _ _ _ _ _
    have e1:(a.put (some d13) (.tuple #[.bool false])).eval (.tmp d13)= .tuple #[.bool false]:=Jn (by rw[hS.nt];exact l2)
    refine jX (res:= .ok (.value (.bool false)) w) (fun c=>by simp) ?_ ?_
    · change (execOp (a.put (some d13) (.tuple #[.bool false])).eval ({ dst:=some d14,op:= .extract (.tmp d13) 0,type:=y4,pos:=p4,after:=a4,guard:=none } :Oper)).run P w=_
      simp only[execOp,e1]
      rfl
    have hS6:=(hS.slot n2 (.tuple #[.bool false])).slot n3 (.bool false)
    show wpX P E.rd E.ex (.seq (.cond (.tmp d14) .skip (.exit bl)) _) _ _ _
    refine Gs (gY (Jn (by rw[jfl,hS.nt];exact l3)) (oS ?_))
    show(Exit.inBlock bl (jbD E Q)) (.exit bl) _ _
    simp only[Exit.inBlock,if_true]
    refine⟨ρ,V,Z,_,.norm,trivial,hend done hI.nd (fun i=>⟨hI.lt i,fun hi=>?_⟩),hS6,fun _ id hid=>hV id hid⟩
    have hi2:i<ents.size:=by rw[hI.sz];exact hi
    have:=all_seen ents seen h0 ents[i] (by simp)
    exact(hI.iff i _ (Array.getElem?_eq_getElem hi2)).1 this
  · obtain⟨hem,hes2⟩:=mem_left he
    obtain⟨j,hj⟩:=List.getElem?_of_mem hem
    rw[Array.getElem?_toList] at hj
    have hjd:j∉done:=fun hd=>by
      rw[(hI.iff j e hj).2 hd] at hes2
      cases hes2
    have hjl:j<es.length:=by rw[<- hI.sz];exact(Array.getElem?_eq_some_iff.1 hj).1
    obtain⟨⟨k,x⟩,hjk⟩:∃ p,es[j]? =some p:=⟨es[j],List.getElem?_eq_getElem hjl⟩
    have hkr:Rel ρ V Z w e.key k:=by
      obtain⟨_,_,ents',clock',hb',hsz',hrel'⟩:=hS.hs.obj X _ hXo'
      rw[hb] at hb'
      injection hb' with hb'
      injection hb' with hb1 hb2
      subst hb1
      have:=(hrel' j hjl).1
      have e3:(es.getD j default)=(k,x):=by simp[List.getD_eq_getElem?_getD,hjk]
      have e4:(ents.map (·.key)).getD j undef=e.key:=by
        rw[Array.getD_eq_getD_getElem?,Array.getElem?_map,hj];rfl
      rw[e3,e4] at this
      exact this
    have hkc:k.clo=true:=(hes _ (List.mem_of_getElem? hjk)).1
    generalize hw2:setBlock w1 r (.mapIter (some (ρ X).blk) clock (seen.push e.born) clock)=w2' at hrun
    have hw1:w1.heap=w.heap/\w1.os=w.os/\w1.output=w.output:=by rcases hal with rfl|rfl<;>exact⟨rfl,rfl,rfl⟩
    have hrl:w1.heap[r]? =some (.mapIter (some (ρ X).blk) clock seen c0):=by rw[hw1.1];exact hr
    have hset:=MapKept.heap_set (o':= .mapIter (some (ρ X).blk) clock (seen.push e.born) clock) hrl
    have hwr:w2'.heap[r]? =some (.mapIter (some (ρ X).blk) clock (seen.push e.born) clock):=by rw[<- hw2];exact hset.1
    have hwo:∀ b,b≠r->w2'.heap[b]? =w.heap[b]? :=fun b hne=>by rw[<- hw2];exact(hset.2 b hne).trans (by rw[hw1.1])
    have hwsz:w2'.heap.size=w.heap.size:=by rw[<- hw2];simp[setBlock,hw1.1]
    have hS6:=hS.beside (r:=r) (w':=w2') hr0 hno' hZr (fun ds h=>by rw[hr] at h;cases h) (fun b _ hne=>hwo b hne) (by omega) (by rw[<- hw2];exact hw1.2.1) (by rw[<- hw2];exact hw1.2.2)
    have hb2:w2'.heap[(ρ X).blk]? =some (.map ents clock):=(hwo _ (Ne.symm hrX)).trans hb
    refine jX (res:= .ok (.value (.tuple #[.bool true,e.key,e.val])) w2') (fun c=>by simp) ?_ ?_
    · change (execOp a.eval ({ dst:=some d13,op:= .next (.tmp it) false,type:=y3,pos:=p3,after:=a3,guard:=none } :Oper)).run P w=_
      simp only[execOp,hit,Sem.run_bind,hrun,Result.andThen]
      rfl
    change Oper.wpIn (rfn E.rd) 0 P ⟨some d14,.extract (.tmp d13) 0,y4,p4,a4,none⟩ (a.put (some d13) (.tuple #[.bool true,e.key,e.val])) w2' _ _
    have hS7:=hS6.slot n2 (.tuple #[.bool true,e.key,e.val])
    have i7:(a.put (some d13) (.tuple #[.bool true,e.key,e.val])).eval (.tmp it)= .pointer (some ⟨r,0,none⟩):=by rw[yV q1];exact hit
    have e1:(a.put (some d13) (.tuple #[.bool true,e.key,e.val])).eval (.tmp d13)= .tuple #[.bool true,e.key,e.val]:=Jn (by rw[hS.nt];exact l2)
    generalize a.put (some d13) (.tuple #[.bool true,e.key,e.val])=u7 at hS7 i7 e1
    refine jX (res:= .ok (.value (.bool true)) w2') (fun c=>by simp) ?_ ?_
    · change (execOp u7.eval ({ dst:=some d14,op:= .extract (.tmp d13) 0,type:=y4,pos:=p4,after:=a4,guard:=none } :Oper)).run P w2'=_
      simp only[execOp,e1]
      rfl
    have hS8:=hS7.slot n3 (.bool true)
    have i8:(u7.put (some d14) (.bool true)).eval (.tmp it)= .pointer (some ⟨r,0,none⟩):=by rw[yV q2];exact i7
    have e8:(u7.put (some d14) (.bool true)).eval (.tmp d14)= .bool true:=Jn (by rw[hS7.nt];exact l3)
    change wpX P E.rd E.ex (.seq (.cond (.tmp d14) .skip (.exit bl)) _) _ (u7.put (some d14) (.bool true)) _
    generalize u7.put (some d14) (.bool true)=u8 at hS8 i8 e8
    refine Gs (Gy e8 (xl ?_))
    show wpX P E.rd E.ex (.block bl2 _) _ _ _
    refine qX (Gs (YA ?_))
    show wpOpsIn _ _ _ _ _ [0,1,2] u8 w2'
    show Oper.wpIn _ _ _ _ _ _ _ _
    have hent:=run_entry_at (P:=P) w2' r (ρ X).blk clock seen ents clock e hwr hb2 hem hst.1
    refine jX (res:= .ok (.value (.tuple #[e.key,e.val])) w2') (fun c=>by simp) ?_ ?_
    · change (execOp u8.eval ({ dst:=some d15,op:= .entry (.tmp it),type:=y5,pos:=p5,after:=a5,guard:=none } :Oper)).run P w2'=_
      simp only[execOp,i8,Sem.run_bind,hent,Result.andThen]
      rfl
    change Oper.wpIn (rfn E.rd) 0 P ⟨some d16,.extract (.tmp d15) 0,y6,p6,a6,none⟩ (u8.put (some d15) (.tuple #[e.key,e.val])) w2' _ _
    have hS9:=hS8.slot n4 (.tuple #[e.key,e.val])
    have i9:(u8.put (some d15) (.tuple #[e.key,e.val])).eval (.tmp it)= .pointer (some ⟨r,0,none⟩):=by rw[yV q3];exact i8
    have e9:(u8.put (some d15) (.tuple #[e.key,e.val])).eval (.tmp d15)= .tuple #[e.key,e.val]:=Jn (by rw[hS8.nt];exact l4)
    generalize u8.put (some d15) (.tuple #[e.key,e.val])=u9 at hS9 i9 e9
    refine jX (res:= .ok (.value e.key) w2') (fun c=>by simp) ?_ ?_
    · change (execOp u9.eval ({ dst:=some d16,op:= .extract (.tmp d15) 0,type:=y6,pos:=p6,after:=a6,guard:=none } :Oper)).run P w2'=_
      simp only[execOp,e9]
      rfl
    change Oper.wpIn (rfn E.rd) 0 P ⟨some kt,.assign (.tmp d16),y7,p7,a7,none⟩ (u9.put (some d16) e.key) w2' _ _
    have hS10:=hS9.slot n5 e.key
    have i10:(u9.put (some d16) e.key).eval (.tmp it)= .pointer (some ⟨r,0,none⟩):=by rw[yV q4];exact i9
    have e10:(u9.put (some d16) e.key).eval (.tmp d16)=e.key:=Jn (by rw[hS9.nt];exact l5)
    generalize u9.put (some d16) e.key=u10 at hS10 i10 e10
    refine jX (res:= .ok (.value e.key) w2') (fun c=>by simp) ?_ ?_
    · change (execOp u10.eval ({ dst:=some kt,op:= .assign (.tmp d16),type:=y7,pos:=p7,after:=a7,guard:=none } :Oper)).run P w2'=_
      simp only[execOp,e10]
      rfl
    have hS11:=hS10.slot n6 e.key
    have i11:(u10.put (some kt) e.key).eval (.tmp it)= .pointer (some ⟨r,0,none⟩):=by rw[yV q5];exact i10
    have e11:(u10.put (some kt) e.key).eval (.tmp kt)=e.key:=Jn (by rw[hS10.nt];exact l6)
    change wpX P E.rd E.ex BODY _ (u10.put (some kt) e.key) _
    generalize u10.put (some kt) e.key=u11 at hS11 i11 e11
    have hb0:=hbody done j k x hI.nd hI.lt hjd hjk
    refine jbK hS11 hV hnp hVa hX (hHX done) hesi hfrs (hH done) n1 hkc (by rw[e11];exact hkr.mono (fun _ _=>rfl) (fun _ h=>h) (fun _ _ h=>h) (fun b o hz=>cell?_of_heap (hwo b (fun e=>hZr o (e▸hz))))) i11 hwr hZr hr0 (fun id o ho=>⟨(hH _ id o ho).1,(fun e=>by rw[e,hHX] at ho;cases ho),(hH _ id o ho).2⟩) hb0 ?_
    intro ρ' V' Z' a' w' k1 k2 k3 k4 k5 k6 k7
    simp only[Exit.inBlock,Exit.then]
    refine⟨_,left_shrinks ents seen e he,ρ',V',Z',done++[j],seen.push e.born,clock,r,k1,k2,fun id hid=>(k3 id hid).1,k4,?_,?_,hI.step hst.1 hj hjd,hr0,k7,Nat.le_refl _,rfl⟩
    · rw[k5,hwr,(k3 X hX).2]
    · rw[(k3 X hX).2,k6,hb2]
theorem xm {c : Code} {Q : AEx -> St -> Prop} (X sz : Nat)
    (h:AW P E c (fun e O=>e= .norm/\∃ l l',O.hp X=some (.row sz l)/\l'.length=l.length/\(∀ i,i<l.length->Snp (fun _=>none) (l.getD i default) (l'.getD i default))/\Q .norm ⟨O.fr,jb O.hp X (some (.row sz l')),O.nx⟩) O):AW P E c Q O:=by
  intro ρ V Z a w hs hV
  refine yd ?_ (h ρ V Z a w hs hV)
  rintro e a w ⟨ρ,V,Z,O,ex,h1,⟨rfl,l,l',h2,h3,h4,h5⟩,h6,h7⟩
  cases e<;>simp only[ExR] at h1
  refine⟨ρ,V,_,⟨O.fr,jb O.hp X (some (.row sz l')),O.nx⟩,.norm,trivial,h5,h6.frz (F:=fun _=>none) (fun id o ho=>by cases ho) (fun t x' hx=>⟨x',hx,.inl rfl⟩) (fun id o' ho=>⟨rfl,?_⟩),h7⟩
  simp only[jb] at ho
  split at ho
  · rename_i e
    subst e
    cases ho
    exact⟨_,h2,rfl,h3,h4⟩
  · exact⟨o',ho,SnpO.refl _⟩
theorem jeb {fr : Nat -> Option AV} {hp : Nat -> Option AObj} {nx : Nat} {c : Code} {Q : AEx -> St -> Prop} (X j id : Nat) {sz : Nat} {l xs : List AV} (hX : hp X = some (.cells l)) (hj : l[j]? = some (.rw id)) (hid : hp id = some (.row sz xs)) (hne : X ≠ id) (hc : j8 xs)
    (h:AW P E c Q ⟨fr,jb (jb hp id none) X (some (.cells (l.set j (.sl xs)))),nx⟩):AW P E c Q ⟨fr,hp,nx⟩:=by
  refine AW.frz (O':=⟨fr,jb (jb hp id none) X (some (.cells (l.set j (.sl xs)))),nx⟩) (fun i=>if i=id then some (.row sz xs) else none) (fun i o h'=>?_) (fun t x' h'=>⟨x',h',.inl rfl⟩) (fun i o' h'=>?_) rfl h
  · split at h'
    · rename_i e;subst e;cases h';exact hid
    · cases h'
  · simp only[jb] at h'
    split at h'
    · rename_i e
      subst e
      cases h'
      refine⟨by simp[hne],_,hX,by simp,fun i hi=>?_⟩
      by_cases hij:j=i
      · subst hij
        have hl:j<l.length:=(List.getElem?_eq_some_iff.1 hj).1
        refine .inr ⟨?_,?_⟩
        · simp[List.getD_eq_getElem?_getD,hj,AV.snapOk,hc]
        · simp[List.getD_eq_getElem?_getD,hj,hl,(List.getElem?_eq_some_iff.1 hj).2,AV.snap]
      · refine .inl ?_
        simp[List.getD_eq_getElem?_getD,List.getElem?_set_ne hij]
    · split at h'
      · cases h'
      · rename_i e1 e2
        exact⟨if_neg e2,o',h',SnpO.refl _⟩
end Go.Am
