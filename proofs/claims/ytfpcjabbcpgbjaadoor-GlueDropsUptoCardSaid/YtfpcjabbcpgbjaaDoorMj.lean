/- A part of the proof: an abstract machine for the walks, and what the walked functions compute. -/
import Derived.Test.YtfpcjabbcpgbjaaDoorMi
set_option linter.unusedVariables false
set_option linter.unusedSimpArgs false
namespace Go.Am
theorem get?_of {α:Type} {l:List α} {i:Nat} (h:i<l.length):∃ x,l[i]? =some x:=⟨l[i],by simp[h]⟩
theorem jS {α:Type} {l:List α} {i:Nat} {x:α} (h:l[i]? =some x):l.drop i=x::l.drop (i+1):=by
 obtain⟨h1,h2⟩:=List.getElem?_eq_some_iff.1 h
 rw[List.drop_eq_getElem_cons h1,h2]
theorem ja {a b:Nat} (h:a<b):decide ((a:Int)<(b:Int))=true:=by simpa using h
theorem jE (a:Nat):decide ((a:Int)<(a:Int))=false:=by simp
theorem gC:∀ l:List AV,(∀ x,x∈l->x.clo=true)->AV.cloL l=true
 | [],_=>rfl
 |x::l,h=>by simp only[AV.cloL,Bool.and_eq_true];exact⟨h x (by simp),gC l fun y hy=>h y (List.mem_cons_of_mem _ hy)⟩
def bl (l:List Bool):List AV:=l.map AV.bool
@[go_sem] theorem jgq (l:List Bool):(bl l).length=l.length:=List.length_map ..
@[go_sem] theorem jnt (l:List Bool) (i:Nat):(bl l)[i]? =(l[i]?).map AV.bool:=List.getElem?_map ..
@[go_sem] theorem jnw (l:List Bool) (i:Nat) (b:Bool):(bl l).set i (.bool b)=bl (l.set i b):=(List.map_set ..).symm
@[go_sem] theorem jnv (n:Nat) (b:Bool):List.replicate n (AV.bool b)=bl (List.replicate n b):=(List.map_replicate ..).symm
theorem QK (l:List Bool):AV.cloL (bl l)=true:=gC _ fun x hx=>by obtain⟨p,_,rfl⟩:=List.mem_map.1 hx;rfl
@[go_sem] theorem jgr (m:Nat->Nat) (l:List Bool):AV.renL m (bl l)=bl l:=js (QK l)
@[go_sem] theorem jnu (p:Nat->Prop) (l:List Bool):AV.idsL p (bl l)=True:=eq_true (jt (QK l))
def il (l:List Int):List AV:=l.map AV.i
@[go_sem] theorem jn9 (l:List Int):(il l).length=l.length:=List.length_map ..
@[go_sem] theorem jn7 (l:List Int) (i:Nat):(il l)[i]? =(l[i]?).map AV.i:=List.getElem?_map ..
@[go_sem] theorem jod (l:List Int) (i:Nat) (b:Int):(il l).set i (.i b)=il (l.set i b):=(List.map_set ..).symm
@[go_sem] theorem joc (n:Nat) (b:Int):List.replicate n (AV.i b)=il (List.replicate n b):=(List.map_replicate ..).symm
@[go_sem] theorem il_app (l:List Int) (x:Int):il l++[.i x]=il (l++[x]):=by simp[il]
@[go_sem] theorem jm6 (l m:List Int):il l++il m=il (l++m):=by simp[il]
@[go_sem] theorem joa:il []=[]:=rfl
@[go_sem] theorem jm7 (l:List Int) (n:Nat):(il l).drop n=il (l.drop n):=by simp[il]
@[go_sem] theorem jm8 (l:List Int) (n:Nat):(il l).take n=il (l.take n):=by simp[il]
theorem qG (l:List Int):AV.cloL (il l)=true:=gC _ fun x hx=>by obtain⟨p,_,rfl⟩:=List.mem_map.1 hx;rfl
@[go_sem] theorem job (m:Nat->Nat) (l:List Int):AV.renL m (il l)=il l:=js (qG l)
@[go_sem] theorem jn8 (p:Nat->Prop) (l:List Int):AV.idsL p (il l)=True:=eq_true (jt (qG l))
theorem szok_il (l:List Int):SzOk (il l) 1:=by
 intro x hx
 obtain⟨p,_,rfl⟩:=List.mem_map.1 hx
 rfl
theorem jao (l:List Bool):SzOk (bl l) 1:=by
 intro x hx
 obtain⟨p,_,rfl⟩:=List.mem_map.1 hx
 rfl
theorem qB (l:List Int):j8 (il l):=by
 intro x hx c hc
 obtain⟨p,_,rfl⟩:=List.mem_map.1 hx
 simp only[AV.cells,List.mem_cons,List.not_mem_nil,or_false] at hc
 subst hc
 rfl
theorem jbU (l:List Bool):j8 (bl l):=by
 intro x hx c hc
 obtain⟨p,_,rfl⟩:=List.mem_map.1 hx
 simp only[AV.cells,List.mem_cons,List.not_mem_nil,or_false] at hc
 subst hc
 rfl
@[go_sem] theorem jmp (l:List Int):j8 (il l)=True:=eq_true (qB l)
@[go_sem] theorem jmn (l:List Bool):j8 (bl l)=True:=eq_true (jbU l)
def MapIs (es:List (AV×AV)) (F:Int->Option AV):Prop:=∀ n,jY .i64 n es=some (F n)
theorem MapIs.nil:MapIs [] fun _=>none:=fun n=>by rw[jY]
theorem Oq {n m:Int} {x:AV} :∀ {es:List (AV×AV)},jY .i64 n es=some none->jY .i64 m (es++[(.i n,x)])=if m=n then some (some x) else jY .i64 m es
 | [],_=>by
  rw[List.nil_append,AV.i,jY,jY,if_pos rfl,jY]
 |(y,z)::es,h=>by
  cases y<;>simp only[jY] at h<;>try(cases h;done)
  rename_i k' n'
  simp only[List.cons_append,jY]
  split at h
  ·rename_i hk
   rw[if_pos hk,if_pos hk]
   split at h
   ·cases h
   ·rename_i hn
    rw[Oq h]
    by_cases hm:m=n'
    ·rw[if_pos hm,if_pos hm,if_neg (fun e=>hn (e.symm.trans hm))]
    ·rw[if_neg hm,if_neg hm]
  ·cases h
theorem Ot {n m:Int} {x:AV} :∀ {es:List (AV×AV)} {y:AV},jY .i64 n es=some (some y)->jY .i64 m (oK .i64 n x es)=if m=n then some (some x) else jY .i64 m es
 | [],_,h=>by cases h
 |(z,v)::es,y,h=>by
  cases z<;>simp only[jY] at h<;>try(cases h;done)
  rename_i k' n'
  split at h
  ·rename_i hk
   subst hk
   simp only[oK]
   split at h
   ·rename_i hn
    subst hn
    rw[if_pos rfl]
    simp only[jY,if_true]
    by_cases hm:m=n<;>simp[hm]
   ·rename_i hn
    rw[if_neg hn]
    simp only[jY,if_true]
    rw[Ot h]
    by_cases hm:m=n'
    ·rw[if_pos hm,if_pos hm,if_neg (fun e=>hn (e.symm.trans hm))]
    ·rw[if_neg hm,if_neg hm]
  ·cases h
theorem MapIs.put {es:List (AV×AV)} {F:Int->Option AV} (h:MapIs es F) (n:Int) (x:AV):MapIs (Ob .i64 n x es (F n)) fun m=>if m=n then some x else F m:=by
 intro m
 have hn:=h n
 cases hF:F n with
 |none=>
  rw[hF] at hn
  rw[Ob]
  rw[Oq hn,h m]
  by_cases hm:m=n<;>simp[hm]
 |some y=>
  rw[hF] at hn
  rw[Ob,Ot hn,h m]
  by_cases hm:m=n<;>simp[hm]
def EsClo (es:List (AV×AV)):Prop:=∀ p,p∈es->p.1.clo=true/\p.2.clo=true
theorem EsClo.nil:EsClo []:=fun _ h=>(by cases h)
theorem EsClo.put {es:List (AV×AV)} (h:EsClo es) (n:Int) {x:AV} (hx:x.clo=true) (r:Option AV):EsClo (Ob .i64 n x es r):=by
 cases r with
 |none=>
  intro p hp
  rcases List.mem_append.1 hp with hp|hp
  ·exact h p hp
  ·rw[List.mem_singleton.1 hp];exact⟨rfl,hx⟩
 |some y=>
  show EsClo (oK .i64 n x es)
  clear y
  induction es with
  |nil=>exact h
  |cons q es ih=>
   have h1:=h q (by simp)
   have h2:=ih fun p hp=>h p (List.mem_cons_of_mem _ hp)
   obtain⟨z,v⟩:=q
   intro p hp
   cases z<;>simp only[oK] at hp<;>(try split at hp)<;>(rcases List.mem_cons.1 hp with e|e<;>first|(rw[e];exact h1)|(rw[e];exact⟨rfl,hx⟩)|exact h2 p e|exact h p (List.mem_cons_of_mem _ e))
theorem EsClo.ren {es:List (AV×AV)} (h:EsClo es) (m:Nat->Nat):es.map (fun p=>(p.1.ren m,p.2.ren m))=es:=by
 induction es with
 |nil=>rfl
 |cons q es ih=>
  rw[List.map_cons,ih fun p hp=>h p (List.mem_cons_of_mem _ hp),Jz (h q (by simp)).1,Jz (h q (by simp)).2]
open Go
variable {P:Program} {E:En} {ρ:Nat->Ref} {V:Nat->Prop} {Z:Nat->Nat->Prop} {O:St} {a:Act} {w:World}
theorem ACall.of_bodyRM {f : FuncId} {fn : Func} {c : Code} {vs : List AV} {hp : Nat -> Option AObj} {nx np : Nat} {R Rp : AV -> (Nat -> Option AObj) -> Prop} (hf : P.funcs[f]? = some fn) (hfn : jJ P f = true) (hb : fn.body = some c) (hn : vs.length <= fn.ntmps)
    (h:∀ (E:En) (Q:AEx->St->Prop),E.nt=fn.ntmps->E.np=np->(E.rd=none/\E.mks=true/\E.ex=true)->(∀ O,(∃ r m hc nc,Jy P fn.results.toList O=some (r.ren m)/\r.ids (· <nc)/\Ent np m O ⟨fun _=>none,hc,nc⟩/\R r hc)->Q .ret O/\Q .norm O)->
      (∀ x O,(∃ y m hc nc,x=y.ren m/\y.ids (· <nc)/\Ent np m O ⟨fun _=>none,hc,nc⟩/\Rp y hc)->Q (.pan x) O)->AW P E c Q ⟨JV 0 vs,hp,nx⟩):ACall P f vs hp nx np R Rp:=by
  refine⟨hfn,fun ρ V Z w args hh hnp hnx hsz hrel=>?_⟩
  have hsat:=Gn (nx:=nx) hn hh hnp hsz hrel
  have hbody:=h _ (fun e O=>match e with| .ret| .norm=>∃ r m hc nc,Jy P fn.results.toList O=some (r.ren m)/\r.ids (· <nc)/\Ent np m O ⟨fun _=>none,hc,nc⟩/\R r hc| .pan x=>∃ y m hc nc,x=y.ren m/\y.ids (· <nc)/\Ent np m O ⟨fun _=>none,hc,nc⟩/\Rp y hc| .exit _=>False) rfl rfl ⟨rfl,rfl,rfl⟩ (fun O hO=>⟨hO,hO⟩) (fun x O hO=>hO) ρ V Z _ w hsat hnx
  refine Ye hf hb rfl rfl hbody ?_ ?_ (fun j O h=>h)
  · rintro ρ' V' Z' O a w' h3 hq _
    obtain⟨r,m,hc,nc,hr,hid,he,hR⟩:∃ r m hc nc,Jy P fn.results.toList O=some (r.ren m)/\r.ids (· <nc)/\Ent np m O ⟨fun _=>none,hc,nc⟩/\R r hc:=hq.elim (fun h=>h) (fun h=>h)
    obtain⟨v,hv1,hv2⟩:=J5 h3 hr
    have h5:=h3.ent he
    exact⟨v,hv1,_,_,Z',hc,h5.hs,h5.ext,h5.pn,h5.z0,h5.zn,h5.ownd,.inl ⟨v,r,rfl,JW m r v hid hv2,hR⟩⟩
  · rintro ρ' V' Z' O a w' v x h3 hv ⟨y,m,hc,nc,rfl,hid,he,hR⟩
    have h5:=h3.ent he
    exact⟨_,_,Z',hc,h5.hs,h5.ext,h5.pn,h5.z0,h5.zn,h5.ownd,.inr ⟨v,y,rfl,JW m y v hid hv,hR⟩⟩
theorem ACall.of_bodyR {f : FuncId} {fn : Func} {c : Code} {vs : List AV} {hp : Nat -> Option AObj} {nx np : Nat} {R Rp : AV -> (Nat -> Option AObj) -> Prop} (hf : P.funcs[f]? = some fn) (hfn : jJ P f = true) (hb : fn.body = some c) (hn : vs.length <= fn.ntmps)
    (h:∀ (E:En) (Q:AEx->St->Prop),E.nt=fn.ntmps->E.np=np->(∀ O,(∃ r m hc nc,Jy P fn.results.toList O=some (r.ren m)/\r.ids (· <nc)/\Ent np m O ⟨fun _=>none,hc,nc⟩/\R r hc)->Q .ret O/\Q .norm O)->
      (∀ x O,(∃ y m hc nc,x=y.ren m/\y.ids (· <nc)/\Ent np m O ⟨fun _=>none,hc,nc⟩/\Rp y hc)->Q (.pan x) O)->AW P E c Q ⟨JV 0 vs,hp,nx⟩):ACall P f vs hp nx np R Rp:=
  ACall.of_bodyRM hf hfn hb hn fun E Q h1 h2 _=>h E Q h1 h2
mutual
theorem Gf {p q:Nat->Prop} (h:∀ i,p i->q i):∀ {x:AV},x.ids p->x.ids q
 | .ptr _ _,hx| .rptr _ _ _ _,hx| .rw _,hx| .mp _,hx=>h _ hx
 | .fn f a b,hx=>⟨Ja h hx.1,Ja h hx.2⟩
 | .iface t v,hx=>Gf h (x:=v) hx
 | .agg l,hx=>Ja h (l:=l) hx
 | .tup l,hx=>Ja h (l:=l) hx
 | .bool _,_| .int _ _,_| .str _,_| .nilp,_| .eptr _ _,_| .nilsl,_| .sl _,_| .nilmap,_| .nilfn,_| .nilif,_=>trivial
theorem Ja {p q:Nat->Prop} (h:∀ i,p i->q i):∀ {l:List AV},AV.idsL p l->AV.idsL q l
 | [],_=>trivial
 |x::l,hx=>⟨Gf h hx.1,Ja h hx.2⟩
end
mutual
theorem yW {p:Nat->Prop} {m m':Nat->Nat} (h:∀ i,p i->m i=m' i):∀ {x:AV},x.ids p->x.ren m=x.ren m'
 | .ptr i o,hx=>by simp only[AV.ren,h i hx]
 | .rptr i _ _ _,hx=>by simp only[AV.ren,h i hx]
 | .rw i,hx=>by simp only[AV.ren,h i hx]
 | .mp i,hx=>by simp only[AV.ren,h i hx]
 | .fn f a b,hx=>by simp only[AV.ren,Jd h hx.1,Jd h hx.2]
 | .iface t v,hx=>by simp only[AV.ren,yW h (x:=v) hx]
 | .agg l,hx=>by simp only[AV.ren,Jd h (l:=l) hx]
 | .tup l,hx=>by simp only[AV.ren,Jd h (l:=l) hx]
 | .bool _,_| .int _ _,_| .str _,_| .nilp,_| .eptr _ _,_| .nilsl,_| .sl _,_| .nilmap,_| .nilfn,_| .nilif,_=>rfl
theorem Jd {p:Nat->Prop} {m m':Nat->Nat} (h:∀ i,p i->m i=m' i):∀ {l:List AV},AV.idsL p l->AV.renL m l=AV.renL m' l
 | [],_=>rfl
 |x::l,hx=>by simp only[AV.renL,yW h hx.1,Jd h hx.2]
end
theorem GH {p:Nat->Prop} {m m':Nat->Nat} (h:∀ i,p i->m i=m' i) {o:AObj} (ho:o.ids p):o.ren m=o.ren m':=by
 cases o with
 |cells l=>simp only[AObj.ren,Jd h ho]
 |row sz l=>simp only[AObj.ren,Jd h ho]
 |map es=>
  simp only[AObj.ren,AObj.map.injEq]
  refine List.map_congr_left fun q hq=>?_
  rw[yW h (ho q hq).1,yW h (ho q hq).2]
 |lp q l=>simp only[AObj.ren,Jd h ho]
theorem JZ {np:Nat} {fr:List (Nat×AV)} {hp:Nat->Option AObj} {nx:Nat} (hf:∀ p,p∈fr->O.fr p.1=some p.2/\p.2.ids (· <nx)) (ho:∀ id ob,hp id=some ob->O.hp id=some ob/\id<nx/\ob.ids (· <nx)) (hn:np<=nx):Ent np (fun i=>i) O ⟨jL fr,hp,nx⟩:=by
 refine⟨fun t x hx=>?_,fun id o h=>?_,fun id id' o o' _ _ he=>he,fun id hid=>⟨rfl,by show id<nx;omega⟩⟩
 ·rw[JH]
  have k1:∀ t x,jL fr t=some x->(t,x)∈fr:=by
   clear hf hx
   intro t x
   induction fr with
   |nil=>intro h;cases h
   |cons p fr ih=>
    obtain⟨t',x'⟩:=p
    intro h
    simp only[jL,upd] at h
    split at h
    ·rename_i e;cases h;simp[e]
    ·exact List.mem_cons_of_mem _ (ih h)
  exact hf _ (k1 t x hx)
 ·rw[jw]
  exact ho id o h
theorem xq {Q:AEx->St->Prop} :Kq P E [] Q=Q:=by rw[Kq]
end Go.Am
