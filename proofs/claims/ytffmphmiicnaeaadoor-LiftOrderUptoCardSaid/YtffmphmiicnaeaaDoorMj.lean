/- A part of the proof: an abstract machine for the walks, and what the walked functions compute. -/
import Derived.Test.YtffmphmiicnaeaaDoorMi
set_option linter.unusedVariables false
set_option linter.unusedSimpArgs false
namespace Go.Am
theorem get?_of {α:Type} {l:List α} {i:Nat} (h:i<l.length):∃ x,l[i]? =some x:=⟨l[i],by simp[h]⟩
theorem drop_of {α:Type} {l:List α} {i:Nat} {x:α} (h:l[i]? =some x):l.drop i=x::l.drop (i+1):=by
 obtain⟨h1,h2⟩:=List.getElem?_eq_some_iff.1 h
 rw[List.drop_eq_getElem_cons h1,h2]
theorem lt_dec {a b:Nat} (h:a<b):decide ((a:Int)<(b:Int))=true:=by simpa using h
theorem ge_dec (a:Nat):decide ((a:Int)<(a:Int))=false:=by simp
theorem cloLeq:∀ l:List AV,(∀ x,x∈l→x.clo=true)→AV.cloL l=true
 | [],_=>rfl
 |x::l,h=>by simp only[AV.cloL,Bool.and_eq_true];exact⟨h x (by simp),cloLeq l fun y hy=>h y (List.mem_cons_of_mem _ hy)⟩
def bl (l:List Bool):List AV:=l.map AV.bool
def il (l:List Int):List AV:=l.map AV.i
@[go_sem] theorem il_nil:il []=[]:=rfl
def MapIs (es:List (AV×AV)) (F:Int→Option AV):Prop:=∀ n,findE .i64 n es=some (F n)
theorem MapIs.nil:MapIs [] fun _=>none:=fun n=>by rw[findE]
theorem findE_app {n m:Int} {x:AV} :∀ {es:List (AV×AV)},findE .i64 n es=some none→findE .i64 m (es++[(.i n,x)])=if m=n then some (some x) else findE .i64 m es
 | [],_=>by
  rw[List.nil_append,AV.i,findE,findE,if_pos rfl,findE]
 |(y,z)::es,h=>by
  cases y<;>simp only[findE] at h<;>try(cases h;done)
  rename_i k' n'
  simp only[List.cons_append,findE]
  split at h
  ·rename_i hk
   rw[if_pos hk,if_pos hk]
   split at h
   ·cases h
   ·rename_i hn
    rw[findE_app h]
    by_cases hm:m=n'
    ·rw[if_pos hm,if_pos hm,if_neg (fun e=>hn (e.symm.trans hm))]
    ·rw[if_neg hm,if_neg hm]
  ·cases h
theorem findE_upd {n m:Int} {x:AV} :∀ {es:List (AV×AV)} {y:AV},findE .i64 n es=some (some y)→findE .i64 m (updE .i64 n x es)=if m=n then some (some x) else findE .i64 m es
 | [],_,h=>by cases h
 |(z,v)::es,y,h=>by
  cases z<;>simp only[findE] at h<;>try(cases h;done)
  rename_i k' n'
  split at h
  ·rename_i hk
   subst hk
   simp only[updE]
   split at h
   ·rename_i hn
    subst hn
    rw[if_pos rfl]
    simp only[findE,if_true]
    by_cases hm:m=n<;>simp[hm]
   ·rename_i hn
    rw[if_neg hn]
    simp only[findE,if_true]
    rw[findE_upd h]
    by_cases hm:m=n'
    ·rw[if_pos hm,if_pos hm,if_neg (fun e=>hn (e.symm.trans hm))]
    ·rw[if_neg hm,if_neg hm]
  ·cases h
theorem MapIs.put {es:List (AV×AV)} {F:Int→Option AV} (h:MapIs es F) (n:Int) (x:AV):MapIs (putE .i64 n x es (F n)) fun m=>if m=n then some x else F m:=by
 intro m
 have hn:=h n
 cases hF:F n with
 |none=>
  rw[hF] at hn
  rw[putE]
  rw[findE_app hn,h m]
  by_cases hm:m=n<;>simp[hm]
 |some y=>
  rw[hF] at hn
  rw[putE,findE_upd hn,h m]
  by_cases hm:m=n<;>simp[hm]
def EsClo (es:List (AV×AV)):Prop:=∀ p,p∈es→p.1.clo=true∧p.2.clo=true
theorem EsClo.nil:EsClo []:=fun _ h=>(by cases h)
theorem EsClo.put {es:List (AV×AV)} (h:EsClo es) (n:Int) {x:AV} (hx:x.clo=true) (r:Option AV):EsClo (putE .i64 n x es r):=by
 cases r with
 |none=>
  intro p hp
  rcases List.mem_append.1 hp with hp|hp
  ·exact h p hp
  ·rw[List.mem_singleton.1 hp];exact⟨rfl,hx⟩
 |some y=>
  show EsClo (updE .i64 n x es)
  clear y
  induction es with
  |nil=>exact h
  |cons q es ih=>
   have h1:=h q (by simp)
   have h2:=ih fun p hp=>h p (List.mem_cons_of_mem _ hp)
   obtain⟨z,v⟩:=q
   intro p hp
   cases z<;>simp only[updE] at hp<;>(try split at hp)<;>(rcases List.mem_cons.1 hp with e|e<;>first|(rw[e];exact h1)|(rw[e];exact⟨rfl,hx⟩)|exact h2 p e|exact h p (List.mem_cons_of_mem _ e))
theorem EsClo.ren {es:List (AV×AV)} (h:EsClo es) (m:Nat→Nat):es.map (fun p=>(p.1.ren m,p.2.ren m))=es:=by
 induction es with
 |nil=>rfl
 |cons q es ih=>
  rw[List.map_cons,ih fun p hp=>h p (List.mem_cons_of_mem _ hp),clo_ren (h q (by simp)).1,clo_ren (h q (by simp)).2]
open Go
variable {P:Program} {E:En} {ρ:Nat→Ref} {V:Nat→Prop} {Z:Nat→Nat→Prop} {σ:St} {a:Act} {w:World}
theorem ACall.of_bodyRM {f : FuncId} {fn : Func} {c : Code} {vs : List AV} {hp : Nat → Option AObj} {nx np : Nat} {R Rp : AV → (Nat → Option AObj) → Prop} (hf : P.funcs[f]? = some fn) (hfn : isFn P f = true) (hb : fn.body = some c) (hn : vs.length ≤ fn.ntmps)
    (h:∀ (E:En) (Q:AEx→St→Prop),E.nt=fn.ntmps→E.np=np→(E.rd=none∧E.mks=true∧E.ex=true)→(∀ σ,(∃ r m hc nc,resA P fn.results.toList σ=some (r.ren m)∧r.ids (· <nc)∧Ent np m σ ⟨fun _=>none,hc,nc⟩∧R r hc)→Q .ret σ∧Q .norm σ)→
      (∀ x σ,(∃ y m hc nc,x=y.ren m∧y.ids (· <nc)∧Ent np m σ ⟨fun _=>none,hc,nc⟩∧Rp y hc)→Q (.pan x) σ)→AW P E c Q ⟨mkPar 0 vs,hp,nx⟩):ACall P f vs hp nx np R Rp:=by
  refine⟨hfn,fun ρ V Z w args hh hnp hnx hsz hrel=>?_⟩
  have hsat:=sat_start (nx:=nx) hn hh hnp hsz hrel
  have hbody:=h _ (fun e σ=>match e with| .ret| .norm=>∃ r m hc nc,resA P fn.results.toList σ=some (r.ren m)∧r.ids (· <nc)∧Ent np m σ ⟨fun _=>none,hc,nc⟩∧R r hc| .pan x=>∃ y m hc nc,x=y.ren m∧y.ids (· <nc)∧Ent np m σ ⟨fun _=>none,hc,nc⟩∧Rp y hc| .exit _=>False) rfl rfl ⟨rfl,rfl,rfl⟩ (fun σ hσ=>⟨hσ,hσ⟩) (fun x σ hσ=>hσ) ρ V Z _ w hsat hnx
  refine calls_of_sat hf hb rfl rfl hbody ?_ ?_ (fun j σ h=>h)
  · rintro ρ' V' Z' σ a w' h3 hq _
    obtain⟨r,m,hc,nc,hr,hid,he,hR⟩:∃ r m hc nc,resA P fn.results.toList σ=some (r.ren m)∧r.ids (· <nc)∧Ent np m σ ⟨fun _=>none,hc,nc⟩∧R r hc:=hq.elim (fun h=>h) (fun h=>h)
    obtain⟨v,hv1,hv2⟩:=results_run h3 hr
    have h5:=h3.ent he
    exact⟨v,hv1,_,_,Z',hc,h5.hs,h5.ext,h5.pn,h5.z0,h5.zn,h5.ownd,.inl ⟨v,r,rfl,rel_ren m r v hid hv2,hR⟩⟩
  · rintro ρ' V' Z' σ a w' v x h3 hv ⟨y,m,hc,nc,rfl,hid,he,hR⟩
    have h5:=h3.ent he
    exact⟨_,_,Z',hc,h5.hs,h5.ext,h5.pn,h5.z0,h5.zn,h5.ownd,.inr ⟨v,y,rfl,rel_ren m y v hid hv,hR⟩⟩
theorem ACall.of_bodyR {f : FuncId} {fn : Func} {c : Code} {vs : List AV} {hp : Nat → Option AObj} {nx np : Nat} {R Rp : AV → (Nat → Option AObj) → Prop} (hf : P.funcs[f]? = some fn) (hfn : isFn P f = true) (hb : fn.body = some c) (hn : vs.length ≤ fn.ntmps)
    (h:∀ (E:En) (Q:AEx→St→Prop),E.nt=fn.ntmps→E.np=np→(∀ σ,(∃ r m hc nc,resA P fn.results.toList σ=some (r.ren m)∧r.ids (· <nc)∧Ent np m σ ⟨fun _=>none,hc,nc⟩∧R r hc)→Q .ret σ∧Q .norm σ)→
      (∀ x σ,(∃ y m hc nc,x=y.ren m∧y.ids (· <nc)∧Ent np m σ ⟨fun _=>none,hc,nc⟩∧Rp y hc)→Q (.pan x) σ)→AW P E c Q ⟨mkPar 0 vs,hp,nx⟩):ACall P f vs hp nx np R Rp:=
  ACall.of_bodyRM hf hfn hb hn fun E Q h1 h2 _=>h E Q h1 h2
mutual
theorem ids_imp {p q:Nat→Prop} (h:∀ i,p i→q i):∀ {x:AV},x.ids p→x.ids q
 | .ptr _ _,hx| .rptr _ _ _ _,hx| .rw _,hx| .mp _,hx=>h _ hx
 | .fn f a b,hx=>⟨idsL_imp h hx.1,idsL_imp h hx.2⟩
 | .iface t v,hx=>ids_imp h (x:=v) hx
 | .agg l,hx=>idsL_imp h (l:=l) hx
 | .tup l,hx=>idsL_imp h (l:=l) hx
 | .bool _,_| .int _ _,_| .str _,_| .nilp,_| .eptr _ _,_| .nilsl,_| .sl _,_| .nilmap,_| .nilfn,_| .nilif,_=>trivial
theorem idsL_imp {p q:Nat→Prop} (h:∀ i,p i→q i):∀ {l:List AV},AV.idsL p l→AV.idsL q l
 | [],_=>trivial
 |x::l,hx=>⟨ids_imp h hx.1,idsL_imp h hx.2⟩
end
mutual
theorem ren_cong {p:Nat→Prop} {m m':Nat→Nat} (h:∀ i,p i→m i=m' i):∀ {x:AV},x.ids p→x.ren m=x.ren m'
 | .ptr i o,hx=>by simp only[AV.ren,h i hx]
 | .rptr i _ _ _,hx=>by simp only[AV.ren,h i hx]
 | .rw i,hx=>by simp only[AV.ren,h i hx]
 | .mp i,hx=>by simp only[AV.ren,h i hx]
 | .fn f a b,hx=>by simp only[AV.ren,renL_cong h hx.1,renL_cong h hx.2]
 | .iface t v,hx=>by simp only[AV.ren,ren_cong h (x:=v) hx]
 | .agg l,hx=>by simp only[AV.ren,renL_cong h (l:=l) hx]
 | .tup l,hx=>by simp only[AV.ren,renL_cong h (l:=l) hx]
 | .bool _,_| .int _ _,_| .str _,_| .nilp,_| .eptr _ _,_| .nilsl,_| .sl _,_| .nilmap,_| .nilfn,_| .nilif,_=>rfl
theorem renL_cong {p:Nat→Prop} {m m':Nat→Nat} (h:∀ i,p i→m i=m' i):∀ {l:List AV},AV.idsL p l→AV.renL m l=AV.renL m' l
 | [],_=>rfl
 |x::l,hx=>by simp only[AV.renL,ren_cong h hx.1,renL_cong h hx.2]
end
theorem oren_congr {p:Nat→Prop} {m m':Nat→Nat} (h:∀ i,p i→m i=m' i) {o:AObj} (ho:o.ids p):o.ren m=o.ren m':=by
 cases o with
 |cells l=>simp only[AObj.ren,renL_cong h ho]
 |row sz l=>simp only[AObj.ren,renL_cong h ho]
 |map es=>
  simp only[AObj.ren,AObj.map.injEq]
  refine List.map_congr_left fun q hq=>?_
  rw[ren_cong h (ho q hq).1,ren_cong h (ho q hq).2]
 |lp q l=>simp only[AObj.ren,renL_cong h ho]
end Go.Am
