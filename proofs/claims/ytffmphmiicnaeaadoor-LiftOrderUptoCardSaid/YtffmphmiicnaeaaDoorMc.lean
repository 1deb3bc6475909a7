/- A part of the proof: an abstract machine for the walks, and what the walked functions compute. -/
import Derived.WalkLawsBesides
import Derived.Laws.StructEq
import Derived.ChangeKeysEq
import Derived.MapKept
import Derived.Laws.BytesString
import Derived.Test.YtffmphmiicnaeaaDoorMb
set_option linter.unusedVariables false
set_option linter.unusedSimpArgs false
namespace Go.Am
variable {P:Program} {E:En} {ρ:Nat→Ref} {V:Nat→Prop} {Z:Nat→Nat→Prop} {σ:St} {a:Act} {w:World}
def CR (ρ:Nat→Ref) (V:Nat→Prop) (Z:Nat→Nat→Prop) (w:World) (cs:Array Value) (l:List AV):Prop:=
 cs.size=l.length∧∀ i,i<l.length→(l.getD i default).one=true∧Rel ρ V Z w (cs.getD i undef) (l.getD i default)
theorem foldl_set_getD (vs : List Value) : ∀ (cs : Array Value) (off : Nat), off + vs.length ≤ cs.size →
    let r:=(vs.zipIdx).foldl (fun(cs:Array Value) (x:Value×Nat)=>cs.setIfInBounds (off+x.2) x.1) cs
    r.size=cs.size∧∀ k,r.getD k undef=if off≤k∧k<off+vs.length then vs.getD (k - off) undef else cs.getD k undef:=by
  have key:∀ (vs:List Value) (j:Nat) (cs:Array Value) (off:Nat),off+j+vs.length≤cs.size→
    let r:=(vs.zipIdx j).foldl (fun(cs:Array Value) (x:Value×Nat)=>cs.setIfInBounds (off+x.2) x.1) cs
    r.size=cs.size∧∀ k,r.getD k undef=if off+j≤k∧k<off+j+vs.length then vs.getD (k - (off+j)) undef else cs.getD k undef:=by
    intro vs
    induction vs with
    |nil=>intro j cs off h;exact⟨rfl,fun k=>by rw[if_neg (by simp)];rfl⟩
    |cons v vs ih=>
      intro j cs off h
      simp only[List.length_cons] at h
      have:=ih (j+1) (cs.setIfInBounds (off+j) v) off (by simp;omega)
      simp only[List.zipIdx_cons,List.foldl_cons]
      refine⟨by rw[this.1];simp,fun k=>?_⟩
      rw[this.2 k]
      by_cases hk:k=off+j
      · subst hk
        rw[if_neg (by omega),if_pos (by simp)]
        have:off+j<cs.size:=by omega
        simp[Array.getD,this]
      · have e1 : (cs.setIfInBounds (off + j) v).getD k undef = cs.getD k undef := by
          simp[Array.getD_eq_getD_getElem?,Array.getElem?_setIfInBounds_ne (Ne.symm hk)]
        rw[e1]
        by_cases hk2:off+(j+1)≤k∧k<off+(j+1)+vs.length
        · rw[if_pos hk2,if_pos (by simp;omega),show k - (off+j)=(k - (off+(j+1)))+1 by omega]
          simp
        · rw[if_neg hk2,if_neg (by simp;omega)]
  intro cs off h
  simpa using key vs 0 cs off (by simpa using h)
theorem one_of_notTup {v:Value} {x:AV} (hv:Rel ρ V Z w v x) (ht:x.isTup=false):∀ j,j<x.cells.length→(x.cells.getD j default).one=true:=by
 intro j hj
 by_cases hx:∃ l,x= .agg l
 ·obtain⟨l,rfl⟩:=hx
  obtain⟨_,_,_,h1,_⟩:=hv.agg_inv
  exact h1 j hj
 ·have hx':∀ l,x≠ .agg l:=fun l hl=>hx ⟨l,hl⟩
  rw[AV.cells_one hx'] at hj ⊢
  obtain rfl:j=0:=by simp only[List.length_cons,List.length_nil] at hj;omega
  cases x<;>first|rfl|exact absurd rfl (hx' _)|cases ht
theorem CR.spl {cs : Array Value} {l : List AV} (h : CR ρ V Z w cs l) {v : Value} {x : AV} (hv : Rel ρ V Z w v x) (ht : x.isTup = false) {off : Nat} (hle : off + x.cells.length ≤ l.length) :
    CR ρ V Z w (v.cells.zipIdx.foldl (fun cs (c,j)=>cs.setIfInBounds (off+j) c) cs) (spl l off x.cells):=by
  obtain⟨h1,h2⟩:=hv.cells
  have e0:(v.cells.zipIdx.foldl (fun cs (c,j)=>cs.setIfInBounds (off+j) c) cs)=(v.cells.toList.zipIdx).foldl (fun(cs:Array Value) (x:Value×Nat)=>cs.setIfInBounds (off+x.2) x.1) cs:=by
    rw[← Array.foldl_toList]
    simp[Array.toList_zipIdx]
  rw[e0]
  have:=foldl_set_getD v.cells.toList cs off (by simp;have:=h.1;omega)
  obtain⟨g1,g2⟩:=this
  refine⟨by rw[g1,h.1,spl_len hle],fun i hi=>?_⟩
  rw[spl_len hle] at hi
  rw[g2,spl_getD hle]
  simp only[Array.length_toList,h1]
  split
  · rename_i hc
    refine⟨one_of_notTup hv ht _ (by omega),?_⟩
    have:=h2 (i - off) (by omega)
    simpa [List.getD_eq_getElem?_getD,Array.getD_eq_getD_getElem?] using this
  · exact h.2 i hi
theorem fill_ok (place : Nat → Option (Nat × Nat)) (fs : List (TypeId × Nat)) (hpl : ∀ (i : Nat) (t : TypeId) (off : Nat) (T : TI), fs[i]? = some (t, off) → ti P t = some T → place i = some (off, T.size)) :
    ∀ (parts:List (Nat×Value)) (is:List Nat) (vs:List AV) (cs:Array Value) (l l':List AV),CR ρ V Z w cs l→parts.map (·.1)=is→vs.length=parts.length→
      (∀ i,i<vs.length→Rel ρ V Z w ((parts.map (·.2)).getD i undef) (vs.getD i default))→fillA P fs l (is.zip vs)=some l'→
      ∃ cs',Instr.fill place cs parts=some cs'∧CR ρ V Z w cs' l':=by
  intro parts
  induction parts with
  |nil=>
    intro is vs cs l l' hcr his hvs hrel hf
    simp at his
    subst his
    simp[fillA] at hf
    subst hf
    exact⟨cs,rfl,hcr⟩
  |cons p parts ih=>
    intro is vs cs l l' hcr his hvs hrel hf
    obtain⟨i,v⟩:=p
    cases vs with
    |nil=>simp at hvs
    |cons x vs=>
      simp at his
      subst his
      simp only[List.zip_cons_cons,fillA] at hf
      cases hfi:fs[i]? with
      |none=>simp[hfi] at hf
      |some tf=>
        obtain⟨t,off⟩:=tf
        simp only[hfi] at hf
        cases hT:ti P t with
        |none=>simp[hT] at hf
        |some T=>
          simp only[hT] at hf
          split at hf
          · rename_i hc
            obtain⟨hc1,hc2,hc3⟩:=hc
            have hv:Rel ρ V Z w v x:=by simpa using hrel 0 (by simp)
            have hpl':=hpl i t off T hfi hT
            have hvs':v.cells.size=T.size:=by rw[hv.cells.1,hc1]
            obtain⟨cs',r1,r2⟩:=ih _ vs _ _ l' (hcr.spl hv hc3 (by omega)) rfl (by simpa using hvs) (fun k hk=>by simpa using hrel (k+1) (by simpa using hk)) hf
            refine⟨cs',?_,r2⟩
            simp only[Instr.fill,hpl']
            rw[if_neg (by
              have:=hcr.1
              simp only[ne_eq,Bool.or_eq_true,bne_iff_ne,decide_eq_true_eq,not_or]
              omega)]
            exact r1
          · cases hf
theorem zero_CR {z:Value} {zs:List AV} (h:z.cells.toList.mapM avOf1=some zs):CR ρ V Z w z.cells zs:=cells_avOf1 h
theorem run_mapM_fields {fs : List Field} (h : ∀ f ∈ fs, ∃ T, ti P f.type = some T) :
    (fs.toArray.mapM fun f=>(do pure (f.offset, ← sizeOf f.type):Sem (Nat×Nat))).run P w= .ok (fs.map fun f=>(f.offset,((ti P f.type).map (·.size)).getD 0)).toArray w:=by
  have key:∀ (l:List Field),(∀ f∈l,∃ T,ti P f.type=some T)→(l.mapM fun f=>(do pure (f.offset, ← sizeOf f.type):Sem (Nat×Nat))).run P w= .ok (l.map fun f=>(f.offset,((ti P f.type).map (·.size)).getD 0)) w:=by
    intro l
    induction l with
    |nil=>intro _;rfl
    |cons f l ih=>
      intro h
      obtain⟨T,hT⟩:=h f (by simp)
      rw[List.mapM_cons]
      simp only[Sem.run_bind,run_sizeOf hT,Result.andThen_ok,Sem.run_pure,ih (fun g hg=>h g (List.mem_cons_of_mem _ hg))]
      simp[hT]
  have e:=List.mapM_toArray (m:=Sem) (l:=fs) (f:=fun f=>(do pure (f.offset, ← sizeOf f.type):Sem (Nat×Nat)))
  rw[e]
  simp only[Sem.run_map,key fs h,Result.andThen_ok]
theorem ok_build (h : Sat E ρ V Z σ a w) {o : Oper} (hd : ∀ n, o.dst = some n → n < E.nt) {id : Nat} {t : TypeId} {T : TI} {fs : List (TypeId × Nat)} {zs : List AV} (hT : ti P t = some T) (hk : T.k = .struct fs) (hz : T.zero = some zs)
    (hall:fs.all (fun f=>(ti P f.1).isSome)=true) {ps:Array (Nat×Operand)} {vs:List AV} {l:List AV} (hvs:(ps.toList.map (·.2)).mapM (evA σ)=some vs) (hf:fillA P fs zs ((ps.toList.map (·.1)).zip vs)=some l)
    (hrun:execOp a.eval o=(do pure (Next.value (← Instr.build t (ps.map fun(i,x)=>(i,a.eval x)))))):OpOk P E o σ a w V Z id (.val (.agg l)):=by
  obtain⟨z,hz1,hz2⟩:=run_zero (w:=w) hT hz
  obtain⟨u,hu1,hu2⟩:=run_underlying (w:=w) hT
  rw[hk] at hu2
  obtain⟨gs,rfl,hfs⟩:=tk_struct hu2
  have hgs:∀ f∈gs.toList,∃ T,ti P f.type=some T:=by
    intro f hf
    rw[hfs,List.all_eq_true] at hall
    have:=hall (f.type,f.offset) (List.mem_map.2 ⟨f,hf,rfl⟩)
    exact Option.isSome_iff_exists.1 this
  have hpl:∀ (i:Nat) (t:TypeId) (off:Nat) (T:TI),fs[i]? =some (t,off)→ti P t=some T→((gs.toList.map fun f=>(f.offset,((ti P f.type).map (·.size)).getD 0)).toArray)[i]? =some (off,T.size):=by
    intro i t off T h1 h2
    rw[hfs,List.getElem?_map] at h1
    cases hg:gs.toList[i]? with
    |none=>simp[hg] at h1
    |some g=>
      simp only[hg,Option.map_some,Option.some.injEq,Prod.mk.injEq] at h1
      obtain⟨rfl,rfl⟩:=h1
      simp[← Array.getElem?_toList,hg,h2]
  have hev:∀ (l:List (Nat×Operand)) (vs:List AV),(l.map (·.2)).mapM (evA σ)=some vs→vs.length=l.length∧∀ i,i<vs.length→Rel ρ V Z w (((l.map fun(i,x)=>(i,a.eval x)).map (·.2)).getD i undef) (vs.getD i default):=by
    intro l
    induction l with
    |nil=>intro vs hvs;simp at hvs;subst hvs;exact⟨rfl,fun i hi=>absurd hi (Nat.not_lt_zero _)⟩
    |cons p l ih=>
      intro vs hvs
      simp only[List.map_cons,List.mapM_cons] at hvs
      cases h1:evA σ p.2 with
      |none=>simp[h1] at hvs
      |some x=>
        cases h2:(l.map (·.2)).mapM (evA σ) with
        |none=>simp[h1,h2] at hvs
        |some ys=>
          simp[h1,h2] at hvs
          subst hvs
          obtain⟨g1,g2⟩:=ih ys h2
          refine⟨by simp[g1],fun i hi=>?_⟩
          cases i with
          |zero=>simpa using ev_rel h h1
          |succ i=>simpa using g2 i (by simpa using hi)
  obtain⟨hl1,hl2⟩:=hev _ _ hvs
  obtain⟨cs',r1,r2⟩:=fill_ok (P:=P) _ fs hpl (ps.toList.map fun(i,x)=>(i,a.eval x)) (ps.toList.map (·.1)) vs z.cells zs l (zero_CR (ρ:=ρ) (V:=V) (Z:=Z) (w:=w) hz2) (by simp) (by simpa using hl1) hl2 hf
  have hr:(Instr.build t (ps.map fun(i,x)=>(i,a.eval x))).run P w= .ok (.agg cs') w:=by
    have hm:=run_mapM_fields (P:=P) (w:=w) hgs
    unfold Instr.build
    simp only[Sem.run_bind,hz1,hu1,Result.andThen_ok]
    simp only[Array.toArray_toList] at hm
    rw[hm]
    simp only[Result.andThen_ok,Array.toList_map]
    rw[show(fun x=>((gs.toList.map fun f=>(f.offset,((ti P f.type).map (·.size)).getD 0)).toArray)[x]?)=(fun i=>((gs.toList.map fun f=>(f.offset,((ti P f.type).map (·.size)).getD 0)).toArray)[i]?) from rfl,r1]
    simp
  exact ok_val h hd (by rw[hrun,run_value hr]) (.agg _ _ r2.1 (fun i hi=>(r2.2 i hi).1) (fun i hi=>(r2.2 i hi).2))
theorem ok_buildA (h : Sat E ρ V Z σ a w) {o : Oper} (hd : ∀ n, o.dst = some n → n < E.nt) {id : Nat} {t e : TypeId} {T Te : TI} {n : Nat} {zs : List AV} (hT : ti P t = some T) (hk : T.k = .array n e) (hz : T.zero = some zs)
    (hTe:ti P e=some Te) {ps:Array (Nat×Operand)} {vs:List AV} {l:List AV} (hvs:(ps.toList.map (·.2)).mapM (evA σ)=some vs) (hf:fillA P (arL e Te.size n 0) zs ((ps.toList.map (·.1)).zip vs)=some l)
    (hrun:execOp a.eval o=(do pure (Next.value (← Instr.build t (ps.map fun(i,x)=>(i,a.eval x)))))):OpOk P E o σ a w V Z id (.val (.agg l)):=by
  obtain⟨z,hz1,hz2⟩:=run_zero (w:=w) hT hz
  obtain⟨u,hu1,hu2⟩:=run_underlying (w:=w) hT
  rw[hk] at hu2
  obtain rfl:=tk_array hu2
  have hpl:∀ (i:Nat) (t:TypeId) (off:Nat) (T:TI),(arL e Te.size n 0)[i]? =some (t,off)→ti P t=some T→(fun i=>some (i*Te.size,Te.size)) i=some (off,T.size):=by
    intro i t off T h1 h2
    obtain⟨rfl,rfl⟩:=arL_get h1
    rw[hTe] at h2
    cases h2
    simp
  have hev:∀ (l:List (Nat×Operand)) (vs:List AV),(l.map (·.2)).mapM (evA σ)=some vs→vs.length=l.length∧∀ i,i<vs.length→Rel ρ V Z w (((l.map fun(i,x)=>(i,a.eval x)).map (·.2)).getD i undef) (vs.getD i default):=by
    intro l
    induction l with
    |nil=>intro vs hvs;simp at hvs;subst hvs;exact⟨rfl,fun i hi=>absurd hi (Nat.not_lt_zero _)⟩
    |cons p l ih=>
      intro vs hvs
      simp only[List.map_cons,List.mapM_cons] at hvs
      cases h1:evA σ p.2 with
      |none=>simp[h1] at hvs
      |some x=>
        cases h2:(l.map (·.2)).mapM (evA σ) with
        |none=>simp[h1,h2] at hvs
        |some ys=>
          simp[h1,h2] at hvs
          subst hvs
          obtain⟨g1,g2⟩:=ih ys h2
          refine⟨by simp[g1],fun i hi=>?_⟩
          cases i with
          |zero=>simpa using ev_rel h h1
          |succ i=>simpa using g2 i (by simpa using hi)
  obtain⟨hl1,hl2⟩:=hev _ _ hvs
  obtain⟨cs',r1,r2⟩:=fill_ok (P:=P) _ (arL e Te.size n 0) hpl (ps.toList.map fun(i,x)=>(i,a.eval x)) (ps.toList.map (·.1)) vs z.cells zs l (zero_CR (ρ:=ρ) (V:=V) (Z:=Z) (w:=w) hz2) (by simp) (by simpa using hl1) hl2 hf
  have hr:(Instr.build t (ps.map fun(i,x)=>(i,a.eval x))).run P w= .ok (.agg cs') w:=by
    unfold Instr.build
    simp only[Sem.run_bind,hz1,hu1,Result.andThen_ok,run_sizeOf hTe]
    simp only[Array.toList_map]
    rw[r1]
    simp
  exact ok_val h hd (by rw[hrun,run_value hr]) (.agg _ _ r2.1 (fun i hi=>(r2.2 i hi).1) (fun i hi=>(r2.2 i hi).2))
end Go.Am

namespace Go.Am
variable {P:Program} {E:En} {ρ:Nat→Ref} {V:Nat→Prop} {Z:Nat→Nat→Prop} {σ:St} {a:Act} {w:World}
theorem ok_row (h : Sat E ρ V Z σ a w) {o : Oper} (hd : ∀ n, o.dst = some n → n < E.nt) {id : Nat} (hid : ¬ V id) {e : TypeId} {sz cap : Nat} {l : List AV} {cs : Array Value} {s : Sem Value}
    (hc:Cells ρ V Z w cs 0 sz l) (hle:l.length≤cap) (hsz:cs.size=cap*sz)
    (hs:s.run P w= .ok (.slice (some ⟨w.heap.size,0,none⟩) l.length cap) { w with heap:=w.heap.push (.cells cs e) })
    (hrun:execOp a.eval o=(do pure (Next.value (← s)))):OpOk P E o σ a w V Z id (.new (.row sz l) .rw):=by
  have hne:∀ i,V i→i≠id:=fun i hi e=>hid (e▸hi)
  refine⟨_,_,_,fun i=>if i=id then⟨w.heap.size,l.length,cap,false,0⟩ else ρ i,fun i=>V i∨i=id,by rw[hrun,run_value hs],.inl rfl,fun _ h=> .inl h,fun _ h=>h,?_⟩
  refine h.alloc (o:= .row sz l) hd ⟨w.heap.size,l.length,cap,false,0⟩ rfl hid (fun c t f hc=>by cases hc;rfl) ?_ ?_
  · refine ObjRel.of_cells0 (by simp) (cs:=cs) (ty:=e) (by simp) (by simp) (by simpa using hle) (by simpa using hsz) (hc.mono fun v x hr=>hr.mono (fun i hi=>if_neg (hne i hi)) (fun _ h=> .inl h) (fun _ _ h=>h) ?_)
    intro b o hz
    refine cell?_of_heap ?_
    show(w.heap.push _)[b]? =_
    have:=h.hs.lt b o hz
    rw[Array.getElem?_push,if_neg (by omega)]
  · have:=Rel.rw (ρ:=fun i=>if i=id then(⟨w.heap.size,l.length,cap,false,0⟩:Ref) else ρ i) (V:=fun i=>V i∨i=id) (Z:=Z) (w:= { w with heap:=w.heap.push (.cells cs e) }) id (.inr rfl)
    simpa [Ref.slice] using this
theorem ok_makeSlice (h : Sat E ρ V Z σ a w) {o : Oper} (hd : ∀ n, o.dst = some n → n < E.nt) {id : Nat} (hid : ¬ V id) {t e : TypeId} {T Te : TI} (hT : ti P t = some T) (hk : T.k = .slice e) (hTe : ti P e = some Te)
    {zs:List AV} (hz:Te.zero=some zs) (hzl:zs.length=Te.size) (hek:Te.k.isAgg=true∨Te.size=1) {n c:Int} {k k':IntKind} (h0:0≤n) (h1:n≤c) (h2:c≤2 ^ 46) (h3:c*Te.bytes≤2 ^ 48) {vn vc:Value}
    (hn:Rel ρ V Z w vn (.int k n)) (hc:Rel ρ V Z w vc (.int k' c))
    (hrun:execOp a.eval o=(do pure (Next.value (← Instr.makeSlice t vn vc)))):OpOk P E o σ a w V Z id (.new (.row Te.size (List.replicate n.toNat (mkElem Te zs))) .rw):=by
  obtain⟨i,hi1,hi2,hi3,_⟩:=run_typeInfo (w:=w) hTe
  obtain⟨z,hz1,hz2⟩:=run_zero (w:=w) hTe hz
  have hzs:z.cells.size=Te.size:=by have:=(mapM_avOf1 _ _ hz2).1;simp at this;omega
  have hus:=run_underlying_slice (w:=w) hT hk
  rw[hn.int_inv,hc.int_inv] at hrun
  have hw1:IntKind.i64.wrap n=n:=IntWalk.i64_in _ (by omega)
  have hw2:IntKind.i64.wrap c=c:=IntWalk.i64_in _ (by omega)
  let cs:Array Value:=(Array.range (c.toNat*Te.size)).map fun j=>(if c.toNat*Te.size=0 then #[] else z.cells)[j % (if c.toNat*Te.size=0 then #[] else z.cells).size]!
  have hget:∀ q,q<c.toNat*Te.size→cs.getD q undef=z.cells.getD (q % Te.size) undef:=by
    intro q hq
    have hne:c.toNat*Te.size≠0:=by omega
    have hs0:0<Te.size:=Nat.pos_of_ne_zero (fun e=>hne (by rw[e];simp))
    have hm:q % Te.size<Te.size:=Nat.mod_lt _ hs0
    have e1:cs.getD q undef=z.cells[q % z.cells.size]! :=by
      show((Array.range (c.toNat*Te.size)).map _).getD q undef=_
      simp only[hne,if_false]
      simp[Array.getD,hq]
    rw[e1,hzs]
    simp[Array.getD,hzs,hm]
  refine ok_row h hd hid (e:=e) (cap:=c.toNat) (cs:=cs) ?_ (by simp;omega) (by simp[cs]) ?_ hrun
  · refine zero_cells hz2 hzl hek n.toNat cs (fun q hq=>hget q (Nat.lt_of_lt_of_le hq (Nat.mul_le_mul_right _ (by omega))))
  · have hbig:¬ ((i.bytes:Int)*c>2 ^ 48):=by rw[hi3,Int.mul_comm];omega
    have hcond:(decide (c<0)||decide ((i.bytes:Int)*c>2 ^ 48)||decide (n<0)||decide (n>c))=false:=by
      simp only[Bool.or_eq_false_iff,decide_eq_false_iff_not]
      exact⟨⟨⟨by omega,hbig⟩,by omega⟩,by omega⟩
    unfold Instr.makeSlice
    simp only[Sem.run_bind,hus,Result.andThen_ok,asInt,asIntOf,Sem.run_pure,hi1,hw1,hw2,Sem.run_ite]
    rw[if_neg (by simpa using hcond)]
    simp only[run_askRoom,Result.andThen_ok,run_sizeOf hTe,Sem.run_bind,Sem.run_ite,Sem.run_pure,hz1,newRow,run_newObj]
    have hlen:(List.replicate n.toNat (mkElem Te zs)).length=n.toNat:=by simp
    rw[hlen]
    by_cases hz0:c.toNat*Te.size=0
    · simp only[hz0,if_true,Result.andThen_ok,newRow,run_newObj,Sem.run_bind,Sem.run_pure]
      simp[cs,hz0]
    · simp only[hz0,if_false,Result.andThen_ok,newRow,run_newObj,Sem.run_bind,Sem.run_pure]
      simp[cs,hz0]
theorem flat_getD {sz : Nat} : ∀ {l : List AV}, (∀ i, i < l.length → (l.getD i default).cells.length = sz) → (l.flatMap AV.cells).length = l.length * sz ∧
    ∀ i j,i<l.length→j<sz→(l.flatMap AV.cells).getD (i*sz+j) default=(l.getD i default).cells.getD j default
  | [],_=>⟨by simp,fun i j hi=>absurd hi (Nat.not_lt_zero _)⟩
  |x::l,h=>by
    have hx:x.cells.length=sz:=by simpa using h 0 (by simp)
    obtain⟨h1,h2⟩:=flat_getD (l:=l) (fun i hi=>by simpa using h (i+1) (by simpa using hi))
    refine⟨by simp[h1,hx,Nat.add_mul,Nat.add_comm],fun i j hi hj=>?_⟩
    cases i with
    |zero=>
      simp only[List.flatMap_cons,Nat.zero_mul,Nat.zero_add,List.getD_eq_getElem?_getD]
      rw[List.getElem?_append_left (by omega)]
      rfl
    |succ i=>
      have:=h2 i j (by simpa using hi) hj
      rw[List.getD_eq_getElem?_getD] at this
      rw[List.getD_cons_succ, ← this,List.flatMap_cons,List.getD_eq_getElem?_getD,List.getElem?_append_right (by rw[hx,Nat.add_mul];omega)]
      congr 2
      rw[hx,Nat.add_mul];omega
theorem fill_seq {sz : Nat} : ∀ (parts : List Value) (xs : List AV) (k : Nat) (cs : Array Value) (done rest : List AV), CR ρ V Z w cs (done ++ rest) → done.length = k * sz → rest.length = parts.length * sz →
    parts.length=xs.length→(∀ i,i<xs.length→Rel ρ V Z w (parts.getD i undef) (xs.getD i default))→(∀ i,i<xs.length→(xs.getD i default).cells.length=sz∧(xs.getD i default).isTup=false)→
    ∃ cs',Instr.fill (fun i=>some (i*sz,sz)) cs (parts.zipIdx k |>.map fun p=>(p.2,p.1))=some cs'∧CR ρ V Z w cs' (done++xs.flatMap AV.cells)
  | [],[],k,cs,done,rest,hcr,hdl,hrl,hpx,hrel,hsz=>by
    simp at hrl
    subst hrl
    exact⟨cs,rfl,by simpa using hcr⟩
  | [],_::_,_,_,_,_,_,_,_,h,_,_=>by simp at h
  |_::_,[],_,_,_,_,_,_,_,h,_,_=>by simp at h
  |p::parts,x::xs,k,cs,done,rest,hcr,hdl,hrl,hpx,hrel,hsz=>by
    have hx:=hsz 0 (by simp)
    have hr:=hrel 0 (by simp)
    simp only[List.getD_cons_zero] at hx hr
    simp only[List.length_cons,Nat.add_mul,Nat.one_mul] at hrl
    have hps:p.cells.size=sz:=by rw[hr.cells.1,hx.1]
    have hcr':=hcr.spl (off:=k*sz) hr hx.2 (by simp only[List.length_append];omega)
    have e1:spl (done++rest) (k*sz) x.cells=(done++x.cells)++rest.drop sz:=by
      unfold spl
      rw[← hdl,List.take_left',List.drop_append,List.drop_eq_nil_of_le (by omega)]
      · simp only[List.nil_append,List.append_assoc]
        congr 2
        congr 1
        omega
      · rfl
    rw[e1] at hcr'
    obtain⟨cs',r1,r2⟩:=fill_seq (sz:=sz) parts xs (k+1) _ (done++x.cells) (rest.drop sz) hcr' (by simp[hdl,hx.1,Nat.add_mul]) (by simp;omega) (by simpa using hpx)
      (fun i hi=>by simpa using hrel (i+1) (by simpa using hi)) (fun i hi=>by simpa using hsz (i+1) (by simpa using hi))
    refine⟨cs',?_,by simpa using r2⟩
    simp only[List.zipIdx_cons,List.map_cons,Instr.fill]
    rw[if_neg (by
      have:=hcr.1
      simp only[List.length_append] at this
      simp only[ne_eq,Bool.or_eq_true,bne_iff_ne,decide_eq_true_eq,not_or]
      omega)]
    exact r1
theorem ok_buildSlice (h : Sat E ρ V Z σ a w) {o : Oper} (hd : ∀ n, o.dst = some n → n < E.nt) {id : Nat} (hid : ¬ V id) {t e : TypeId} {T Te : TI} (hT : ti P t = some T) (hk : T.k = .slice e) (hTe : ti P e = some Te)
    {zs:List AV} (hz:Te.zero=some zs) (hzl:zs.length=Te.size) {n:Nat} {ps:Array (Nat×Operand)} {vs:List AV} (hvs:(ps.toList.map (·.2)).mapM (evA σ)=some vs) (hix:ps.toList.map (·.1)=List.range n)
    (hsm:n*Te.size≤2 ^ 24) (hall:vs.all (fun x=>x.cells.length==Te.size&&!x.isTup)=true)
    (hrun:execOp a.eval o=(do pure (Next.value (← Instr.buildSlice t n (ps.map fun(i,x)=>(i,a.eval x)))))):OpOk P E o σ a w V Z id (.new (.row Te.size vs) .rw):=by
  obtain⟨z,hz1,hz2⟩:=run_zero (w:=w) hTe hz
  have hzs:z.cells.size=Te.size:=by have:=(mapM_avOf1 _ _ hz2).1;simp at this;omega
  have hus:=run_underlying_slice (w:=w) hT hk
  have hev:∀ (l:List Operand) (vs:List AV),l.mapM (evA σ)=some vs→vs.length=l.length∧∀ i,i<vs.length→Rel ρ V Z w ((l.map a.eval).getD i undef) (vs.getD i default):=by
    intro l
    induction l with
    |nil=>intro vs hvs;simp at hvs;subst hvs;exact⟨rfl,fun i hi=>absurd hi (Nat.not_lt_zero _)⟩
    |cons p l ih=>
      intro vs hvs
      simp only[List.mapM_cons] at hvs
      cases h1:evA σ p with
      |none=>simp[h1] at hvs
      |some x=>
        cases h2:l.mapM (evA σ) with
        |none=>simp[h1,h2] at hvs
        |some ys=>
          simp[h1,h2] at hvs
          subst hvs
          obtain⟨g1,g2⟩:=ih ys h2
          refine⟨by simp[g1],fun i hi=>?_⟩
          cases i with
          |zero=>simpa using ev_rel h h1
          |succ i=>simpa using g2 i (by simpa using hi)
  obtain⟨hl1,hl2⟩:=hev _ _ hvs
  have hn:ps.toList.length=n:=by have:=congrArg List.length hix;simpa using this
  have hvn:vs.length=n:=by rw[hl1];simpa using hn
  have hsz:∀ i,i<vs.length→(vs.getD i default).cells.length=Te.size∧(vs.getD i default).isTup=false:=by
    intro i hi
    rw[List.all_eq_true] at hall
    have:vs.getD i default=vs[i]:=by simp[List.getD_eq_getElem?_getD,hi]
    rw[this]
    have:=hall _ (List.getElem_mem hi)
    simpa using this
  let z0:Array Value:=if n*Te.size=0 then #[] else z.cells
  let c0:Array Value:=(Array.range (n*Te.size)).map fun j=>z0[j % z0.size]!
  have hget:∀ q,q<n*Te.size→c0.getD q undef=z.cells.getD (q % Te.size) undef:=by
    intro q hq
    have hne:n*Te.size≠0:=by omega
    have hs0:0<Te.size:=Nat.pos_of_ne_zero (fun e=>hne (by rw[e];simp))
    have hm:q % Te.size<Te.size:=Nat.mod_lt _ hs0
    have e1:c0.getD q undef=z.cells[q % z.cells.size]! :=by
      show((Array.range (n*Te.size)).map _).getD q undef=_
      simp only[z0,hne,if_false]
      simp[Array.getD,hq]
    rw[e1,hzs]
    simp[Array.getD,hzs,hm]
  have hcr0:CR ρ V Z w c0 ([]++(List.range (n*Te.size)).map fun q=>zs.getD (q % Te.size) default):=by
    refine⟨by simp[c0],fun i hi=>?_⟩
    simp only[List.nil_append,List.length_map,List.length_range] at hi
    have hs0:0<Te.size:=by
      rcases Nat.eq_zero_or_pos Te.size with h|h
      · rw[h] at hi;simp at hi
      · exact h
    have hg:([]++(List.range (n*Te.size)).map fun q=>zs.getD (q % Te.size) default).getD i default=zs.getD (i % Te.size) default:=by
      simp[List.getD_eq_getElem?_getD,hi]
    rw[hg,hget i hi]
    exact(cells_avOf1 hz2).2 _ (by rw[hzl];exact Nat.mod_lt _ hs0)
  have hpl:(ps.map fun(i,x)=>(i,a.eval x)).toList=((ps.toList.map fun p=>a.eval p.2).zipIdx 0).map fun p=>(p.2,p.1):=by
    apply List.ext_getElem
    · simp
    · intro i h1 h2
      have h3:i<ps.toList.length:=by simpa using h1
      have h4:(ps.toList.map (·.1))[i]'(by simpa using h3)=i:=by simp[hix]
      simp at h4 ⊢
      exact h4
  obtain⟨cs',r1,r2⟩:=fill_seq (sz:=Te.size) (ps.toList.map fun p=>a.eval p.2) vs 0 c0 [] _ hcr0 (by simp) (by simp;rw[← hn];simp) (by simpa using hl1.symm)
    (fun i hi=>by have:=hl2 i hi;simpa [Function.comp_def] using this) hsz
  obtain⟨f1,f2⟩:=flat_getD (fun i hi=>(hsz i hi).1)
  refine ok_row h hd hid (e:=e) (cap:=n) (cs:=cs') (l:=vs) ⟨fun i hi=>(hsz i hi).1,fun i j hi hj=>?_⟩ (by omega) (by rw[r2.1];simp[f1,hvn]) ?_ hrun
  · have:=r2.2 (i*Te.size+j) (by simp only[List.nil_append,f1];exact row_idx hi hj)
    rw[List.nil_append,f2 i j hi hj] at this
    rw[Nat.zero_add]
    exact this
  · have hfill:Instr.fill (fun i=>some (i*Te.size,Te.size)) c0 (ps.map fun(i,x)=>(i,a.eval x)).toList=some cs':=by rw[hpl];exact r1
    unfold Instr.buildSlice
    simp only[Sem.run_bind,hus,Result.andThen_ok,run_sizeOf hTe,Sem.run_ite]
    rw[if_neg (by omega)]
    by_cases hz0:n*Te.size=0
    · have ez:z0= #[]:=by simp[z0,hz0]
      simp only[hz0,if_true,Sem.run_pure,Result.andThen_ok,Sem.run_bind]
      simp only[c0,ez,hz0] at hfill
      rw[hfill]
      simp[newRow,hvn]
    · have ez:z0=z.cells:=by simp[z0,hz0]
      simp only[hz0,if_false,Sem.run_pure,Result.andThen_ok,Sem.run_bind,hz1]
      simp only[c0,ez] at hfill
      rw[hfill]
      simp[newRow,hvn]
end Go.Am

namespace Go.Am
variable {P:Program} {E:En} {ρ:Nat→Ref} {V:Nat→Prop} {Z:Nat→Nat→Prop} {σ:St} {a:Act} {w:World}
theorem ok_fieldAddr (h : Sat E ρ V Z σ a w) {o : Oper} (hd : ∀ n, o.dst = some n → n < E.nt) {id : Nat} {t : TypeId} {T Tf : TI} {fs : List (TypeId × Nat)} {f ft off : Nat} (hT : ti P t = some T) (hk : T.k = .struct fs)
    (hf:fs[f]? =some (ft,off)) (hTf:ti P ft=some Tf) (hsz:Tf.size≠0) {v:Value} {x y:AV} (hv:Rel ρ V Z w v x) (hy:∀ b o,v= .pointer (some ⟨b,o,none⟩)→Rel ρ V Z w (.pointer (some ⟨b,o+off,none⟩)) y)
    (hp:∃ b o,v= .pointer (some ⟨b,o,none⟩))
    (hrun:execOp a.eval o=(do pure (Next.value (← Instr.fieldAt t v f)))):OpOk P E o σ a w V Z id (.val y):=by
  obtain⟨u,hu1,hu2⟩:=run_underlying (w:=w) hT
  rw[hk] at hu2
  obtain⟨gs,rfl,hfs⟩:=tk_struct hu2
  obtain⟨b,o',rfl⟩:=hp
  rw[hfs,List.getElem?_map] at hf
  cases hg:gs.toList[f]? with
  |none=>simp[hg] at hf
  |some g=>
    simp only[hg,Option.map_some,Option.some.injEq,Prod.mk.injEq] at hf
    obtain⟨rfl,rfl⟩:=hf
    have hg':gs[f]? =some g:=by rw[← Array.getElem?_toList];exact hg
    have hr:(Instr.fieldAt t (.pointer (some ⟨b,o',none⟩)) f).run P w= .ok (.pointer (some ⟨b,o'+g.offset,none⟩)) w:=by
      unfold Instr.fieldAt Instr.sureAddr fieldPlace
      simp only[Sem.run_bind,hu1,Result.andThen_ok,hg',Sem.run_pure,run_sizeOf hTf,Sem.run_ite]
      rw[if_neg hsz,addr_add]
      simp
    exact ok_val h hd (by rw[hrun,run_value hr]) (hy b o' rfl)
theorem ok_field (h : Sat E ρ V Z σ a w) {o : Oper} (hd : ∀ n, o.dst = some n → n < E.nt) {id : Nat} {t : TypeId} {T Tf : TI} {fs : List (TypeId × Nat)} {f ft off : Nat} (hT : ti P t = some T) (hk : T.k = .struct fs)
    (hf:fs[f]? =some (ft,off)) (hTf:ti P ft=some Tf) {v:Value} {l:List AV} {x:AV} (hv:Rel ρ V Z w v (.agg l)) (hx:ldA Tf l off=some x)
    (hrun:execOp a.eval o=(do pure (Next.value (← Instr.field t v f)))):OpOk P E o σ a w V Z id (.val x):=by
  obtain⟨u,hu1,hu2⟩:=run_underlying (w:=w) hT
  rw[hk] at hu2
  obtain⟨gs,rfl,hfs⟩:=tk_struct hu2
  obtain⟨cs,rfl,h1,h2,h3⟩:=hv.agg_inv
  rw[hfs,List.getElem?_map] at hf
  cases hg:gs.toList[f]? with
  |none=>simp[hg] at hf
  |some g=>
    simp only[hg,Option.map_some,Option.some.injEq,Prod.mk.injEq] at hf
    obtain⟨rfl,rfl⟩:=hf
    have hg':gs[f]? =some g:=by rw[← Array.getElem?_toList];exact hg
    unfold ldA at hx
    cases hk2:Tf.k.isAgg with
    |true=>
      rw[hk2] at hx
      simp only[if_true] at hx
      split at hx
      · rename_i hle
        cases hx
        have hr:(Instr.field t (.agg cs) f).run P w= .ok (.agg (cs.extract g.offset (g.offset+Tf.size))) w:=by
          unfold Instr.field part
          simp only[Sem.run_bind,hu1,Result.andThen_ok,hg',asAgg,Sem.run_pure,run_isAgg hTf,hk2,if_true,run_sizeOf hTf,Sem.run_ite]
        have hlen:((l.drop g.offset).take Tf.size).length=Tf.size:=by simp;omega
        have hgd:∀ i,i<Tf.size→((l.drop g.offset).take Tf.size).getD i default=l.getD (g.offset+i) default:=by
          intro i hi
          simp[List.getD_eq_getElem?_getD,List.getElem?_take,hi,List.getElem?_drop]
        refine ok_val h hd (by rw[hrun,run_value hr]) (.agg _ _ (by simp only[Array.size_extract,hlen];omega) ?_ ?_)
        · intro i hi;rw[hlen] at hi;rw[hgd i hi];exact h2 _ (by omega)
        · intro i hi
          rw[hlen] at hi
          rw[hgd i hi]
          have:=h3 (g.offset+i) (by omega)
          have e1:(cs.extract g.offset (g.offset+Tf.size)).getD i undef=cs.getD (g.offset+i) undef:=by
            simp only[Array.getD_eq_getD_getElem?,Array.getElem?_extract]
            rw[if_pos (by omega)]
          rw[e1];exact this
      · cases hx
    |false=>
      rw[hk2] at hx
      simp only[Bool.false_eq_true,if_false] at hx
      have hlt:g.offset<l.length:=by
        rcases Nat.lt_or_ge g.offset l.length with h|h
        · exact h
        · rw[List.getElem?_eq_none h] at hx;cases hx
      have hc:cs[g.offset]? =some (cs.getD g.offset undef):=by
        have:g.offset<cs.size:=by omega
        simp[Array.getD,this]
      have hr:(Instr.field t (.agg cs) f).run P w= .ok (cs.getD g.offset undef) w:=by
        unfold Instr.field part
        simp only[Sem.run_bind,hu1,Result.andThen_ok,hg',asAgg,Sem.run_pure,run_isAgg hTf,hk2,if_false,Sem.run_ite,Bool.false_eq_true,hc]
      have:=h3 g.offset hlt
      have e2:l.getD g.offset default=x:=by simp[List.getD_eq_getElem?_getD,hx]
      rw[e2] at this
      exact ok_val h hd (by rw[hrun,run_value hr]) this
theorem idx_sl {l : List AV} {v : Value} (hv : Rel ρ V Z w v (.sl l)) {i sz : Nat} {y : AV} (hi : l[i]? = some y) (hy : y.cells.length = sz) :
    ∃ b o cap,v= .slice (some ⟨b,o,none⟩) l.length cap∧i<l.length∧Rel ρ V Z w (.pointer (some ⟨b,o+i*sz,none⟩)) (.eptr y 0):=by
  have hil:i<l.length:=by
    rcases Nat.lt_or_ge i l.length with h|h
    · exact h
    · rw[List.getElem?_eq_none h] at hi;cases hi
  have he:l.getD i default=y:=by simp[List.getD_eq_getElem?_getD,hi]
  obtain⟨a',cap,rfl,hcap,h1⟩:=hv.sl_inv
  rcases h1 with rfl|⟨b,o,sz',cs,rfl,h1,h2,h3⟩
  · simp at hil
  · have hsz:sz'=sz:=by have:=h1 i hil;rw[he,hy] at this;exact this.symm
    subst hsz
    refine⟨b,o,cap,rfl,hil,?_⟩
    have:=Rel.eptr (ρ:=ρ) (V:=V) (Z:=Z) (w:=w) b (o+i*sz') y 0 (cs i) (fun j hj=>by have:=h2 i j hil (by omega);rw[he] at this;exact this) (fun j hj=>by have:=h3 i j hil (by omega);rw[he] at this;exact this)
    simpa using this
theorem ok_index (h : Sat E ρ V Z σ a w) {o : Oper} (hd : ∀ n, o.dst = some n → n < E.nt) {id : Nat} {t : TypeId} {x i y : AV} {ob : Prop} {v vi : Value} {ox : Option AObj} (hx : idxA P t x i ox = some (ob, y)) (hob : ob)
    (hv:Rel ρ V Z w v x) (hvi:Rel ρ V Z w vi i) (hox:∀ o,ox=some o→∀ id,x.id? =some id→σ.hp id=some o)
    (hrun:execOp a.eval o=(do pure (Next.value (← Instr.indexAt t v vi)))):OpOk P E o σ a w V Z id (.val y):=by
  unfold idxA at hx
  cases hT:ti P t with
  |none=>simp[hT] at hx
  |some T=>
    obtain⟨k,s1,b1,z1⟩:=T
    rw[hT] at hx
    cases k<;>try(simp at hx;done)
    rotate_left
    · rename_i len e
      simp only at hx
      cases hTe:ti P e with
      |none=>simp[hTe] at hx
      |some Te=>
        simp only[hTe] at hx
        obtain⟨u,hu1,hu2⟩:=run_underlying (w:=w) hT
        have hu2':TK.of u= .array len e:=hu2
        obtain rfl:=tk_array hu2'
        split at hx
        · rename_i pid off k n
          cases hx
          obtain⟨h0,h1⟩:=hob
          obtain⟨hV,hblk⟩:V pid∧v= .pointer (some ⟨(ρ pid).blk,off,none⟩):=by cases hv with|ptr _ _ hV=>exact⟨hV,rfl⟩
          subst hblk
          rw[hvi.int_inv] at hrun
          have hr:(Instr.indexAt t (.pointer (some ⟨(ρ pid).blk,off,none⟩)) (.int k n)).run P w= .ok (.pointer (some ⟨(ρ pid).blk,off+n.toNat*Te.size,none⟩)) w:=by
            unfold Instr.indexAt Instr.sureAddr
            simp only[asIntOf,Sem.run_bind,Sem.run_pure,Result.andThen_ok,hu1]
            rw[if_pos ⟨h0,h1⟩]
            simp[run_sizeOf hTe,addr_add]
          exact ok_val h hd (by rw[hrun,run_value hr]) (.ptr _ _ hV)
        · cases hx
    · rename_i e
      simp only at hx
      cases hTe:ti P e with
      |none=>simp[hTe] at hx
      |some Te=>
        simp only[hTe] at hx
        have hus:=run_underlying_slice (w:=w) hT rfl
        split at hx
        · rename_i l k n
          split at hx
          · rename_i y' hy'
            split at hx
            · rename_i hsz
              cases hx
              obtain⟨b,o',cap,rfl,hil,hrel⟩:=idx_sl hv hy' hsz
              rw[hvi.int_inv] at hrun
              have hr:(Instr.indexAt t (.slice (some ⟨b,o',none⟩) l.length cap) (.int k n)).run P w= .ok (.pointer (some ⟨b,o'+n.toNat*Te.size,none⟩)) w:=by
                unfold Instr.indexAt
                simp only[asIntOf,Sem.run_bind,Sem.run_pure,Result.andThen_ok,hus]
                have:0≤n∧n<(l.length:Int):=⟨hob,by omega⟩
                rw[if_pos this]
                simp[run_sizeOf hTe,addr_add]
              exact ok_val h hd (by rw[hrun,run_value hr]) hrel
            · cases hx
          · cases hx
        · rename_i rid k n sz l
          split at hx
          · rename_i hsz
            subst hsz
            cases hx
            obtain⟨h0,h1⟩:=hob
            obtain⟨hV,hobj⟩:=h.hs.obj _ _ (hox _ rfl rid rfl)
            obtain⟨rfl,_⟩:=hv.rw_inv
            rw[hvi.int_inv] at hrun
            rcases hobj.row_cells' with ⟨_,rfl⟩|⟨hn,cs,ty,g1,g2,g3,g4,g5⟩
            · simp at h1
            · have hr : (Instr.indexAt t (ρ rid).slice (.int k n)).run P w = .ok (.pointer (some ⟨(ρ rid).blk, (ρ rid).off + n.toNat * Te.size + 0, none⟩)) w := by
                unfold Instr.indexAt Ref.slice
                simp only[hn,Bool.false_eq_true,if_false]
                simp only[asIntOf,Sem.run_bind,Sem.run_pure,Result.andThen_ok,hus]
                have:0≤n∧n<((ρ rid).len:Int):=⟨h0,by omega⟩
                rw[if_pos this]
                simp[run_sizeOf hTe,addr_add]
              exact ok_val h hd (by rw[hrun,run_value hr]) (.rptr _ _ _ _ hV)
          · cases hx
        · cases hx
theorem cut_rel {l : List AV} {a' : Option Addr} {n cap lo hi sz : Nat} (hv : Rel ρ V Z w (.slice a' n cap) (.sl l)) (h1 : lo ≤ hi) (h2 : hi ≤ l.length) (hsz : SzOk l sz) :
    Rel ρ V Z w (.slice (if cap=lo then a' else a'.map (·.add (lo*sz))) (hi - lo) (cap - lo)) (.sl (cutA l lo hi)):=by
  have hlen:(cutA l lo hi).length=hi - lo:=by simp[cutA];omega
  by_cases he:hi - lo=0
  · have:cutA l lo hi=[]:=List.length_eq_zero_iff.1 (by omega)
    rw[this,he]
    exact .sl0 _ _
  · obtain⟨a2,cap2,e,hcap,h3⟩:=hv.sl_inv
    cases e
    rcases h3 with rfl|⟨b,o,sz',cs,rfl,g1,g2,g3⟩
    · simp at h2;omega
    · have hs:sz'=sz:=by have:=g1 0 (by omega);rw[hsz.getD (by omega)] at this;exact this.symm
      subst hs
      rw[if_neg (by omega)]
      have hgd:∀ i,i<hi - lo→(cutA l lo hi).getD i default=l.getD (lo+i) default:=by
        intro i hi'
        simp only[cutA,List.getD_eq_getElem?_getD,List.getElem?_drop]
        rw[List.getElem?_take,if_pos (by omega)]
      have hidx:∀ i j,o+lo*sz'+i*sz'+j=o+(lo+i)*sz'+j:=by intro i j;rw[Nat.add_mul];omega
      have:=Rel.sl (ρ:=ρ) (V:=V) (Z:=Z) (w:=w) b (o+lo*sz') (cap - lo) sz' (cutA l lo hi) (fun i j=>cs (lo+i) j) (by omega) (fun i hi'=>by rw[hlen] at hi';rw[hgd i hi'];exact g1 _ (by omega))
        (fun i j hi' hj=>by rw[hlen] at hi';rw[hgd i hi',hidx];exact g2 (lo+i) j (by omega) hj) (fun i j hi' hj=>by rw[hlen] at hi';rw[hgd i hi'];exact g3 (lo+i) j (by omega) hj)
      rw[hlen] at this
      simpa [addr_add] using this
theorem ok_slice (h : Sat E ρ V Z σ a w) {o : Oper} (hd : ∀ n, o.dst = some n → n < E.nt) {id : Nat} {t e : TypeId} {T Te : TI} (hT : ti P t = some T) (hk : T.k = .slice e) (hTe : ti P e = some Te) {l : List AV} {v : Value} (hv : Rel ρ V Z w v (.sl l))
    (hsz:SzOk l Te.size) {lo hi:Option AV} {vlo vhi:Option Value} (hlo:∀ x,lo=some x→∃ u,vlo=some u∧Rel ρ V Z w u x) (hlo':lo=none→vlo=none) (hhi:∀ x,hi=some x→∃ u,vhi=some u∧Rel ρ V Z w u x) (hhi':hi=none→vhi=none)
    {ob:Prop} {y:AV} (hs:sliceA l lo hi=some (ob,y)) (hob:ob) (hrun:execOp a.eval o=(do pure (Next.value (← Instr.sliceAt t v vlo vhi none)))):OpOk P E o σ a w V Z id (.val y):=by
  have hus:=run_underlying_slice (w:=w) hT hk
  obtain⟨a',cap,rfl,hcap,_⟩:=hv.sl_inv
  have hb:∀ (k:IntKind) (n:Int) (m:Nat) (code:BoundsCode),0≤n→n≤m→(Instr.sliceBound (.int k n) m code).run P w= .ok n.toNat w:=by
    intro k n m code h1 h2
    unfold Instr.sliceBound
    simp only[asIntOf,Sem.run_bind,Sem.run_pure,Result.andThen_ok]
    rw[if_pos ⟨h1,h2⟩]
    rfl
  have key : ∀ (lo' hi' : Nat) (y : AV), lo' ≤ hi' → hi' ≤ l.length → y = .sl (cutA l lo' hi') →
      (Instr.sliceBounds true l.length cap vlo vhi none).run P w= .ok (lo',hi',cap) w→OpOk P E o σ a w V Z id (.val y):=by
    intro lo' hi' y h1 h2 hy hsb
    subst hy
    have hr:(Instr.sliceAt t (.slice a' l.length cap) vlo vhi none).run P w= .ok (.slice (if cap=lo' then a' else a'.map (·.add (lo'*Te.size))) (hi' - lo') (cap - lo')) w:=by
      unfold Instr.sliceAt Instr.slice
      simp only[Sem.run_bind,hus,Result.andThen_ok,hsb,run_sizeOf hTe,Sem.run_pure]
    exact ok_val h hd (by rw[hrun,run_value hr]) (cut_rel hv h1 h2 hsz)
  unfold sliceA at hs
  split at hs
  · cases hs
    rw[hlo' rfl,hhi' rfl] at key
    exact key 0 l.length _ (by omega) (by omega) (by simp[cutA]) (by simp[Instr.sliceBounds])
  · rename_i k n
    cases hs
    obtain⟨h1,h2⟩:=hob
    obtain⟨u,hu1,hu2⟩:=hlo _ rfl
    rw[hu1,hhi' rfl,hu2.int_inv] at key
    exact key n.toNat l.length _ (by omega) (by omega) (by simp[cutA]) (by simp[Instr.sliceBounds,hb k n l.length .sliceB h1 (by omega)])
  · rename_i k n
    cases hs
    obtain⟨h1,h2⟩:=hob
    obtain⟨u,hu1,hu2⟩:=hhi _ rfl
    rw[hu1,hlo' rfl,hu2.int_inv] at key
    exact key 0 n.toNat _ (by omega) (by omega) (by simp[cutA]) (by simp[Instr.sliceBounds,hb k n cap .sliceAcap h1 (by omega)])
  · rename_i k n k' m
    cases hs
    obtain⟨h1,h2,h3⟩:=hob
    obtain⟨u,hu1,hu2⟩:=hlo _ rfl
    obtain⟨u',hu1',hu2'⟩:=hhi _ rfl
    rw[hu1,hu1',hu2.int_inv,hu2'.int_inv] at key
    exact key n.toNat m.toNat _ (by omega) (by omega) rfl (by
      have e1:=hb k' m cap .sliceAcap (by omega) (by omega)
      have e2:=hb k n m.toNat .sliceB h1 (by omega)
      simp[Instr.sliceBounds,e1,e2])
  · cases hs
theorem ok_cut (h : Sat E ρ V Z σ a w) {o : Oper} (hd : ∀ n, o.dst = some n → n < E.nt) {id : Nat} (hid : ¬ V id) {t e : TypeId} {T Te : TI} (hT : ti P t = some T) (hk : T.k = .slice e) (hTe : ti P e = some Te) {rid : Nat} {l l' : List AV} {v : Value} (hv : Rel ρ V Z w v (.rw rid))
    (hob':σ.hp rid=some (.row Te.size l)) {lo hi:Option AV} {vlo vhi:Option Value} (hlo:∀ x,lo=some x→∃ u,vlo=some u∧Rel ρ V Z w u x) (hlo':lo=none→vlo=none) (hhi:∀ x,hi=some x→∃ u,vhi=some u∧Rel ρ V Z w u x) (hhi':hi=none→vhi=none)
    {ob:Prop} (hs:sliceA l lo hi=some (ob,.sl l')) (hob:ob) (hrun:execOp a.eval o=(do pure (Next.value (← Instr.sliceAt t v vlo vhi none)))):OpOk P E o σ a w V Z id (.swap rid (.row Te.size l') .rw):=by
  have hus:=run_underlying_slice (w:=w) hT hk
  obtain⟨hV,hobj⟩:=h.hs.obj _ _ hob'
  obtain⟨rfl,_⟩:=hv.rw_inv
  have hne:∀ i,V i→i≠id:=fun i hi e=>hid (e▸hi)
  have hb:∀ (k:IntKind) (n:Int) (m:Nat) (code:BoundsCode),0≤n→n≤m→(Instr.sliceBound (.int k n) m code).run P w= .ok n.toNat w:=by
    intro k n m code h1 h2
    unfold Instr.sliceBound
    simp only[asIntOf,Sem.run_bind,Sem.run_pure,Result.andThen_ok]
    rw[if_pos ⟨h1,h2⟩]
    rfl
  have key : ∀ (a' : Option Addr) (cap : Nat), (ρ rid).slice = .slice a' l.length cap → (((ρ rid).nil = true ∧ a' = none ∧ cap = 0 ∧ l = []) ∨ ((ρ rid).nil = false ∧ a' = some ⟨(ρ rid).blk, (ρ rid).off, none⟩ ∧ cap = (ρ rid).cap)) → ∀ (lo' hi' : Nat), lo' ≤ hi' → hi' ≤ l.length → l' = cutA l lo' hi' →
      (Instr.sliceBounds true l.length cap vlo vhi none).run P w= .ok (lo',hi',cap) w→OpOk P E o σ a w V Z id (.swap rid (.row Te.size l') .rw):=by
    intro a' cap hsl hcase lo' hi' h1 h2 hy hsb
    subst hy
    rw[hsl] at hrun
    have hr:(Instr.sliceAt t (.slice a' l.length cap) vlo vhi none).run P w= .ok (.slice (if cap=lo' then a' else a'.map (·.add (lo'*Te.size))) (hi' - lo') (cap - lo')) w:=by
      unfold Instr.sliceAt Instr.slice
      simp only[Sem.run_bind,hus,Result.andThen_ok,hsb,run_sizeOf hTe,Sem.run_pure]
    have hmono:∀ (r:Ref) v x,Rel ρ V Z w v x→Rel (fun i=>if i=id then r else ρ i) (fun i=>V i∨i=id) Z w v x:=
      fun r v x hr=>hr.mono (fun i hi=>if_neg (hne i hi)) (fun _ h=> .inl h) (fun _ _ h=>h) (fun _ _ _=>rfl)
    have hfz:∀ b,w.heap.size≤b∨(ρ rid).at b→∀ c t f,w.heap[b]? =some (.cells c t f)→f=(0,0):=by
      intro b hb c t f hcf
      rcases hb with hb|hb
      · rw[Array.getElem?_eq_none hb] at hcf;cases hcf
      · rcases hobj.row_cells' with ⟨h0,_⟩|⟨h0,cs,ty',g1,_⟩
        · exact absurd hb.1 (by simp[h0])
        · rw[← hb.2,g1] at hcf;cases hcf;rfl
    have hlen:(cutA l lo' hi').length=hi' - lo':=by simp[cutA];omega
    rcases hcase with ⟨hn,rfl,rfl,rfl⟩|⟨hn,rfl,rfl⟩
    · simp only[List.length_nil,Nat.le_zero_eq] at h2
      subst h2
      obtain rfl:lo'=0:=by omega
      refine⟨_,_,_,fun i=>if i=id then nilRef else ρ i,fun i=>V i∨i=id,by rw[hrun,run_value hr],.inl rfl,fun _ h=> .inl h,fun _ h=>h,?_⟩
      refine h.swap (o:= .row Te.size (cutA [] 0 0)) (x:= .rw id) hd hob' nilRef hid (fun b hb=>absurd hb.1 (by simp[nilRef])) (fun _ _ _=>rfl) (Nat.le_refl _) rfl rfl hfz (.inl ⟨by simp[nilRef],by simp[cutA]⟩) ?_
      have:=Rel.rw (ρ:=fun i=>if i=id then nilRef else ρ i) (V:=fun i=>V i∨i=id) (Z:=Z) (w:=w) id (.inr rfl)
      simpa [Ref.slice,nilRef] using this
    · rcases hobj.row_cells' with ⟨h0,_⟩|⟨h0,cs,ty',g1,g2,g3,g4,g5⟩
      · rw[hn] at h0;cases h0
      obtain⟨r,hrd⟩:∃ r:Ref,r=⟨(ρ rid).blk,hi' - lo',(ρ rid).cap - lo',false,if(ρ rid).cap=lo' then(ρ rid).off else(ρ rid).off+lo'*Te.size⟩:=⟨_,rfl⟩
      have hv':(Value.slice (if(ρ rid).cap=lo' then some ⟨(ρ rid).blk,(ρ rid).off,none⟩ else(some ⟨(ρ rid).blk,(ρ rid).off,none⟩:Option Addr).map (·.add (lo'*Te.size))) (hi' - lo') ((ρ rid).cap - lo'))=r.slice:=by
        subst hrd
        unfold Ref.slice
        simp only[Bool.false_eq_true,if_false]
        split
        · rfl
        · simp[addr_add]
      refine⟨_,_,_,fun i=>if i=id then r else ρ i,fun i=>V i∨i=id,by rw[hrun,run_value hr],.inl rfl,fun _ h=> .inl h,fun _ h=>h,?_⟩
      refine h.swap (o:= .row Te.size (cutA l lo' hi')) (x:= .rw id) hd hob' r hid (fun b hb=> .inl ⟨hn,by have:=hb.2;rw[hrd] at this;exact this⟩) (fun _ _ _=>rfl) (Nat.le_refl _) rfl rfl hfz ?_ ?_
      · have hcl:lo'*Te.size+((ρ rid).cap - lo')*Te.size=(ρ rid).cap*Te.size:=by rw[← Nat.add_mul];congr 1;omega
        refine ObjRel.of_cells (by simp[hrd]) (cs:=cs) (ty:=ty') (by simpa [hrd] using g1) (by simp[hrd,hlen]) (by simp only[if_true,hrd,hlen];omega) ?_ ?_
        · simp only[if_true,hrd]
          split
          · rename_i e1;rw[e1];simp;omega
          · omega
        · simp only[if_true]
          refine⟨fun i hi=>?_,fun i j hi hj=>?_⟩
          · rw[hlen] at hi
            have e1:(cutA l lo' hi').getD i default=l.getD (lo'+i) default:=by
              simp only[cutA,List.getD_eq_getElem?_getD,List.getElem?_drop,List.getElem?_take];rw[if_pos (by omega)]
            rw[e1];exact g5.1 _ (by omega)
          · rw[hlen] at hi
            have e1:(cutA l lo' hi').getD i default=l.getD (lo'+i) default:=by
              simp only[cutA,List.getD_eq_getElem?_getD,List.getElem?_drop,List.getElem?_take];rw[if_pos (by omega)]
            have h6:=g5.2 (lo'+i) j (by omega) hj
            rw[e1]
            refine⟨h6.1,hmono r _ _ ?_⟩
            have:r.off=(ρ rid).off+lo'*Te.size:=by rw[hrd];simp only;rw[if_neg (by omega)]
            rw[this,show(ρ rid).off+lo'*Te.size+i*Te.size+j=(ρ rid).off+(lo'+i)*Te.size+j by rw[Nat.add_mul];omega]
            exact h6.2
      · have:=Rel.rw (ρ:=fun i=>if i=id then r else ρ i) (V:=fun i=>V i∨i=id) (Z:=Z) (w:=w) id (.inr rfl)
        simp only[if_true] at this
        rw[← hv'] at this
        exact this
  have hsl:∃ a' cap,(ρ rid).slice= .slice a' l.length cap∧(((ρ rid).nil=true∧a'=none∧cap=0∧l=[])∨((ρ rid).nil=false∧a'=some ⟨(ρ rid).blk,(ρ rid).off,none⟩∧cap=(ρ rid).cap))∧l.length≤cap:=by
    rcases hobj.row_cells' with ⟨h0,rfl⟩|⟨h0,cs,ty',g1,g2,g3,g4,g5⟩
    · exact⟨none,0,by simp[Ref.slice,h0],.inl ⟨h0,rfl,rfl,rfl⟩,by simp⟩
    · exact⟨_,_,by simp[Ref.slice,h0,g2],.inr ⟨h0,rfl,rfl⟩,g3⟩
  obtain⟨a',cap,hsl,hcase,hcap⟩:=hsl
  have key:=key a' cap hsl hcase
  unfold sliceA at hs
  split at hs
  · cases hs
    rw[hlo' rfl,hhi' rfl] at key
    exact key 0 l.length (by omega) (by omega) (by simp[cutA]) (by simp[Instr.sliceBounds])
  · rename_i k n
    cases hs
    obtain⟨h1,h2⟩:=hob
    obtain⟨u,hu1,hu2⟩:=hlo _ rfl
    rw[hu1,hhi' rfl,hu2.int_inv] at key
    exact key n.toNat l.length (by omega) (by omega) (by simp[cutA]) (by simp[Instr.sliceBounds,hb k n l.length .sliceB h1 (by omega)])
  · rename_i k n
    cases hs
    obtain⟨h1,h2⟩:=hob
    obtain⟨u,hu1,hu2⟩:=hhi _ rfl
    rw[hu1,hlo' rfl,hu2.int_inv] at key
    exact key 0 n.toNat (by omega) (by omega) (by simp[cutA]) (by simp[Instr.sliceBounds,hb k n cap .sliceAcap h1 (by omega)])
  · rename_i k n k' m
    cases hs
    obtain⟨h1,h2,h3⟩:=hob
    obtain⟨u,hu1,hu2⟩:=hlo _ rfl
    obtain⟨u',hu1',hu2'⟩:=hhi _ rfl
    rw[hu1,hu1',hu2.int_inv,hu2'.int_inv] at key
    exact key n.toNat m.toNat (by omega) (by omega) rfl (by
      have e1:=hb k' m cap .sliceAcap (by omega) (by omega)
      have e2:=hb k n m.toNat .sliceB h1 (by omega)
      simp[Instr.sliceBounds,e1,e2])
  · cases hs
theorem ok_len (h : Sat E ρ V Z σ a w) {o : Oper} (hd : ∀ n, o.dst = some n → n < E.nt) {id : Nat} {t e : TypeId} {T : TI} (hT : ti P t = some T) (hk : T.k = .slice e) {v : Value} {x y : AV} {ox : Option AObj} (hx : Rel ρ V Z w v x)
    (hox:∀ o,ox=some o→∀ id,x.id? =some id→σ.hp id=some o) (hl:lenA x ox=some y) {ty:TypeId}
    (hrun:execOp a.eval o=(do pure (Next.value (← Builtin.len_ #[t] ty #[v])))):OpOk P E o σ a w V Z id (.val y):=by
  have hus:=run_underlying_slice (w:=w) hT hk
  have key:∀ (b:Option Addr) (n cap:Nat),v= .slice b n cap→y= .i n→OpOk P E o σ a w V Z id (.val y):=by
    intro b n cap e1 e2
    subst e1 e2
    have hr:(Builtin.len_ #[t] ty #[.slice b n cap]).run P w= .ok (.int .i64 n) w:=by
      unfold Builtin.len_
      simp[hus,goInt]
    exact ok_val h hd (by rw[hrun,run_value hr]) (.int _ _)
  unfold lenA at hl
  split at hl
  · cases hl;exact key _ _ _ hx.nilsl_inv rfl
  · cases hl;obtain⟨b,cap,e,_⟩:=hx.sl_inv;exact key _ _ _ e rfl
  · rename_i rid sz l
    cases hl
    obtain⟨hV,hobj⟩:=h.hs.obj _ _ (hox _ rfl rid rfl)
    obtain⟨e,_⟩:=hx.rw_inv
    unfold Ref.slice at e
    rcases hobj.row_cells' with ⟨hn,rfl⟩|⟨hn,cs,ty',g1,g2,g3,g4,g5⟩
    · rw[if_pos hn] at e;exact key _ _ _ e rfl
    · rw[if_neg (by simp[hn]),g2] at e;exact key _ _ _ e rfl
  · cases hl
end Go.Am

namespace Go.Am
variable {P:Program} {E:En} {ρ:Nat→Ref} {V:Nat→Prop} {Z:Nat→Nat→Prop} {σ:St} {a:Act} {w:World}
theorem evs_nil {vs:List AV} (h:([]:List Operand).mapM (evA σ)=some vs):vs=[]:=by simpa using h
theorem evs_cons {x:Operand} {l:List Operand} {vs:List AV} (h:(x::l).mapM (evA σ)=some vs):∃ v ws,evA σ x=some v∧l.mapM (evA σ)=some ws∧vs=v::ws:=by
 simp only[List.mapM_cons] at h
 cases h1:evA σ x with
 |none=>simp[h1] at h
 |some v=>
  cases h2:l.mapM (evA σ) with
  |none=>simp[h1,h2] at h
  |some ws=>simp[h1,h2] at h;exact⟨v,ws,rfl,rfl,h.symm⟩
theorem obj_of {x:AV} {o:AObj} (h:x.id?.bind σ.hp=some o):∀ id,x.id? =some id→σ.hp id=some o:=by
 intro id hid
 rw[hid] at h
 exact h
theorem binInt_ok {op:BinOp} {k:IntKind} {m n:Int} {y:AV} (h:binInt op k m n=some y) (t:TypeId):∃ v,(binOp op t (.int k m) (.int k n)).run P w= .ok v w∧Rel ρ V Z w v y:=by
 cases op<;>simp only[binInt,Option.some.injEq,reduceCtorEq] at h<;>subst h<;>
  first
   |exact⟨.int k _,by simp only[binOp,Op.intArith,Op.intBits,ne_eq,not_true_eq_false,if_false];rfl,.int _ _⟩
   |exact⟨.bool _,by simp only[binOp,Op.intCmp,ne_eq,not_true_eq_false,if_false];rfl,.bool _⟩
theorem binDiv_ok {op:BinOp} {k:IntKind} {m n:Int} {y:AV} (h:binDiv op k m n=some y) (hn:n≠0) (t:TypeId):∃ v,(binOp op t (.int k m) (.int k n)).run P w= .ok v w∧Rel ρ V Z w v y:=by
 cases op<;>simp only[binDiv,Option.some.injEq,reduceCtorEq] at h<;>subst h<;>
  exact⟨_,by simp[binOp,Op.intDiv,hn];try rfl,.int _ _⟩
theorem equal_eq (t:TypeId) (x y:Value):Op.equal t x y=Op.equalIn (9999+1) t x y:=rfl
theorem eqIn_bool (d:Nat) {t:TypeId} (m n:Bool) (hu:(underlying t).run P w= .ok .bool w):(Op.equalIn (d+1) t (.bool m) (.bool n)).run P w= .ok (m==n) w:=by
 unfold Op.equalIn
 simp only[Sem.run_bind,hu,Result.andThen_ok,Sem.run_pure]
theorem eqIn_nil (d : Nat) {t : TypeId} {u : TypeDesc} {x y : AV} {vx vy : Value} {r : Bool} (hx : Rel ρ V Z w vx x) (hy : Rel ρ V Z w vy y) (hu : (underlying t).run P w = .ok u w) (h1 : nilTK (TK.of u) x = true) (h2 : nilTK (TK.of u) y = true) (hr : nilEq x y = some r) :
    (Op.equalIn (d+1) t vx vy).run P w= .ok r w∧(∀ c,vx≠ .agg c)∧(vx= .nilIface→vy≠ .nilIface)∧
      (binOp .eql t vx vy=(do pure (.bool (← Op.equal t vx vy))))∧(binOp .neq t vx vy=(do pure (.bool (!(← Op.equal t vx vy))))):=by
  unfold Op.equalIn
  simp only[Sem.run_bind,hu,Result.andThen_ok]
  cases hx<;>cases hy<;>first
    |(simp[nilEq] at hr;done)
    | (simp only [nilEq, Option.some.injEq] at hr
       subst hr
       cases u<;>first
         |(simp[TK.of,nilTK] at h1;done)
         |exact⟨rfl,by simp,by simp,rfl,rfl⟩)
    |skip
  all_goals
    rename_i b o cap sz l cs g0 g1 g2 g3
    cases l with
    |nil=>simp[nilEq] at hr
    |cons y l=>
      simp only[nilEq,Option.some.injEq] at hr
      subst hr
      cases u<;>first
        |(simp[TK.of,nilTK] at h1;done)
        |exact⟨rfl,by simp,by simp,rfl,rfl⟩
theorem eqGuard_ok {op:BinOp} {t:TypeId} {x y:Operand} {a b:Value} (h:(∀ c,a≠ .agg c)∧(a= .nilIface→b≠ .nilIface)):(eqGuard op t x y a b).run P w= .ok () w:=by
 unfold eqGuard
 obtain⟨h1,h2⟩:=h
 cases op<;>simp<;>(cases a<;>cases b<;>simp_all)
theorem sh_ok {op:BinOp} {k k':IntKind} {m n:Int} {ob:Prop} {z:AV} (h:shA op k m n=some (ob,z)) (hob:ob) (t:TypeId):∃ v,(binOp op t (.int k m) (.int k' n)).run P w= .ok v w∧Rel ρ V Z w v z:=by
 cases op<;>simp only[shA,Option.some.injEq,Prod.mk.injEq,reduceCtorEq] at h<;>obtain⟨rfl,rfl⟩:=h
 ·refine⟨_,?_,.int _ _⟩
  show(Op.shift .shl k m k' n).run P w=_
  unfold Op.shift
  rw[if_neg (by omega)]
  rfl
 ·refine⟨_,?_,.int _ _⟩
  show(Op.shift .shr k m k' n).run P w=_
  unfold Op.shift
  rw[if_neg (by omega)]
  rfl
theorem bin_val {op : BinOp} {t : TypeId} {x y : AV} {vx vy : Value} {ob : Prop} {z : AV} (h : binA P op t x y = some (ob, z)) (hob : ob) (hx : Rel ρ V Z w vx x) (hy : Rel ρ V Z w vy y) :
    (∃ v,(binOp op t vx vy).run P w= .ok v w∧Rel ρ V Z w v z)∧(∀ c,vx≠ .agg c)∧(vx= .nilIface→vy≠ .nilIface):=by
  unfold binA at h
  split at h
  · rename_i k m k' n
    rw[hx.int_inv,hy.int_inv]
    split at h
    · rename_i r hr
      cases h
      exact⟨sh_ok hr hob t,by simp,by simp⟩
    · split at h
      · rename_i hk
        subst hk
        split at h
        · rename_i v hv
          cases h
          exact⟨binInt_ok hv t,by simp,by simp⟩
        · cases hv:binDiv op k m n with
          |none=>simp[hv] at h
          |some v=>
            simp only[hv,Option.map_some,Option.some.injEq,Prod.mk.injEq] at h
            obtain⟨rfl,rfl⟩:=h
            exact⟨binDiv_ok hv hob t,by simp,by simp⟩
      · cases h
  · rename_i m n
    have e1:vx= .bool m:=by cases hx;rfl
    have e2:vy= .bool n:=by cases hy;rfl
    subst e1 e2
    split at h
    · rename_i s b z' hT
      cases h
      obtain⟨u,hu1,hu2⟩:=run_underlying (w:=w) hT
      have:u= .bool:=by cases u<;>simp_all[TK.of]
      subst this
      exact⟨⟨.bool _,by simp only[binOp,Sem.run_bind,equal_eq,eqIn_bool 9999 m n hu1,Result.andThen_ok,Sem.run_pure],.bool _⟩,by simp,by simp⟩
    · rename_i s b z' hT
      cases h
      obtain⟨u,hu1,hu2⟩:=run_underlying (w:=w) hT
      have:u= .bool:=by cases u<;>simp_all[TK.of]
      subst this
      exact⟨⟨.bool _,by simp only[binOp,Sem.run_bind,equal_eq,eqIn_bool 9999 m n hu1,Result.andThen_ok,Sem.run_pure],.bool _⟩,by simp,by simp⟩
    · cases h
  · rename_i m n
    have e1:vx= .string m:=by cases hx;rfl
    have e2:vy= .string n:=by cases hy;rfl
    subst e1 e2
    cases op<;>simp only[Option.some.injEq,Prod.mk.injEq,reduceCtorEq] at h<;>obtain⟨rfl,rfl⟩:=h
    case add=>
      have hmax:IntKind.i64.max=9223372036854775807:=by decide
      refine⟨⟨_,?_,.str _⟩,by simp,by simp⟩
      show(Op.stringOp .add m n).run P w=_
      unfold Op.stringOp
      simp only[Sem.run_ite]
      rw[if_neg (by rw[hmax];omega)]
      rfl
    all_goals exact⟨⟨.bool _,rfl,.bool _⟩,by simp,by simp⟩
  · rename_i x2 y2 hni hnb hns
    cases hT:ti P t with
    |none=>simp[hT] at h
    |some T=>
      simp only[hT] at h
      split at h
      · rename_i hTK
        simp only[Bool.and_eq_true] at hTK
        obtain⟨u,hu1,hu2⟩:=run_underlying (w:=w) hT
        have key : ∀ r, nilEq x y = some r → (Op.equal t vx vy).run P w = .ok r w ∧ (∀ c, vx ≠ .agg c) ∧ (vx = .nilIface → vy ≠ .nilIface) ∧
            (binOp .eql t vx vy=(do pure (.bool (← Op.equal t vx vy))))∧(binOp .neq t vx vy=(do pure (.bool (!(← Op.equal t vx vy))))):=by
          intro r hr
          obtain⟨hT1,hT2⟩:=hTK
          rw[← hu2] at hT1 hT2
          rw[equal_eq]
          exact eqIn_nil 9999 hx hy hu1 hT1 hT2 hr
        split at h
        · rename_i r hr
          cases h
          obtain⟨k1,k2,k3,k4,k5⟩:=key _ hr
          exact⟨⟨.bool r,by rw[k4];simp only[Sem.run_bind,k1,Result.andThen_ok,Sem.run_pure],.bool _⟩,k2,k3⟩
        · rename_i r hr
          cases h
          obtain⟨k1,k2,k3,k4,k5⟩:=key _ hr
          exact⟨⟨.bool !r,by rw[k5];simp only[Sem.run_bind,k1,Result.andThen_ok,Sem.run_pure],.bool _⟩,k2,k3⟩
        · cases h
      · cases h
end Go.Am

namespace Go.Am
variable {P:Program} {E:En} {ρ:Nat→Ref} {V:Nat→Prop} {Z:Nat→Nat→Prop} {σ:St} {a:Act} {w:World}
theorem ok_makeMap (h : Sat E ρ V Z σ a w) {o : Oper} (hd : ∀ n, o.dst = some n → n < E.nt) {id : Nat} (hid : ¬ V id) {t : TypeId}
    (hrun:execOp a.eval o=(do pure (Next.value (← Instr.makeMap t none)))):OpOk P E o σ a w V Z id (.new (.map []) .mp):=by
  have hr:(Instr.makeMap t none).run P w= .ok (.map (some w.heap.size)) { w with heap:=w.heap.push (.map #[] 0) } :=by
    simp[Instr.makeMap]
  refine⟨.value (.map (some w.heap.size)),{ w with heap:=w.heap.push (.map #[] 0) },.map (some w.heap.size),fun i=>if i=id then⟨w.heap.size,0,0,false,0⟩ else ρ i,fun i=>V i∨i=id,?_,.inl rfl,fun _ h=> .inl h,fun _ h=>h,?_⟩
  · rw[hrun,run_value hr]
  · refine h.alloc (o:= .map []) hd ⟨w.heap.size,0,0,false,0⟩ rfl hid (fun c t f hc=>by cases hc) ?_ ?_
    · exact⟨by simp, #[],0,by simp,⟨rfl,.nil⟩,fun i hi=>absurd hi (Nat.not_lt_zero _)⟩
    · have:=Rel.mp (ρ:=fun i=>if i=id then(⟨w.heap.size,0,0,false,0⟩:Ref) else ρ i) (V:=fun i=>V i∨i=id) (Z:=Z) (w:= { w with heap:=w.heap.push (.map #[] 0) }) id (.inr rfl)
      simpa using this
theorem Rel.int_inv' {v:Value} {k:IntKind} {n:Int} (h:Rel ρ V Z w v (.int k n)):v= .int k n:=by
 generalize hx:AV.int k n=x at h
 cases h<;>cases hx
 rfl
theorem find_now {ik k : IntKind} {n : Int} : ∀ (es : List (AV × AV)) (l : List MapEntry) (i : Nat) (r : Option AV), l.length = es.length →
    (∀ j,j<es.length→Rel ρ V Z w ((l.getD j default).key) (es.getD j default).1∧Rel ρ V Z w ((l.getD j default).val) (es.getD j default).2)→findE k n es=some r→
    (∃ j v x,r=some x∧Instr.findNow (.int ik) (.int k n) l i=some (some (j,v))∧Rel ρ V Z w v x)∨(r=none∧Instr.findNow (.int ik) (.int k n) l i=some none)
  | [],l,i,r,hl,_,hf=>by
    obtain rfl:l=[]:=List.length_eq_zero_iff.1 hl
    cases hf
    exact .inr ⟨rfl,rfl⟩
  |(y,x)::es,[],i,r,hl,_,_=>by simp at hl
  |(y,x)::es,e::l,i,r,hl,hr,hf=>by
    have h0:=hr 0 (by simp)
    simp only[List.getD_cons_zero] at h0
    cases y<;>simp only[findE] at hf<;>try(cases hf;done)
    rename_i k' n'
    have hk:e.key= .int k' n':=h0.1.int_inv'
    split at hf
    · rename_i hkk
      subst hkk
      split at hf
      · rename_i hnn
        subst hnn
        cases hf
        exact .inl ⟨i,e.val,x,rfl,by simp[Instr.findNow,hk,Instr.sameNow],h0.2⟩
      · rename_i hnn
        have hne:(n==n')=false:=by simpa using hnn
        have e1:Instr.findNow (.int ik) (.int k n) (e::l) i=Instr.findNow (.int ik) (.int k n) l (i+1):=by
          simp[Instr.findNow,hk,Instr.sameNow,hne]
        rw[e1]
        exact find_now es l (i+1) r (by simpa using hl) (fun j hj=>by simpa using hr (j+1) (by simpa using hj)) hf
    · cases hf
theorem map_entries {id : Nat} {es : List (AV × AV)} (h : ObjRel ρ V Z w id (.map es)) : ∃ ents clock, (ρ id).nil = false ∧ w.heap[(ρ id).blk]? = some (.map ents clock) ∧ (ents.toList.length = es.length ∧ Stmp ents clock) ∧
    ∀ j,j<es.length→Rel ρ V Z w ((ents.toList.getD j default).key) (es.getD j default).1∧Rel ρ V Z w ((ents.toList.getD j default).val) (es.getD j default).2:=by
  obtain⟨h0,ents,clock,h1,⟨h2,hst⟩,h3⟩:=h
  refine⟨ents,clock,h0,h1,⟨by simpa using h2,hst⟩,fun j hj=>?_⟩
  have hj2:j<ents.size:=by omega
  have h4:=h3 j hj
  have e1:(ents.map (·.key)).getD j undef=(ents.toList.getD j default).key:=by simp[Array.getD,hj2,List.getD_eq_getElem?_getD]
  have e2:(ents.map (·.val)).getD j undef=(ents.toList.getD j default).val:=by simp[Array.getD,hj2,List.getD_eq_getElem?_getD]
  rw[e1,e2] at h4
  exact h4
theorem run_zv {t:TypeId} {z:AV} (h:zv P t=some z):∃ v,(zeroValue t).run P w= .ok v w∧∀ (ρ:Nat→Ref) V Z,Rel ρ V Z w v z:=by
 unfold zv at h
 cases hi:P.info? t with
 |none=>simp[hi] at h
 |some i=>
  cases hz:i.zero with
  |none=>simp[hi,hz] at h
  |some v=>
   simp only[hi,hz,Option.bind_some] at h
   refine⟨v,?_,fun _ _ _=>avOf_rel h⟩
   unfold zeroValue typeInfo
   simp[hi,hz]
theorem und_of {t:TypeId} {T:TI} (h:ti P t=some T):∃ u,P.underlying t=some u∧TK.of u=T.k:=by
 obtain⟨i,u,h1,h2,h3,_⟩:=ti_spec h
 exact⟨u,h2,h3⟩
theorem Rel.mp_inv' {v:Value} {id:Nat} (h:Rel ρ V Z w v (.mp id)):v= .map (some (ρ id).blk)∧V id:=by
 generalize hx:AV.mp id=x at h
 cases h<;>cases hx
 exact⟨rfl, ‹_›⟩
theorem run_checkInt {kt:TypeId} {ik k:IntKind} {n:Int} (hd:P.underlying kt=some (.int ik)) (e:Bool) (m:Nat):(Instr.checkKey e (m+1) kt (.int k n)).run P w= .ok () w:=by
 unfold Instr.checkKey
 simp[Go.run_underlying hd,Result.andThen]
theorem ok_insert (h : Sat E ρ V Z σ a w) {o : Oper} (hd : ∀ n, o.dst = some n → n < E.nt) {id : Nat} {t kt et : TypeId} {T Tk : TI} {ik : IntKind} (hT : ti P t = some T) (hk : T.k = .map kt et) (hTk : ti P kt = some Tk) (hkk : Tk.k = .int ik)
    {mid:Nat} {es:List (AV×AV)} {m key x:Value} {k:IntKind} {n:Int} {y:AV} (hm:Rel ρ V Z w m (.mp mid)) (hkey:Rel ρ V Z w key (.int k n)) (hx:Rel ρ V Z w x y) (hob:σ.hp mid=some (.map es)) (hf:findE k n es=some none)
    (hrun:execOp a.eval o=(do let () ← Instr.mapUpdate t m key x;pure Next.skip)):
    OpOk P E o σ a w V Z id (.set mid (.map (es++[(.int k n,y)])) (.tup [])):=by
  obtain⟨ents,clock,h0,h1,⟨h2,hst⟩,h3⟩:=map_entries (h.hs.obj _ _ hob).2
  obtain⟨u,hu1,hu2⟩:=und_of hT
  rw[hk] at hu2
  obtain rfl:=tk_map hu2
  obtain⟨u',hu1',hu2'⟩:=und_of hTk
  rw[hkk] at hu2'
  obtain rfl:=tk_int hu2'
  obtain⟨rfl,hv⟩:=hm.mp_inv'
  obtain rfl:=hkey.int_inv'
  have hfn:Instr.findNow (.int ik) (.int k n) ents.toList 0=some none:=by
    rcases find_now (ik:=ik) es ents.toList 0 none h2 h3 hf with ⟨_,_,_,h,_⟩|⟨_,h⟩
    · cases h
    · exact h
  have hlt:(ρ mid).blk<w.heap.size:=(Array.getElem?_eq_some_iff.1 h1).1
  have hr:(Instr.mapUpdate t (.map (some (ρ mid).blk)) (.int k n) x).run P w= .ok () { w with heap:=w.heap.setIfInBounds (ρ mid).blk (.map (ents.push { key:= .int k n,val:=x,born:=clock }) (clock+1)) } :=by
    unfold Instr.mapUpdate
    simp[Go.run_underlying hu1,MapKept.run_getObj_map h1,run_checkInt hu1',MapKept.run_findKey hu1' hfn,MapKept.run_setObj_map _ h1,Result.andThen]
  have hcell:∀ b o,Z b o→({ w with heap:=w.heap.setIfInBounds (ρ mid).blk (.map (ents.push { key:= .int k n,val:=x,born:=clock }) (clock+1)) } :World).cell? ⟨b,o,none⟩=w.cell? ⟨b,o,none⟩:=by
    intro b o hz
    refine cell?_of_heap ?_
    have hne:(ρ mid).blk≠b:=fun e=>h.hs.sep mid _ b hob ⟨h0,e⟩ o hz
    show(w.heap.setIfInBounds _ _)[b]? =_
    simp[hne]
  refine⟨.skip,{ w with heap:=w.heap.setIfInBounds (ρ mid).blk (.map (ents.push { key:= .int k n,val:=x,born:=clock }) (clock+1)) },undef,ρ,V,?_,.inr ⟨rfl,rfl⟩,fun _ h=>h,fun _ h=> .inl h,?_⟩
  · rw[hrun]
    simp[hr]
  · refine h.set hd hob h0 ?_ (by simp) rfl rfl ?_ ?_ (.tup #[] [] rfl (fun i hi=>absurd hi (Nat.not_lt_zero _)))
    · intro b hb
      show(w.heap.setIfInBounds _ _)[b]? =_
      simp[Ne.symm hb]
    · intro c t f hcf
      change (w.heap.setIfInBounds _ _)[_]? =_ at hcf
      simp[hlt] at hcf
    · refine⟨h0,ents.push { key:= .int k n,val:=x,born:=clock },clock+1,?_,?_,?_⟩
      · show(w.heap.setIfInBounds _ _)[_]? =_
        simp[hlt]
      · have:ents.size=es.length:=by simpa using h2
        exact⟨by simp[this],hst.push _ _⟩
      · intro i hi
        have hsz:ents.size=es.length:=by simpa using h2
        simp only[List.length_append,List.length_cons,List.length_nil] at hi
        by_cases hi2:i<es.length
        · have h4:=h3 i hi2
          have e1:((ents.push { key:= .int k n,val:=x,born:=clock }).map (·.key)).getD i undef=(ents.toList.getD i default).key:=by
            have:i<ents.size:=by omega
            simp[Array.getD_eq_getD_getElem?,List.getD_eq_getElem?_getD,Array.getElem?_push,this,Nat.ne_of_lt this]
          have e2:((ents.push { key:= .int k n,val:=x,born:=clock }).map (·.val)).getD i undef=(ents.toList.getD i default).val:=by
            have:i<ents.size:=by omega
            simp[Array.getD_eq_getD_getElem?,List.getD_eq_getElem?_getD,Array.getElem?_push,this,Nat.ne_of_lt this]
          have e3:(es++[(AV.int k n,y)]).getD i default=es.getD i default:=by
            simp[List.getD_eq_getElem?_getD,List.getElem?_append_left hi2]
          rw[e1,e2,e3]
          exact⟨h4.1.mono (fun _ _=>rfl) (fun _ h=>h) (fun _ _ h=>h) hcell,h4.2.mono (fun _ _=>rfl) (fun _ h=>h) (fun _ _ h=>h) hcell⟩
        · obtain rfl:i=es.length:=by omega
          have e1:((ents.push { key:= .int k n,val:=x,born:=clock }).map (·.key)).getD es.length undef= .int k n:=by
            simp[Array.getD_eq_getD_getElem?,Array.getElem?_push,Array.getElem_push,hsz]
          have e2:((ents.push { key:= .int k n,val:=x,born:=clock }).map (·.val)).getD es.length undef=x:=by
            simp[Array.getD_eq_getD_getElem?,Array.getElem?_push,Array.getElem_push,hsz]
          have e3:(es++[(AV.int k n,y)]).getD es.length default=(.int k n,y):=by
            simp[List.getD_eq_getElem?_getD]
          rw[e1,e2,e3]
          exact⟨.int _ _,hx.mono (fun _ _=>rfl) (fun _ h=>h) (fun _ _ h=>h) hcell⟩
theorem find_upd {ik k : IntKind} {n : Int} (z : AV) : ∀ (es : List (AV × AV)) (l : List MapEntry) (i : Nat) (x : AV), l.length = es.length →
    (∀ j,j<es.length→Rel ρ V Z w ((l.getD j default).key) (es.getD j default).1∧Rel ρ V Z w ((l.getD j default).val) (es.getD j default).2)→findE k n es=some (some x)→
    ∃ j v,j<es.length∧Instr.findNow (.int ik) (.int k n) l i=some (some (i+j,v))∧(l.getD j default).key= .int k n∧updE k n z es=es.set j (.int k n,z)
  | [],l,i,x,hl,_,hf=>by cases hf
  |(y,x')::es,[],i,x,hl,_,_=>by simp at hl
  |(y,x')::es,e::l,i,x,hl,hr,hf=>by
    have h0:=hr 0 (by simp)
    simp only[List.getD_cons_zero] at h0
    cases y<;>simp only[findE] at hf<;>try(cases hf;done)
    rename_i k' n'
    have hk:e.key= .int k' n':=h0.1.int_inv'
    split at hf
    · rename_i hkk
      subst hkk
      split at hf
      · rename_i hnn
        subst hnn
        exact⟨0,e.val,by simp,by simp[Instr.findNow,hk,Instr.sameNow],by simpa using hk,by simp[updE]⟩
      · rename_i hnn
        have hne:(n==n')=false:=by simpa using hnn
        have e1:Instr.findNow (.int ik) (.int k n) (e::l) i=Instr.findNow (.int ik) (.int k n) l (i+1):=by
          simp[Instr.findNow,hk,Instr.sameNow,hne]
        obtain⟨j,v,g1,g2,g3,g4⟩:=find_upd z es l (i+1) x (by simpa using hl) (fun j hj=>by simpa using hr (j+1) (by simpa using hj)) hf
        refine⟨j+1,v,by simpa using g1,by rw[e1,g2];congr 3;omega,by simpa using g3,by simp[updE,hnn,g4]⟩
    · cases hf
theorem ok_update (h : Sat E ρ V Z σ a w) {o : Oper} (hd : ∀ n, o.dst = some n → n < E.nt) {id : Nat} {t kt et : TypeId} {T Tk : TI} {ik : IntKind} (hT : ti P t = some T) (hk : T.k = .map kt et) (hTk : ti P kt = some Tk) (hkk : Tk.k = .int ik)
    {mid:Nat} {es:List (AV×AV)} {m key x:Value} {k:IntKind} {n:Int} {y:AV} (hm:Rel ρ V Z w m (.mp mid)) (hkey:Rel ρ V Z w key (.int k n)) (hx:Rel ρ V Z w x y) (hob:σ.hp mid=some (.map es)) {x0:AV} (hf:findE k n es=some (some x0))
    (hrun:execOp a.eval o=(do let () ← Instr.mapUpdate t m key x;pure Next.skip)):
    OpOk P E o σ a w V Z id (.set mid (.map (updE k n y es)) (.tup [])):=by
  obtain⟨ents,clock,h0,h1,⟨h2,hst⟩,h3⟩:=map_entries (h.hs.obj _ _ hob).2
  obtain⟨u,hu1,hu2⟩:=und_of hT
  rw[hk] at hu2
  obtain rfl:=tk_map hu2
  obtain⟨u',hu1',hu2'⟩:=und_of hTk
  rw[hkk] at hu2'
  obtain rfl:=tk_int hu2'
  obtain⟨rfl,hv⟩:=hm.mp_inv'
  obtain rfl:=hkey.int_inv'
  obtain⟨j,v0,hj,hfn,hkj,hup⟩:=find_upd (ik:=ik) y es ents.toList 0 x0 h2 h3 hf
  rw[Nat.zero_add] at hfn
  have hsz:ents.size=es.length:=by simpa using h2
  have hjs:j<ents.size:=by omega
  have hlt:(ρ mid).blk<w.heap.size:=(Array.getElem?_eq_some_iff.1 h1).1
  have hj2:ents[j]? =some ents[j]:=Array.getElem?_eq_getElem hjs
  have hkj2:ents[j].key= .int k n:=by
    have:ents.toList.getD j default=ents[j]:=by simp[List.getD_eq_getElem?_getD,hjs]
    rw[this] at hkj
    exact hkj
  obtain⟨nw,hnw⟩:∃ nw,ents.modify j (fun e=> { e with key:= .int k n,val:=x })=nw:=⟨_,rfl⟩
  have hnsz:nw.size=ents.size:=by rw[← hnw];simp
  have hr:(Instr.mapUpdate t (.map (some (ρ mid).blk)) (.int k n) x).run P w= .ok () { w with heap:=w.heap.setIfInBounds (ρ mid).blk (.map nw clock) } :=by
    unfold Instr.mapUpdate
    have hks:(Instr.keyThatStays (.int k n) (.int k n)).run P w= .ok (.int k n) w:=by simp[Instr.keyThatStays,Instr.sameBits]
    simp[Go.run_underlying hu1,MapKept.run_getObj_map h1,run_checkInt hu1',MapKept.run_findKey hu1' hfn,hj2,hkj2,hks,MapKept.run_setObj_map _ h1,hnw,Result.andThen]
  have hcell:∀ b o,Z b o→({ w with heap:=w.heap.setIfInBounds (ρ mid).blk (.map nw clock) } :World).cell? ⟨b,o,none⟩=w.cell? ⟨b,o,none⟩:=by
    intro b o hz
    refine cell?_of_heap ?_
    have hne:(ρ mid).blk≠b:=fun e=>h.hs.sep mid _ b hob ⟨h0,e⟩ o hz
    show(w.heap.setIfInBounds _ _)[b]? =_
    simp[hne]
  refine⟨.skip,{ w with heap:=w.heap.setIfInBounds (ρ mid).blk (.map nw clock) },undef,ρ,V,?_,.inr ⟨rfl,rfl⟩,fun _ h=>h,fun _ h=> .inl h,?_⟩
  · rw[hrun]
    simp[hr]
  · refine h.set hd hob h0 ?_ (by simp) rfl rfl ?_ ?_ (.tup #[] [] rfl (fun i hi=>absurd hi (Nat.not_lt_zero _)))
    · intro b hb
      show(w.heap.setIfInBounds _ _)[b]? =_
      simp[Ne.symm hb]
    · intro c t f hcf
      change (w.heap.setIfInBounds _ _)[_]? =_ at hcf
      simp[hlt] at hcf
    · refine⟨h0,nw,clock,?_,?_,?_⟩
      · show(w.heap.setIfInBounds _ _)[_]? =_
        simp[hlt]
      · rw[hup];exact⟨by simp[hnsz,hsz],hnw▸hst.modify _ _ _⟩
      · intro i hi
        rw[hup] at hi ⊢
        simp only[List.length_set] at hi
        have his:i<ents.size:=by omega
        by_cases hij:i=j
        · subst hij
          have e1:(nw.map (·.key)).getD i undef= .int k n:=by
            rw[← hnw];simp[Array.getD_eq_getD_getElem?,Array.getElem_modify,his]
          have e2:(nw.map (·.val)).getD i undef=x:=by
            rw[← hnw];simp[Array.getD_eq_getD_getElem?,Array.getElem_modify,his]
          have e3:(es.set i (AV.int k n,y)).getD i default=(.int k n,y):=by
            simp[List.getD_eq_getElem?_getD,hi]
          rw[e1,e2,e3]
          exact⟨.int _ _,hx.mono (fun _ _=>rfl) (fun _ h=>h) (fun _ _ h=>h) hcell⟩
        · have h4:=h3 i hi
          have e1:(nw.map (·.key)).getD i undef=(ents.toList.getD i default).key:=by
            rw[← hnw];simp[Array.getD_eq_getD_getElem?,List.getD_eq_getElem?_getD,Array.getElem_modify,his,Ne.symm hij]
          have e2:(nw.map (·.val)).getD i undef=(ents.toList.getD i default).val:=by
            rw[← hnw];simp[Array.getD_eq_getD_getElem?,List.getD_eq_getElem?_getD,Array.getElem_modify,his,Ne.symm hij]
          have e3:(es.set j (AV.int k n,y)).getD i default=es.getD i default:=by
            simp[List.getD_eq_getElem?_getD,List.getElem?_set_ne (Ne.symm hij)]
          rw[e1,e2,e3]
          exact⟨h4.1.mono (fun _ _=>rfl) (fun _ h=>h) (fun _ _ h=>h) hcell,h4.2.mono (fun _ _=>rfl) (fun _ h=>h) (fun _ _ h=>h) hcell⟩
theorem ok_lookup (h : Sat E ρ V Z σ a w) {o : Oper} (hd : ∀ n, o.dst = some n → n < E.nt) {id : Nat} {t kt et : TypeId} {T Tk : TI} {ik : IntKind} (hT : ti P t = some T) (hk : T.k = .map kt et) (hTk : ti P kt = some Tk) (hkk : Tk.k = .int ik)
    {z:AV} (hz:zv P et=some z) {mid:Nat} {es:List (AV×AV)} {m key:Value} {k:IntKind} {n:Int} (hm:Rel ρ V Z w m (.mp mid)) (hkey:Rel ρ V Z w key (.int k n)) (hob:σ.hp mid=some (.map es)) {ok:Bool} {r:Option AV} (hf:findE k n es=some r)
    (hrun:execOp a.eval o=(do pure (Next.value (← Instr.lookup t m key ok)))):
    OpOk P E o σ a w V Z id (.val (lkRes ok z r)):=by
  obtain⟨ents,clock,h0,h1,⟨h2,hst⟩,h3⟩:=map_entries (h.hs.obj _ _ hob).2
  obtain⟨u,hu1,hu2⟩:=und_of hT
  rw[hk] at hu2
  obtain rfl:=tk_map hu2
  obtain⟨u',hu1',hu2'⟩:=und_of hTk
  rw[hkk] at hu2'
  obtain rfl:=tk_int hu2'
  obtain⟨rfl,_⟩:=hm.mp_inv'
  obtain rfl:=hkey.int_inv'
  rcases find_now (ik:=ik) es ents.toList 0 r h2 h3 hf with ⟨j,v,x,rfl,hfn,hv⟩|⟨rfl,hfn⟩
  · refine ok_val h hd (v:=if ok then .tuple #[v,.bool true] else v) ?_ ?_
    · rw[hrun]
      refine run_value ?_
      unfold Instr.lookup
      simp[Go.run_underlying hu1,MapKept.run_getObj_map h1,run_checkInt hu1',MapKept.run_findKey hu1' hfn,Result.andThen]
    · cases ok
      · exact hv
      · refine .tup _ _ rfl fun i hi=>?_
        match i,hi with
        |0,_=>exact hv
        |1,_=>exact .bool _
  · obtain⟨v,hv1,hv2⟩:=run_zv (w:=w) hz
    refine ok_val h hd (v:=if ok then .tuple #[v,.bool false] else v) ?_ ?_
    · rw[hrun]
      refine run_value ?_
      unfold Instr.lookup
      simp[Go.run_underlying hu1,MapKept.run_getObj_map h1,run_checkInt hu1',MapKept.run_findKey hu1' hfn,hv1,Result.andThen]
    · cases ok
      · exact hv2 _ _ _
      · refine .tup _ _ rfl fun i hi=>?_
        match i,hi with
        |0,_=>exact hv2 _ _ _
        |1,_=>exact .bool _
theorem Rel.int_inv0 {v:Value} {k:IntKind} {n:Int} (h:Rel ρ V Z w v (.int k n)):v= .int k n:=by
 generalize hx:AV.int k n=x at h
 cases h<;>cases hx
 rfl
theorem Rel.bool_inv0 {v:Value} {b:Bool} (h:Rel ρ V Z w v (.bool b)):v= .bool b:=by
 generalize hx:AV.bool b=x at h
 cases h<;>cases hx
 rfl
theorem Rel.str_inv' {v:Value} {s:ByteArray} (h:Rel ρ V Z w v (.str s)):v= .string s:=by
 cases h;rfl
theorem ba_self (a:ByteArray):(a==a)=true:=(MapKept.bytes_beq a a).2 rfl
theorem ba_ne {a b:ByteArray} (h:¬ a=b):(a==b)=false:=by
 cases e:a==b
 ·rfl
 ·exact absurd ((MapKept.bytes_beq a b).1 e) h
theorem tk_str {u:TypeDesc} (h:TK.of u= .str):u= .string:=by cases u<;>simp_all[TK.of]
theorem run_eqF {xs ys : Array Value} : ∀ (fs : List Field) (i : Nat) (l m : List AV) (r : Bool), (∀ (j : Nat) x, l[j]? = some x → ∃ v, xs[i + j]? = some v ∧ Rel ρ V Z w v x) → (∀ (j : Nat) x, m[j]? = some x → ∃ v, ys[i + j]? = some v ∧ Rel ρ V Z w v x) →
    eqF P fs i l m=some r→(Op.eqFields 9999 xs ys fs).run P w= .ok r w:=by
  intro fs
  induction fs with
  |nil=>
    intro i l m r h1 h2 h
    unfold eqF at h
    split at h<;>first|(cases h;simp[Op.eqFields];done)|(simp_all;done)
  |cons f fs ih=>
    intro i l m r h1 h2 h
    have key : ∀ (x y : AV) (l' m' : List AV) (u v : Value) (q r' : Bool), l = x :: l' → m = y :: m' → f.name ≠ "_" → f.offset = i → P.plainKey f.type = true → xs[i]? = some u → ys[i]? = some v → (Op.equalIn 9999 f.type u v).run P w = .ok q w →
        eqF P fs (i+1) l' m'=some r'→r=(q&&r')→(Op.eqFields 9999 xs ys (f::fs)).run P w= .ok r w:=by
      intro x y l' m' u v q r' e1 e2 hn ho hp hu hv hq hr he
      subst e1 e2 he
      have hrec:=ih (i+1) l' m' r' (fun j z hz=>by have:=h1 (j+1) z (by simpa using hz);rwa [show i+(j+1)=i+1+j by omega] at this) (fun j z hz=>by have:=h2 (j+1) z (by simpa using hz);rwa [show i+(j+1)=i+1+j by omega] at this) hr
      simp only[Op.eqFields,hn,ne_eq,not_false_eq_true,if_true,Sem.run_bind,ho,run_part_plain w hp hu,run_part_plain w hp hv,hq,Result.andThen_ok]
      cases q
      · simp
      · simpa using hrec
    unfold eqF at h
    split at h
    · cases ‹f::fs=[]›
    · rename_i f' fs' i' k a l' k' b m' e
      cases e
      split at h
      · rename_i hc
        obtain⟨hn,ho,rfl⟩:=hc
        split at h
        · rename_i kk hu
          obtain⟨r',hr,rfl⟩:=Option.map_eq_some_iff.1 h
          obtain⟨u,hu1,hu2⟩:=h1 0 _ rfl
          obtain⟨v,hv1,hv2⟩:=h2 0 _ rfl
          rw[hu2.int_inv0] at hu1
          rw[hv2.int_inv0] at hv1
          exact key _ _ _ _ _ _ _ r' rfl rfl hn ho (by simp[Program.plainKey,hu]) hu1 hv1 (run_equalIn_int w 9998 f.type k kk a b hu) hr rfl
        · cases h
      · cases h
    · rename_i f' fs' i' a l' b m' e
      cases e
      split at h
      · rename_i hc
        obtain⟨hn,ho⟩:=hc
        split at h
        · rename_i hu
          obtain⟨r',hr,rfl⟩:=Option.map_eq_some_iff.1 h
          obtain⟨u,hu1,hu2⟩:=h1 0 _ rfl
          obtain⟨v,hv1,hv2⟩:=h2 0 _ rfl
          rw[hu2.str_inv'] at hu1
          rw[hv2.str_inv'] at hv1
          exact key _ _ _ _ _ _ _ r' rfl rfl hn ho (by simp[Program.plainKey,hu]) hu1 hv1 (run_equalIn_string w 9998 f.type a b hu) hr rfl
        · cases h
      · cases h
    · rename_i f' fs' i' a l' b m' e
      cases e
      split at h
      · rename_i hc
        obtain⟨hn,ho⟩:=hc
        split at h
        · rename_i hu
          obtain⟨r',hr,rfl⟩:=Option.map_eq_some_iff.1 h
          obtain⟨u,hu1,hu2⟩:=h1 0 _ rfl
          obtain⟨v,hv1,hv2⟩:=h2 0 _ rfl
          rw[hu2.bool_inv0] at hu1
          rw[hv2.bool_inv0] at hv1
          exact key _ _ _ _ _ _ _ r' rfl rfl hn ho (by simp[Program.plainKey,hu]) hu1 hv1 (run_equalIn_bool' w 9998 f.type a b hu) hr rfl
        · cases h
      · cases h
    · cases h
theorem run_aggE {op : BinOp} {t : TypeId} {l m : List AV} {z : AV} {ob : Prop} {v u : Value} {x y : Operand} (h : aggE P op t l m = some (ob, z)) (hv : Rel ρ V Z w v (.agg l)) (hu : Rel ρ V Z w u (.agg m)) :
    ∃ r,(do eqGuard op t x y v u;binOp op t v u:Sem Value).run P w= .ok r w∧Rel ρ V Z w r z:=by
  unfold aggE at h
  cases he:(eqTy P t).bind fun fs=>eqF P fs 0 l m with
  |none=>rw[he] at h;cases h
  |some r=>
    rw[he] at h
    obtain⟨fs,h1,h2⟩:=Option.bind_eq_some_iff.1 he
    unfold eqTy at h1
    split at h1
    · rename_i gs hgs
      split at h1
      · rename_i hc
        cases h1
        obtain⟨cs,rfl,c1,_,c3⟩:=hv.agg_inv
        obtain⟨ds,rfl,d1,_,d3⟩:=hu.agg_inv
        have get:∀ (cs:Array Value) (l:List AV),cs.size=l.length→(∀ i,i<l.length→Rel ρ V Z w (cs.getD i undef) (l.getD i default))→∀ (j:Nat) x,l[j]? =some x→∃ v,cs[0+j]? =some v∧Rel ρ V Z w v x:=fun cs l hs hr j x hx=>by
          have hj:j<l.length:=(List.getElem?_eq_some_iff.1 hx).1
          have e:=hr j hj
          rw[List.getD_eq_getElem?_getD,hx] at e
          refine⟨cs.getD j undef,?_,e⟩
          rw[Nat.zero_add]
          simp[Array.getD,show j<cs.size by omega]
        have hrun:=run_eqF (P:=P) gs.toList 0 l m r (get cs l c1 c3) (get ds m d1 d3) h2
        have hf:P.fieldsOf t=gs:=by simp[Program.fieldsOf,hgs]
        have hst:=run_equalIn_struct (P:=P) w 9999 t cs ds (by rw[hf];exact hgs) hc.1
        rw[hf,hrun] at hst
        have hg:(eqGuard op t x y (.agg cs) (.agg ds)).run P w= .ok () w:=run_eqGuard_agg w op t x y cs ds hc.2
        cases op<;>simp only at h<;>cases h
        · exact⟨.bool r,by rw[Sem.run_bind,hg,Result.andThen_ok,run_eql_struct,hst];rfl,.bool _⟩
        · exact⟨.bool (!r),by rw[Sem.run_bind,hg,Result.andThen_ok,run_neq_struct,hst];rfl,.bool _⟩
      · cases h1
    · cases h1
theorem ok_sliceS (h : Sat E ρ V Z σ a w) {o : Oper} (hd : ∀ n, o.dst = some n → n < E.nt) {id : Nat} {t : TypeId} {T : TI} (hT : ti P t = some T) (hk : T.k = .str) {s : ByteArray} {v : Value} (hv : v = .string s)
    {lo hi:Option AV} {vlo vhi:Option Value} (hlo:∀ x,lo=some x→∃ u,vlo=some u∧Rel ρ V Z w u x) (hlo':lo=none→vlo=none) (hhi:∀ x,hi=some x→∃ u,vhi=some u∧Rel ρ V Z w u x) (hhi':hi=none→vhi=none)
    {ob:Prop} {y:AV} (hs:sliceS s lo hi=some (ob,y)) (hob:ob) (hrun:execOp a.eval o=(do pure (Next.value (← Instr.sliceAt t v vlo vhi none)))):OpOk P E o σ a w V Z id (.val y):=by
  obtain⟨u,hu,hku⟩:=run_underlying (w:=w) hT
  have hus:(underlying t).run P w= .ok .string w:=by rw[hu,tk_str (hku.trans hk)]
  subst hv
  have hb:∀ (k:IntKind) (n:Int) (m:Nat) (code:BoundsCode),0≤n→n≤m→(Instr.sliceBound (.int k n) m code).run P w= .ok n.toNat w:=by
    intro k n m code h1 h2
    unfold Instr.sliceBound
    simp only[asIntOf,Sem.run_bind,Sem.run_pure,Result.andThen_ok]
    rw[if_pos ⟨h1,h2⟩]
    rfl
  have key : ∀ (lo' hi' m : Nat) (y : AV), y = .str (s.extract lo' hi') →
      (Instr.sliceBounds false s.size s.size vlo vhi none).run P w= .ok (lo',hi',m) w→OpOk P E o σ a w V Z id (.val y):=by
    intro lo' hi' m y hy hsb
    subst hy
    have hr:(Instr.sliceAt t (.string s) vlo vhi none).run P w= .ok (.string (s.extract lo' hi')) w:=by
      unfold Instr.sliceAt Instr.slice
      simp[Sem.run_bind,hus,Result.andThen_ok,hsb,Sem.run_pure]
    exact ok_val h hd (by rw[hrun,run_value hr]) (.str _)
  unfold sliceS at hs
  split at hs
  · cases hs
    rw[hlo' rfl,hhi' rfl] at key
    exact key 0 s.size s.size _ rfl (by simp[Instr.sliceBounds])
  · rename_i k n
    cases hs
    obtain⟨h1,h2⟩:=hob
    obtain⟨u,hu1,hu2⟩:=hlo _ rfl
    rw[hu1,hhi' rfl,hu2.int_inv] at key
    exact key n.toNat s.size s.size _ rfl (by simp[Instr.sliceBounds,hb k n s.size .sliceB h1 (by omega)])
  · rename_i k n
    cases hs
    obtain⟨h1,h2⟩:=hob
    obtain⟨u,hu1,hu2⟩:=hhi _ rfl
    rw[hu1,hlo' rfl,hu2.int_inv] at key
    exact key 0 n.toNat s.size _ rfl (by simp[Instr.sliceBounds,hb k n s.size .sliceAlen h1 (by omega)])
  · rename_i k n k' m
    cases hs
    obtain⟨h1,h2,h3⟩:=hob
    obtain⟨u,hu1,hu2⟩:=hlo _ rfl
    obtain⟨u',hu1',hu2'⟩:=hhi _ rfl
    rw[hu1,hu1',hu2.int_inv,hu2'.int_inv] at key
    exact key n.toNat m.toNat s.size _ rfl (by
      have e1:=hb k' m s.size .sliceAlen (by omega) (by omega)
      have e2:=hb k n m.toNat .sliceB h1 (by omega)
      simp[Instr.sliceBounds,e1,e2])
  · cases hs
theorem find_nowS {n : ByteArray} : ∀ (es : List (AV × AV)) (l : List MapEntry) (i : Nat) (r : Option AV), l.length = es.length →
    (∀ j,j<es.length→Rel ρ V Z w ((l.getD j default).key) (es.getD j default).1∧Rel ρ V Z w ((l.getD j default).val) (es.getD j default).2)→findS n es=some r→
    (∃ j v x,r=some x∧Instr.findNow .string (.string n) l i=some (some (j,v))∧Rel ρ V Z w v x)∨(r=none∧Instr.findNow .string (.string n) l i=some none)
  | [],l,i,r,hl,_,hf=>by
    obtain rfl:l=[]:=List.length_eq_zero_iff.1 hl
    cases hf
    exact .inr ⟨rfl,rfl⟩
  |(y,x)::es,[],i,r,hl,_,_=>by simp at hl
  |(y,x)::es,e::l,i,r,hl,hr,hf=>by
    have h0:=hr 0 (by simp)
    simp only[List.getD_cons_zero] at h0
    cases y<;>simp only[findS] at hf<;>try(cases hf;done)
    rename_i n'
    have hk:e.key= .string n':=h0.1.str_inv'
    · split at hf
      · rename_i hnn
        subst hnn
        cases hf
        exact .inl ⟨i,e.val,x,rfl,by simp[Instr.findNow,hk,Instr.sameNow,ba_self],h0.2⟩
      · rename_i hnn
        have hne:(n==n')=false:=ba_ne hnn
        have e1:Instr.findNow .string (.string n) (e::l) i=Instr.findNow .string (.string n) l (i+1):=by
          simp[Instr.findNow,hk,Instr.sameNow,hne]
        rw[e1]
        exact find_nowS es l (i+1) r (by simpa using hl) (fun j hj=>by simpa using hr (j+1) (by simpa using hj)) hf
theorem run_checkStr {kt:TypeId} {n:ByteArray} (hd:P.underlying kt=some .string) (e:Bool) (m:Nat):(Instr.checkKey e (m+1) kt (.string n)).run P w= .ok () w:=by
 unfold Instr.checkKey
 simp[Go.run_underlying hd,Result.andThen]
theorem ok_insertS (h : Sat E ρ V Z σ a w) {o : Oper} (hd : ∀ n, o.dst = some n → n < E.nt) {id : Nat} {t kt et : TypeId} {T Tk : TI} (hT : ti P t = some T) (hk : T.k = .map kt et) (hTk : ti P kt = some Tk) (hkk : Tk.k = .str)
    {mid:Nat} {es:List (AV×AV)} {m key x:Value} {n:ByteArray} {y:AV} (hm:Rel ρ V Z w m (.mp mid)) (hkey:Rel ρ V Z w key (.str n)) (hx:Rel ρ V Z w x y) (hob:σ.hp mid=some (.map es)) (hf:findS n es=some none)
    (hrun:execOp a.eval o=(do let () ← Instr.mapUpdate t m key x;pure Next.skip)):
    OpOk P E o σ a w V Z id (.set mid (.map (es++[(.str n,y)])) (.tup [])):=by
  obtain⟨ents,clock,h0,h1,⟨h2,hst⟩,h3⟩:=map_entries (h.hs.obj _ _ hob).2
  obtain⟨u,hu1,hu2⟩:=und_of hT
  rw[hk] at hu2
  obtain rfl:=tk_map hu2
  obtain⟨u',hu1',hu2'⟩:=und_of hTk
  rw[hkk] at hu2'
  obtain rfl:=tk_str hu2'
  obtain⟨rfl,hv⟩:=hm.mp_inv'
  obtain rfl:=hkey.str_inv'
  have hfn:Instr.findNow .string (.string n) ents.toList 0=some none:=by
    rcases find_nowS es ents.toList 0 none h2 h3 hf with ⟨_,_,_,h,_⟩|⟨_,h⟩
    · cases h
    · exact h
  have hlt:(ρ mid).blk<w.heap.size:=(Array.getElem?_eq_some_iff.1 h1).1
  have hr:(Instr.mapUpdate t (.map (some (ρ mid).blk)) (.string n) x).run P w= .ok () { w with heap:=w.heap.setIfInBounds (ρ mid).blk (.map (ents.push { key:= .string n,val:=x,born:=clock }) (clock+1)) } :=by
    unfold Instr.mapUpdate
    simp[Go.run_underlying hu1,MapKept.run_getObj_map h1,run_checkStr hu1',MapKept.run_findKey hu1' hfn,MapKept.run_setObj_map _ h1,Result.andThen]
  have hcell:∀ b o,Z b o→({ w with heap:=w.heap.setIfInBounds (ρ mid).blk (.map (ents.push { key:= .string n,val:=x,born:=clock }) (clock+1)) } :World).cell? ⟨b,o,none⟩=w.cell? ⟨b,o,none⟩:=by
    intro b o hz
    refine cell?_of_heap ?_
    have hne:(ρ mid).blk≠b:=fun e=>h.hs.sep mid _ b hob ⟨h0,e⟩ o hz
    show(w.heap.setIfInBounds _ _)[b]? =_
    simp[hne]
  refine⟨.skip,{ w with heap:=w.heap.setIfInBounds (ρ mid).blk (.map (ents.push { key:= .string n,val:=x,born:=clock }) (clock+1)) },undef,ρ,V,?_,.inr ⟨rfl,rfl⟩,fun _ h=>h,fun _ h=> .inl h,?_⟩
  · rw[hrun]
    simp[hr]
  · refine h.set hd hob h0 ?_ (by simp) rfl rfl ?_ ?_ (.tup #[] [] rfl (fun i hi=>absurd hi (Nat.not_lt_zero _)))
    · intro b hb
      show(w.heap.setIfInBounds _ _)[b]? =_
      simp[Ne.symm hb]
    · intro c t f hcf
      change (w.heap.setIfInBounds _ _)[_]? =_ at hcf
      simp[hlt] at hcf
    · refine⟨h0,ents.push { key:= .string n,val:=x,born:=clock },clock+1,?_,?_,?_⟩
      · show(w.heap.setIfInBounds _ _)[_]? =_
        simp[hlt]
      · have:ents.size=es.length:=by simpa using h2
        exact⟨by simp[this],hst.push _ _⟩
      · intro i hi
        have hsz:ents.size=es.length:=by simpa using h2
        simp only[List.length_append,List.length_cons,List.length_nil] at hi
        by_cases hi2:i<es.length
        · have h4:=h3 i hi2
          have e1:((ents.push { key:= .string n,val:=x,born:=clock }).map (·.key)).getD i undef=(ents.toList.getD i default).key:=by
            have:i<ents.size:=by omega
            simp[Array.getD_eq_getD_getElem?,List.getD_eq_getElem?_getD,Array.getElem?_push,this,Nat.ne_of_lt this]
          have e2:((ents.push { key:= .string n,val:=x,born:=clock }).map (·.val)).getD i undef=(ents.toList.getD i default).val:=by
            have:i<ents.size:=by omega
            simp[Array.getD_eq_getD_getElem?,List.getD_eq_getElem?_getD,Array.getElem?_push,this,Nat.ne_of_lt this]
          have e3:(es++[(AV.str n,y)]).getD i default=es.getD i default:=by
            simp[List.getD_eq_getElem?_getD,List.getElem?_append_left hi2]
          rw[e1,e2,e3]
          exact⟨h4.1.mono (fun _ _=>rfl) (fun _ h=>h) (fun _ _ h=>h) hcell,h4.2.mono (fun _ _=>rfl) (fun _ h=>h) (fun _ _ h=>h) hcell⟩
        · obtain rfl:i=es.length:=by omega
          have e1:((ents.push { key:= .string n,val:=x,born:=clock }).map (·.key)).getD es.length undef= .string n:=by
            simp[Array.getD_eq_getD_getElem?,Array.getElem?_push,Array.getElem_push,hsz]
          have e2:((ents.push { key:= .string n,val:=x,born:=clock }).map (·.val)).getD es.length undef=x:=by
            simp[Array.getD_eq_getD_getElem?,Array.getElem?_push,Array.getElem_push,hsz]
          have e3:(es++[(AV.str n,y)]).getD es.length default=(.str n,y):=by
            simp[List.getD_eq_getElem?_getD]
          rw[e1,e2,e3]
          exact⟨.str _,hx.mono (fun _ _=>rfl) (fun _ h=>h) (fun _ _ h=>h) hcell⟩
theorem find_updS {n : ByteArray} (z : AV) : ∀ (es : List (AV × AV)) (l : List MapEntry) (i : Nat) (x : AV), l.length = es.length →
    (∀ j,j<es.length→Rel ρ V Z w ((l.getD j default).key) (es.getD j default).1∧Rel ρ V Z w ((l.getD j default).val) (es.getD j default).2)→findS n es=some (some x)→
    ∃ j v,j<es.length∧Instr.findNow .string (.string n) l i=some (some (i+j,v))∧(l.getD j default).key= .string n∧updS n z es=es.set j (.str n,z)
  | [],l,i,x,hl,_,hf=>by cases hf
  |(y,x')::es,[],i,x,hl,_,_=>by simp at hl
  |(y,x')::es,e::l,i,x,hl,hr,hf=>by
    have h0:=hr 0 (by simp)
    simp only[List.getD_cons_zero] at h0
    cases y<;>simp only[findS] at hf<;>try(cases hf;done)
    rename_i n'
    have hk:e.key= .string n':=h0.1.str_inv'
    · split at hf
      · rename_i hnn
        subst hnn
        exact⟨0,e.val,by simp,by simp[Instr.findNow,hk,Instr.sameNow,ba_self],by simpa using hk,by simp[updS]⟩
      · rename_i hnn
        have hne:(n==n')=false:=ba_ne hnn
        have e1:Instr.findNow .string (.string n) (e::l) i=Instr.findNow .string (.string n) l (i+1):=by
          simp[Instr.findNow,hk,Instr.sameNow,hne]
        obtain⟨j,v,g1,g2,g3,g4⟩:=find_updS z es l (i+1) x (by simpa using hl) (fun j hj=>by simpa using hr (j+1) (by simpa using hj)) hf
        refine⟨j+1,v,by simpa using g1,by rw[e1,g2];congr 3;omega,by simpa using g3,by simp[updS,hnn,g4]⟩
theorem ok_updateS (h : Sat E ρ V Z σ a w) {o : Oper} (hd : ∀ n, o.dst = some n → n < E.nt) {id : Nat} {t kt et : TypeId} {T Tk : TI} (hT : ti P t = some T) (hk : T.k = .map kt et) (hTk : ti P kt = some Tk) (hkk : Tk.k = .str)
    {mid:Nat} {es:List (AV×AV)} {m key x:Value} {n:ByteArray} {y:AV} (hm:Rel ρ V Z w m (.mp mid)) (hkey:Rel ρ V Z w key (.str n)) (hx:Rel ρ V Z w x y) (hob:σ.hp mid=some (.map es)) {x0:AV} (hf:findS n es=some (some x0))
    (hrun:execOp a.eval o=(do let () ← Instr.mapUpdate t m key x;pure Next.skip)):
    OpOk P E o σ a w V Z id (.set mid (.map (updS n y es)) (.tup [])):=by
  obtain⟨ents,clock,h0,h1,⟨h2,hst⟩,h3⟩:=map_entries (h.hs.obj _ _ hob).2
  obtain⟨u,hu1,hu2⟩:=und_of hT
  rw[hk] at hu2
  obtain rfl:=tk_map hu2
  obtain⟨u',hu1',hu2'⟩:=und_of hTk
  rw[hkk] at hu2'
  obtain rfl:=tk_str hu2'
  obtain⟨rfl,hv⟩:=hm.mp_inv'
  obtain rfl:=hkey.str_inv'
  obtain⟨j,v0,hj,hfn,hkj,hup⟩:=find_updS y es ents.toList 0 x0 h2 h3 hf
  rw[Nat.zero_add] at hfn
  have hsz:ents.size=es.length:=by simpa using h2
  have hjs:j<ents.size:=by omega
  have hlt:(ρ mid).blk<w.heap.size:=(Array.getElem?_eq_some_iff.1 h1).1
  have hj2:ents[j]? =some ents[j]:=Array.getElem?_eq_getElem hjs
  have hkj2:ents[j].key= .string n:=by
    have:ents.toList.getD j default=ents[j]:=by simp[List.getD_eq_getElem?_getD,hjs]
    rw[this] at hkj
    exact hkj
  obtain⟨nw,hnw⟩:∃ nw,ents.modify j (fun e=> { e with key:= .string n,val:=x })=nw:=⟨_,rfl⟩
  have hnsz:nw.size=ents.size:=by rw[← hnw];simp
  have hr:(Instr.mapUpdate t (.map (some (ρ mid).blk)) (.string n) x).run P w= .ok () { w with heap:=w.heap.setIfInBounds (ρ mid).blk (.map nw clock) } :=by
    unfold Instr.mapUpdate
    have hks:(Instr.keyThatStays (.string n) (.string n)).run P w= .ok (.string n) w:=by simp[Instr.keyThatStays,Instr.sameBits,ba_self]
    simp[Go.run_underlying hu1,MapKept.run_getObj_map h1,run_checkStr hu1',MapKept.run_findKey hu1' hfn,hj2,hkj2,hks,MapKept.run_setObj_map _ h1,hnw,Result.andThen]
  have hcell:∀ b o,Z b o→({ w with heap:=w.heap.setIfInBounds (ρ mid).blk (.map nw clock) } :World).cell? ⟨b,o,none⟩=w.cell? ⟨b,o,none⟩:=by
    intro b o hz
    refine cell?_of_heap ?_
    have hne:(ρ mid).blk≠b:=fun e=>h.hs.sep mid _ b hob ⟨h0,e⟩ o hz
    show(w.heap.setIfInBounds _ _)[b]? =_
    simp[hne]
  refine⟨.skip,{ w with heap:=w.heap.setIfInBounds (ρ mid).blk (.map nw clock) },undef,ρ,V,?_,.inr ⟨rfl,rfl⟩,fun _ h=>h,fun _ h=> .inl h,?_⟩
  · rw[hrun]
    simp[hr]
  · refine h.set hd hob h0 ?_ (by simp) rfl rfl ?_ ?_ (.tup #[] [] rfl (fun i hi=>absurd hi (Nat.not_lt_zero _)))
    · intro b hb
      show(w.heap.setIfInBounds _ _)[b]? =_
      simp[Ne.symm hb]
    · intro c t f hcf
      change (w.heap.setIfInBounds _ _)[_]? =_ at hcf
      simp[hlt] at hcf
    · refine⟨h0,nw,clock,?_,?_,?_⟩
      · show(w.heap.setIfInBounds _ _)[_]? =_
        simp[hlt]
      · rw[hup];exact⟨by simp[hnsz,hsz],hnw▸hst.modify _ _ _⟩
      · intro i hi
        rw[hup] at hi ⊢
        simp only[List.length_set] at hi
        have his:i<ents.size:=by omega
        by_cases hij:i=j
        · subst hij
          have e1:(nw.map (·.key)).getD i undef= .string n:=by
            rw[← hnw];simp[Array.getD_eq_getD_getElem?,Array.getElem_modify,his]
          have e2:(nw.map (·.val)).getD i undef=x:=by
            rw[← hnw];simp[Array.getD_eq_getD_getElem?,Array.getElem_modify,his]
          have e3:(es.set i (AV.str n,y)).getD i default=(.str n,y):=by
            simp[List.getD_eq_getElem?_getD,hi]
          rw[e1,e2,e3]
          exact⟨.str _,hx.mono (fun _ _=>rfl) (fun _ h=>h) (fun _ _ h=>h) hcell⟩
        · have h4:=h3 i hi
          have e1:(nw.map (·.key)).getD i undef=(ents.toList.getD i default).key:=by
            rw[← hnw];simp[Array.getD_eq_getD_getElem?,List.getD_eq_getElem?_getD,Array.getElem_modify,his,Ne.symm hij]
          have e2:(nw.map (·.val)).getD i undef=(ents.toList.getD i default).val:=by
            rw[← hnw];simp[Array.getD_eq_getD_getElem?,List.getD_eq_getElem?_getD,Array.getElem_modify,his,Ne.symm hij]
          have e3:(es.set j (AV.str n,y)).getD i default=es.getD i default:=by
            simp[List.getD_eq_getElem?_getD,List.getElem?_set_ne (Ne.symm hij)]
          rw[e1,e2,e3]
          exact⟨h4.1.mono (fun _ _=>rfl) (fun _ h=>h) (fun _ _ h=>h) hcell,h4.2.mono (fun _ _=>rfl) (fun _ h=>h) (fun _ _ h=>h) hcell⟩
theorem ok_lookupS (h : Sat E ρ V Z σ a w) {o : Oper} (hd : ∀ n, o.dst = some n → n < E.nt) {id : Nat} {t kt et : TypeId} {T Tk : TI} (hT : ti P t = some T) (hk : T.k = .map kt et) (hTk : ti P kt = some Tk) (hkk : Tk.k = .str)
    {z:AV} (hz:zv P et=some z) {mid:Nat} {es:List (AV×AV)} {m key:Value} {n:ByteArray} (hm:Rel ρ V Z w m (.mp mid)) (hkey:Rel ρ V Z w key (.str n)) (hob:σ.hp mid=some (.map es)) {ok:Bool} {r:Option AV} (hf:findS n es=some r)
    (hrun:execOp a.eval o=(do pure (Next.value (← Instr.lookup t m key ok)))):
    OpOk P E o σ a w V Z id (.val (lkRes ok z r)):=by
  obtain⟨ents,clock,h0,h1,⟨h2,hst⟩,h3⟩:=map_entries (h.hs.obj _ _ hob).2
  obtain⟨u,hu1,hu2⟩:=und_of hT
  rw[hk] at hu2
  obtain rfl:=tk_map hu2
  obtain⟨u',hu1',hu2'⟩:=und_of hTk
  rw[hkk] at hu2'
  obtain rfl:=tk_str hu2'
  obtain⟨rfl,_⟩:=hm.mp_inv'
  obtain rfl:=hkey.str_inv'
  rcases find_nowS es ents.toList 0 r h2 h3 hf with ⟨j,v,x,rfl,hfn,hv⟩|⟨rfl,hfn⟩
  · refine ok_val h hd (v:=if ok then .tuple #[v,.bool true] else v) ?_ ?_
    · rw[hrun]
      refine run_value ?_
      unfold Instr.lookup
      simp[Go.run_underlying hu1,MapKept.run_getObj_map h1,run_checkStr hu1',MapKept.run_findKey hu1' hfn,Result.andThen]
    · cases ok
      · exact hv
      · refine .tup _ _ rfl fun i hi=>?_
        match i,hi with
        |0,_=>exact hv
        |1,_=>exact .bool _
  · obtain⟨v,hv1,hv2⟩:=run_zv (w:=w) hz
    refine ok_val h hd (v:=if ok then .tuple #[v,.bool false] else v) ?_ ?_
    · rw[hrun]
      refine run_value ?_
      unfold Instr.lookup
      simp[Go.run_underlying hu1,MapKept.run_getObj_map h1,run_checkStr hu1',MapKept.run_findKey hu1' hfn,hv1,Result.andThen]
    · cases ok
      · exact hv2 _ _ _
      · refine .tup _ _ rfl fun i hi=>?_
        match i,hi with
        |0,_=>exact hv2 _ _ _
        |1,_=>exact .bool _
theorem u8s_map:∀ {l:List AV},U8s l→∃ ns:List Int,l=ns.map (AV.int .u8)
 | [],_=>⟨[],rfl⟩
 |x::l,h=>by
  obtain⟨n,rfl⟩:=h x (by simp)
  obtain⟨ns,rfl⟩:=u8s_map (l:=l) (fun y hy=>h y (by simp[hy]))
  exact⟨n::ns,rfl⟩
theorem push_bytes:∀ (ns:List Int) (s:ByteArray),(ns.foldl (fun r n=>r.push (UInt8.ofNat n.toNat)) s).data.toList=s.data.toList++ns.map fun n=>UInt8.ofNat n.toNat
 | [],s=>by simp
 |n::ns,s=>by rw[List.foldl_cons,push_bytes ns];simp[ByteArray.push]
theorem push_str (ns:List Int):ns.foldl (fun r n=>r.push (UInt8.ofNat n.toNat)) ByteArray.empty=strOf (ns.map (AV.int .u8)):=by
 have h:=push_bytes ns ByteArray.empty
 generalize ns.foldl (fun r n=>r.push (UInt8.ofNat n.toNat)) ByteArray.empty=b at h
 obtain⟨d⟩:=b
 simp only[strOf,ByteArray.mk.injEq,List.map_map]
 apply Array.toList_inj.1
 have h:d.toList=[]++ns.map fun n=>UInt8.ofNat n.toNat:=h
 rw[h]
 rfl
theorem bytes_run (h : Sat E ρ V Z σ a w) {x : AV} {v : Value} {o : Option AObj} {l : List AV} (hb : bytesA x o = some l) (hu : U8s l) (hx : Rel ρ V Z w v x) (hox : ∀ o', o = some o' → ∀ id, x.id? = some id → σ.hp id = some o') :
    (Conv.bytesToString v).run P w= .ok (.string (strOf l)) w:=by
  obtain⟨ns,rfl⟩:=u8s_map hu
  have hnone:∀ a,(Conv.bytesToString (.slice none a a)).run P w= .ok (.string .empty) w:=fun a=>by unfold Conv.bytesToString;rfl
  have key:∀ (b off cap:Nat),(∀ i,i<ns.length→w.cell? ⟨b,off+i,none⟩=some (.int .u8 (ns.getD i 0)))→(Conv.bytesToString (.slice (some ⟨b,off,none⟩) ns.length cap)).run P w= .ok (.string (strOf (ns.map (AV.int .u8)))) w:=by
    intro b off cap hc
    rw[← push_str]
    refine run_bytesToString w _ _ _ ns ?_
    rw[loadCells_run (fun i=> .int .u8 (ns.getD i 0)) hc]
    congr 2
    refine List.ext_getElem (by simp) fun i h1 h2=>?_
    simp only[List.length_map] at h2
    simp[List.getD_eq_getElem?_getD,h2]
  have hget:∀ i,i<ns.length→((ns.map (AV.int .u8)).getD i default)= .int .u8 (ns.getD i 0):=fun i hi=>by simp[List.getD_eq_getElem?_getD,hi]
  unfold bytesA at hb
  split at hb
  · cases hb':ns with
    |nil=>rw[hx.nilsl_inv];exact hnone 0
    |cons n ns=>subst hb';simp at hb
  · cases hb
    obtain⟨a',cap,rfl,_,h3⟩:=hx.sl_inv
    rw[List.length_map]
    rcases h3 with h3|⟨b,o',sz,cs,rfl,g1,g2,g3⟩
    · have:ns=[]:=by simpa using h3
      subst this
      cases a' with
      |none=>unfold Conv.bytesToString;rfl
      |some a'=>exact run_bytesToString w _ _ _ [] (by unfold loadCells;rfl)
    · refine key b o' cap fun i hi=>?_
      have hi':i<(ns.map (AV.int .u8)).length:=by simpa using hi
      have hsz:sz=1:=by
        have:=g1 i hi'
        rw[hget i hi] at this
        simpa [AV.cells] using this.symm
      subst hsz
      have e1:=(g2 i 0 hi' (by decide)).1
      have e2:=g3 i 0 hi' (by decide)
      rw[hget i hi] at e2
      have e3:cs i 0= .int .u8 (ns.getD i 0):=Rel.int_inv' (by simpa [AV.cells] using e2)
      rw[e3] at e1
      simpa using e1
  · rename_i id l'
    cases hb
    obtain⟨hV,hobj⟩:=h.hs.obj _ _ (hox _ rfl id rfl)
    obtain⟨rfl,_⟩:=hx.rw_inv
    unfold Ref.slice
    rcases hobj with ⟨hn,h0⟩|⟨hn,cs,ty',g1,g2,g3,g4,g5,g6⟩
    · have:ns=[]:=by simpa using h0
      subst this
      rw[if_pos hn];exact hnone 0
    · rw[if_neg (by simp[hn]),g2,List.length_map]
      rw[List.length_map] at g2 g3
      refine key _ _ _ fun i hi=>?_
      have hi':i<(ns.map (AV.int .u8)).length:=by simpa using hi
      obtain⟨_,e2⟩:=g6 i 0 hi' (by decide)
      rw[hget i hi] at e2
      have e3:cs.getD ((ρ id).off+i*1+0) undef= .int .u8 (ns.getD i 0):=Rel.int_inv' (by simpa [AV.cells] using e2)
      have hlt:(ρ id).off+i<cs.size:=by omega
      have e4:cs[(ρ id).off+i]? =some (.int .u8 (ns.getD i 0)):=by
        rw[Nat.mul_one,Nat.add_zero,Array.getD_eq_getD_getElem?] at e3
        rw[Array.getElem?_eq_getElem hlt] at e3 ⊢
        simpa using e3
      simp[World.cell?,g1,e4]
  · cases hb
end Go.Am
