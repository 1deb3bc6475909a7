/- A part of the proof: an abstract machine for the walks, and what the walked functions compute. -/
import Derived.ProofKit
import Derived.OpenShut
import Derived.JoinedCond
import Derived.ChangeArms
import Derived.WideKeyArgs
import Derived.Test.YtffmphmiicnaeaaDoorMf
set_option linter.unusedVariables false
set_option linter.unusedSimpArgs false
namespace Go.Am
open Go Go.ChangeShapes Go.WideShapes Go.ChangeAt Go.RowKit
variable {H:Type}
mutual
def avD:DataW H→AV
 | .lit (.bool b)=> .bool b
 | .lit (.int k n)=> .int k n
 | .lit (.string s)=> .str ⟨s.toArray⟩
 | .nil=> .sl []
 | .slice elems _=> .sl (avDL elems)
 | .agg parts=> .agg (avDC parts)
 |_=> .nilp
def avDL:List (DataW H)→List AV
 | []=>[]
 |d::l=>avD d::avDL l
def avDC:List (DataW H)→List AV
 | []=>[]
 |d::l=>(avD d).cells++avDC l
end
theorem avDL_eq:∀ l:List (DataW H),avDL l=l.map avD
 | []=>rfl
 |d::l=>by rw[avDL,avDL_eq l];rfl
inductive DT (P:Program):TypeId→DataW H→Prop
  |bool (t:TypeId) (b:Bool):P.underlying t=some .bool→DT P t (.lit (.bool b))
  |int (t:TypeId) (k:IntKind) (n:Int):P.underlying t=some (.int k)→(Lit.int k n).wf=true→DT P t (.lit (.int k n))
  |str (t:TypeId) (s:List UInt8):P.underlying t=some .string→DT P t (.lit (.string s))
  |nils (t e:TypeId):P.underlying t=some (.slice e)→DT P t .nil
  |sl (t e:TypeId) (elems spare:List (DataW H)):P.underlying t=some (.slice e)→(∀ d,d∈elems→DT P e d)→elems.length≤maxLen→DT P t (.slice elems spare)
  | agg (t : TypeId) (fs : Array Field) (parts : List (DataW H)) : P.underlying t = some (.struct fs) → parts.length = fs.size →
      (∀ (i:Nat) (f:Field) d,fs[i]? =some f→parts[i]? =some d→DT P f.type d)→DT P t (.agg parts)
def offOk (P:Program):List Field→Nat→Option Nat
 | [],n=>some n
 |f::fs,n=>if f.offset=n then offOk P fs (n+P.cellsOf f.type) else none
def plainT (P:Program) (l:List TypeId) (t:TypeId):Bool:=
 match P.underlying t with
 |some .bool|some (.int _)|some .string=>true
 |some (.slice e)=>l.contains e&&decide (0<P.cellsOf e)
 |some (.struct fs)=>fs.toList.all (fun f=>l.contains f.type)&&decide (offOk P fs.toList 0=some (P.cellsOf t))
 |_=>false
def OpC (ρ:Nat→Ref) (V:Nat→Prop) (w:World) (cs:List Value) (d:DataW H):Prop:=
 (avD d).cells.length=cs.length∧∀ j,j<cs.length→Rel ρ V (fun b _=>b<w.heap.size) w (cs.getD j undef) ((avD d).cells.getD j default)∧((avD d).cells.getD j default).one=true∧((avD d).cells.getD j default).clo=true
theorem offOk_le {P:Program} :∀ (fs:List Field) (n e:Nat),offOk P fs n=some e→n≤e
 | [],n,e,h=>by simp[offOk] at h;omega
 |f::fs,n,e,h=>by
  simp only[offOk] at h
  split at h
  ·have:=offOk_le fs _ _ h;omega
  ·cases h
theorem agg_open {P : Program} {ρ : Nat → Ref} {V : Nat → Prop} {w : World} {cs : List Value} : ∀ (fs : List Field) (ds : List (DataW H)) (off e : Nat), offOk P fs off = some e → e ≤ cs.length → ds.length = fs.length →
    (∀ (i:Nat) (f:Field) d,fs[i]? =some f→ds[i]? =some d→OpC ρ V w ((cs.drop f.offset).take (P.cellsOf f.type)) d)→
    (avDC ds).length=e - off∧∀ j,j<e - off→Rel ρ V (fun b _=>b<w.heap.size) w (cs.getD (off+j) undef) ((avDC ds).getD j default)∧((avDC ds).getD j default).one=true∧((avDC ds).getD j default).clo=true
  | [],[],off,e,h,_,_,_=>by
    simp[offOk] at h
    subst h
    exact⟨by simp[avDC],fun j hj=>absurd hj (by omega)⟩
  | [],_::_,_,_,_,_,hl,_=>by simp at hl
  |_::_,[],_,_,_,_,hl,_=>by simp at hl
  |f::fs,d::ds,off,e,h,he,hl,hd=>by
    simp only[offOk] at h
    split at h
    · rename_i ho
      have hle:=offOk_le fs _ _ h
      obtain⟨h1,h2⟩:=agg_open fs ds _ _ h he (by simpa using hl) (fun i f' d' hf hd'=>hd (i+1) f' d' (by simpa using hf) (by simpa using hd'))
      obtain⟨h3,h4⟩:=hd 0 f d rfl rfl
      have hlen:((cs.drop f.offset).take (P.cellsOf f.type)).length=P.cellsOf f.type:=by simp;omega
      rw[hlen] at h3 h4
      refine⟨by simp only[avDC,List.length_append,h3,h1];omega,fun j hj=>?_⟩
      simp only[avDC]
      by_cases hj2:j<P.cellsOf f.type
      · have:=h4 j hj2
        have e1:((avD d).cells++avDC ds).getD j default=(avD d).cells.getD j default:=by
          simp only[List.getD_eq_getElem?_getD];rw[List.getElem?_append_left (by omega)]
        have e2:((cs.drop f.offset).take (P.cellsOf f.type)).getD j undef=cs.getD (off+j) undef:=by
          simp only[List.getD_eq_getElem?_getD];rw[List.getElem?_take_of_lt hj2,List.getElem?_drop,ho]
        rw[e1, ← e2];exact this
      · have:=h2 (j - P.cellsOf f.type) (by omega)
        have e1:((avD d).cells++avDC ds).getD j default=(avDC ds).getD (j - P.cellsOf f.type) default:=by
          simp only[List.getD_eq_getElem?_getD];rw[List.getElem?_append_right (by omega),h3]
        rw[e1,show off+j=off+P.cellsOf f.type+(j - P.cellsOf f.type) by omega];exact this
    · cases h
theorem one_cell {ρ:Nat→Ref} {V:Nat→Prop} {w:World} {v:Value} {d:DataW H} (h1:Rel ρ V (fun b _=>b<w.heap.size) w v (avD d)) (h2:(avD d).one=true) (h3:(avD d).clo=true):OpC ρ V w [v] d:=by
 have e:(avD d).cells=[avD d]:=by
  apply AV.cells_one
  intro l hl
  rw[hl] at h2
  cases h2
 unfold OpC
 rw[e]
 refine⟨rfl,fun j hj=>?_⟩
 obtain rfl:j=0:=by simp at hj;omega
 exact⟨h1,h2,h3⟩
theorem cell_lt {w:World} {a:Addr} {v:Value} (h:w.cell? a=some v):a.block<w.heap.size:=by
 unfold World.cell? at h
 rcases Nat.lt_or_ge a.block w.heap.size with h1|h1
 ·exact h1
 ·rw[Array.getElem?_eq_none h1] at h
  cases h
theorem trod_open {P : Program} {enc : TypeId × Value → H} {ρ : Nat → Ref} {V : Nat → Prop} {w : World} {l : List TypeId} (hl : l.all (plainT P l) = true) : ∀ (fuel : Nat) (t : TypeId) (cs : List Value) (x : DataW H × List MemPlace), t ∈ l →
    DataW.trod enc P w 0 (fun _=>true) true fuel t cs=some x→OpC ρ V w cs x.1∧DT P t x.1:=by
  intro fuel
  induction fuel using Nat.strongRecOn with
  |_ fuel ih=>
    intro t cs x ht h
    have hp:=List.all_eq_true.1 hl t ht
    unfold plainT at hp
    cases hu:P.underlying t with
    |none=>simp[hu] at hp
    |some u=>
      rw[hu] at hp
      cases u<;>simp only[Bool.false_eq_true] at hp
      case bool=>
        obtain⟨b,rfl,rfl⟩:=DataW.trod_bool hu h
        exact⟨one_cell (by rw[avD];exact .bool b) (by rw[avD];rfl) (by rw[avD];rfl),.bool t b hu⟩
      case int k=>
        obtain⟨n,rfl,rfl,hw⟩:=DataW.trod_int hu h
        exact⟨one_cell (by rw[avD];exact .int k n) (by rw[avD];rfl) (by rw[avD];rfl),.int t k n hu hw⟩
      case string=>
        obtain⟨s,rfl,rfl,hs⟩:=DataW.trod_string hu h
        exact⟨one_cell (by rw[avD];exact .str s) (by rw[avD];rfl) (by rw[avD];rfl),.str t _ hu⟩
      case slice e=>
        simp only[Bool.and_eq_true,List.contains_iff_mem,decide_eq_true_eq] at hp
        obtain⟨he,hpos⟩:=hp
        rcases DataW.trod_slice hu h with ⟨rfl,rfl⟩|⟨a,len,cap,elems,rest,n,rfl,rfl,rfl,hb,hlc,hcm,hel,hcells,_,_⟩
        · exact⟨one_cell (by rw[avD];exact .sl0 _ _) (by rw[avD];rfl) (by rw[avD];rfl),.nils t e hu⟩
        · have hget : ∀ i, i < len → ∃ (ds : DataW H × List MemPlace) (c : List Value), elems[i]? = some ds ∧ w.cells? 0 (a.add (i * P.cellsOf e)) (P.cellsOf e) = some c ∧ OpC ρ V w c ds.1 ∧ DT P e ds.1 := by
            intro i hi
            have h1:=hcells i hi
            have h2:elems[i]? =some (elems[i]'(by omega)):=List.getElem?_eq_getElem (by omega)
            rw[h2] at h1
            simp only[Option.bind_eq_some_iff] at h1
            obtain⟨c,h3,h4⟩:=h1
            exact⟨_,c,h2,h3,ih n (by omega) e c _ he h4⟩
          have hdt:DT P t (DataW.slice (elems.map (·.1)) (rest.map (·.1))):=by
            refine .sl t e _ _ hu (fun d hd=>?_) (by simp;omega)
            obtain⟨y,hy,rfl⟩:=List.mem_map.1 hd
            obtain⟨i,hi,rfl⟩:=List.getElem_of_mem hy
            obtain⟨ds,c,g1,g2,g3,g4⟩:=hget i (by omega)
            rw[List.getElem?_eq_getElem hi] at g1
            cases g1
            exact g4
          refine⟨?_,hdt⟩
          have hav:avD (DataW.slice (elems.map (·.1)) (rest.map (·.1)))= .sl (elems.map fun y=>avD y.1):=by
            rw[avD,avDL_eq,List.map_map];rfl
          refine one_cell ?_ (by rw[hav];rfl) (by rw[hav];rfl)
          rw[hav]
          by_cases h0:len=0
          · subst h0
            obtain rfl:elems=[]:=List.length_eq_zero_iff.1 hel
            exact .sl0 _ _
          · obtain⟨b,o,sp⟩:=a
            have hsp:sp=none:=by
              obtain⟨ds,c,g1,g2,_⟩:=hget 0 (by omega)
              obtain⟨_,k1,k2⟩:=World.cells?_some g2
              have:=k2 0 hpos
              rw[List.getElem?_eq_getElem (by omega)] at this
              have:=World.cell?_spot this
              simpa [Addr.add] using this
            subst hsp
            have key:∀ i j,i<len→j<P.cellsOf e→∃ (ds:DataW H×List MemPlace) (c:List Value),elems[i]? =some ds∧c.length=P.cellsOf e∧OpC ρ V w c ds.1∧w.cell? ⟨b,o+i*P.cellsOf e+j,none⟩=some (c.getD j undef)∧b<w.heap.size:=by
              intro i j hi hj
              obtain⟨ds,c,g1,g2,g3,_⟩:=hget i hi
              obtain⟨_,k1,k2⟩:=World.cells?_some g2
              have k3:=k2 j hj
              rw[List.getElem?_eq_getElem (by omega),addr_add,addr_add] at k3
              exact⟨ds,c,g1,k1,g3,by rw[k3];simp[List.getD_eq_getElem?_getD,show j<c.length by omega],cell_lt k3⟩
            have hgd:∀ i (ds:DataW H×List MemPlace),elems[i]? =some ds→(elems.map fun y=>avD y.1).getD i default=avD ds.1:=by
              intro i ds hds
              simp[List.getD_eq_getElem?_getD,hds]
            have:=@Rel.sl ρ V (fun b _=>b<w.heap.size) w b o cap (P.cellsOf e) (elems.map fun y=>avD y.1) (fun i j=>(w.cell? ⟨b,o+i*P.cellsOf e+j,none⟩).getD undef) (by simp;omega) (fun i hi=>?_) (fun i j hi hj=>?_) (fun i j hi hj=>?_)
            · rw[List.length_map,hel] at this;exact this
            · rw[List.length_map,hel] at hi
              obtain⟨ds,c,g1,g2,g3,_⟩:=key i 0 hi hpos
              rw[hgd i ds g1,g3.1,g2]
            · rw[List.length_map,hel] at hi
              obtain⟨ds,c,g1,g2,g3,g4,g5⟩:=key i j hi hj
              rw[hgd i ds g1]
              refine⟨by rw[g4];rfl,g5,(g3.2 j (by omega)).2⟩
            · rw[List.length_map,hel] at hi
              obtain⟨ds,c,g1,g2,g3,g4,g5⟩:=key i j hi hj
              rw[hgd i ds g1,g4]
              exact(g3.2 j (by omega)).1
      case struct fs=>
        simp only[Bool.and_eq_true,List.all_eq_true,List.contains_iff_mem,decide_eq_true_eq] at hp
        obtain⟨hfs,hoff⟩:=hp
        obtain⟨xs,n,rfl,rfl,hlen,hxl,hxs⟩:=DataW.trod_struct hu h
        have hget:∀ (i:Nat) (f:Field) d,fs[i]? =some f→(xs.map (·.1))[i]? =some d→OpC ρ V w ((cs.drop f.offset).take (P.cellsOf f.type)) d∧DT P f.type d:=by
          intro i f d hf hd
          rw[List.getElem?_map] at hd
          cases hx:xs[i]? with
          |none=>simp[hx] at hd
          |some y=>
            simp only[hx,Option.map_some,Option.some.injEq] at hd
            subst hd
            have h1:=hxs i f hf
            rw[hx] at h1
            refine ih n (by omega) f.type _ y (hfs f ?_) h1
            have:fs.toList[i]? =some f:=by simpa using hf
            exact List.mem_of_getElem? this
        refine⟨?_,.agg t fs _ hu (by simpa using hxl) (fun i f d hf hd=>(hget i f d hf hd).2)⟩
        obtain⟨h1,h2⟩:=agg_open (P:=P) (ρ:=ρ) (V:=V) (w:=w) (cs:=cs) fs.toList (xs.map (·.1)) 0 _ hoff (by omega) (by simp[hxl]) (fun i f d hf hd=>(hget i f d (by simpa using hf) hd).1)
        have hav:(avD (DataW.agg (xs.map (·.1)))).cells=avDC (xs.map (·.1)):=by rw[avD];rfl
        unfold OpC
        rw[hav]
        refine⟨by rw[h1];omega,fun j hj=>?_⟩
        have:=h2 j (by omega)
        rw[Nat.zero_add] at this
        exact this
theorem arg_open {P : Program} {enc : TypeId × Value → H} {ρ : Nat → Ref} {V : Nat → Prop} {w : World} {l : List TypeId} (hl : l.all (plainT P l) = true) {t : TypeId} (ht : t ∈ l) {v : Value} {d : DataW H} {ps : List MemPlace} {base : Nat}
    (hv:Value.okWide P w .any base t v) (h:DataW.Trod enc P w 0 (fun _=>true) true t v d ps):Rel ρ V (fun b _=>b<w.heap.size) w v (avD d)∧DT P t d:=by
  obtain⟨fuel,hf⟩:=h
  obtain⟨h1,h2⟩:=trod_open (ρ:=ρ) (V:=V) hl fuel t _ _ ht hf
  refine⟨?_,h2⟩
  have hp:=List.all_eq_true.1 hl t ht
  unfold plainT at hp
  have single:(∀ cs,v≠ .agg cs)→(∀ l,avD d≠ .agg l)→Rel ρ V (fun b _=>b<w.heap.size) w v (avD d):=by
    intro g1 g2
    rw[Value.cells_one g1] at h1
    have:=h1.2 0 (by simp)
    rw[AV.cells_one g2] at this
    exact this.1
  cases h2 with
  |bool t b hu=>obtain⟨b',rfl⟩:=okWide_bool hu hv;exact single (fun _ h=>by cases h) (fun _ h=>by rw[avD] at h;cases h)
  |int t k n hu _=>obtain⟨b',rfl⟩:=okWide_int hu hv;exact single (fun _ h=>by cases h) (fun _ h=>by rw[avD] at h;cases h)
  |str t s hu=>obtain⟨b',rfl⟩:=okWide_string hu hv;exact single (fun _ h=>by cases h) (fun _ h=>by rw[avD] at h;cases h)
  |nils t e hu=>obtain⟨a,n,c,rfl⟩:=okWide_slice hu hv;exact single (fun _ h=>by cases h) (fun _ h=>by rw[avD] at h;cases h)
  |sl t e es sp hu _ _=>obtain⟨a,n,c,rfl⟩:=okWide_slice hu hv;exact single (fun _ h=>by cases h) (fun _ h=>by rw[avD] at h;cases h)
  |agg t fs parts hu hn hd=>
    obtain⟨cs,rfl,hcs⟩:=okWide_struct hu hv
    have hc:(Value.agg cs).cells=cs:=rfl
    rw[hc] at h1
    have hav:avD (DataW.agg parts)= .agg (avDC parts):=by rw[avD]
    unfold OpC at h1
    rw[hav] at h1 ⊢
    have e1:(AV.agg (avDC parts)).cells=avDC parts:=rfl
    rw[e1] at h1
    have hs:cs.toList.length=cs.size:=by simp
    refine .agg cs _ (by rw[h1.1,hs]) (fun i hi=>?_) (fun i hi=>?_)
    · exact(h1.2 i (by rw[← h1.1];exact hi)).2.1
    · have:=(h1.2 i (by rw[← h1.1];exact hi)).1
      simpa [List.getD_eq_getElem?_getD,Array.getD_eq_getD_getElem?] using this
theorem args_open {P : Program} {enc : TypeId × Value → H} {ρ : Nat → Ref} {V : Nat → Prop} {w : World} {l : List TypeId} (hl : l.all (plainT P l) = true) {base : Nat} : ∀ (ts : List TypeId) (vs : List Value) (ds : List (DataW H)) (ps : List MemPlace), (∀ t, t ∈ ts → t ∈ l) →
    (∀ (j:Nat) t v,ts[j]? =some t→vs[j]? =some v→Value.okWide P w .any base t v)→DataW.TrodAll enc P w 0 (fun _=>true) true ts vs ds ps→
    vs.length=ts.length∧ds.length=ts.length∧(∀ i,i<ds.length→Rel ρ V (fun b _=>b<w.heap.size) w (vs.getD i undef) ((ds.map avD).getD i default))∧∀ (i:Nat) t d,ts[i]? =some t→ds[i]? =some d→DT P t d
  | [],[],[],_,_,_,_=>⟨rfl,rfl,fun i hi=>absurd hi (Nat.not_lt_zero _),fun i t d ht=>by simp at ht⟩
  |t::ts,v::vs,d::ds,ps,ht,hv,h=>by
    obtain⟨p,q,h1,h2,_⟩:=h
    obtain⟨a1,a2⟩:=arg_open (ρ:=ρ) (V:=V) hl (ht t (by simp)) (hv 0 t v rfl rfl) h1
    obtain⟨b1,b2,b3,b4⟩:=args_open (ρ:=ρ) (V:=V) hl ts vs ds q (fun t h=>ht t (by simp[h])) (fun j t v hj hk=>hv (j+1) t v (by simpa using hj) (by simpa using hk)) h2
    refine⟨by simp[b1],by simp[b2],fun i hi=>?_,fun i t' d' ht' hd'=>?_⟩
    · cases i with
      |zero=>exact a1
      |succ i=>simpa using b3 i (by simpa using hi)
    · cases i with
      |zero=>simp at ht' hd';subst ht' hd';exact a2
      |succ i=>exact b4 i t' d' (by simpa using ht') (by simpa using hd')
  | [],_::_,_,_,_,_,h=>h.elim
  | [],[],_::_,_,_,_,h=>h.elim
  |_::_,[],_,_,_,_,h=>h.elim
  |_::_,_::_,[],_,_,_,h=>h.elim
theorem Ext.frozen {w w':World} (h:Ext w w' (fun _=>False)) (a:Addr) (ha:a.block<w.heap.size):w'.frozen? a=w.frozen? a:=by
 unfold World.frozen?
 rw[h.old a.block ha (fun h=>h)]
theorem Ext.kept {w w':World} (h:Ext w w' (fun _=>False)) (may:MemPlace→Prop):w.keptBut w' may:=by
 refine⟨h.os,h.out,fun i hi=>?_⟩
 rw[h.old i hi (fun h=>h)]
 cases w.heap[i]? with
 |none=>rfl
 |some o=>
  cases o with
  |cells c t f=>exact⟨rfl,rfl,rfl,fun _ _=>rfl⟩
  |map=>exact .inr ⟨rfl,rfl⟩
  |_=>rfl
theorem ext_trodAll {P : Program} {enc : TypeId × Value → H} {W W' : World} (hl : laidOutB P = true) (hx : Ext W W' (fun _ => False)) {sp : Nat → Bool} : ∀ {ts : List TypeId} {vs : List Value} {ds : List (DataW H)} {ps : List MemPlace}, (ts.all fun t => P.readableRec t && decide (t < P.types.size)) = true →
    DataW.TrodAll enc P W 0 (fun _=>true) true ts vs ds ps→(∀ p∈ps,p.block<W.heap.size)→(∀ p∈ps,sp p.block=true)→DataW.TrodAll enc P W' 0 sp true ts vs ds ps
  | [],[],[],_,_,h,_,_=>h
  |t::ts,v::vs,d::ds,ps,hr,⟨p,q,h1,h2,e⟩,hlt,hsp=>by
    subst e
    simp only[List.all_cons,Bool.and_eq_true,decide_eq_true_eq] at hr
    refine⟨p,q,WideElems.Trod_stays hl hr.1.1 hr.1.2 h1 (fun x hx'=>?_) (fun x hx'=>hsp x (by simp[hx'])),ext_trodAll hl hx hr.2 h2 (fun x hx'=>hlt x (by simp[hx'])) (fun x hx'=>hsp x (by simp[hx'])),rfl⟩
    have hB:Below W.heap.size W { W' with tape:=W.tape } :=⟨hx.os,rfl,hx.out,hx.le,fun k hk=>hx.old k hk (fun h=>h)⟩
    have:=hB.same (hlt x (by simp[hx']))
    cases x with
    |cell b o=>exact this
    |map b=>exact this
  | [],_::_,_,_,_,h,_,_=>h.elim
  | [],[],_::_,_,_,h,_,_=>h.elim
  |_::_,[],_,_,_,h,_,_=>h.elim
  |_::_,_::_,[],_,_,h,_,_=>h.elim
mutual
def bulk:DataW H→Nat
 | .lit (.string bytes)=>bytes.length+1
 | .lit _=>1
 | .nil=>1
 | .ptr d=>bulk d+1
 | .slice elems spare=>bulkL elems+bulkL spare+1
 | .agg parts=>bulkL parts+1
 | .iface _ d=>bulk d+1
 | .map entries=>bulkE entries+1
 | .held _=>1
def bulkL:List (DataW H)→Nat
 | []=>0
 |d::r=>bulk d+bulkL r
def bulkE:List (Lit×DataW H)→Nat
 | []=>0
 |x::r=>bulkP x+bulkE r
def bulkP:Lit×DataW H→Nat
 |(.string bytes,d)=>bytes.length+bulk d+1
 |(_,d)=>bulk d+1
end
theorem bulk_pos (d:DataW H):1≤bulk d:=by
 cases d with
 |lit l=>cases l<;>simp[bulk]
 |nil=>simp[bulk]
 |ptr d=>simp[bulk]
 |slice elems spare=>simp[bulk]
 |agg parts=>simp[bulk]
 |iface t d=>simp[bulk]
 |map entries=>simp[bulk]
 |held h=>simp[bulk]
theorem bulk_mem {d:DataW H} :∀ {l:List (DataW H)},d∈l→bulk d≤bulkL l
 |x::r,h=>by
  simp only[bulkL]
  rcases List.mem_cons.1 h with e|e
  ·subst e;omega
  ·have:=bulk_mem e;omega
theorem DT.int_inv {P:Program} {t:TypeId} {k:IntKind} {d:DataW H} (hu:P.underlying t=some (.int k)) (h:DT P t d):∃ n,avD d= .int k n∧(Lit.int k n).wf=true:=by
 cases h with
 |int t k' n hu' hw=>rw[hu] at hu';cases hu';exact⟨n,by rw[avD],hw⟩
 |_=>simp_all
theorem DT.bool_inv {P:Program} {t:TypeId} {d:DataW H} (hu:P.underlying t=some .bool) (h:DT P t d):∃ b,avD d= .bool b:=by
 cases h with
 |bool t b hu'=>exact⟨b,by rw[avD]⟩
 |_=>simp_all
theorem DT.str_inv {P:Program} {t:TypeId} {d:DataW H} (hu:P.underlying t=some .string) (h:DT P t d):∃ s:ByteArray,avD d= .str s∧s.size+1≤bulk d:=by
 cases h with
 |str t s hu'=>exact⟨⟨s.toArray⟩,by rw[avD],by simp[bulk,ByteArray.size]⟩
 |_=>simp_all
theorem DT.slice_inv {P:Program} {t e:TypeId} {d:DataW H} (hu:P.underlying t=some (.slice e)) (h:DT P t d):∃ elems:List (DataW H),avD d= .sl (elems.map avD)∧(∀ x,x∈elems→DT P e x)∧bulkL elems+1≤bulk d:=by
 cases h with
 |nils t e' hu'=>exact⟨[],by rw[avD];rfl,fun x hx=>absurd hx List.not_mem_nil,by simp[bulk,bulkL]⟩
 |sl t e' elems spare hu' hd _=>rw[hu] at hu';cases hu';exact⟨elems,by rw[avD,avDL_eq],hd,by simp only[bulk];omega⟩
 |_=>simp_all
theorem DT.struct_inv {P:Program} {t:TypeId} {fs:Array Field} {d:DataW H} (hu:P.underlying t=some (.struct fs)) (h:DT P t d):∃ parts:List (DataW H),avD d= .agg (avDC parts)∧parts.length=fs.size∧(∀ (i:Nat) (f:Field) d,fs[i]? =some f→parts[i]? =some d→DT P f.type d)∧bulk d=bulkL parts+1:=by
 cases h with
 |agg t fs' parts hu' hn hd=>rw[hu] at hu';cases hu';exact⟨parts,by rw[avD],hn,hd,by simp only[bulk]⟩
 |_=>simp_all
theorem list_open {α:Type} {p:DataW H→Prop} (av:α→AV) (sz:α→Nat):∀ (elems:List (DataW H)),(∀ x,x∈elems→∃ a,avD x=av a∧sz a≤bulk x)→∃ l:List α,elems.map avD=l.map av∧(l.map sz).sum≤bulkL elems∧l.length=elems.length
 | [],_=>⟨[],rfl,Nat.le_refl _,rfl⟩
 |x::r,h=>by
  obtain⟨a,h1,h2⟩:=h x (by simp)
  obtain⟨l,h3,h4,h5⟩:=list_open (p:=p) av sz r (fun y hy=>h y (by simp[hy]))
  exact⟨a::l,by simp[h1,h3],by simp only[List.map_cons,List.sum_cons,bulkL];omega,by simp[h5]⟩
theorem post_old {H : Type} {enc : TypeId × Value → H} {P : Program} {f : Func} {s : ChangeSpec} {apart fresh handsOn again : Bool} {W W' : World} {args : Array Value} {v : Value} {ds gs : List (DataW H)} {before pa pv : List MemPlace}
    (hW:DataW.Whole enc P f.params.toList s.vars apart W args.toList ds gs before)
    (hres:∀ (b:Nat) (sp:Nat→Bool) (hd:Bool),DataW.TrodAll enc P W' b sp hd f.resultTypes.toList (v.resultList f.resultTypes.size) (s.fn H (ds++gs)).results [])
    (hargs:∀ sp:Nat→Bool,(∀ p∈before,sp p.block=true)→DataW.TrodAll enc P W' 0 sp true f.params.toList args.toList (s.fn H (ds++gs)).args pa)
    (hvars:∀ sp:Nat→Bool,(∀ p∈before,sp p.block=true)→DataW.TrodVars enc P W' sp s.vars (s.fn H (ds++gs)).vars pv)
    (hps:before=pa++pv) (hk:W.keptBut W' (· ∈before)) (hfz:∀ a,a.block<W.heap.size→W'.frozen? a=W.frozen? a)
    (hok:∀ (j:Nat) (t:TypeId) (r:Value),f.resultTypes[j]? =some t→(v.resultList f.resultTypes.size)[j]? =some r→Value.okWide P W' .any 0 t r):
    s.post enc P f apart fresh handsOn again W args v W':=by
  have hold:∀ p∈before,(fun b=>decide (b<W.heap.size)) p.block=true:=fun p hp=>by simpa using hW.lt p hp
  have hlt:=hW.lt
  refine⟨ds,gs,before,[],pa,pv,hW,hres _ _ _,hargs _ hold,hvars _ hold,World.keptBut_mono (fun p hp=>⟨hp,?_⟩) hk,fun _=>?_⟩
  · rw[hps,List.mem_append] at hp
    exact Or.inr hp
  · obtain⟨_,_,_,_,_,hz,hn⟩:=hW
    refine⟨hok,_,_,([]++pa)++pv,⟨[]++pa,pv,trodAll_append (hargs _ (fun _ _=>rfl)) (hres _ _ _),hvars _ (fun _ _=>rfl),rfl,?_,?_⟩,?_⟩
    · intro b off hp
      have hp':=hp
      rw[hfz _ (hlt (.cell b off) (by rw[hps];simpa using hp'))]
      exact hz b off (by rw[hps];simpa using hp)
    · intro ha
      have:=hn ha
      rw[hps] at this
      simpa using this
    · intro p hp _
      rw[hps]
      simpa using hp
theorem law_contract {P : Program} {enc : TypeId × Value → H} {g : FuncId} {fn : Func} {s : ChangeSpec} {fresh handsOn again : Bool} (l : List TypeId) (tb : TypeId) (hlo : laidOutB P = true) (hr : (fn.params.toList.all fun t => P.readableRec t && decide (t < P.types.size)) = true)
    (hl:l.all (plainT P l)=true) (hp:(fn.params.toList.all fun t=>l.contains t)=true) (hres:fn.resultTypes= #[tb]) (htb:P.underlying tb=some .bool) (hvars:s.vars=[]) {W:World} {base:Nat} {args:Array Value} {ds gs:List (DataW H)} {before:List MemPlace}
    (hfn:ds.length=fn.params.size→s.fn H (ds++[])= { results:=[.lit (.bool true)],args:=ds })
    (hval:∀ (j:Nat) t v,fn.params[j]? =some t→args[j]? =some v→Value.okWide P W .any base t v) (hW:DataW.Whole enc P fn.params.toList s.vars false W args.toList ds gs before)
    (hcall:(∀ (i:Nat) t d,fn.params.toList[i]? =some t→ds[i]? =some d→DT P t d)→gs=[]→ds.length=fn.params.size→PCall P g (ds.map avD) (.bool true)) (hgl:Gl W (fun b _=>b<W.heap.size):=by exact Gl.no rfl):
    Calls P g args W fun e W'=>∃ v,e= .returned v∧s.post enc P fn false fresh handsOn again W args v W':=by
  have hW':=hW
  have hlt:=hW.lt
  obtain⟨p,q,hA,hV,rfl,hfz,hnd⟩:=hW
  rw[hvars] at hV
  have hV':=hV
  obtain⟨rfl,rfl⟩:=trodVars_none hV
  obtain⟨h1,h2,h3,h4⟩:=args_open (ρ:=fun _=>⟨0,0,0,true,0⟩) (V:=fun _=>False) hl fn.params.toList args.toList ds p (fun t ht=>by simpa using List.all_eq_true.1 hp t ht) (fun j t v hj hk=>hval j t v (by simpa using hj) (by simpa using hk)) hA
  have hds:ds.length=fn.params.size:=by rw[h2];simp
  obtain⟨_,hc⟩:=hcall h4 rfl hds
  refine(hc (fun _=>⟨0,0,0,true,0⟩) (fun _=>False) (fun b _=>b<W.heap.size) W args (fun _ _ h=>h) hgl (by simp only[List.length_map,hds];simpa using h1) (fun i hi=>?_)).mono ?_
  · have:=h3 i (by simpa using hi)
    simpa [List.getD_eq_getElem?_getD,Array.getD_eq_getD_getElem?] using this
  · rintro e W' ⟨v,Z',rfl,hv,hx,_,_⟩
    obtain rfl:=hv.bool_inv
    have hspec:=hfn hds
    refine⟨_,rfl,post_old (pa:=p) (pv:=[]) hW' (fun b sp hd=>?_) (fun sp hsp=>?_) (fun sp hsp=>?_) (by simp) (hx.kept _) hx.frozen ?_⟩
    · rw[hspec,hres]
      exact trodAll_mk1 (shut_bool htb true)
    · rw[hspec]
      exact ext_trodAll hlo hx hr hA (fun y hy=>hlt y (by simp[hy])) (fun y hy=>hsp y (by simp[hy]))
    · rw[hspec,hvars];rfl
    · rw[hres]
      intro j t r hj hr'
      cases j with
      |zero=>
        simp only[Array.getElem?_singleton,if_true,Option.some.injEq] at hj
        subst hj
        simp only[Value.resultList,if_true,List.size_toArray,List.length_cons,List.length_nil] at hr'
        have:r= .bool true:=by simpa using hr'.symm
        subst this
        exact okWide_bool_mk htb true
      |succ j=>simp at hj
end Go.Am
