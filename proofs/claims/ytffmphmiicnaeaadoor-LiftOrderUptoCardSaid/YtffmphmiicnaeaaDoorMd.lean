/- A part of the proof: an abstract machine for the walks, and what the walked functions compute. -/
import Derived.Orders
import Derived.OrdersIn
import Derived.RangeFuncLeaves
import Derived.RangeFuncRecord
import Derived.Test.YtffmphmiicnaeaaDoorMc
set_option linter.unusedVariables false
set_option linter.unusedSimpArgs false
namespace Go.Am
variable {P:Program} {E:En} {ρ:Nat→Ref} {V:Nat→Prop} {Z:Nat→Nat→Prop} {σ:St} {a:Act} {w:World}
theorem evs_rel (h:Sat E ρ V Z σ a w):∀ {l:List Operand} {vs:List AV},l.mapM (evA σ)=some vs→vs.length=l.length∧∀ i,i<vs.length→Rel ρ V Z w ((l.map a.eval).getD i undef) (vs.getD i default)
 | [],vs,hv=>by cases evs_nil hv;exact⟨rfl,fun i hi=>absurd hi (Nat.not_lt_zero _)⟩
 |x::l,vs,hv=>by
  obtain⟨v,ws,h1,h2,rfl⟩:=evs_cons hv
  obtain⟨g1,g2⟩:=evs_rel h h2
  refine⟨by simp[g1],fun i hi=>?_⟩
  cases i with
  |zero=>simpa using ev_rel h h1
  |succ i=>simpa using g2 i (by simpa using hi)
theorem exec_append (dst : Option Tmp) (x1 x2 : Operand) (t u ty : TypeId) (pos : String) (aft : Array Edge) (g : Option (Nat × Bool)) :
    execOp a.eval ⟨dst,.call ⟨.builtin .append,⟨[x1,x2]⟩,⟨[t,u]⟩⟩,ty,pos,aft,g⟩=(do pure (Next.value (← Builtin.append_ #[t,u] ty #[a.eval x1,a.eval x2]))):=by
  have e:Array.map a.eval ⟨[x1,x2]⟩= #[a.eval x1,a.eval x2]:=by simp
  show builtin .append #[t,u] ty (Array.map (fun| .const _=>true|_=>false) ⟨[x1,x2]⟩) (Array.map a.eval ⟨[x1,x2]⟩)=_
  rw[e]
  rfl
theorem exec_max (dst : Option Tmp) (x1 x2 : Operand) (ts : Array TypeId) (ty : TypeId) (pos : String) (aft : Array Edge) (g : Option (Nat × Bool)) :
    execOp a.eval ⟨dst,.call ⟨.builtin .max,⟨[x1,x2]⟩,ts⟩,ty,pos,aft,g⟩=(do pure (Next.value (← Builtin.max_ ts ty #[a.eval x1,a.eval x2]))):=by
  have e:Array.map a.eval ⟨[x1,x2]⟩= #[a.eval x1,a.eval x2]:=by simp
  show builtin .max ts ty (Array.map (fun| .const _=>true|_=>false) ⟨[x1,x2]⟩) (Array.map a.eval ⟨[x1,x2]⟩)=_
  rw[e]
  rfl
theorem exec_min (dst : Option Tmp) (x1 x2 : Operand) (ts : Array TypeId) (ty : TypeId) (pos : String) (aft : Array Edge) (g : Option (Nat × Bool)) :
    execOp a.eval ⟨dst,.call ⟨.builtin .min,⟨[x1,x2]⟩,ts⟩,ty,pos,aft,g⟩=(do pure (Next.value (← Builtin.min_ ts ty #[a.eval x1,a.eval x2]))):=by
  have e:Array.map a.eval ⟨[x1,x2]⟩= #[a.eval x1,a.eval x2]:=by simp
  show builtin .min ts ty (Array.map (fun| .const _=>true|_=>false) ⟨[x1,x2]⟩) (Array.map a.eval ⟨[x1,x2]⟩)=_
  rw[e]
  rfl
theorem exec_len (dst : Option Tmp) (x1 : Operand) (t ty : TypeId) (pos : String) (aft : Array Edge) (g : Option (Nat × Bool)) :
    execOp a.eval ⟨dst,.call ⟨.builtin .len,⟨[x1]⟩,⟨[t]⟩⟩,ty,pos,aft,g⟩=(do pure (Next.value (← Builtin.len_ #[t] ty #[a.eval x1]))):=by
  have e:Array.map a.eval ⟨[x1]⟩= #[a.eval x1]:=by simp
  show builtin .len #[t] ty (Array.map (fun| .const _=>true|_=>false) ⟨[x1]⟩) (Array.map a.eval ⟨[x1]⟩)=_
  rw[e]
  rfl
theorem Rel.bool_inv {v:Value} {b:Bool} (h:Rel ρ V Z w v (.bool b)):v= .bool b:=by
 generalize hx:AV.bool b=x at h
 cases h<;>cases hx
 rfl
theorem ba_get (s:ByteArray) (i:Nat):s[i]? =s.data.toList[i]? :=by
 by_cases h:i<s.size
 ·rw[getElem?_pos s i h,List.getElem?_eq_getElem (show i<s.data.toList.length by simpa using h)]
  rfl
 ·rw[getElem?_neg s i h,List.getElem?_eq_none (show s.data.toList.length≤i by simpa using Nat.not_lt.1 h)]
theorem Rel.str_inv {v:Value} {s:ByteArray} (h:Rel ρ V Z w v (.str s)):v= .string s:=by
 generalize hx:AV.str s=x at h
 cases h<;>cases hx
 rfl
theorem Rel.iface_inv {v:Value} {t:TypeId} {y:AV} (h:Rel ρ V Z w v (.iface t y)):∃ u,v= .iface t u∧Rel ρ V Z w u y:=by
 generalize hx:AV.iface t y=x at h
 cases h<;>cases hx
 exact⟨_,rfl, ‹_›⟩
theorem nil_cut {t el:TypeId} {s b:Nat} {z:Option (List AV)} {Te:TI} {k:IntKind} (hT:ti P t=some ⟨.slice el,s,b,z⟩) (hTe:ti P el=some Te):(Instr.sliceAt t (.slice none 0 0) none (some (.int k 0)) none).run P w= .ok (.slice none 0 0) w:=by
 have hus:=run_underlying_slice (w:=w) hT rfl
 have hb:(Instr.sliceBound (.int k 0) 0 .sliceAcap).run P w= .ok 0 w:=rfl
 have hsb:(Instr.sliceBounds true 0 0 none (some (.int k 0)) none).run P w= .ok (0,0,0) w:=by simp[Instr.sliceBounds,hb]
 unfold Instr.sliceAt Instr.slice
 simp only[Sem.run_bind,hus,Result.andThen_ok,hsb,run_sizeOf hTe,Sem.run_pure]
 rfl
theorem bytes_slice {x:AV} {v:Value} {o:Option AObj} {l:List AV} (hb:bytesA x o=some l) (hx:Rel ρ V Z w v x):∃ s n c,v= .slice s n c:=by
 unfold bytesA at hb
 split at hb
 ·exact⟨_,_,_,hx.nilsl_inv⟩
 ·obtain⟨a',cap,rfl,_⟩:=hx.sl_inv;exact⟨_,_,_,rfl⟩
 ·obtain⟨rfl,_⟩:=hx.rw_inv
  unfold Ref.slice
  split<;>exact⟨_,_,_,rfl⟩
 ·cases hb
theorem exec_cap (dst : Option Tmp) (x1 : Operand) (t ty : TypeId) (pos : String) (aft : Array Edge) (g : Option (Nat × Bool)) :
    execOp a.eval ⟨dst,.call ⟨.builtin .cap,⟨[x1]⟩,⟨[t]⟩⟩,ty,pos,aft,g⟩=(do pure (Next.value (← Builtin.cap_ #[t] ty #[a.eval x1]))):=by
  have e:Array.map a.eval ⟨[x1]⟩= #[a.eval x1]:=by simp
  show builtin .cap #[t] ty (Array.map (fun| .const _=>true|_=>false) ⟨[x1]⟩) (Array.map a.eval ⟨[x1]⟩)=_
  rw[e]
  rfl
theorem Rel.tup_inv {v:Value} {l:List AV} (h:Rel ρ V Z w v (.tup l)):∃ cs,v= .tuple cs∧cs.size=l.length∧∀ i,i<l.length→Rel ρ V Z w (cs.getD i undef) (l.getD i default):=by
 generalize hx:AV.tup l=x at h
 cases h<;>cases hx
 exact⟨_,rfl, ‹_›, ‹_›⟩
theorem Rel.fn_inv {v : Value} {f : Fn} {fa ca : List AV} (h : Rel ρ V Z w v (.fn f fa ca)) : ∃ fs cs, v = .func f fs cs ∧ fs.size = fa.length ∧ cs.size = ca.length ∧
    (∀ i,i<fa.length→Rel ρ V Z w (fs.getD i undef) (fa.getD i default))∧(∀ i,i<ca.length→Rel ρ V Z w (cs.getD i undef) (ca.getD i default)):=by
  generalize hx:AV.fn f fa ca=x at h
  cases h<;>cases hx
  exact⟨_,_,rfl, ‹_›, ‹_›, ‹_›, ‹_›⟩
theorem ptr_form {v : Value} {x : AV} (hv : Rel ρ V Z w v x) {off : Nat} : (∀ id o, x = .ptr id o → (∃ b o, v = .pointer (some ⟨b, o, none⟩)) ∧ ∀ b o', v = .pointer (some ⟨b, o', none⟩) → Rel ρ V Z w (.pointer (some ⟨b, o' + off, none⟩)) (.ptr id (o + off))) ∧
    (∀ e o,x= .eptr e o→(∃ b o,v= .pointer (some ⟨b,o,none⟩))∧∀ b o',v= .pointer (some ⟨b,o',none⟩)→Rel ρ V Z w (.pointer (some ⟨b,o'+off,none⟩)) (.eptr e (o+off)))∧
    (∀ id sz i o,x= .rptr id sz i o→(∃ b o,v= .pointer (some ⟨b,o,none⟩))∧∀ b o',v= .pointer (some ⟨b,o',none⟩)→Rel ρ V Z w (.pointer (some ⟨b,o'+off,none⟩)) (.rptr id sz i (o+off))):=by
  refine⟨?_,?_,?_⟩
  · rintro id o rfl
    generalize hx:AV.ptr id o=x at hv
    cases hv<;>cases hx
    refine⟨⟨_,_,rfl⟩,fun b o' e=>?_⟩
    cases e
    exact .ptr _ _ ‹_›
  · rintro e o rfl
    generalize hx:AV.eptr e o=x at hv
    cases hv<;>cases hx
    refine⟨⟨_,_,rfl⟩,fun b o' e=>?_⟩
    cases e
    rw[Nat.add_assoc]
    exact .eptr _ _ _ _ _ ‹_› ‹_›
  · rintro id sz i o rfl
    generalize hx:AV.rptr id sz i o=x at hv
    cases hv<;>cases hx
    refine⟨⟨_,_,rfl⟩,fun b o' e=>?_⟩
    cases e
    rw[Nat.add_assoc]
    exact .rptr _ _ _ _ ‹_›
set_option maxHeartbeats 4000000 in
theorem Rel.nilif_inv {v:Value} (h:Rel ρ V Z w v .nilif):v= .nilIface:=by
 generalize hx:AV.nilif=x at h
 cases h<;>cases hx
 rfl
theorem nilifA_inv {op : BinOp} {t : TypeId} {c : Bool} {x y z : AV} {ob : Prop} (h : nilifA P op t c x y = some (ob, z)) :
    x= .nilif∧y= .nilif∧c=true∧∃ T,ti P t=some T∧T.k= .iface∧(op= .eql∧z= .bool true∨op= .neq∧z= .bool false):=by
  unfold nilifA at h
  split at h
  · split at h
    · rename_i hc
      split at h
      · rename_i hT;cases h;exact⟨rfl,rfl,hc,_,hT,rfl,.inl ⟨rfl,rfl⟩⟩
      · rename_i hT;cases h;exact⟨rfl,rfl,hc,_,hT,rfl,.inr ⟨rfl,rfl⟩⟩
      · cases h
    · cases h
  · cases h
theorem nilif_run {op : BinOp} {t : TypeId} {x y : Operand} {z : AV} (hc : (isC x || isC y) = true) (h : ∃ T, ti P t = some T ∧ T.k = .iface ∧ (op = .eql ∧ z = .bool true ∨ op = .neq ∧ z = .bool false)) :
    ∃ r,(do eqGuard op t x y .nilIface .nilIface;binOp op t .nilIface .nilIface:Sem Value).run P w= .ok r w∧Rel ρ V Z w r z:=by
  obtain⟨T,hT,hk,hop⟩:=h
  obtain⟨u,hu1,hu2⟩:=run_underlying (w:=w) hT
  rw[hk] at hu2
  have hg:∀ op,(eqGuard op t x y .nilIface .nilIface).run P w= .ok () w:=by
    intro op
    unfold eqGuard
    cases op<;>simp<;>(cases x<;>cases y<;>simp_all[isC])
  have he:(Op.equalIn (9999+1) t .nilIface .nilIface).run P w= .ok true w:=by
    unfold Op.equalIn
    simp only[Sem.run_bind,hu1,Result.andThen_ok]
    cases u<;>simp[TK.of] at hu2<;>rfl
  rcases hop with ⟨rfl,rfl⟩|⟨rfl,rfl⟩
  · refine⟨.bool true,?_,.bool _⟩
    simp only[Sem.run_bind,hg,Result.andThen_ok]
    show(do pure (.bool (← Op.equal t .nilIface .nilIface)):Sem Value).run P w=_
    rw[equal_eq]
    simp only[Sem.run_bind,he,Result.andThen_ok,Sem.run_pure]
  · refine⟨.bool false,?_,.bool _⟩
    simp only[Sem.run_bind,hg,Result.andThen_ok]
    show(do pure (.bool (!(← Op.equal t .nilIface .nilIface))):Sem Value).run P w=_
    rw[equal_eq]
    simp only[Sem.run_bind,he,Result.andThen_ok,Sem.run_pure]
    rfl
theorem eff_ok (h:Sat E ρ V Z σ a w) (o:Oper) (hd:∀ n,o.dst=some n→n<E.nt) {ob:Prop} {e:Ef} (he:eff P σ o.op=some (ob,e)) (hob:ob) {id:Nat} (hid:¬ V id):OpOk P E o σ a w V Z id e:=by
  obtain⟨dst,op,ty,pos,aft,g⟩:=o
  simp only at he
  unfold eff at he
  cases hvs:(opnds op).mapM (evA σ) with
  |none=>simp[hvs] at he
  |some vs=>
    simp only[hvs] at he
    cases op<;>simp only[effA] at he<;>try(cases he;done)
    case move x=>
      obtain⟨v,ws,h1,h2,rfl⟩:=evs_cons hvs
      cases evs_nil h2
      cases he
      exact ok_val h hd rfl (ev_rel h h1)
    case assign x=>
      obtain⟨v,ws,h1,h2,rfl⟩:=evs_cons hvs
      cases evs_nil h2
      cases he
      exact ok_val h hd rfl (ev_rel h h1)
    case makeMap t r=>
      cases r with
      |some _=>simp at he
      |none=>
        cases evs_nil hvs
        cases he
        exact ok_makeMap h hd hid rfl
    case insert t m kk x=>
      obtain⟨v1,ws,h1,h2,rfl⟩:=evs_cons hvs
      obtain⟨v2,ws,h3,h4,rfl⟩:=evs_cons h2
      obtain⟨v3,ws,h5,h6,rfl⟩:=evs_cons h4
      cases evs_nil h6
      split at he
      · rename_i kt et s b z id' k n y es o1 o2 hT heq hos
        cases heq
        simp only[List.map_cons,List.map_nil,AV.id?,Option.bind_some,List.cons.injEq] at hos
        split at he
        · rename_i ik s' b' z' hTk
          split at he
          · rename_i hf
            cases he
            exact ok_insert h hd hT rfl hTk rfl (ev_rel h h1) (ev_rel h h3) (ev_rel h h5) hos.1 hf rfl
          · cases he
        · cases he
      · cases he
    case mapUpdate t m kk x=>
      obtain⟨v1,ws,h1,h2,rfl⟩:=evs_cons hvs
      obtain⟨v2,ws,h3,h4,rfl⟩:=evs_cons h2
      obtain⟨v3,ws,h5,h6,rfl⟩:=evs_cons h4
      cases evs_nil h6
      split at he
      · rename_i kt et s b z id' k n y es o1 o2 hT heq hos
        cases heq
        simp only[List.map_cons,List.map_nil,AV.id?,Option.bind_some,List.cons.injEq] at hos
        split at he
        · rename_i ik s' b' z' hTk
          split at he
          · rename_i r hf
            cases he
            cases r with
            |none=>exact ok_insert h hd hT rfl hTk rfl (ev_rel h h1) (ev_rel h h3) (ev_rel h h5) hos.1 hf rfl
            |some x0=>exact ok_update h hd hT rfl hTk rfl (ev_rel h h1) (ev_rel h h3) (ev_rel h h5) hos.1 hf rfl
          · cases he
        · cases he
      · rename_i kt et s b z id' k y es o1 o2 hT heq hos
        cases heq
        simp only[List.map_cons,List.map_nil,AV.id?,Option.bind_some,List.cons.injEq] at hos
        split at he
        · rename_i s' b' z' hTk
          split at he
          · rename_i r hf
            cases he
            cases r with
            |none=>exact ok_insertS h hd hT rfl hTk rfl (ev_rel h h1) (ev_rel h h3) (ev_rel h h5) hos.1 hf rfl
            |some x0=>exact ok_updateS h hd hT rfl hTk rfl (ev_rel h h1) (ev_rel h h3) (ev_rel h h5) hos.1 hf rfl
          · cases he
        · cases he
      · cases he
    case lookup t m kk ok=>
      obtain⟨v1,ws,h1,h2,rfl⟩:=evs_cons hvs
      obtain⟨v2,ws,h3,h4,rfl⟩:=evs_cons h2
      cases evs_nil h4
      split at he
      · rename_i kt et s b z id' k n es o1 hT heq hos
        cases heq
        simp only[List.map_cons,List.map_nil,AV.id?,Option.bind_some,List.cons.injEq] at hos
        split at he
        · rename_i ik s' b' z' zz hTk hz
          cases hf:findE k n es with
          |none=>simp[hf] at he
          |some r=>
            simp only[hf,Option.map_some,Option.some.injEq,Prod.mk.injEq] at he
            obtain⟨rfl,rfl⟩:=he
            exact ok_lookup h hd (id:=id) hT rfl hTk rfl hz (ev_rel h h1) (ev_rel h h3) hos.1 (ok:=ok) hf rfl
        · cases he
      · rename_i kt et s b z id' n es o1 hT heq hos
        cases heq
        simp only[List.map_cons,List.map_nil,AV.id?,Option.bind_some,List.cons.injEq] at hos
        split at he
        · rename_i s' b' z' zz hTk hz
          cases hf:findS n es with
          |none=>simp[hf] at he
          |some r=>
            simp only[hf,Option.map_some,Option.some.injEq,Prod.mk.injEq] at he
            obtain⟨rfl,rfl⟩:=he
            exact ok_lookupS h hd (id:=id) hT rfl hTk rfl hz (ev_rel h h1) (ev_rel h h3) hos.1 (ok:=ok) hf rfl
        · cases he
      · cases he
    case pick c x y=>
      obtain⟨v1,ws,h1,h2,rfl⟩:=evs_cons hvs
      obtain⟨v2,ws,h3,h4,rfl⟩:=evs_cons h2
      obtain⟨v3,ws,h5,h6,rfl⟩:=evs_cons h4
      cases evs_nil h6
      split at he
      · rename_i b x' y' heq
        cases heq
        cases he
        have e1:a.eval c= .bool b:=(ev_rel h h1).bool_inv
        refine ok_val h hd (v:=if b then a.eval x else a.eval y) (by simp[execOp,e1,asBool]) ?_
        cases b
        · exact ev_rel h h5
        · exact ev_rel h h3
      · cases he
    case alloc t=>
      cases hT:ti P t with
      |none=>simp[hT] at he
      |some T=>
        obtain⟨k,s,b,z⟩:=T
        simp only[hT] at he
        cases z with
        |none=>simp at he
        |some zs=>
          simp only at he
          cases he
          exact ok_alloc h hd hid hT rfl rfl
    case box t x=>
      obtain⟨v,ws,h1,h2,rfl⟩:=evs_cons hvs
      cases evs_nil h2
      simp only at he
      split at he
      · cases he
      · rename_i ht
        cases he
        exact ok_box h hd hid (t:=t) (ev_rel h h1) (by simpa using ht) rfl
    case build t ps=>
      cases hT:ti P t with
      |none=>simp[hT] at he
      |some T=>
        obtain⟨k,s,b,z⟩:=T
        simp only[hT] at he
        cases k<;>try(simp at he;done)
        · cases z<;>try(simp at he;done)
          simp only at he
          split at he
          · rename_i hall
            rename_i fs zs
            cases hf:fillA P fs zs ((ps.toList.map (·.1)).zip vs) with
            |none=>simp[hf] at he
            |some l=>
              simp only[hf,Option.map_some,Option.some.injEq,Prod.mk.injEq] at he
              obtain⟨rfl,rfl⟩:=he
              exact ok_build h hd hT rfl rfl hall hvs hf rfl
          · cases he
        · rename_i n e
          cases z<;>try(simp at he;done)
          rename_i zs
          simp only at he
          cases hTe:ti P e with
          |none=>simp[hTe] at he
          |some Te=>
            simp only[hTe] at he
            cases hf:fillA P (arL e Te.size n 0) zs ((ps.toList.map (·.1)).zip vs) with
            |none=>simp[hf] at he
            |some l=>
              simp only[hf,Option.map_some,Option.some.injEq,Prod.mk.injEq] at he
              obtain⟨rfl,rfl⟩:=he
              exact ok_buildA h hd hT rfl rfl hTe hvs hf rfl
    case buildSlice t n ps=>
      cases hT:ti P t with
      |none=>simp[hT] at he
      |some T=>
        obtain⟨k,s,b,z⟩:=T
        simp only[hT] at he
        cases k<;>try(simp at he;done)
        rename_i el
        simp only at he
        cases hTe:ti P el with
        |none=>simp[hTe] at he
        |some Te=>
          obtain⟨k',s',b',z'⟩:=Te
          simp only[hTe] at he
          cases z'<;>try(simp at he;done)
          simp only at he
          split at he
          · rename_i hc
            obtain⟨c1,c2,c3,c4⟩:=hc
            cases he
            exact ok_buildSlice h hd hid hT rfl hTe rfl c1 hvs c3 c2 c4 rfl
          · cases he
    case load t x=>
      cases hT:ti P t with
      |none=>simp[hT] at he
      |some T=>
        simp only[hT] at he
        obtain⟨v,ws,h1,h2,rfl⟩:=evs_cons hvs
        cases evs_nil h2
        have hv:=ev_rel h h1
        split at he
        · rename_i id' off l heq1 heq2
          cases heq1
          simp only[List.map_cons,List.map_nil,List.cons.injEq,and_true,AV.id?,Option.bind_some] at heq2
          cases hx:ldA T l off with
          |none=>simp[hx] at he
          |some y=>
            simp only[hx,Option.map_some,Option.some.injEq,Prod.mk.injEq] at he
            obtain⟨rfl,rfl⟩:=he
            exact ok_load_ptr h hd hT hv heq2 hx rfl
        · rename_i e' off heq1
          cases heq1
          cases hx:ldA T e'.cells off with
          |none=>simp[hx] at he
          |some y=>
            simp only[hx,Option.map_some,Option.some.injEq,Prod.mk.injEq] at he
            obtain⟨rfl,rfl⟩:=he
            exact ok_load_eptr h hd hT hv hx rfl
        · rename_i id' sz i off sz' l heq1 heq2
          cases heq1
          simp only[List.map_cons,List.map_nil,List.cons.injEq,and_true,AV.id?,Option.bind_some] at heq2
          split at he
          · rename_i y hy
            split at he
            · rename_i hsz
              subst hsz
              cases hx:ldA T y.cells off with
              |none=>simp[hx] at he
              |some y'=>
                simp only[hx,Option.map_some,Option.some.injEq,Prod.mk.injEq] at he
                obtain⟨rfl,rfl⟩:=he
                exact ok_load_rptr h hd hT hv heq2 hy hx rfl
            · cases he
          · cases he
        · cases he
    case store t x y=>
      cases hT:ti P t with
      |none=>simp[hT] at he
      |some T=>
        simp only[hT] at he
        obtain⟨v,ws,h1,h2,rfl⟩:=evs_cons hvs
        obtain⟨u,ws,h3,h4,rfl⟩:=evs_cons h2
        cases evs_nil h4
        have hv:=ev_rel h h1
        have hu:=ev_rel h h3
        split at he
        · rename_i id' off x' l o2 heq1 heq2
          cases heq1
          simp only[List.map_cons,List.map_nil,List.cons.injEq,and_true,AV.id?,Option.bind_some] at heq2
          cases hx:stA T l off u with
          |none=>simp[hx] at he
          |some l'=>
            simp only[hx,Option.map_some,Option.some.injEq,Prod.mk.injEq] at he
            obtain⟨rfl,rfl⟩:=he
            exact ok_store_ptr h hd hT hv hu heq2.1 hx rfl
        · rename_i id' sz i off x' sz' l o2 heq1 heq2
          cases heq1
          simp only[List.map_cons,List.map_nil,List.cons.injEq,and_true,AV.id?,Option.bind_some] at heq2
          split at he
          · rename_i e' hy
            split at he
            · rename_i hsz
              subst hsz
              cases hx:stA T e'.cells off u with
              |none=>simp[hx] at he
              |some c=>
                simp only[hx,Option.map_some,Option.some.injEq,Prod.mk.injEq] at he
                obtain⟨rfl,rfl⟩:=he
                exact ok_store_rptr h hd hT hv hu heq2.1 hy hx rfl
            · cases he
          · cases he
        · cases he
    case nilCheck x=>
      obtain⟨v,ws,h1,h2,rfl⟩:=evs_cons hvs
      cases evs_nil h2
      have hv:=ev_rel h h1
      simp only at he
      split at he<;>try(cases he;done)
      · rename_i i1 o1
        cases he
        obtain⟨⟨b,o,e1⟩,_⟩:=(ptr_form (off:=0) hv).1 _ _ rfl
        exact ok_val h hd (v:=a.eval x) (by simp[execOp,e1]) hv
      · rename_i e1 o1
        cases he
        obtain⟨⟨b,o,e1⟩,_⟩:=(ptr_form (off:=0) hv).2.1 _ _ rfl
        exact ok_val h hd (v:=a.eval x) (by simp[execOp,e1]) hv
      · rename_i i1 i2 i3 o1
        cases he
        obtain⟨⟨b,o,e1⟩,_⟩:=(ptr_form (off:=0) hv).2.2 _ _ _ _ rfl
        exact ok_val h hd (v:=a.eval x) (by simp[execOp,e1]) hv
      · rename_i f fa ca
        cases he
        obtain⟨fs,cs,e1,_⟩:=hv.fn_inv
        exact ok_val h hd (v:=a.eval x) (by simp[execOp,e1]) hv
    case binOp op t x y yt=>
      obtain⟨v,ws,h1,h2,rfl⟩:=evs_cons hvs
      obtain⟨u,ws,h3,h4,rfl⟩:=evs_cons h2
      cases evs_nil h4
      by_cases hagg:∃ l m,v= .agg l∧u= .agg m
      · obtain⟨l,m,rfl,rfl⟩:=hagg
        simp only at he
        cases hb:aggE P op t l m with
        |none=>simp[hb] at he
        |some r=>
          obtain⟨ob',z⟩:=r
          simp only[hb,Option.map_some,Option.some.injEq,Prod.mk.injEq] at he
          obtain⟨rfl,rfl⟩:=he
          obtain⟨r,hr,hz⟩:=run_aggE (x:=x) (y:=y) hb (ev_rel h h1) (ev_rel h h3)
          exact ok_val h hd (v:=r) (run_value hr) hz
      replace he:((binA P op t v u).or (nilifA P op t (isC x||isC y) v u)).map (fun p=>(p.1,Ef.val p.2))=some (ob,e):=by
        rw[← he]
        cases v<;>cases u<;>first|rfl|exact absurd ⟨_,_,rfl,rfl⟩ hagg
      cases hb:binA P op t v u with
      |none=>
        simp only[hb,Option.none_or] at he
        cases hn:nilifA P op t (isC x||isC y) v u with
        |none=>simp[hn] at he
        |some r=>
          obtain⟨ob',z⟩:=r
          simp only[hn,Option.map_some,Option.some.injEq,Prod.mk.injEq] at he
          obtain⟨rfl,rfl⟩:=he
          obtain⟨g1,g2,g3,g4⟩:=nilifA_inv hn
          subst g1 g2
          have e1:a.eval x= .nilIface:=(ev_rel h h1).nilif_inv
          have e2:a.eval y= .nilIface:=(ev_rel h h3).nilif_inv
          have hrr:∃ r,(do eqGuard op t x y (a.eval x) (a.eval y);binOp op t (a.eval x) (a.eval y):Sem Value).run P w= .ok r w∧Rel ρ V Z w r z:=by
            rw[e1,e2]
            exact nilif_run g3 g4
          obtain⟨r,hr,hz⟩:=hrr
          exact ok_val h hd (v:=r) (run_value hr) hz
      |some r=>
        obtain⟨ob',z⟩:=r
        simp only[hb,Option.some_or,Option.map_some,Option.some.injEq,Prod.mk.injEq] at he
        obtain⟨rfl,rfl⟩:=he
        obtain⟨⟨r,hr,hz⟩,g1,g2⟩:=bin_val hb hob (ev_rel h h1) (ev_rel h h3)
        refine ok_val h hd (v:=r) ?_ hz
        have hrr:(do eqGuard op t x y (a.eval x) (a.eval y);binOp op t (a.eval x) (a.eval y):Sem Value).run P w= .ok r w:=by simp[eqGuard_ok ⟨g1,g2⟩,hr]
        exact run_value hrr
    case unOp op t x=>
      obtain⟨v,ws,h1,h2,rfl⟩:=evs_cons hvs
      cases evs_nil h2
      have hv:=ev_rel h h1
      simp only at he
      cases v<;>cases op<;>simp only[unA,Option.map_some,Option.map_none,Option.some.injEq,Prod.mk.injEq,reduceCtorEq] at he<;>obtain⟨rfl,rfl⟩:=he
      · have e1:=hv.bool_inv
        refine ok_val h hd (v:= .bool _) ?_ (.bool _)
        show(do pure (Next.value (← Op.unary .not (a.eval x))):Sem Next).run P w=_
        rw[e1];rfl
      · have e1:=hv.int_inv
        refine ok_val h hd (v:= .int _ _) ?_ (.int _ _)
        show(do pure (Next.value (← Op.unary .neg (a.eval x))):Sem Next).run P w=_
        rw[e1];rfl
    case convert src dst' x=>
      obtain⟨v,ws,h1,h2,rfl⟩:=evs_cons hvs
      cases evs_nil h2
      have hv:=ev_rel h h1
      simp only at he
      simp only[List.map_cons,List.map_nil,List.getD_cons_zero] at he
      cases hc:convA P src dst' v (v.id?.bind σ.hp) with
      |none=>simp[hc] at he
      |some z=>
        obtain⟨ob',z⟩:=z
        simp only[hc,Option.map_some,Option.some.injEq,Prod.mk.injEq] at he
        obtain⟨rfl,rfl⟩:=he
        unfold convA at hc
        split at hc
        · rename_i T1 k s b z' k' n hT1 hT2
          cases hc
          obtain⟨u1,hu1,_⟩:=run_underlying (w:=w) hT1
          obtain⟨u2,hu2,hk⟩:=run_underlying (w:=w) hT2
          have:=tk_int hk
          subst this
          refine ok_val h hd (v:= .int _ _) ?_ (.int _ _)
          show(do pure (Next.value (← convert src dst' (a.eval x))):Sem Next).run P w=_
          rw[hv.int_inv]
          refine run_value ?_
          unfold convert
          simp only[Sem.run_bind,hu1,hu2,Result.andThen_ok,Conv.intToInt,Sem.run_pure]
        · rename_i T1 s b z' st hT1 hT2
          cases hc
          obtain⟨u1,hu1,_⟩:=run_underlying (w:=w) hT1
          obtain⟨u2,hu2,hk⟩:=run_underlying (w:=w) hT2
          have:u2= .string:=by cases u2<;>simp_all[TK.of]
          subst this
          refine ok_val h hd (v:= .string _) ?_ (.str _)
          show(do pure (Next.value (← convert src dst' (a.eval x))):Sem Next).run P w=_
          rw[hv.str_inv]
          refine run_value ?_
          unfold convert
          simp only[Sem.run_bind,hu1,hu2,Result.andThen_ok,Sem.run_pure]
        · rename_i el s1 b1 z1 s2 b2 z2 hT1 hT2 hno2
          split at hc
          · rename_i s3 b3 z3 l hTe hb
            cases hc
            obtain⟨u2,hu2,hk⟩:=run_underlying (w:=w) hT2
            have:u2= .string:=by cases u2<;>simp_all[TK.of]
            subst this
            have hu1:=run_underlying_slice (w:=w) hT1 rfl
            obtain⟨u3,hu3,hk3⟩:=run_underlying (w:=w) hTe
            have hu3':=tk_int hk3
            subst hu3'
            refine ok_val h hd (v:= .string _) ?_ (.str _)
            show(do pure (Next.value (← convert src dst' (a.eval x))):Sem Next).run P w=_
            refine run_value ?_
            have hr:=bytes_run (P:=P) h hb hob hv (fun o' ho id hid=>by simpa [hid] using ho)
            unfold convert
            obtain⟨sa,n1,c1,hsl⟩:=bytes_slice hb hv
            rw[hsl] at hr ⊢
            simp only[Sem.run_bind,hu1,hu2,hu3,Result.andThen_ok]
            exact hr
          · cases hc
        · cases hc
    case makeInterface t x=>
      obtain⟨v,ws,h1,h2,rfl⟩:=evs_cons hvs
      cases evs_nil h2
      have hv:=ev_rel h h1
      split at he
      · cases he
      · rename_i v' T hni heq1 hT
        cases heq1
        cases he
        obtain⟨u,hu1,hu2⟩:=run_underlying (w:=w) hT
        refine ok_val h hd (v:= .iface t (a.eval x)) ?_ (.iface _ _ _ hv)
        show(do pure (Next.value (← Instr.makeInterface t (a.eval x))):Sem Next).run P w=_
        refine run_value ?_
        unfold Instr.makeInterface
        simp only[Sem.run_bind,hu1,Result.andThen_ok]
        cases u<;>first
          |rfl
          | (obtain ⟨k, s, b, z⟩ := T
             simp only[TK.of] at hu2
             subst hu2
             exact(hni _ _ _ rfl).elim)
      · cases he
    case makeFunc fn f c=>
      split at he
      · rename_i hlen
        cases he
        obtain⟨g1,g2⟩:=evs_rel h hvs
        refine ok_val h hd (v:= .func fn (f.map a.eval) (c.map a.eval)) rfl (.fn _ _ _ _ _ (by simp;omega) (by simp;omega) ?_ ?_)
        · intro i hi
          simp only[List.length_take] at hi
          have:=g2 i (by omega)
          simp only[opnds,List.map_append,List.getD_eq_getElem?_getD] at this
          rw[List.getElem?_append_left (by simp;omega)] at this
          simpa [List.getD_eq_getElem?_getD,Array.getD_eq_getD_getElem?,List.getElem?_take,show i<f.size by omega] using this
        · intro i hi
          simp only[List.length_drop] at hi
          have:=g2 (f.size+i) (by omega)
          simp only[opnds,List.map_append,List.getD_eq_getElem?_getD] at this
          rw[List.getElem?_append_right (by simp)] at this
          simpa [List.getD_eq_getElem?_getD,Array.getD_eq_getD_getElem?,List.getElem?_drop] using this
      · cases he
    case makeSlice t x y=>
      obtain⟨v,ws,h1,h2,rfl⟩:=evs_cons hvs
      obtain⟨u,ws,h3,h4,rfl⟩:=evs_cons h2
      cases evs_nil h4
      split at he
      · rename_i el s b z k n k' c hT heq
        cases heq
        split at he
        · rename_i k2 size bytes zs hTe
          split at he
          · rename_i hc
            cases he
            obtain⟨o1,o2,o3,o4⟩:=hob
            exact ok_makeSlice h hd hid hT rfl hTe rfl hc.1 hc.2 o1 o2 o3 o4 (ev_rel h h1) (ev_rel h h3) rfl
          · cases he
        · cases he
      · cases he
    case slice t x lo hi mx=>
      cases mx with
      |some _=>simp at he
      |none=>
        simp only at he
        split at he
        · rename_i el s b z l' x1 x2 hT hsa
          split at he
          · rename_i Te hTe
            cases hs:sliceA l' x1 x2 with
            |none=>simp[hs] at he
            |some r=>
              obtain⟨ob',y⟩:=r
              simp only[hs,Option.map_some,Option.some.injEq,Prod.mk.injEq] at he
              obtain⟨rfl,rfl⟩:=he
              obtain⟨hob1,hob2⟩:=hob
              have hsl:∀ s:Sem Value,execOp a.eval ⟨dst,.slice t x lo hi none,ty,pos,aft,g⟩=(do pure (Next.value (← Instr.sliceAt t (a.eval x) (lo.map a.eval) (hi.map a.eval) none))):=fun _=>rfl
              cases lo<;>cases hi<;>simp only[opnds,Option.toList,List.nil_append,List.cons_append] at hvs
              · obtain⟨v,ws,h1,h2,rfl⟩:=evs_cons hvs
                cases evs_nil h2
                simp only[sliceArgs,Option.some.injEq,Prod.mk.injEq] at hsa
                obtain⟨rfl,rfl,rfl⟩:=hsa
                exact ok_slice h hd hT rfl hTe (ev_rel h h1) hob2 (lo:=none) (hi:=none) (vlo:=none) (vhi:=none) (fun _ h=>by cases h) (fun _=>rfl) (fun _ h=>by cases h) (fun _=>rfl) hs hob1 rfl
              · obtain⟨v,ws,h1,h2,rfl⟩:=evs_cons hvs
                obtain⟨u,ws,h3,h4,rfl⟩:=evs_cons h2
                cases evs_nil h4
                simp only[sliceArgs,Option.some.injEq,Prod.mk.injEq] at hsa
                obtain⟨rfl,rfl,rfl⟩:=hsa
                exact ok_slice h hd hT rfl hTe (ev_rel h h1) hob2 (lo:=none) (hi:=some u) (vlo:=none) (fun _ h=>by cases h) (fun _=>rfl) (fun _ h'=>⟨_,rfl,by cases h';exact ev_rel h h3⟩) (fun h=>by cases h) hs hob1 rfl
              · obtain⟨v,ws,h1,h2,rfl⟩:=evs_cons hvs
                obtain⟨u,ws,h3,h4,rfl⟩:=evs_cons h2
                cases evs_nil h4
                simp only[sliceArgs,Option.some.injEq,Prod.mk.injEq] at hsa
                obtain⟨rfl,rfl,rfl⟩:=hsa
                exact ok_slice h hd hT rfl hTe (ev_rel h h1) hob2 (lo:=some u) (hi:=none) (vhi:=none) (fun _ h'=>⟨_,rfl,by cases h';exact ev_rel h h3⟩) (fun h=>by cases h) (fun _ h=>by cases h) (fun _=>rfl) hs hob1 rfl
              · obtain⟨v,ws,h1,h2,rfl⟩:=evs_cons hvs
                obtain⟨u,ws,h3,h4,rfl⟩:=evs_cons h2
                obtain⟨u',ws,h5,h6,rfl⟩:=evs_cons h4
                cases evs_nil h6
                simp only[sliceArgs,Option.some.injEq,Prod.mk.injEq] at hsa
                obtain⟨rfl,rfl,rfl⟩:=hsa
                exact ok_slice h hd hT rfl hTe (ev_rel h h1) hob2 (lo:=some u) (hi:=some u') (fun _ h'=>⟨_,rfl,by cases h';exact ev_rel h h3⟩) (fun h=>by cases h) (fun _ h'=>⟨_,rfl,by cases h';exact ev_rel h h5⟩) (fun h=>by cases h) hs hob1 rfl
          · cases he
        · rename_i el s b z k n hT hsa
          split at he
          rotate_left
          · cases he
          rename_i Te hTe
          simp only[Option.some.injEq,Prod.mk.injEq] at he
          obtain⟨rfl,rfl⟩:=he
          subst hob
          cases lo<;>cases hi<;>simp only[opnds,Option.toList,List.nil_append,List.cons_append] at hvs
          · obtain⟨v,ws,h1,h2,rfl⟩:=evs_cons hvs
            cases evs_nil h2
            simp[sliceArgs] at hsa
          · obtain⟨v,ws,h1,h2,rfl⟩:=evs_cons hvs
            obtain⟨u,ws,h3,h4,rfl⟩:=evs_cons h2
            cases evs_nil h4
            simp only[sliceArgs,Option.some.injEq,Prod.mk.injEq] at hsa
            obtain⟨rfl,_,rfl⟩:=hsa
            refine ok_val h hd (v:= .slice none 0 0) ?_ .nilsl
            show(do pure (Next.value (← Instr.sliceAt t (a.eval x) none (some (a.eval _)) none)):Sem Next).run P w=_
            refine run_value ?_
            rw[(ev_rel h h1).nilsl_inv,(ev_rel h h3).int_inv]
            exact nil_cut hT hTe
          · obtain⟨v,ws,h1,h2,rfl⟩:=evs_cons hvs
            obtain⟨u,ws,h3,h4,rfl⟩:=evs_cons h2
            cases evs_nil h4
            simp[sliceArgs] at hsa
          · obtain⟨v,ws,h1,h2,rfl⟩:=evs_cons hvs
            obtain⟨u,ws,h3,h4,rfl⟩:=evs_cons h2
            obtain⟨u',ws,h5,h6,rfl⟩:=evs_cons h4
            cases evs_nil h6
            simp[sliceArgs] at hsa
        · rename_i s1 b z s x1 x2 hT hsa
          cases hs:sliceS s x1 x2 with
          |none=>simp[hs] at he
          |some r=>
            obtain⟨ob',y⟩:=r
            simp only[hs,Option.map_some,Option.some.injEq,Prod.mk.injEq] at he
            obtain⟨rfl,rfl⟩:=he
            cases lo<;>cases hi<;>simp only[opnds,Option.toList,List.nil_append,List.cons_append] at hvs
            · obtain⟨v,ws,h1,h2,rfl⟩:=evs_cons hvs
              cases evs_nil h2
              simp only[sliceArgs,Option.some.injEq,Prod.mk.injEq] at hsa
              obtain⟨rfl,rfl,rfl⟩:=hsa
              exact ok_sliceS h hd hT rfl (ev_rel h h1).str_inv (lo:=none) (hi:=none) (vlo:=none) (vhi:=none) (fun _ h=>by cases h) (fun _=>rfl) (fun _ h=>by cases h) (fun _=>rfl) hs hob rfl
            · obtain⟨v,ws,h1,h2,rfl⟩:=evs_cons hvs
              obtain⟨u,ws,h3,h4,rfl⟩:=evs_cons h2
              cases evs_nil h4
              simp only[sliceArgs,Option.some.injEq,Prod.mk.injEq] at hsa
              obtain⟨rfl,rfl,rfl⟩:=hsa
              exact ok_sliceS h hd hT rfl (ev_rel h h1).str_inv (lo:=none) (hi:=some u) (vlo:=none) (fun _ h=>by cases h) (fun _=>rfl) (fun _ h'=>⟨_,rfl,by cases h';exact ev_rel h h3⟩) (fun h=>by cases h) hs hob rfl
            · obtain⟨v,ws,h1,h2,rfl⟩:=evs_cons hvs
              obtain⟨u,ws,h3,h4,rfl⟩:=evs_cons h2
              cases evs_nil h4
              simp only[sliceArgs,Option.some.injEq,Prod.mk.injEq] at hsa
              obtain⟨rfl,rfl,rfl⟩:=hsa
              exact ok_sliceS h hd hT rfl (ev_rel h h1).str_inv (lo:=some u) (hi:=none) (vhi:=none) (fun _ h'=>⟨_,rfl,by cases h';exact ev_rel h h3⟩) (fun h=>by cases h) (fun _ h=>by cases h) (fun _=>rfl) hs hob rfl
            · obtain⟨v,ws,h1,h2,rfl⟩:=evs_cons hvs
              obtain⟨u,ws,h3,h4,rfl⟩:=evs_cons h2
              obtain⟨u',ws,h5,h6,rfl⟩:=evs_cons h4
              cases evs_nil h6
              simp only[sliceArgs,Option.some.injEq,Prod.mk.injEq] at hsa
              obtain⟨rfl,rfl,rfl⟩:=hsa
              exact ok_sliceS h hd hT rfl (ev_rel h h1).str_inv (lo:=some u) (hi:=some u') (fun _ h'=>⟨_,rfl,by cases h';exact ev_rel h h3⟩) (fun h=>by cases h) (fun _ h'=>⟨_,rfl,by cases h';exact ev_rel h h5⟩) (fun h=>by cases h) hs hob rfl
        · cases he
    case index t x i=>
      obtain⟨v,ws,h1,h2,rfl⟩:=evs_cons hvs
      obtain⟨u,ws,h3,h4,rfl⟩:=evs_cons h2
      cases evs_nil h4
      split at he
      · rename_i s1 b z s k n hT heq
        cases heq
        have hv:=(ev_rel h h1).str_inv
        have hi:=(ev_rel h h3).int_inv
        cases hx:s.data.toList[n.toNat]? with
        |none=>simp[hx] at he
        |some c=>
          simp only[hx,Option.some.injEq,Prod.mk.injEq] at he
          obtain⟨rfl,rfl⟩:=he
          obtain⟨u1,hu1,hku⟩:=run_underlying (w:=w) hT
          have:=tk_str hku
          subst this
          refine ok_val h hd (v:= .int .u8 (c.toNat:Int)) ?_ (.int _ _)
          show(do pure (Next.value (← Instr.index t (a.eval x) (a.eval i))):Sem Next).run P w=_
          refine run_value ?_
          have hg:s[n.toNat]? =some c:=by rw[← hx];exact ba_get s _
          rw[hv,hi]
          unfold Instr.index
          simp only[asIntOf,Sem.run_bind,Sem.run_pure,Result.andThen_ok,hu1]
          rw[if_pos hob,hg]
          rfl
      · cases he
    case fieldAddr t x f=>
      obtain⟨v,ws,h1,h2,rfl⟩:=evs_cons hvs
      cases evs_nil h2
      have hv:=ev_rel h h1
      split at he
      · rename_i fs s b z hT
        split at he
        · rename_i ft off hf
          split at he
          · rename_i k size b' z' hTf
            split at he
            · cases he
            · rename_i hsz
              split at he
              · rename_i i1 o1 heq
                cases heq
                cases he
                obtain⟨g1,g2⟩:=(ptr_form (off:=off) hv).1 _ _ rfl
                exact ok_fieldAddr h hd hT rfl hf hTf hsz hv g2 g1 rfl
              · rename_i e1 o1 heq
                cases heq
                cases he
                obtain⟨g1,g2⟩:=(ptr_form (off:=off) hv).2.1 _ _ rfl
                exact ok_fieldAddr h hd hT rfl hf hTf hsz hv g2 g1 rfl
              · rename_i i1 i2 i3 o1 heq
                cases heq
                cases he
                obtain⟨g1,g2⟩:=(ptr_form (off:=off) hv).2.2 _ _ _ _ rfl
                exact ok_fieldAddr h hd hT rfl hf hTf hsz hv g2 g1 rfl
              · cases he
          · cases he
        · cases he
      · cases he
    case field t x f=>
      obtain⟨v,ws,h1,h2,rfl⟩:=evs_cons hvs
      cases evs_nil h2
      have hv:=ev_rel h h1
      split at he
      · rename_i fs s b z l hT heq
        cases heq
        split at he
        · rename_i ft off hf
          split at he
          · rename_i T hTf
            cases hx:ldA T l off with
            |none=>simp[hx] at he
            |some y=>
              simp only[hx,Option.map_some,Option.some.injEq,Prod.mk.injEq] at he
              obtain⟨rfl,rfl⟩:=he
              exact ok_field h hd hT rfl hf hTf hv hx rfl
          · cases he
        · cases he
      · cases he
    case indexAddr t x i=>
      obtain⟨v,ws,h1,h2,rfl⟩:=evs_cons hvs
      obtain⟨u,ws,h3,h4,rfl⟩:=evs_cons h2
      cases evs_nil h4
      simp only at he
      cases hx:idxA P t v u ((v.id?.bind σ.hp)) with
      |none=>simp[hx] at he
      |some r=>
        obtain⟨ob',y⟩:=r
        simp only[List.map_cons,List.getD_cons_zero,hx,Option.map_some,Option.some.injEq,Prod.mk.injEq] at he
        obtain⟨rfl,rfl⟩:=he
        exact ok_index h hd hx hob (ev_rel h h1) (ev_rel h h3) (fun o ho=>obj_of ho) rfl
    case extract x i=>
      obtain⟨v,ws,h1,h2,rfl⟩:=evs_cons hvs
      cases evs_nil h2
      have hv:=ev_rel h h1
      split at he
      · rename_i l heq
        cases heq
        cases hx:l[i]? with
        |none=>simp[hx] at he
        |some y=>
          simp only[hx,Option.map_some,Option.some.injEq,Prod.mk.injEq] at he
          obtain⟨rfl,rfl⟩:=he
          obtain⟨cs,e1,g1,g2⟩:=hv.tup_inv
          have hlt:i<l.length:=by
            rcases Nat.lt_or_ge i l.length with h|h
            · exact h
            · rw[List.getElem?_eq_none h] at hx;cases hx
          have g3:=g2 i hlt
          have e2:l.getD i default=y:=by simp[List.getD_eq_getElem?_getD,hx]
          rw[e2] at g3
          have hci:cs[i]? =some (cs.getD i undef):=by
            have:i<cs.size:=by omega
            simp[Array.getD,this]
          refine ok_val h hd (v:=cs.getD i undef) ?_ g3
          show(do pure (Next.value (← Instr.extract (a.eval x) i)):Sem Next).run P w=_
          refine run_value ?_
          rw[e1]
          unfold Instr.extract
          simp only[hci,Sem.run_pure]
      · cases he
    case typeAssert x xt t ok=>
      obtain⟨v,ws,h1,h2,rfl⟩:=evs_cons hvs
      cases evs_nil h2
      have hv:=ev_rel h h1
      split at he
      · rename_i u y fs s b z heq hT
        cases heq
        split at he
        · rename_i hut
          subst hut
          obtain⟨vv,e1,g1⟩:=hv.iface_inv
          obtain⟨ud,hu1,hu2⟩:=run_underlying (w:=w) hT
          obtain⟨gs,rfl,_⟩:=tk_struct hu2
          have hr:(Instr.typeAssert (a.eval x) xt u ok).run P w= .ok (if ok then .tuple #[vv,.bool true] else vv) w:=by
            unfold Instr.typeAssert
            rw[e1]
            simp[hu1]
          cases ok
          · simp only[Bool.false_eq_true,if_false] at he hr
            cases he
            refine ok_val h hd (v:=vv) ?_ g1
            show(do pure (Next.value (← Instr.typeAssert (a.eval x) xt u false)):Sem Next).run P w=_
            exact run_value hr
          · simp only[if_true] at he hr
            cases he
            refine ok_val h hd (v:= .tuple #[vv,.bool true]) ?_ (.tup _ _ rfl ?_)
            · show(do pure (Next.value (← Instr.typeAssert (a.eval x) xt u true)):Sem Next).run P w=_
              exact run_value hr
            · intro i hi
              match i,hi with
              |0,_=>exact g1
              |1,_=>exact .bool _
        · cases he
      · cases he
    case call c=>
      obtain⟨callee,args,ts⟩:=c
      cases callee<;>(try simp only at he)<;>try(cases he;done)
      rename_i bi
      cases bi<;>(try simp only at he)<;>try(cases he;done)
      case append=>
        split at he
        · rename_i s x t u
          obtain⟨A⟩:=args
          match A,hvs with
          | [],hvs=>cases evs_nil hvs
          | [_],hvs=>obtain⟨_,_,_,h2,e⟩:=evs_cons hvs;cases evs_nil h2;cases e
          |x1::x2::x3::_,hvs=>
            obtain⟨_,_,_,h2,e⟩:=evs_cons hvs
            obtain⟨_,_,_,h3,rfl⟩:=evs_cons h2
            obtain⟨_,_,_,h4,rfl⟩:=evs_cons h3
            cases e
          | [x1,x2],hvs=>
            obtain⟨v,ws,h1,h2,e⟩:=evs_cons hvs
            obtain⟨u',ws,h3,h4,rfl⟩:=evs_cons h2
            cases evs_nil h4
            cases e
            simp only[List.map_cons,List.map_nil,List.getD_cons_zero,List.getD_cons_succ] at he
            unfold appA at he
            split at he
            · rename_i el s1 b1 z1 hT
              split at he
              · rename_i Te hTe
                split at he
                · rename_i ob' xs zs hs hz
                  split at he
                  · rename_i hzl
                    split at he
                    · cases he
                      obtain⟨o1,o2,o3⟩:=hob
                      exact ok_append_nil h hd hid hT rfl hTe hz hzl hs o1 (ev_rel h h3) (fun o ho=>obj_of ho) (ty:=ty) (ev_rel h h1) o2 o3 (exec_append _ _ _ _ _ _ _ _ _)
                    · rename_i id' sz l heq
                      split at he
                      · rename_i hsz
                        subst hsz
                        cases he
                        obtain⟨o1,o2,o3⟩:=hob
                        exact ok_append_rw h hd hid hT rfl hTe hz hzl hs o1 (ev_rel h h3) (fun o ho=>obj_of ho) (ty:=ty) (ev_rel h h1) heq o2 o3 (exec_append _ _ _ _ _ _ _ _ _)
                      · cases he
                    · cases he
                  · cases he
                · cases he
              · cases he
            · cases he
        · cases he
      case cap=>
        split at he
        · rename_i t
          split at he
          · rename_i el s1 b1 z1 hT
            cases he
            obtain⟨A⟩:=args
            match A,hvs with
            | [],hvs=>cases evs_nil hvs
            |x1::x2::_,hvs=>
              obtain⟨_,_,_,h2,e⟩:=evs_cons hvs
              obtain⟨_,_,_,h3,rfl⟩:=evs_cons h2
              cases e
            | [x1],hvs=>
              obtain⟨v,ws,h1,h2,e⟩:=evs_cons hvs
              cases evs_nil h2
              obtain rfl:AV.nilsl=v:=by simpa using e
              refine ok_val h hd (v:= .int .i64 0) ?_ (.int _ _)
              rw[exec_cap]
              refine run_value ?_
              rw[(ev_rel h h1).nilsl_inv]
              have hus:=run_underlying_slice (w:=w) hT rfl
              unfold Builtin.cap_
              simp[hus,goInt]
          · cases he
        · cases he
      case max=>
        split at he
        · rename_i k x k' y
          cases he
          obtain⟨A⟩:=args
          match A,hvs with
          | [],hvs=>cases evs_nil hvs
          | [_],hvs=>obtain⟨_,_,_,h2,e⟩:=evs_cons hvs;cases evs_nil h2;cases e
          |x1::x2::x3::_,hvs=>
            obtain⟨_,_,_,h2,e⟩:=evs_cons hvs
            obtain⟨_,_,_,h3,rfl⟩:=evs_cons h2
            obtain⟨_,_,_,h4,rfl⟩:=evs_cons h3
            cases e
          | [x1,x2],hvs=>
            obtain⟨v,ws,h1,h2,e⟩:=evs_cons hvs
            obtain⟨u',ws,h3,h4,rfl⟩:=evs_cons h2
            cases evs_nil h4
            cases e
            have e1:=(ev_rel h h1).int_inv'
            have e2:=(ev_rel h h3).int_inv'
            refine ok_val h hd (v:= .int k (if y>x then y else x)) ?_ (.int _ _)
            rw[exec_max,e1,e2]
            rfl
        · cases he
      case min=>
        split at he
        · rename_i k x k' y
          cases he
          obtain⟨A⟩:=args
          match A,hvs with
          | [],hvs=>cases evs_nil hvs
          | [_],hvs=>obtain⟨_,_,_,h2,e⟩:=evs_cons hvs;cases evs_nil h2;cases e
          |x1::x2::x3::_,hvs=>
            obtain⟨_,_,_,h2,e⟩:=evs_cons hvs
            obtain⟨_,_,_,h3,rfl⟩:=evs_cons h2
            obtain⟨_,_,_,h4,rfl⟩:=evs_cons h3
            cases e
          | [x1,x2],hvs=>
            obtain⟨v,ws,h1,h2,e⟩:=evs_cons hvs
            obtain⟨u',ws,h3,h4,rfl⟩:=evs_cons h2
            cases evs_nil h4
            cases e
            have e1:=(ev_rel h h1).int_inv'
            have e2:=(ev_rel h h3).int_inv'
            refine ok_val h hd (v:= .int k (if y<x then y else x)) ?_ (.int _ _)
            rw[exec_min,e1,e2]
            rfl
        · cases he
      case len=>
        split at he
        · rename_i x t
          obtain⟨A⟩:=args
          match A,hvs with
          | [],hvs=>cases evs_nil hvs
          |x1::x2::_,hvs=>
            obtain⟨_,_,_,h2,e⟩:=evs_cons hvs
            obtain⟨_,_,_,h3,rfl⟩:=evs_cons h2
            cases e
          | [x1],hvs=>
            obtain⟨v,ws,h1,h2,e⟩:=evs_cons hvs
            cases evs_nil h2
            obtain rfl:x=v:=by simpa using e
            clear e
            simp only[List.map_cons,List.map_nil,List.getD_cons_zero,Option.map_eq_some_iff,Prod.mk.injEq] at he
            obtain⟨y,hl,rfl,rfl⟩:=he
            unfold lenE at hl
            cases hT:ti P t with
            |none=>simp[hT] at hl
            |some T=>
              simp only[hT] at hl
              cases hk:T.k<;>simp only[hk] at hl<;>try(cases hl;done)
              · split at hl
                · rename_i st _
                  cases hl
                  obtain⟨ud,hu1,hu2⟩:=run_underlying (w:=w) hT
                  rw[hk] at hu2
                  have:ud= .string:=by cases ud<;>simp_all[TK.of]
                  subst this
                  refine ok_val h hd (v:= .int .i64 st.size) ?_ (.int _ _)
                  rw[exec_len]
                  refine run_value ?_
                  rw[(ev_rel h h1).str_inv]
                  unfold Builtin.len_
                  simp[hu1,goInt]
                · cases hl
              · exact ok_len h hd hT hk (ty:=ty) (ev_rel h h1) (fun o ho=>obj_of ho) hl (exec_len _ _ _ _ _ _ _)
              · split at hl
                · rename_i rid es _ hos
                  cases hl
                  have hob:=obj_of hos rid rfl
                  obtain⟨hv,_⟩:=(ev_rel h h1).mp_inv'
                  obtain⟨ents,clock,h0,hh1,⟨hh2,_⟩,_⟩:=map_entries (h.hs.obj _ _ hob).2
                  obtain⟨ud,hu1,hu2⟩:=run_underlying (w:=w) hT
                  rw[hk] at hu2
                  obtain rfl:=tk_map hu2
                  refine ok_val h hd (v:= .int .i64 ents.size) ?_ (by have e:ents.size=es.length:=(by simpa using hh2);rw[e];exact .int _ _)
                  rw[exec_len]
                  refine run_value ?_
                  rw[hv]
                  unfold Builtin.len_
                  simp[hu1,MapKept.run_getObj_map hh1,goInt]
                · cases hl
        · cases he
theorem eff_cut (h : Sat E ρ V Z σ a w) {dst : Option Tmp} {t : TypeId} {x : Operand} {lo hi : Option Operand} {ty : TypeId} {pos : String} {aft : Array Edge} {g : Option (Nat × Bool)} (hd : ∀ n, dst = some n → n < E.nt) {vs : List AV} (hvs : (opnds (.slice t x lo hi none)).mapM (evA σ) = some vs) {ob : Prop} {e : Ef}
    (he:cutE P t lo hi vs ((vs.map fun v=>v.id?.bind σ.hp).getD 0 none)=some (ob,e)) (hob:ob) {id:Nat} (hid:¬ V id):OpOk P E ⟨dst,.slice t x lo hi none,ty,pos,aft,g⟩ σ a w V Z id e:=by
  rcases lo with _|ylo<;>rcases hi with _|yhi<;>simp only[opnds,Option.toList,List.nil_append,List.cons_append] at hvs
  · obtain⟨v,ws0,g0,k0,rfl⟩:=evs_cons hvs
    cases evs_nil k0
    unfold cutE at he
    split at he
    · rename_i e0 s0 b0 z0 rid x1 x2 sz l hT hsa hos
      split at he
      · rename_i Te ob' l' hTe hs
        split at he
        · rename_i hsz
          subst hsz
          cases he
          simp only[sliceArgs,Option.some.injEq,Prod.mk.injEq] at hsa
          obtain⟨rfl,rfl,rfl⟩:=hsa
          have hos':σ.hp rid=some (.row Te.size l):=by simpa [AV.id?] using hos
          exact ok_cut h hd hid hT rfl hTe (ev_rel h g0) hos' (lo:=none) (hi:=none) (vlo:=none) (vhi:=none) (fun _ h=>by cases h) (fun _=>rfl) (fun _ h=>by cases h) (fun _=>rfl) hs hob rfl
        · cases he
      · cases he
    · cases he
  · obtain⟨v,ws0,g0,k0,rfl⟩:=evs_cons hvs
    obtain⟨u,ws1,g1,k1,rfl⟩:=evs_cons k0
    cases evs_nil k1
    unfold cutE at he
    split at he
    · rename_i e0 s0 b0 z0 rid x1 x2 sz l hT hsa hos
      split at he
      · rename_i Te ob' l' hTe hs
        split at he
        · rename_i hsz
          subst hsz
          cases he
          simp only[sliceArgs,Option.some.injEq,Prod.mk.injEq] at hsa
          obtain⟨rfl,rfl,rfl⟩:=hsa
          have hos':σ.hp rid=some (.row Te.size l):=by simpa [AV.id?] using hos
          exact ok_cut h hd hid hT rfl hTe (ev_rel h g0) hos' (lo:=none) (hi:=some u) (vlo:=none) (vhi:=some (a.eval yhi)) (fun _ h=>by cases h) (fun _=>rfl) (fun _ h'=>⟨_,rfl,by cases h';exact ev_rel h g1⟩) (fun h=>by cases h) hs hob rfl
        · cases he
      · cases he
    · cases he
  · obtain⟨v,ws0,g0,k0,rfl⟩:=evs_cons hvs
    obtain⟨u,ws1,g1,k1,rfl⟩:=evs_cons k0
    cases evs_nil k1
    unfold cutE at he
    split at he
    · rename_i e0 s0 b0 z0 rid x1 x2 sz l hT hsa hos
      split at he
      · rename_i Te ob' l' hTe hs
        split at he
        · rename_i hsz
          subst hsz
          cases he
          simp only[sliceArgs,Option.some.injEq,Prod.mk.injEq] at hsa
          obtain⟨rfl,rfl,rfl⟩:=hsa
          have hos':σ.hp rid=some (.row Te.size l):=by simpa [AV.id?] using hos
          exact ok_cut h hd hid hT rfl hTe (ev_rel h g0) hos' (lo:=some u) (hi:=none) (vlo:=some (a.eval ylo)) (vhi:=none) (fun _ h'=>⟨_,rfl,by cases h';exact ev_rel h g1⟩) (fun h=>by cases h) (fun _ h=>by cases h) (fun _=>rfl) hs hob rfl
        · cases he
      · cases he
    · cases he
  · obtain⟨v,ws0,g0,k0,rfl⟩:=evs_cons hvs
    obtain⟨u,ws1,g1,k1,rfl⟩:=evs_cons k0
    obtain⟨u2,ws2,g2,k2,rfl⟩:=evs_cons k1
    cases evs_nil k2
    unfold cutE at he
    split at he
    · rename_i e0 s0 b0 z0 rid x1 x2 sz l hT hsa hos
      split at he
      · rename_i Te ob' l' hTe hs
        split at he
        · rename_i hsz
          subst hsz
          cases he
          simp only[sliceArgs,Option.some.injEq,Prod.mk.injEq] at hsa
          obtain⟨rfl,rfl,rfl⟩:=hsa
          have hos':σ.hp rid=some (.row Te.size l):=by simpa [AV.id?] using hos
          exact ok_cut h hd hid hT rfl hTe (ev_rel h g0) hos' (lo:=some u) (hi:=some u2) (vlo:=some (a.eval ylo)) (vhi:=some (a.eval yhi)) (fun _ h'=>⟨_,rfl,by cases h';exact ev_rel h g1⟩) (fun h=>by cases h) (fun _ h'=>⟨_,rfl,by cases h';exact ev_rel h g2⟩) (fun h=>by cases h) hs hob rfl
        · cases he
      · cases he
    · cases he
end Go.Am

namespace Go.Am
mutual
def AV.idl:AV→List Nat
 | .ptr id _| .rptr id _ _ _| .rw id| .mp id=>[id]
 | .fn _ a b=>AV.idlL a++AV.idlL b
 | .iface _ v=>AV.idl v
 | .agg l=>AV.idlL l
 | .tup l=>AV.idlL l
 |_=>[]
def AV.idlL:List AV→List Nat
 | []=>[]
 |a::l=>AV.idl a++AV.idlL l
end
def idOk (nx anc:Nat) (vs:List AV):Bool:=vs.all fun v=>v.idl.all fun id=>decide (id<nx)||anc.testBit ((id - nx) / 1048576)
def isFn (P:Program) (g:FuncId):Bool:=match P.funcs[g]? with|some fn=>fn.name != "runtime.NumGoroutine" &&fn.body.isSome|none=>false
def CallB (P:Program) (g:FuncId) (vs:List AV) (σ:St) (k:Nat) (dst:Option Nat) (K:St→Prop) (Kp:AV→St→Prop):Prop:=
  isFn P g=true∧∀ (E:En) ρ V Z a w (args:Array Value),Sat E ρ V Z σ a w→(∀ id,V id→¬ (σ.nx+1048576*k≤id∧id<σ.nx+1048576*k+1048576))→(∀ n,dst=some n→n<E.nt)→args.size=vs.length→
    (∀ i,i<vs.length→Rel ρ V Z w (args.getD i undef) (vs.getD i default))→
    Calls P g args w fun e w'=>∃ ρ' V' Z',(∀ id,V' id→V id∨(σ.nx+1048576*k≤id∧id<σ.nx+1048576*k+1048576))∧(∀ id,V id→V' id)∧
      ((∃ v σ',e= .returned v∧σ'.nx=σ.nx∧K σ'∧Sat E ρ' V' Z' σ' (a.put dst v) w')∨
       (∃ v x σ',e= .panicked [{ v,recovered:=false }]∧σ'.nx=σ.nx∧Kp x σ'∧Rel ρ' V' Z' w' v x∧Sat E ρ' V' Z' σ' a w'))
def rfn (r:Option Nat):Fence:= { Fence.wide with round:=r }
theorem callsIn_rfn {P:Program} {r:Option Nat} {n:Nat} {f:FuncId} {args:Array Value} {w:World} {R:Ending→World→Prop} (h:Calls P f args w R):CallsIn (rfn r) n P f args w R:=
 (callsIn_wide (n:=n)).2 h
def YRuns (P:Program) (l:Nat) (args:Array Value) (w:World) (R:Ending→World→Prop):Prop:=
 ∃ r:Loop,w.heap[l]? =some (.loop r)∧args.size=r.params.size∧RoundIn Fence.wide 0 P l r.fn ((r.params.zip args).foldl (fun t (p,v)=>t.setIfInBounds p v) r.tmps) r.assign r.body w R
theorem roundIn_rfn {P:Program} {r:Option Nat} {n l:Nat} {f:FuncId} {tmps:Array Value} {assign body:Code} {w:World} {R:Ending→World→Prop} (h:RoundIn Fence.wide n P l f tmps assign body w R):RoundIn (rfn r) n P l f tmps assign body w R:=h
theorem YRuns.mono {P:Program} {l:Nat} {args:Array Value} {w:World} {R R':Ending→World→Prop} (h:YRuns P l args w R) (hr:∀ e w',R e w'→R' e w'):YRuns P l args w R':=by
 obtain⟨r,h1,h2,h3⟩:=h
 exact⟨r,h1,h2,h3.mono hr⟩
def CallY (P:Program) (l:Nat) (vs:List AV) (σ:St) (k:Nat) (dst:Option Nat) (K:St→Prop) (Kp:AV→St→Prop):Prop:=
  ∀ (E:En) ρ V Z a w (args:Array Value),Sat E ρ V Z σ a w→(∀ id,V id→¬ (σ.nx+1048576*k≤id∧id<σ.nx+1048576*k+1048576))→(∀ n,dst=some n→n<E.nt)→args.size=vs.length→
    (∀ i,i<vs.length→Rel ρ V Z w (args.getD i undef) (vs.getD i default))→
    YRuns P l args w fun e w'=>∃ ρ' V' Z',(∀ id,V' id→V id∨(σ.nx+1048576*k≤id∧id<σ.nx+1048576*k+1048576))∧(∀ id,V id→V' id)∧
      ((∃ v σ',e= .returned v∧σ'.nx=σ.nx∧K σ'∧Sat E ρ' V' Z' σ' (a.put dst v) w')∨
       (∃ v x σ',e= .panicked [{ v,recovered:=false }]∧σ'.nx=σ.nx∧Kp x σ'∧Rel ρ' V' Z' w' v x∧Sat E ρ' V' Z' σ' a w'))
def AV.flat:AV→Bool
 | .bool _| .int _ _| .str _| .nilp| .nilsl| .nilmap| .nilfn| .nilif=>true
 | .fn _ [] []=>true
 | .sl l=>l.isEmpty
 |_=>false
def AV.flatR:AV→Bool
 | .tup l=>l.all AV.flat
 | .agg l=>l.all AV.flat
 |a=>a.flat
mutual
def AV.snap (h:Nat→Option AObj):AV→AV
 | .rw id=>match h id with|some (.row _ l)=> .sl l|_=> .rw id
 | .nilsl=> .sl []
 | .agg l=> .agg (AV.snapL h l)
 | .tup l=> .tup (AV.snapL h l)
 |a=>a
def AV.snapL (h:Nat→Option AObj):List AV→List AV
 | []=>[]
 |a::l=>AV.snap h a::AV.snapL h l
end
def CloRow (l:List AV):Prop:=∀ x,x∈l→∀ c,c∈x.cells→c.clo=true
mutual
def AV.snapOk (h:Nat→Option AObj):AV→Prop
 | .rw id=>match h id with|some (.row _ l)=>CloRow l|_=>True
 | .agg l=>AV.snapOkL h l
 | .tup l=>AV.snapOkL h l
 |_=>True
def AV.snapOkL (h:Nat→Option AObj):List AV→Prop
 | []=>True
 |a::l=>AV.snapOk h a∧AV.snapOkL h l
end
def AV.noRw:AV→Bool
 | .rw _=>false
 | .agg l=>l.all fun| .rw _=>false|_=>true
 | .tup _=>false
 |_=>true
def PCall (P:Program) (g:FuncId) (vs:List AV) (r:AV):Prop:=
 isFn P g=true∧∀ (ρ:Nat→Ref) (V:Nat→Prop) (Z:Nat→Nat→Prop) (w:World) (args:Array Value),(∀ b o,Z b o→b<w.heap.size)→Gl w Z→args.size=vs.length→
  (∀ i,i<vs.length→Rel ρ V Z w (args.getD i undef) (vs.getD i default))→
  Calls P g args w fun e w'=>∃ v Z',e= .returned v∧Rel ρ V Z' w' v r∧Ext w w' (fun _=>False)∧(∀ b o,Z b o→Z' b o)∧(∀ b o,Z' b o→Z b o∨(w.heap.size≤b∧b<w'.heap.size))
def AV.zf:AV→Bool
 | .bool _| .int _ _| .str _| .nilp| .ptr _ _| .nilsl| .nilmap| .mp _| .nilfn| .nilif=>true
 |_=>false
def AObj.zf:AObj→Bool
 | .cells l=>l.all AV.zf
 | .map es=>es.all fun p=>p.1.zf&&p.2.zf
 |_=>false
def lowH (q:Bool) (nx:Nat) (h:Nat→Option AObj):Nat→Option AObj:=fun id=>if id<nx then(match h id with|some o=>if q||o.zf then some o else none|none=>none) else none
def RCall (P:Program) (g:FuncId) (vs:List AV) (h:Nat→Option AObj) (r:AV):Prop:=
 isFn P g=true∧∀ (ρ:Nat→Ref) (V:Nat→Prop) (Z:Nat→Nat→Prop) (w:World) (args:Array Value),HSat ρ V Z w h→args.size=vs.length→
  (∀ i,i<vs.length→Rel ρ V Z w (args.getD i undef) (vs.getD i default))→
  Calls P g args w fun e w'=>∃ v Z',e= .returned v∧Rel ρ V Z' w' v r∧Ext w w' (fun b=>∃ id o,h id=some o∧(ρ id).at b)∧(∀ id o,h id=some o→ObjRel ρ V Z' w' id o)∧
   (∀ b o,Z b o→Z' b o)∧(∀ b o,Z' b o→Z b o∨(w.heap.size≤b∧b<w'.heap.size))
def goX (P:Program) (bar:Bool) (k:Nat) (o:Oper) (σ:St) (K:St→Prop) (Kp:AV→St→Prop):Prop:=
 match o.op with
 | .call ⟨.value f,args,_⟩=>
  match evA σ f,args.toList.mapM (evA σ) with
  |some (.fn (.func g) first cap),some vs=>
   if bar then CallB P g (first++vs++cap) σ k o.dst K Kp
   else AV.snapOkL σ.hp (first++vs++cap)∧∃ r,RCall P g (AV.snapL σ.hp (first++vs++cap)) (lowH ((first++vs++cap).all AV.noRw) σ.nx σ.hp) r∧(r.flatR=true∨(first++vs++cap).all AV.noRw=true)∧K (σ.put o.dst r)
  |some (.fn (.yield l) [] []),some vs=>if bar then CallY P l vs σ k o.dst K Kp else False
  |_,_=>False
 | .call ⟨.builtin .panic,args,_⟩=>
  if bar then(match args.toList.mapM (evA σ) with|some [.iface t y]=>Kp (.iface t y) σ|_=>False) else False
 | .panic x=>if bar then(match evA σ x with|some (.iface t y)=>Kp (.iface t y) σ|_=>False) else False
 | .slice t x lo hi m=>match ((opnds (.slice t x lo hi m)).mapM (evA σ)).bind fun vs=>effB P bar t x lo hi m vs (vs.map fun v=>v.id?.bind σ.hp) with|some (ob,e)=>ob∧K (e.app σ o.dst (σ.nx+1048576*k))|none=>False
 |op=>match eff P σ op with|some (ob,e)=>ob∧K (e.app σ o.dst (σ.nx+1048576*k))|none=>False
def gdA (ds:List (Option Nat)) (g:Option (Nat×Bool)) (fr:Nat→Option AV):Option Bool:=
 match g with
 |none=>some true
 |some (j,want)=>
  match ds[j]? with
  |some (some s)=>
   match fr s with
   |some (.bool b)=>some (b==want)
   |some (.tup [])=>some false
   |_=>none
  |_=>none
def rpOk (b:Bool):AV→Prop
 | .rptr _ _ _ _=>b=false
 |_=>True
def outB (b:Bool) (id:Nat):Bool:=!b||(id % 2==0)
def innB (b:Bool) (id:Nat):Bool:=!b||(id % 2==1)
def outOk (b:Bool):AV→Prop
 | .ptr id _=>outB b id=true
 | .rptr _ _ _ _=>b=false
 |_=>True
def innOk (b:Bool):AV→Prop
 | .ptr id _=>innB b id=true
 | .rptr _ _ _ _=>b=false
 |_=>True
def ldOk (n m k:Nat) (op:Op) (vs:List AV):Prop:=
 match op with
 | .load _ _=>(match vs with| [v]=>rpOk (m.testBit k) v∧outOk (m.testBit (n+k)) v|_=>True)
 | .store _ _ _=>(match vs with| [v,_]=>innOk (m.testBit (n+k)) v|_=>True)
 |_=>True
def idsChk (bs:Option (List Nat)) (k:Nat) (op:Op) (σ:St):Prop:=
 match bs with
 |none=>True
 |some bl=>match op.operands.toList.mapM (evA σ) with|some vs=>idOk σ.nx (bl.getD k 0) vs=true∧ldOk bl.length (bl.getD k 0) k op vs|none=>False
def goG (P:Program) (bar:Bool) (bs:Option (List Nat)) (ds:List (Option Nat)) (k:Nat) (o:Oper) (σ:St) (K:St→Prop) (Kp:AV→St→Prop):Prop:=
 match gdA ds o.guard σ.fr with
 |some true=>idsChk bs k o.op σ∧goX P bar k o σ K Kp
 |some false=>K (σ.put o.dst (.tup []))
 |none=>False
def goR (P:Program) (bar:Bool) (bs:Option (List Nat)) (ds:List (Option Nat)):List (Oper×Nat)→St→(St→Prop)→(AV→St→Prop)→Prop
 | [],σ,K,_=>K σ
 |(o,k)::r,σ,K,Kp=>goG P bar bs ds k o σ (fun σ'=>goR P bar bs ds r σ' K Kp) Kp

variable {P:Program} {E:En} {ρ:Nat→Ref} {V:Nat→Prop} {Z:Nat→Nat→Prop} {σ:St} {a:Act} {w:World}
theorem run_callFunc {g:FuncId} (h:isFn P g=true) (args:Array Value):(callFunc g args).run P w= .ok (.enter g args) w:=by
 unfold isFn at h
 unfold callFunc
 simp only[Sem.run_bind,run_program,Result.andThen_ok]
 cases hf:P.funcs[g]? with
 |none=>simp[hf] at h
 |some fn=>
  simp only[hf,Bool.and_eq_true,bne_iff_ne,ne_eq] at h
  obtain⟨h1,h2⟩:=h
  have h3:fn.body.isNone=false:=by cases hb:fn.body<;>simp_all
  simp[h1,h3]
theorem flat_rel {v:Value} {x:AV} (h:Rel ρ V Z w v x) (hx:x.flat=true) (ρ':Nat→Ref) (V':Nat→Prop) (Z':Nat→Nat→Prop) (w':World):Rel ρ' V' Z' w' v x:=by
 cases h<;>first|(simp[AV.flat] at hx;done)|skip
 ·exact .bool _
 ·exact .int _ _
 ·exact .str _
 ·exact .nilp
 ·exact .nilsl
 ·exact .sl0 _ _
 ·rename_i b o cap sz l cs _ _ _ _
  cases l with
  |nil=>exact .sl0 _ _
  |cons=>cases hx
 ·exact .nilmap
 ·exact .nilfn
 ·rename_i f fs cs fa ca h1 h2 _ _
  cases fa with
  |nil=>
   cases ca with
   |nil=>exact .fn _ _ _ _ _ h1 h2 (fun i hi=>absurd hi (Nat.not_lt_zero _)) (fun i hi=>absurd hi (Nat.not_lt_zero _))
   |cons _ _=>simp[AV.flat] at hx
  |cons _ _=>simp[AV.flat] at hx
 ·exact .nilif
theorem flatR_rel {v:Value} {x:AV} (h:Rel ρ V Z w v x) (hx:x.flatR=true) (ρ':Nat→Ref) (V':Nat→Prop) (Z':Nat→Nat→Prop) (w':World):Rel ρ' V' Z' w' v x:=by
 have key:∀ (l:List AV),l.all AV.flat=true→∀ i,i<l.length→(l.getD i default).flat=true:=by
  intro l hl i hi
  rw[List.all_eq_true] at hl
  have:l.getD i default=l[i]:=by simp[List.getD_eq_getElem?_getD,hi]
  rw[this]
  exact hl _ (List.getElem_mem hi)
 by_cases ht:∃ l,x= .tup l
 ·obtain⟨l,rfl⟩:=ht
  obtain⟨cs,rfl,h1,h2⟩:=h.tup_inv
  exact .tup _ _ h1 (fun i hi=>flat_rel (h2 i hi) (key l hx i hi) _ _ _ _)
 ·by_cases ha:∃ l,x= .agg l
  ·obtain⟨l,rfl⟩:=ha
   obtain⟨cs,rfl,h1,h2,h3⟩:=h.agg_inv
   exact .agg _ _ h1 h2 (fun i hi=>flat_rel (h3 i hi) (key l hx i hi) _ _ _ _)
  ·refine flat_rel h ?_ _ _ _ _
   cases x<;>first|exact hx|exact absurd ⟨_,rfl⟩ ht|exact absurd ⟨_,rfl⟩ ha
def ZR (ρ:Nat→Ref) (Z:Nat→Nat→Prop) (σ:St):Nat→Nat→Prop:=fun b o=>Z b o∨∃ id sz l,σ.hp id=some (.row sz l)∧(ρ id).at b
theorem clo_rel {v:Value} {x:AV} (h:Rel ρ V Z w v x):x.clo=true→∀ (ρ':Nat→Ref) (V':Nat→Prop),Rel ρ' V' Z w v x:=by
 have keyL:∀ (l:List AV),AV.cloL l=true→∀ i,i<l.length→(l.getD i default).clo=true:=by
  intro l
  induction l with
  |nil=>intro _ i hi;exact absurd hi (Nat.not_lt_zero _)
  |cons y l ih=>
   intro hl i hi
   simp only[AV.cloL,Bool.and_eq_true] at hl
   cases i with
   |zero=>simpa using hl.1
   |succ i=>simpa using ih hl.2 i (by simpa using hi)
 induction h with
 |bool b=>exact fun _ _ _=> .bool b
 |int k n=>exact fun _ _ _=> .int k n
 |str s=>exact fun _ _ _=> .str s
 |nilp=>exact fun _ _ _=> .nilp
 |ptr id off hv=>exact fun hx=>by simp[AV.clo] at hx
 |eptr b o e off cs h1 h2 ih=>exact fun _ ρ' V'=> .eptr b o e off cs h1 (fun j hj=>ih j hj (h1 j hj).2.2.2 ρ' V')
 |rptr id sz i off hv=>exact fun hx=>by simp[AV.clo] at hx
 |nilsl=>exact fun _ _ _=> .nilsl
 |sl0 a cap=>exact fun _ _ _=> .sl0 a cap
 |sl b o cap sz l cs h0 h1 h2 h3 ih=>exact fun _ ρ' V'=> .sl b o cap sz l cs h0 h1 h2 (fun i j hi hj=>ih i j hi hj (h2 i j hi hj).2.2.2 ρ' V')
 |rw id hv=>exact fun hx=>by simp[AV.clo] at hx
 |nilmap=>exact fun _ _ _=> .nilmap
 |mp id hv=>exact fun hx=>by simp[AV.clo] at hx
 |nilfn=>exact fun _ _ _=> .nilfn
 |fn f fs cs fa ca h1 h2 _ _ ih1 ih2=>
  intro hx ρ' V'
  simp only[AV.clo,Bool.and_eq_true] at hx
  exact .fn f fs cs fa ca h1 h2 (fun i hi=>ih1 i hi (keyL _ hx.1 i hi) ρ' V') (fun i hi=>ih2 i hi (keyL _ hx.2 i hi) ρ' V')
 |nilif=>exact fun _ _ _=> .nilif
 |iface t v a _ ih=>exact fun hx ρ' V'=> .iface t v a (ih hx ρ' V')
 |agg cs l h1 h2 _ ih=>exact fun hx ρ' V'=> .agg cs l h1 h2 (fun i hi=>ih i hi (keyL _ hx i hi) ρ' V')
 |tup cs l h1 _ ih=>exact fun hx ρ' V'=> .tup cs l h1 (fun i hi=>ih i hi (keyL _ hx i hi) ρ' V')
theorem snapL_len {h:Nat→Option AObj} :∀ (l:List AV),(AV.snapL h l).length=l.length
 | []=>rfl
 |a::l=>by simp[AV.snapL,snapL_len l]
theorem snapL_getD {h:Nat→Option AObj} :∀ (l:List AV) (i:Nat),i<l.length→(AV.snapL h l).getD i default=(l.getD i default).snap h
 | [],i,hi=>absurd hi (Nat.not_lt_zero _)
 |a::l,0,_=>by simp[AV.snapL]
 |a::l,i+1,hi=>by simpa [AV.snapL] using snapL_getD l i (by simpa using hi)
theorem snapOkL_getD {h:Nat→Option AObj} :∀ (l:List AV) (i:Nat),i<l.length→AV.snapOkL h l→(l.getD i default).snapOk h
 | [],i,hi,_=>absurd hi (Nat.not_lt_zero _)
 |a::l,0,_,hl=>by simpa using hl.1
 |a::l,i+1,hi,hl=>by simpa using snapOkL_getD l i (by simpa using hi) hl.2
theorem snap_one {h:Nat→Option AObj} {x:AV} :(x.snap h).one=x.one:=by
 cases x<;>first|rfl|(simp only[AV.snap];split<;>rfl)
theorem snap_rel (hs:HSat ρ V Z w σ.hp) {v:Value} {x:AV} (h:Rel ρ V Z w v x):x.snapOk σ.hp→Rel ρ V (ZR ρ Z σ) w v (x.snap σ.hp):=by
 have hm:∀ {v x},Rel ρ V Z w v x→Rel ρ V (ZR ρ Z σ) w v x:=fun h=>h.mono (fun _ _=>rfl) (fun _ h=>h) (fun _ _ h=> .inl h) (fun _ _ _=>rfl)
 induction h with
 |rw id hv=>
  intro hx
  simp only[AV.snapOk] at hx
  simp only[AV.snap]
  cases ho:σ.hp id with
  |none=>exact hm (.rw id hv)
  |some o=>
   cases o with
   |cells l=>exact hm (.rw id hv)
   |map es=>exact hm (.rw id hv)
   |lp q l=>exact hm (.rw id hv)
   |row sz l=>
    simp only[ho] at hx ⊢
    rcases(hs.obj id _ ho).2.row_cells' with ⟨h0,rfl⟩|⟨h0,cs,ty,h1,h2,h3,h4,h5⟩
    ·simp only[Ref.slice,h0,if_true];exact .sl0 _ _
    ·simp only[Ref.slice,h0,Bool.false_eq_true,if_false,h2]
     refine .sl (ρ id).blk (ρ id).off (ρ id).cap sz l (fun i j=>cs.getD ((ρ id).off+i*sz+j) undef) h3 h5.1 (fun i j hi hj=>?_) (fun i j hi hj=>by simpa using hm (h5.2 i j hi hj).2)
     have h6:(ρ id).off+i*sz+j<cs.size:=by
      have:=row_idx hi hj
      have:=Nat.mul_le_mul_right sz h3
      omega
     refine⟨?_,.inr ⟨id,_,_,ho,h0,rfl⟩,(h5.2 i j hi hj).1,?_⟩
     ·simp[World.cell?,h1,Array.getD,h6]
     ·have hl:l.getD i default∈l:=by
       have:l.getD i default=l[i]:=by simp[List.getD_eq_getElem?_getD,hi]
       rw[this];exact List.getElem_mem hi
      have hj':j<(l.getD i default).cells.length:=by rw[h5.1 i hi];exact hj
      refine hx _ hl _ ?_
      have:(l.getD i default).cells.getD j default=(l.getD i default).cells[j]:=by rw[List.getD_eq_getElem?_getD,List.getElem?_eq_getElem hj'];rfl
      rw[this];exact List.getElem_mem hj'
 |nilsl=>intro _;exact .sl0 _ _
 |agg cs l h1 h2 h3 ih=>
  intro hx
  simp only[AV.snapOk] at hx
  simp only[AV.snap]
  refine .agg _ _ (by rw[snapL_len];exact h1) (fun i hi=>?_) (fun i hi=>?_)
  ·rw[snapL_len] at hi;rw[snapL_getD l i hi,snap_one];exact h2 i hi
  ·rw[snapL_len] at hi;rw[snapL_getD l i hi];exact ih i hi (snapOkL_getD l i hi hx)
 |tup cs l h1 h3 ih=>
  intro hx
  simp only[AV.snapOk] at hx
  simp only[AV.snap]
  refine .tup _ _ (by rw[snapL_len];exact h1) (fun i hi=>?_)
  rw[snapL_len] at hi;rw[snapL_getD l i hi];exact ih i hi (snapOkL_getD l i hi hx)
 |_=>intro _;simp only[AV.snap];exact hm (by constructor<;>assumption)
theorem snap_noRw (hs:HSat ρ V Z w σ.hp) {v:Value} {x:AV} (h:Rel ρ V Z w v x) (hx:x.noRw=true):Rel ρ V Z w v (x.snap σ.hp):=by
 cases h with
 |rw id hv=>simp[AV.noRw] at hx
 |tup _ _ _ _=>simp[AV.noRw] at hx
 |nilsl=>exact .sl0 _ _
 |agg cs l h1 h2 h3=>
  simp only[AV.snap]
  refine .agg _ _ (by rw[snapL_len];exact h1) (fun i hi=>?_) (fun i hi=>?_)
  ·rw[snapL_len] at hi;rw[snapL_getD l i hi,snap_one];exact h2 i hi
  ·rw[snapL_len] at hi
   rw[snapL_getD l i hi]
   simp only[AV.noRw,List.all_eq_true] at hx
   have hl:l.getD i default∈l:=by
    have:l.getD i default=l[i]:=by simp[List.getD_eq_getElem?_getD,hi]
    rw[this];exact List.getElem_mem hi
   have h4:=hx _ hl
   have h5:=h3 i hi
   have h6:=h2 i hi
   generalize l.getD i default=y at h4 h5 h6
   generalize cs.getD i undef=u at h5
   cases y<;>first|(simp at h4;done)|(cases h6;done)|(simp only[AV.snap];first|exact h5|(rw[h5.nilsl_inv];exact .sl0 _ _))
 |_=>simp only[AV.snap];constructor<;>assumption
theorem lowH_some {q:Bool} {nx:Nat} {h:Nat→Option AObj} {id:Nat} {o:AObj} (e:lowH q nx h id=some o):id<nx∧h id=some o∧(q||o.zf)=true:=by
 unfold lowH at e
 split at e
 ·rename_i hid
  split at e
  ·rename_i o' ho
   split at e
   ·rename_i hz;cases e;exact⟨hid,ho,hz⟩
   ·cases e
  ·cases e
 ·cases e
theorem lowH_congr {q:Bool} {nx:Nat} {h h':Nat→Option AObj} (e:∀ id,id<nx→h' id=h id):lowH q nx h'=lowH q nx h:=by
 funext id
 unfold lowH
 by_cases hid:id<nx
 ·rw[if_pos hid,if_pos hid,e id hid]
 ·rw[if_neg hid,if_neg hid]
theorem zf_rel {v:Value} {x:AV} (h:Rel ρ V Z w v x) (hx:x.zf=true) (Z':Nat→Nat→Prop) (w':World):Rel ρ V Z' w' v x:=by
 cases h<;>first|(cases hx;done)|skip
 ·exact .bool _
 ·exact .int _ _
 ·exact .str _
 ·exact .nilp
 ·exact .ptr _ _ (by assumption)
 ·exact .nilsl
 ·exact .nilmap
 ·exact .mp _ (by assumption)
 ·exact .nilfn
 ·exact .nilif
theorem all_getD {α:Type} [Inhabited α] {p:α→Bool} {l:List α} (h:l.all p=true) {i:Nat} (hi:i<l.length):p (l.getD i default)=true:=by
 rw[List.all_eq_true] at h
 have:l.getD i default=l[i]:=by simp[List.getD_eq_getElem?_getD,hi]
 rw[this];exact h _ (List.getElem_mem hi)
theorem zf_obj {id:Nat} {o:AObj} (h:ObjRel ρ V Z w id o) (hx:o.zf=true) (Z':Nat→Nat→Prop):ObjRel ρ V Z' w id o:=by
 cases o with
 |cells l=>
  obtain⟨h0,cs,ty,h1,h2,h3⟩:=h
  exact⟨h0,cs,ty,h1,h2,fun i hi=>⟨(h3 i hi).1,zf_rel (h3 i hi).2 (all_getD hx hi) _ _⟩⟩
 |map es=>
  obtain⟨h0,ents,clock,h1,h2,h3⟩:=h
  refine⟨h0,ents,clock,h1,h2,fun i hi=>?_⟩
  have:=all_getD (p:=fun p:AV×AV=>p.1.zf&&p.2.zf) hx hi
  simp only[Bool.and_eq_true] at this
  exact⟨zf_rel (h3 i hi).1 this.1 _ _,zf_rel (h3 i hi).2 this.2 _ _⟩
 |row _ _=>cases hx
 |lp _ _=>cases hx
theorem RCall.of_P {g:FuncId} {vs:List AV} {r:AV} (hp:PCall P g vs r) (h:Nat→Option AObj):RCall P g vs h r:=by
 refine⟨hp.1,fun ρ V Z w args hs hsz hrel=>(hp.2 ρ V Z w args hs.lt hs.gl hsz hrel).mono ?_⟩
 rintro e w' ⟨v,Z',rfl,hr,hext,hz1,hz2⟩
 have hh:∀ b,b<w.heap.size→w'.heap[b]? =w.heap[b]? :=fun b hb=>hext.old b hb (fun h=>h)
 refine⟨v,Z',rfl,hr,⟨fun b hb _=>hh b hb,hext.le,hext.os,hext.out,trivial⟩,fun id o ho=>?_,hz1,hz2⟩
 obtain⟨g1,g2⟩:=hs.obj id o ho
 exact g2.mono g1 (fun _ _=>rfl) (fun _ h=>h) hz1 (fun b o' hz=>cell?_of_heap (hh b (hs.lt b o' hz))) (fun b hb=>hh b (g2.lt b hb))
end Go.Am

namespace Go.Am
variable {P:Program} {E:En} {ρ:Nat→Ref} {V:Nat→Prop} {Z:Nat→Nat→Prop} {σ:St} {a:Act} {w:World}
theorem Ef.app_nx (e:Ef) (σ:St) (d:Option Nat) (id:Nat):(e.app σ d id).nx=σ.nx:=by
 cases e<;>simp[Ef.app,St.put_nx]
theorem evs_arr (h : Sat E ρ V Z σ a w) {args : Array Operand} {vs : List AV} (hv : args.toList.mapM (evA σ) = some vs) :
    (args.map a.eval).size=vs.length∧∀ i,i<vs.length→Rel ρ V Z w ((args.map a.eval).getD i undef) (vs.getD i default):=by
  obtain⟨g1,g2⟩:=evs_rel h hv
  refine⟨by simp[g1],fun i hi=>?_⟩
  have:=g2 i hi
  have e1:(args.map a.eval).getD i undef=(args.toList.map a.eval).getD i undef:=by
    simp[List.getD_eq_getElem?_getD,Array.getD_eq_getD_getElem?]
  rw[e1]
  exact this
theorem app_rel {x y : Array Value} {xs ys : List AV} (h1 : x.size = xs.length ∧ ∀ i, i < xs.length → Rel ρ V Z w (x.getD i undef) (xs.getD i default))
    (h2:y.size=ys.length∧∀ i,i<ys.length→Rel ρ V Z w (y.getD i undef) (ys.getD i default)):
    (x++y).size=(xs++ys).length∧∀ i,i<(xs++ys).length→Rel ρ V Z w ((x++y).getD i undef) ((xs++ys).getD i default):=by
  refine⟨by simp[h1.1,h2.1],fun i hi=>?_⟩
  by_cases hlt:i<xs.length
  · have e1 : (x ++ y).getD i undef = x.getD i undef := by
      simp only[Array.getD_eq_getD_getElem?];rw[Array.getElem?_append_left (by omega)]
    have e2:(xs++ys).getD i default=xs.getD i default:=by
      simp only[List.getD_eq_getElem?_getD];rw[List.getElem?_append_left hlt]
    rw[e1,e2];exact h1.2 i hlt
  · simp only[List.length_append] at hi
    have e1:(x++y).getD i undef=y.getD (i - xs.length) undef:=by
      simp only[Array.getD_eq_getD_getElem?];rw[Array.getElem?_append_right (by omega),h1.1]
    have e2:(xs++ys).getD i default=ys.getD (i - xs.length) default:=by
      simp only[List.getD_eq_getElem?_getD];rw[List.getElem?_append_right (by omega)]
    rw[e1,e2];exact h2.2 _ (by omega)
def Next' (E:En) (V:Nat→Prop) (σ:St) (k:Nat) (K:St→Prop) (next:Act→World→Prop):Prop:=
 ∀ σ' a' w' ρ' V' Z',K σ'→σ'.nx=σ.nx→Sat E ρ' V' Z' σ' a' w'→(∀ id,V' id→V id∨(σ.nx+1048576*k≤id∧id<σ.nx+1048576*k+1048576))→(∀ id,V id→V' id)→next a' w'
def Panic' (E:En) (σ:St) (Kp:AV→St→Prop) (Q:Exit→Act→World→Prop):Prop:=
 ∀ x v σ' ρ' V' Z' a' w',Kp x σ'→σ'.nx=σ.nx→Rel ρ' V' Z' w' v x→Sat E ρ' V' Z' σ' a' w'→Q (.panic [{ v,recovered:=false }]) a' w'
theorem wpIn_intro {o:Oper} {r:Option Nat} {a:Act} {w:World} {next:Act→World→Prop} {Q:Exit→Act→World→Prop} {res:Result Next} (hnd:∀ c,o.op≠ .defer c) (h:(execOp a.eval o).run P w=res) (h2:o.uponIn (rfn r) 0 P a next Q res):o.wpIn (rfn r) 0 P a w next Q:=
 ⟨fun _ _=>trivial,by rw[Oper.semAt_eq _ _ _ hnd,h];exact h2⟩
theorem eff_nd {op:Op} {r:Prop×Ef} (h:eff P σ op=some r):∀ c,op≠ .defer c:=by
 rintro c rfl
 unfold eff at h
 split at h
 ·simp[effA] at h
 ·cases h
theorem rcall_run (h : Sat E ρ V Z σ a w) {g : FuncId} {vs : List AV} {r : AV} {dst : Option Nat} {args : Array Value} (hd : ∀ n, dst = some n → n < E.nt) (hok : AV.snapOkL σ.hp vs) (hR : RCall P g (AV.snapL σ.hp vs) (lowH (vs.all AV.noRw) σ.nx σ.hp) r)
    (hfl:r.flatR=true∨vs.all AV.noRw=true) (hsz:args.size=vs.length) (hargs:∀ i,i<vs.length→Rel ρ V Z w (args.getD i undef) (vs.getD i default)):
    Calls P g args w fun e w'=>∃ v Z',e= .returned v∧Sat E ρ V Z' (σ.put dst r) (a.put dst v) w':=by
  generalize hq:vs.all AV.noRw=q at hR hfl
  have hs0:HSat ρ V Z w (lowH q σ.nx σ.hp):=⟨fun id o ho=>h.hs.obj id o (lowH_some ho).2.1,fun id id' o o' b ho ho'=>h.hs.inj id id' o o' b (lowH_some ho).2.1 (lowH_some ho').2.1,fun id o b ho=>h.hs.sep id o b (lowH_some ho).2.1,h.hs.lt,h.hs.gl⟩
  have hfin : ∀ {w' Z0 Z' v}, (q = true → Z0 = Z') → (∀ b o, Z b o → Z' b o) → (∀ b o, Z' b o → Z b o ∨ (w.heap.size ≤ b ∧ b < w'.heap.size)) → Ext w w' (fun b => ∃ id o, lowH q σ.nx σ.hp id = some o ∧ (ρ id).at b) → (∀ id o, lowH q σ.nx σ.hp id = some o → ObjRel ρ V Z0 w' id o) → Rel ρ V Z' w' v r →
      Sat E ρ V Z' (σ.put dst r) (a.put dst v) w':=by
    intro w' Z0 Z' v hqz hz1 hz2 hext hobj hr
    refine h.step0 (hp':=σ.hp) (fun b=>∃ id o,lowH q σ.nx σ.hp id=some o∧(ρ id).at b) hd (fun _ _=>rfl) (fun _ h=>h) hz1 (fun b ⟨id,o,g1,g2⟩=>⟨id,o,(lowH_some g1).2.1,g2⟩) (fun b hb hn=>hext.old b hb hn) hext.le hext.os hext.out ?_ ?_ (fun b o hz=>?_) hr
    · intro id o ho
      by_cases hb:∃ o',lowH q σ.nx σ.hp id=some o'
      · obtain⟨o',ho'⟩:=hb
        obtain⟨g1,g2,g3⟩:=lowH_some ho'
        rw[ho] at g2
        cases g2
        refine .inr ⟨(h.hs.obj id o ho).1,(by cases q with|true=>rw[← hqz rfl];exact hobj id o ho'|false=>exact zf_obj (hobj id o ho') (by simpa using g3) Z'),fun b hb=>⟨.inl ⟨id,o,ho',hb⟩,fun off hz=>?_⟩⟩
        rcases hz2 b off hz with h1|⟨h1,_⟩
        · exact h.hs.sep id o b ho hb off h1
        · have:=(h.hs.obj id o ho).2.lt b hb;omega
      · refine .inl ⟨ho,fun b hb1 ⟨id',o',g1,g2⟩=>hb ?_⟩
        have:=h.hs.inj id id' o o' b ho (lowH_some g1).2.1 hb1 g2
        subst this
        exact⟨o',g1⟩
    · intro id id' o o' b ho ho' hb hb' _;exact h.hs.inj id id' o o' b ho ho' hb hb'
    · rcases hz2 b o hz with h1|⟨h1,h2⟩
      · exact .inl h1
      · exact .inr ⟨.inr h1,h2⟩
  rcases Bool.eq_false_or_eq_true q with hqq|hqq
  rotate_left
  · have hfl:r.flatR=true:=by simpa [hqq] using hfl
    have hlt:∀ b o,ZR ρ Z σ b o→b<w.heap.size:=by
      intro b o' hz
      rcases hz with hz|⟨id,sz,l,h1,h2⟩
      · exact h.hs.lt b o' hz
      · exact(h.hs.obj id _ h1).2.lt b h2
    have hs1:HSat ρ V (ZR ρ Z σ) w (lowH q σ.nx σ.hp):=by
      refine⟨fun id o ho=>⟨(hs0.obj id o ho).1,zf_obj (hs0.obj id o ho).2 (by simpa [hqq] using (lowH_some ho).2.2) _⟩,hs0.inj,fun id o b ho hb off hz=>?_,hlt,h.hs.gl.mono (fun _ _ _=>rfl) (fun _ _ hz=> .inl hz)⟩
      rcases hz with hz|⟨id',sz,l,h1,h2⟩
      · exact hs0.sep id o b ho hb off hz
      · have:=h.hs.inj id id' _ _ b (lowH_some ho).2.1 h1 hb h2
        subst this
        have h3:=lowH_some ho
        rw[h1] at h3
        obtain⟨_,h4,h5⟩:=h3
        cases h4
        simp[hqq,AObj.zf] at h5
    refine(hR.2 ρ V (ZR ρ Z σ) w _ hs1 (by rw[snapL_len];exact hsz) (fun i hi=>?_)).mono ?_
    · rw[snapL_len] at hi
      rw[snapL_getD _ i hi]
      exact snap_rel h.hs (hargs i hi) (snapOkL_getD _ i hi hok)
    · rintro e w' ⟨v,Z',rfl,hr,hext,hobj,_,_⟩
      exact⟨v,Z,rfl,hfin (fun e=>by rw[hqq] at e;cases e) (fun _ _ h=>h) (fun _ _ h=> .inl h) hext hobj (flatR_rel hr hfl _ _ _ _)⟩
  · refine(hR.2 ρ V Z w _ hs0 (by rw[snapL_len];exact hsz) (fun i hi=>?_)).mono ?_
    · rw[snapL_len] at hi
      rw[snapL_getD _ i hi]
      have hfl:=hq.trans hqq
      rw[List.all_eq_true] at hfl
      refine snap_noRw h.hs (hargs i hi) (hfl _ ?_)
      have:vs.getD i default=vs[i]:=by simp[List.getD_eq_getElem?_getD,hi]
      rw[this];exact List.getElem_mem hi
    · rintro e w' ⟨v,Z',rfl,hr,hext,hobj,hz1,hz2⟩
      exact⟨v,Z',rfl,hfin (fun _=>rfl) hz1 hz2 hext hobj hr⟩
theorem goX_wp (h : Sat E ρ V Z σ a w) {bar : Bool} {k : Nat} {o : Oper} (hV : ∀ id, V id → ¬ (σ.nx + 1048576 * k ≤ id ∧ id < σ.nx + 1048576 * k + 1048576)) (hd : ∀ n, o.dst = some n → n < E.nt) {K : St → Prop} {Kp : AV → St → Prop}
    (hgo:goX P bar k o σ K Kp) {next:Act→World→Prop} {Q:Exit→Act→World→Prop} (hK:Next' E V σ k K next) (hP:Panic' E σ Kp Q):o.wpIn (rfn E.rd) 0 P a w next Q:=by
  obtain⟨dst,op,ty,pos,aft,g⟩:=o
  have htail:∀ {op} {e:Ef},(∀ c,op≠ .defer c)→OpOk P E ⟨dst,op,ty,pos,aft,g⟩ σ a w V Z (σ.nx+1048576*k) e→K (e.app σ dst (σ.nx+1048576*k))→(⟨dst,op,ty,pos,aft,g⟩:Oper).wpIn (rfn E.rd) 0 P a w next Q:=by
    intro op e hnd hok hk
    obtain⟨n,w',v,ρ',V',hrun,hn,hV1,hV2,hS⟩:=hok
    refine wpIn_intro hnd hrun ?_
    have hnext:=hK _ _ _ _ _ _ hk (Ef.app_nx _ _ _ _) hS (fun id hid=>(hV2 id hid).imp (fun x=>x) (fun x=>by omega)) hV1
    rcases hn with rfl|⟨rfl,rfl⟩
    · exact hnext
    · exact hnext
  have hdet:∀ {op},(match eff P σ op with|some (ob,e)=>ob∧K (e.app σ dst (σ.nx+1048576*k))|none=>False)→(⟨dst,op,ty,pos,aft,g⟩:Oper).wpIn (rfn E.rd) 0 P a w next Q:=by
    intro op hgo
    cases he:eff P σ op with
    |none=>simp[he] at hgo
    |some r=>
      obtain⟨ob,e⟩:=r
      simp only[he] at hgo
      obtain⟨n,w',v,ρ',V',hrun,hn,hV1,hV2,hS⟩:=eff_ok (id:=σ.nx+1048576*k) h ⟨dst,op,ty,pos,aft,g⟩ hd he hgo.1 (fun hc=>hV _ hc (by omega))
      refine wpIn_intro (eff_nd he) hrun ?_
      have hnext:=hK _ _ _ _ _ _ hgo.2 (Ef.app_nx _ _ _ _) hS (fun id hid=>(hV2 id hid).imp (fun x=>x) (fun x=>by omega)) hV1
      rcases hn with rfl|⟨rfl,rfl⟩
      · exact hnext
      · exact hnext
  cases op<;>first|exact hdet hgo|skip
  · -- slice
    rename_i t x lo hi m
    simp only[goX] at hgo
    cases hvs:(opnds (.slice t x lo hi m)).mapM (evA σ) with
    |none=>simp[hvs] at hgo
    |some vs=>
      simp only[hvs,Option.bind_some] at hgo
      have hA:(match effA P (.slice t x lo hi m) vs (vs.map fun v=>v.id?.bind σ.hp) with|some (ob,e)=>ob∧K (e.app σ dst (σ.nx+1048576*k))|none=>False)→(⟨dst,.slice t x lo hi m,ty,pos,aft,g⟩:Oper).wpIn (rfn E.rd) 0 P a w next Q:=by
        intro h'
        refine hdet ?_
        unfold eff
        rw[hvs]
        exact h'
      unfold effB at hgo
      split at hgo
      · rename_i ob e he
        split at he
        · exact htail (fun c hc=>by cases hc) (eff_cut h hd hvs he hgo.1 (fun hc=>hV _ hc (by omega))) hgo.2
        · exact hA (by rw[he];exact hgo)
      · exact hgo.elim
  · -- call
    rename_i c
    obtain⟨callee,args,ts⟩:=c
    cases callee with
    |invoke _ _=>exact hdet hgo
    |builtin b=>
      cases b<;>first|exact hdet hgo|skip
      simp only[goX] at hgo
      cases bar
      · simp at hgo
      · simp only[if_true] at hgo
        split at hgo
        · rename_i t y hvs
          obtain⟨g1,g2⟩:=evs_arr h hvs
          have hx:Rel ρ V Z w ((args.map a.eval).getD 0 undef) (.iface t y):=by simpa using g2 0 (by simp)
          obtain⟨u,hu,_⟩:=hx.iface_inv
          have hu0:(args.map a.eval).getD 0 .nilIface= .iface t u:=by
            have hs:0<(args.map a.eval).size:=by rw[g1];simp
            rw[← hu]
            simp only[Array.getD,hs,dif_pos]
          have hrun:(execOp a.eval ⟨dst,.call ⟨.builtin .panic,args,ts⟩,ty,pos,aft,g⟩).run P w= .halt (.panic (.iface t u)) w:=by
            show(do pure (Next.value (← Instr.panic ((args.map a.eval).getD 0 .nilIface))):Sem Next).run P w=_
            rw[hu0]
            simp[Instr.panic]
          refine wpIn_intro (fun c hc=>by cases hc) hrun ?_
          exact hP _ _ _ _ _ _ _ _ hgo rfl (hu▸hx) h
        · exact hgo.elim
    |value f=>
      simp only[goX] at hgo
      split at hgo
      · rename_i fn first cap vs hf hvs
        have hfr:=ev_rel h hf
        obtain⟨fs,cs,hfv,k1,k2,k3,k4⟩:=hfr.fn_inv
        have hargs:=app_rel (app_rel ⟨k1,k3⟩ (evs_arr h hvs)) ⟨k2,k4⟩
        have hrun:∀ (hg:isFn P fn=true),(execOp a.eval ⟨dst,.call ⟨.value f,args,ts⟩,ty,pos,aft,g⟩).run P w= .ok (.enter fn (fs++args.map a.eval++cs)) w:=by
          intro hg
          show(do let d ← Deferred.ofValue (a.eval f) (args.map a.eval);invoke d.target d.args:Sem Next).run P w=_
          rw[hfv]
          simp only[Deferred.ofValue,Sem.run_bind,Sem.run_pure,Result.andThen_ok,invoke]
          exact run_callFunc hg _
        cases bar
        · simp only[Bool.false_eq_true,if_false] at hgo
          obtain⟨hok,r,hR,hfl,hk⟩:=hgo
          refine wpIn_intro (fun c hc=>by cases hc) (hrun hR.1) ⟨(fun h=>by cases h),callsIn_rfn ?_⟩
          refine(rcall_run h hd hok hR hfl hargs.1 hargs.2).mono ?_
          rintro e w' ⟨v,Z',rfl,hS⟩
          exact hK _ _ _ _ _ _ hk (St.put_nx _ _ _) hS (fun id hid=> .inl hid) (fun _ h=>h)
        · simp only[if_true] at hgo
          obtain⟨hg,hc⟩:=hgo
          refine wpIn_intro (fun c hc=>by cases hc) (hrun hg) ⟨(fun h=>by cases h),callsIn_rfn ?_⟩
          refine(hc E ρ V Z a w _ h hV hd hargs.1 hargs.2).mono ?_
          rintro e w' ⟨ρ',V',Z',hv1,hv2,⟨v,σ',rfl,hnx,hk,hS⟩|⟨v,x,σ',rfl,hnx,hk,hr,hS⟩⟩
          · exact hK _ _ _ _ _ _ hk hnx hS hv1 hv2
          · exact hP _ _ _ _ _ _ _ _ hk hnx hr hS
      · rename_i l vs hf hvs
        cases bar
        · simp at hgo
        simp only[if_true] at hgo
        obtain⟨fs,cs,hfv,k1,k2,k3,k4⟩:=(ev_rel h hf).fn_inv
        have hargs:=evs_arr h hvs
        have hfs:fs= #[]:=Array.eq_empty_of_size_eq_zero k1
        subst hfs
        obtain⟨r,hr1,hr2,hr3⟩:=hgo E ρ V Z a w _ h hV hd hargs.1 hargs.2
        have hrun:(execOp a.eval ⟨dst,.call ⟨.value f,args,ts⟩,ty,pos,aft,g⟩).run P w= .ok (.round l r.fn ((r.params.zip (args.map a.eval)).foldl (fun t (p,v)=>t.setIfInBounds p v) r.tmps) r.assign r.body) w:=by
          show(do let d ← Deferred.ofValue (a.eval f) (args.map a.eval);invoke d.target d.args:Sem Next).run P w=_
          rw[hfv]
          simp only[Deferred.ofValue,Sem.run_bind,Sem.run_pure,Result.andThen_ok,invoke]
          have:=run_yield (P:=P) hr1 hr2
          simpa using this
        refine wpIn_intro (fun c hc=>by cases hc) hrun ⟨(fun h=>by cases h),roundIn_rfn (RoundIn.mono hr3 ?_)⟩
        rintro e w' ⟨ρ',V',Z',hv1,hv2,⟨v,σ',rfl,hnx,hk,hS⟩|⟨v,x,σ',rfl,hnx,hk,hr,hS⟩⟩
        · exact hK _ _ _ _ _ _ hk hnx hS hv1 hv2
        · exact hP _ _ _ _ _ _ _ _ hk hnx hr hS
      · exact hgo.elim
  · -- panic
    rename_i x
    simp only[goX] at hgo
    cases bar
    · simp at hgo
    · simp only[if_true] at hgo
      split at hgo
      · rename_i t y hx
        have hr:=ev_rel h hx
        obtain⟨u,hu,_⟩:=hr.iface_inv
        have hrun:(execOp a.eval ⟨dst,.panic x,ty,pos,aft,g⟩).run P w= .halt (.panic (.iface t u)) w:=by
          show(do pure (Next.value (← Instr.panic (a.eval x))):Sem Next).run P w=_
          rw[hu]
          simp[Instr.panic]
        refine wpIn_intro (fun c hc=>by cases hc) hrun ?_
        exact hP _ _ _ _ _ _ _ _ hgo rfl (hu▸hr) h
      · exact hgo.elim
end Go.Am

set_option linter.unnecessarySimpa false
namespace Go.Am
inductive Cls where|N|R|A|W|B
 deriving DecidableEq
def clsOf (bar:Bool):Op→Cls
 | .move _| .assign _| .pick _ _ _| .nilCheck _| .binOp _ _ _ _ _| .unOp _ _ _| .makeInterface _ _| .makeFunc _ _ _| .fieldAddr _ _ _| .field _ _ _| .extract _ _| .index _ _ _
 | .build _ _| .typeAssert _ _ _ _| .call ⟨.builtin .max,_,_⟩| .call ⟨.builtin .min,_,_⟩=> .N
 | .load _ _| .convert _ _ _| .indexAddr _ _ _| .lookup _ _ _ _| .call ⟨.builtin .len,_,_⟩=> .R
 | .box _ _| .alloc _| .buildSlice _ _ _| .makeSlice _ _ _| .makeMap _ _=> .A
 | .store _ _ _| .insert _ _ _ _| .mapUpdate _ _ _ _| .call ⟨.builtin .append,_,_⟩=> .W
 | .call ⟨.value _,_,_⟩=>if bar then .B else .R
 | .slice _ _ _ _ _=>if bar then .B else .N
 |_=> .B
def Cls.comm:Cls→Cls→Bool
 | .N,.B| .B,.N=>false
 | .N,_|_,.N=>true
 | .R,.R| .R,.A| .A,.R| .A,.A=>true
 |_,_=>false
def Ef.hp (e:Ef) (h:Nat→Option AObj) (id:Nat):Nat→Option AObj:=
 match e with
 | .val _=>h
 | .new o _=>updo h id (some o)
 | .set i o _=>updo h i (some o)
 | .swap old o _=>updo (updo h old none) id (some o)
def Ef.x (e:Ef) (id:Nat):AV:=
 match e with
 | .val x=>x
 | .new _ x=>x id
 | .set _ _ x=>x
 | .swap _ _ x=>x id
def putf (f:Nat→Option AV) (d:Option Nat) (x:AV):Nat→Option AV:=
 match d with
 |some n=>upd f n x
 |none=>f
theorem Ef.app_eq (e:Ef) (σ:St) (d:Option Nat) (id:Nat):e.app σ d id=⟨putf σ.fr d (e.x id),e.hp σ.hp id,σ.nx⟩:=by
 cases e<;>cases d<;>rfl
def CanX (P:Program) (op:Op) (σ:St) (e:Ef):Prop:=
 match op with
 | .call ⟨.value f,args,_⟩=>
  match evA σ f,args.toList.mapM (evA σ) with
  |some (.fn (.func g) first cap),some vs=>
   AV.snapOkL σ.hp (first++vs++cap)∧∃ r,RCall P g (AV.snapL σ.hp (first++vs++cap)) (lowH ((first++vs++cap).all AV.noRw) σ.nx σ.hp) r∧(r.flatR=true∨(first++vs++cap).all AV.noRw=true)∧e= .val r
  |_,_=>False
 |op=>∃ ob,eff P σ op=some (ob,e)∧ob
def Can (P:Program) (bs:Option (List Nat)) (ds:List (Option Nat)) (k:Nat) (o:Oper) (σ:St) (e:Ef):Prop:=
 match gdA ds o.guard σ.fr with
 |some true=>idsChk bs k o.op σ∧CanX P o.op σ e
 |some false=>e= .val (.tup [])
 |none=>False
theorem goX_can {P : Program} {bar : Bool} {k : Nat} {o : Oper} {σ : St} {K : St → Prop} {Kp : AV → St → Prop} (hc : clsOf bar o.op ≠ .B) :
    goX P bar k o σ K Kp↔∃ e,CanX P o.op σ e∧K (e.app σ o.dst (σ.nx+1048576*k)):=by
  obtain⟨dst,op,ty,pos,aft,g⟩:=o
  have hdet:∀ op,(match eff P σ op with|some (ob,e)=>ob∧K (e.app σ dst (σ.nx+1048576*k))|none=>False)↔∃ e,(∃ ob,eff P σ op=some (ob,e)∧ob)∧K (e.app σ dst (σ.nx+1048576*k)):=by
    intro op
    cases he:eff P σ op with
    |none=>simp
    |some r=>
      obtain⟨ob,e⟩:=r
      simp only[Option.some.injEq,Prod.mk.injEq]
      constructor
      · rintro⟨h1,h2⟩;exact⟨e,⟨ob,⟨rfl,rfl⟩,h1⟩,h2⟩
      · rintro⟨e',⟨ob',⟨rfl,rfl⟩,h1⟩,h2⟩;exact⟨h1,h2⟩
  cases op<;>first|exact hdet _|(exact absurd rfl hc)|skip
  case slice t x lo hi m=>
    cases bar with
    |true=>exact absurd rfl hc
    |false=>
      have e1:goX P false k ⟨dst,.slice t x lo hi m,ty,pos,aft,g⟩ σ K Kp=(match eff P σ (.slice t x lo hi m) with|some (ob,e)=>ob∧K (e.app σ dst (σ.nx+1048576*k))|none=>False):=by
        simp only[goX,eff]
        cases(opnds (.slice t x lo hi m)).mapM (evA σ)<;>rfl
      rw[e1]
      exact hdet _
  rename_i c
  obtain⟨callee,args,ts⟩:=c
  cases callee with
  |invoke _ _=>exact absurd rfl hc
  |builtin b=>cases b<;>first|exact hdet _|exact absurd rfl hc
  |value f=>
    cases bar with
    |true=>exact absurd rfl hc
    |false=>
      simp only[goX,Bool.false_eq_true,if_false,CanX]
      cases evA σ f with
      |none=>simp
      |some u=>
        cases args.toList.mapM (evA σ) with
        |none=>simp
        |some vs=>
          cases u<;>try(simp;done)
          rename_i fn first cap
          cases fn<;>try(simp;done)
          case yield l=>cases first<;>cases cap<;>simp
          simp only
          constructor
          · rintro⟨h1,r,h2,h3,h4⟩;exact⟨.val r,⟨h1,r,h2,h3,rfl⟩,h4⟩
          · rintro⟨e,⟨h1,r,h2,h3,rfl⟩,h4⟩;exact⟨h1,r,h2,h3,h4⟩
theorem goG_can {P : Program} {bar : Bool} {bs : Option (List Nat)} {ds : List (Option Nat)} {k : Nat} {o : Oper} {σ : St} {K : St → Prop} {Kp : AV → St → Prop} (hc : clsOf bar o.op ≠ .B) :
    goG P bar bs ds k o σ K Kp↔∃ e,Can P bs ds k o σ e∧K (e.app σ o.dst (σ.nx+1048576*k)):=by
  have hx:=goX_can (P:=P) (bar:=bar) (k:=k) (o:=o) (σ:=σ) (K:=K) (Kp:=Kp) hc
  unfold goG Can
  cases gdA ds o.guard σ.fr with
  |none=>simp
  |some b=>
    cases b with
    |true=>
      simp only
      rw[hx]
      constructor
      · rintro⟨h1,e,h2,h3⟩;exact⟨e,⟨h1,h2⟩,h3⟩
      · rintro⟨e,⟨h1,h2⟩,h3⟩;exact⟨h1,e,h2,h3⟩
    |false=>
      simp only
      constructor
      · intro h;exact⟨_,rfl,h⟩
      · rintro⟨e,rfl,h⟩;exact h
theorem evs_congr {σ σ':St} :∀ {l:List Operand},(∀ t,.tmp t∈l→σ'.fr t=σ.fr t)→l.mapM (evA σ')=l.mapM (evA σ)
 | [],_=>rfl
 |x::l,h=>by
  have h1:evA σ' x=evA σ x:=by
   cases x with
   |tmp t=>exact h t (by simp)
   |_=>rfl
  simp only[List.mapM_cons,h1,evs_congr (l:=l) (fun t ht=>h t (List.mem_cons_of_mem _ ht))]
theorem opnds_sub (op:Op):∀ x,x∈opnds op→x∈op.operands.toList:=by
 intro x hx
 cases op<;>simp only[opnds,Op.operands] at hx ⊢ <;>first|(simpa using hx)|(simp at hx;done)|skip
 ·rename_i t y lo hi mx
  cases mx with
  |none=>
   simp only[opnds] at hx
   cases lo<;>cases hi<;>simpa [Option.toArray,Option.toList] using hx
  |some m=>simp[opnds] at hx
 ·rename_i c
  obtain⟨callee,args,ts⟩:=c
  cases callee<;>simp_all[opnds,Call.operands]
theorem id_sub {v:AV} {id:Nat} (h:v.id? =some id):id∈v.idl:=by
 cases v<;>simp_all[AV.id?,AV.idl]
theorem effA_N {P:Program} {bar:Bool} {op:Op} (hc:clsOf bar op= .N) (vs:List AV) (os os':List (Option AObj)):effA P op vs os=effA P op vs os':=by
 cases op<;>first|rfl|(simp[clsOf] at hc;done)|skip
 case slice t x lo hi mx=>cases mx<;>rfl
 case call c=>
  obtain⟨callee,args,ts⟩:=c
  cases callee with
  |invoke _ _=>rfl
  |value f=>cases bar<;>simp[clsOf] at hc
  |builtin b=>cases b<;>first|rfl|(simp[clsOf] at hc)
theorem effA_val {P:Program} {bar:Bool} {op:Op} {vs:List AV} {os:List (Option AObj)} {ob:Prop} {e:Ef} (h:effA P op vs os=some (ob,e)) (hc:clsOf bar op= .N∨clsOf bar op= .R):∃ x,e= .val x:=by
  cases op<;>try(exfalso;rcases hc with hc|hc<;>cases hc;done)
  case call c=>
    obtain⟨callee,args,ts⟩:=c
    cases callee with
    |invoke _ _=>simp[clsOf] at hc
    |value f=>simp[effA] at h
    |builtin b=>
      cases b<;>try(simp[clsOf] at hc;done)
      all_goals
        simp only[effA] at h
        split at h
        · first
            |(cases h;exact⟨_,rfl⟩)
            | (simp only [Option.map_eq_some_iff, Prod.mk.injEq] at h
               obtain⟨y,_,_,rfl⟩:=h
               exact⟨_,rfl⟩)
        · cases h
  case slice t x lo hi mx=>
    cases mx with
    |some m=>simp only[effA] at h;cases h
    |none=>
      simp only[effA] at h
      repeat' split at h
      all_goals first
        |(cases h;done)
        |(cases h;exact⟨_,rfl⟩)
        | (simp only [Option.map_eq_some_iff, Prod.mk.injEq] at h
           obtain⟨y,_,_,rfl⟩:=h
           exact⟨_,rfl⟩)
  all_goals
    simp only[effA] at h
    repeat' split at h
    all_goals first
      |(cases h;done)
      |(cases h;exact⟨_,rfl⟩)
      | (simp only [Option.map_eq_some_iff, Prod.mk.injEq] at h
         obtain⟨y,_,_,rfl⟩:=h
         exact⟨_,rfl⟩)
theorem effA_new {P:Program} {bar:Bool} {op:Op} {vs:List AV} {os:List (Option AObj)} {ob:Prop} {e:Ef} (h:effA P op vs os=some (ob,e)) (hc:clsOf bar op= .A):∃ o x,e= .new o x:=by
  cases op<;>try(exfalso;cases hc;done)
  case call c=>
    obtain⟨callee,args,ts⟩:=c
    cases callee with
    |invoke _ _=>simp[clsOf] at hc
    |value f=>cases bar<;>simp[clsOf] at hc
    |builtin b=>cases b<;>simp[clsOf] at hc
  case slice t x lo hi m=>cases bar<;>cases hc
  case makeMap t r=>
    cases r with
    |some _=>simp only[effA] at h;cases h
    |none=>
      simp only[effA] at h
      split at h
      · cases h;exact⟨_,_,rfl⟩
      · cases h
  all_goals
    simp only[effA] at h
    repeat' split at h
    all_goals first
      |(cases h;done)
      |(cases h;exact⟨_,_,rfl⟩)
      | (simp only [Option.map_eq_some_iff, Prod.mk.injEq] at h
         obtain⟨y,_,_,rfl⟩:=h
         exact⟨_,_,rfl⟩)
end Go.Am

namespace Go.Am
variable {P:Program} {E:En} {ρ:Nat→Ref} {V:Nat→Prop} {Z:Nat→Nat→Prop} {σ:St} {a:Act} {w:World}
mutual
theorem snap_congr {h h':Nat→Option AObj} :∀ (v:AV),(∀ id,id∈v.idl→h' id=h id)→v.snap h'=v.snap h∧(v.snapOk h'↔v.snapOk h)
 | .rw id,hi=>by
  have:=hi id (by simp[AV.idl])
  simp only[AV.snap,AV.snapOk,this,true_and,iff_self]
 | .agg l,hi=>by
  have:=snapL_congr l (fun id hid=>hi id (by simpa [AV.idl] using hid))
  simp only[AV.snap,AV.snapOk,this.1,this.2,true_and,iff_self]
 | .tup l,hi=>by
  have:=snapL_congr l (fun id hid=>hi id (by simpa [AV.idl] using hid))
  simp only[AV.snap,AV.snapOk,this.1,this.2,true_and,iff_self]
 | .bool _,_=>⟨rfl,Iff.rfl⟩
 | .int _ _,_=>⟨rfl,Iff.rfl⟩
 | .str _,_=>⟨rfl,Iff.rfl⟩
 | .nilp,_=>⟨rfl,Iff.rfl⟩
 | .ptr _ _,_=>⟨rfl,Iff.rfl⟩
 | .eptr _ _,_=>⟨rfl,Iff.rfl⟩
 | .rptr _ _ _ _,_=>⟨rfl,Iff.rfl⟩
 | .nilsl,_=>⟨rfl,Iff.rfl⟩
 | .sl _,_=>⟨rfl,Iff.rfl⟩
 | .nilmap,_=>⟨rfl,Iff.rfl⟩
 | .mp _,_=>⟨rfl,Iff.rfl⟩
 | .nilfn,_=>⟨rfl,Iff.rfl⟩
 | .fn _ _ _,_=>⟨rfl,Iff.rfl⟩
 | .nilif,_=>⟨rfl,Iff.rfl⟩
 | .iface _ _,_=>⟨rfl,Iff.rfl⟩
theorem snapL_congr {h h':Nat→Option AObj} :∀ (l:List AV),(∀ id,id∈AV.idlL l→h' id=h id)→AV.snapL h' l=AV.snapL h l∧(AV.snapOkL h' l↔AV.snapOkL h l)
 | [],_=>⟨rfl,Iff.rfl⟩
 |a::l,hi=>by
  have h1:=snap_congr a (fun id hid=>hi id (by simp[AV.idlL,hid]))
  have h2:=snapL_congr l (fun id hid=>hi id (by simp[AV.idlL,hid]))
  simp only[AV.snapL,AV.snapOkL,h1.1,h1.2,h2.1,h2.2,true_and,iff_self]
end
theorem idlL_append (l r:List AV):AV.idlL (l++r)=AV.idlL l++AV.idlL r:=by
 induction l with
 |nil=>rfl
 |cons a l ih=>simp[AV.idlL,ih]
theorem idlL_mem {l:List AV} {id:Nat} (h:id∈AV.idlL l):∃ v,v∈l∧id∈v.idl:=by
 induction l with
 |nil=>cases h
 |cons a l ih=>
  simp only[AV.idlL,List.mem_append] at h
  rcases h with h|h
  ·exact⟨a,by simp,h⟩
  ·obtain⟨v,h1,h2⟩:=ih h;exact⟨v,by simp[h1],h2⟩
theorem mapM_mem {f:Operand→Option AV} :∀ {l:List Operand} {vs:List AV},l.mapM f=some vs→∀ v,v∈vs→∃ x,x∈l∧f x=some v
 | [],vs,h,v,hv=>by simp at h;subst h;cases hv
 |x::l,vs,h,v,hv=>by
  simp only[List.mapM_cons] at h
  cases h1:f x with
  |none=>simp[h1] at h
  |some y=>
   cases h2:l.mapM f with
   |none=>simp[h1,h2] at h
   |some ws=>
    simp[h1,h2] at h
    subst h
    rcases List.mem_cons.1 hv with rfl|hv
    ·exact⟨x,by simp,h1⟩
    ·obtain⟨x',g1,g2⟩:=mapM_mem h2 v hv;exact⟨x',by simp[g1],g2⟩
theorem mapM_mem' {f:Operand→Option AV} :∀ {l:List Operand} {vs:List AV},l.mapM f=some vs→∀ x,x∈l→∃ v,v∈vs∧f x=some v
 | [],vs,h,x,hx=>by cases hx
 |y::l,vs,h,x,hx=>by
  simp only[List.mapM_cons] at h
  cases h1:f y with
  |none=>simp[h1] at h
  |some v=>
   cases h2:l.mapM f with
   |none=>simp[h1,h2] at h
   |some ws=>
    simp[h1,h2] at h
    subst h
    rcases List.mem_cons.1 hx with rfl|hx
    ·exact⟨v,by simp,h1⟩
    ·obtain⟨v',g1,g2⟩:=mapM_mem' h2 x hx;exact⟨v',by simp[g1],g2⟩
def slotsOf (op:Op):List Nat:=op.operands.toList.filterMap fun| .tmp t=>some t|_=>none
theorem slots_mem {op:Op} {t:Nat} (h: .tmp t∈op.operands.toList):t∈slotsOf op:=List.mem_filterMap.2 ⟨_,h,rfl⟩
def isCl:Op→Bool
 | .call ⟨.value _,_,_⟩=>true
 |_=>false
theorem canX_congr {op : Op} {bar : Bool} {σ σ' : St} {e : Ef} (hc : clsOf bar op ≠ .B) (h : CanX P op σ e) (hfr : ∀ t, t ∈ slotsOf op → σ'.fr t = σ.fr t)
    (hhp:clsOf bar op= .N∨∀ x v id,x∈op.operands.toList→evA σ x=some v→id∈v.idl→σ'.hp id=σ.hp id) (hlow:isCl op=true→σ'.nx=σ.nx∧∀ id,id<σ.nx→σ'.hp id=σ.hp id):CanX P op σ' e:=by
  have hev:∀ {l:List Operand},(∀ x,x∈l→x∈op.operands.toList)→l.mapM (evA σ')=l.mapM (evA σ):=fun hl=>evs_congr fun t ht=>hfr t (slots_mem (hl _ ht))
  have hdet:(∃ ob,eff P σ op=some (ob,e)∧ob)→∃ ob,eff P σ' op=some (ob,e)∧ob:=by
    rintro⟨ob,h1,h2⟩
    refine⟨ob,?_,h2⟩
    rw[← h1]
    unfold eff
    rw[hev (opnds_sub op)]
    cases hvs:(opnds op).mapM (evA σ) with
    |none=>rfl
    |some vs=>
      simp only
      rcases hhp with hN|hhp
      · exact effA_N (bar:=bar) hN _ _ _
      · congr 1
        refine List.map_congr_left fun v hv=>?_
        obtain⟨x,g1,g2⟩:=mapM_mem hvs v hv
        cases hid:v.id? with
        |none=>rfl
        |some id=>exact hhp x v id (opnds_sub op x g1) g2 (id_sub hid)
  cases op<;>first|exact hdet h|(exact absurd rfl hc)|skip
  rename_i c
  obtain⟨callee,args,ts⟩:=c
  cases callee with
  |invoke _ _=>exact absurd rfl hc
  |builtin b=>cases b<;>first|exact hdet h|exact absurd rfl hc
  |value f=>
    rcases hhp with hN|hhp
    · cases bar<;>simp[clsOf] at hN
    · have hf : evA σ' f = evA σ f := by
        have:=hev (l:=[f]) (fun x hx=>by simp at hx;subst hx;simp[Op.operands,Call.operands])
        simp only[List.mapM_cons,List.mapM_nil] at this
        cases h1:evA σ' f<;>cases h2:evA σ f<;>simp_all
      have ha:args.toList.mapM (evA σ')=args.toList.mapM (evA σ):=hev (fun x hx=>by simp[Op.operands,Call.operands];exact .inr (by simpa using hx))
      simp only[CanX,hf,ha] at h ⊢
      cases h1:evA σ f with
      |none=>simp[h1] at h
      |some u=>
        cases h2:args.toList.mapM (evA σ) with
        |none=>simp[h1,h2] at h
        |some vs=>
          simp only[h1,h2] at h ⊢
          cases u<;>try(exact h.elim)
          rename_i fn first cap
          cases fn<;>try(exact h.elim)
          simp only at h ⊢
          have hids:∀ id,id∈AV.idlL (first++vs++cap)→σ'.hp id=σ.hp id:=by
            intro id hid
            simp only[idlL_append,List.mem_append] at hid
            have hfm:f∈(Op.call ⟨.value f,args,ts⟩).operands.toList:=by simp[Op.operands,Call.operands]
            rcases hid with (hid|hid)|hid
            · exact hhp f _ id hfm h1 (by simp[AV.idl,hid])
            · obtain⟨v,g1,g2⟩:=idlL_mem hid
              obtain⟨x,g3,g4⟩:=mapM_mem h2 v g1
              exact hhp x v id (by simp[Op.operands,Call.operands];exact .inr (by simpa using g3)) g4 g2
            · exact hhp f _ id hfm h1 (by simp[AV.idl,hid])
          obtain⟨g1,g2⟩:=snapL_congr _ hids
          obtain⟨g3,g4⟩:=hlow rfl
          rw[g1,g2,g3,lowH_congr g4]
          exact h
theorem canX_val {op:Op} {bar:Bool} {e:Ef} (h:CanX P op σ e) (hc:clsOf bar op= .N∨clsOf bar op= .R):∃ x,e= .val x:=by
 have hdet:(∃ ob,eff P σ op=some (ob,e)∧ob)→∃ x,e= .val x:=by
  rintro⟨ob,h1,h2⟩
  unfold eff at h1
  split at h1
  ·exact effA_val h1 hc
  ·cases h1
 cases op<;>first|exact hdet h|skip
 rename_i c
 obtain⟨callee,args,ts⟩:=c
 cases callee with
 |invoke _ _=>exact hdet h
 |builtin b=>exact hdet h
 |value f=>
  simp only[CanX] at h
  split at h
  ·obtain⟨_,r,_,_,rfl⟩:=h;exact⟨_,rfl⟩
  ·exact h.elim
theorem canX_new {op:Op} {bar:Bool} {e:Ef} (h:CanX P op σ e) (hc:clsOf bar op= .A):∃ o x,e= .new o x:=by
 have hdet:(∃ ob,eff P σ op=some (ob,e)∧ob)→∃ o x,e= .new o x:=by
  rintro⟨ob,h1,h2⟩
  unfold eff at h1
  split at h1
  ·exact effA_new h1 hc
  ·cases h1
 cases op<;>first|exact hdet h|skip
 rename_i c
 obtain⟨callee,args,ts⟩:=c
 cases callee with
 |invoke _ _=>exact hdet h
 |builtin b=>exact hdet h
 |value f=>cases bar<;>simp[clsOf] at hc
def looks (ds:List (Option Nat)) (o:Oper):List Nat:=
 slotsOf o.op++(match o.guard with|some (j,_)=>(match ds[j]? with|some (some s)=>[s]|_=>[])|none=>[])
theorem gdA_congr {ds:List (Option Nat)} {o:Oper} {fr fr':Nat→Option AV} (h:∀ t,t∈looks ds o→fr' t=fr t):gdA ds o.guard fr'=gdA ds o.guard fr:=by
 unfold gdA looks at*
 cases hg:o.guard with
 |none=>rfl
 |some p=>
  obtain⟨j,want⟩:=p
  simp only[hg] at h
  cases hd:ds[j]? with
  |none=>simp only[hd]
  |some d=>
   cases d with
   |none=>simp only[hd]
   |some s=>
    simp only[hd] at h
    have:=h s (by simp)
    simp only[hd,this]
def isLd:Op→Bool
 | .load _ _=>true
 |_=>false
def isLk:Op→Bool
 | .lookup _ _ _ _=>true
 |_=>false
def isSt:Op→Bool
 | .store _ _ _=>true
 |_=>false
def isApp:Op→Bool
 | .call ⟨.builtin .append,_,_⟩=>true
 |_=>false
theorem ld_nB {bar:Bool} {op:Op} (h:isLd op=true):clsOf bar op≠ .B:=by
 cases op<;>first|(cases h;done)|(intro h;cases h)
theorem lk_nB {bar:Bool} {op:Op} (h:isLk op=true):clsOf bar op≠ .B:=by
 cases op<;>first|(cases h;done)|(intro h;cases h)
def okPair (bar:Bool) (bl:List Nat) (ds:List (Option Nat)) (k:Nat) (x:Oper) (i:Nat) (y:Oper):Bool:=
 (bl.getD i 0).testBit k||
 ((match x.dst with|some d=>!(looks ds y).contains d&&y.dst !=some d|none=>true)&&(match y.dst with|some d=>!(looks ds x).contains d|none=>true)&&
  ((clsOf bar x.op).comm (clsOf bar y.op)||(isLd x.op&&isApp y.op&&(bl.getD k 0).testBit k)||(isLk x.op&&isApp y.op)||(isLd x.op&&isSt y.op&&(bl.getD k 0).testBit (bl.length+k)&&(bl.getD i 0).testBit (bl.length+i)))&&!(bl.getD k 0).testBit i)
theorem putf_ne {f:Nat→Option AV} {d:Option Nat} {x:AV} {t:Nat} (h:d≠some t):putf f d x t=f t:=by
 cases d with
 |none=>rfl
 |some n=>
  have:t≠n:=fun e=>h (by rw[e])
  simp[putf,upd,this]
theorem can_back {bar : Bool} {bl : List Nat} {ds : List (Option Nat)} {k i : Nat} {x y : Oper} {σ σ' : St} {e1 e : Ef} (hy : clsOf bar y.op ≠ .B) (hσ : σ'.fr = putf σ.fr x.dst (e1.x (σ.nx + 1048576 * k)) ∧ σ'.nx = σ.nx)
    (hx:∀ d,x.dst=some d→d∉looks ds y)
    (hh:clsOf bar y.op= .N∨σ'.hp=σ.hp∨((∀ id,id≠σ.nx+1048576*k→σ'.hp id=σ.hp id)∧(bl.getD i 0).testBit k=false)):
    (Can P (some bl) ds i y σ' e→Can P (some bl) ds i y σ e)∧(Can P (some bl) ds i y σ e→Can P (some bl) ds i y σ' e):=by
  have hfr:∀ t,t∈looks ds y→σ'.fr t=σ.fr t:=by
    intro t ht
    rw[hσ.1]
    exact putf_ne fun e=>hx t e ht
  have hfr2:∀ t,t∈slotsOf y.op→σ'.fr t=σ.fr t:=fun t ht=>hfr t (by simp[looks,ht])
  have hev:y.op.operands.toList.mapM (evA σ')=y.op.operands.toList.mapM (evA σ):=evs_congr fun t ht=>hfr2 t (slots_mem ht)
  have hids:idsChk (some bl) i y.op σ'↔idsChk (some bl) i y.op σ:=by
    simp only[idsChk,hev,hσ.2]
  have hid:idsChk (some bl) i y.op σ→clsOf bar y.op= .N∨∀ z v id,z∈y.op.operands.toList→evA σ z=some v→id∈v.idl→σ'.hp id=σ.hp id:=by
    intro hc
    rcases hh with h|h|⟨h1,h2⟩
    · exact .inl h
    · exact .inr fun z v id _ _ _=>by rw[h]
    · refine .inr fun z v id hz hv hi=>h1 id fun e=>?_
      simp only[idsChk] at hc
      split at hc
      · rename_i vs hvs
        obtain⟨v',g1,g2⟩:=mapM_mem' hvs z hz
        rw[hv] at g2
        cases g2
        simp only[idOk,List.all_eq_true] at hc
        have:=hc.1 v g1 id hi
        rw[e] at this
        simp only[Bool.or_eq_true,decide_eq_true_eq] at this
        rcases this with h|h
        · omega
        · rw[show(σ.nx+1048576*k - σ.nx) / 1048576=k by omega,h2] at h;cases h
      · exact hc
  have hlow:isCl y.op=true→∀ id,id<σ.nx→σ'.hp id=σ.hp id:=by
    intro hc id hid'
    rcases hh with h|h|⟨h1,_⟩
    · exfalso
      revert hc h hy
      cases y.op<;>intro hy hc h<;>first|(cases hc;done)|skip
      rename_i c
      obtain⟨callee,args,ts⟩:=c
      cases callee<;>first|(cases hc;done)|skip
      cases bar<;>simp[clsOf] at h
    · rw[h]
    · exact h1 id (by omega)
  have hev2:∀ z,z∈y.op.operands.toList→evA σ' z=evA σ z:=by
    intro z hz
    cases z with
    |tmp t=>exact hfr2 t (slots_mem hz)
    |_=>rfl
  unfold Can
  rw[gdA_congr hfr]
  cases gdA ds y.guard σ.fr with
  |none=>simp
  |some b=>
    cases b with
    |false=>simp
    |true=>
      simp only
      refine⟨fun⟨h1,h2⟩=>?_,fun⟨h1,h2⟩=>?_⟩
      · have h1':=hids.1 h1
        refine⟨h1',canX_congr hy h2 (fun t ht=>(hfr2 t ht).symm) ((hid h1').imp (fun x=>x) fun g z v id hz hv hi=>(g z v id hz (by rw[← hev2 z hz];exact hv) hi).symm) (fun hc=>⟨hσ.2.symm,fun id hid'=>(hlow hc id (by rw[hσ.2] at hid';exact hid')).symm⟩)⟩
      · exact⟨hids.2 h1,canX_congr hy h2 hfr2 (hid h1) (fun hc=>⟨hσ.2,hlow hc⟩)⟩
theorem can_kind {bar : Bool} {bs : Option (List Nat)} {ds : List (Option Nat)} {k : Nat} {o : Oper} {e : Ef} (h : Can P bs ds k o σ e) :
    ((clsOf bar o.op= .N∨clsOf bar o.op= .R)→∃ x,e= .val x)∧(clsOf bar o.op= .A→(∃ x,e= .val x)∨∃ ob x,e= .new ob x):=by
  unfold Can at h
  split at h
  · exact⟨fun hc=>canX_val h.2 hc,fun hc=> .inr (canX_new h.2 hc)⟩
  · exact⟨fun _=>⟨_,h⟩,fun _=> .inl ⟨_,h⟩⟩
  · exact h.elim
theorem app_eff {op:Op} (ha:isApp op=true) {e:Ef} (h:CanX P op σ e):(∃ o x,e= .new o x)∨∃ old o x sz l,e= .swap old o x∧σ.hp old=some (.row sz l):=by
 cases op<;>try(cases ha;done)
 rename_i c
 obtain⟨callee,args,ts⟩:=c
 cases callee with
 |invoke _ _=>cases ha
 |value _=>cases ha
 |builtin b=>
  cases b<;>try(cases ha;done)
  simp only[CanX] at h
  obtain⟨ob,h,_⟩:=h
  unfold eff at h
  split at h
  ·rename_i vs hvs
   simp only[effA] at h
   split at h
   ·rename_i s x t u _
    unfold appA at h
    repeat' split at h
    all_goals first
     |(cases h;done)
     |(cases h;exact .inl ⟨_,_,rfl⟩)
     |skip
    all_goals
     cases h
     rename List.getD _ 0 none=some (AObj.row _ _)=>hos
     exact .inr ⟨_,_,_,_,_,rfl,hos⟩
   ·cases h
  ·cases h
theorem ld_eff {op:Op} (hl:isLd op=true) {e:Ef} (h:CanX P op σ e):(∃ x,e= .val x)∧∃ z v,op.operands.toList=[z]∧evA σ z=some v∧∀ b id,b=true→rpOk b v→id∈v.idl→∃ l,σ.hp id=some (.cells l):=by
  cases op<;>try(cases hl;done)
  rename_i t z
  simp only[CanX] at h
  obtain⟨ob,h,_⟩:=h
  unfold eff at h
  have ho:opnds (.load t z)=[z]:=rfl
  rw[ho] at h
  cases hv:evA σ z with
  |none=>simp[hv] at h
  |some v=>
    simp[hv] at h
    simp only[effA] at h
    refine⟨?_,z,v,rfl,hv,?_⟩
    · repeat' split at h
      all_goals first
        |(cases h;done)
        | (simp only [Option.map_eq_some_iff, Prod.mk.injEq] at h
           obtain⟨y,_,_,rfl⟩:=h
           exact⟨_,rfl⟩)
    · intro b id hb hr hi
      subst hb
      repeat' split at h
      all_goals first
        |(cases h;done)
        |skip
      · rename [v]=[_]=>hvs
        simp only[List.cons.injEq,and_true] at hvs
        subst hvs
        rename [_]=[some _]=>hos
        simp only[AV.idl,List.mem_singleton] at hi
        subst hi
        exact⟨_,(List.cons.inj hos).1⟩
      · rename [v]=[_]=>hvs
        simp only[List.cons.injEq,and_true] at hvs
        subst hvs
        cases hi
      · rename [v]=[_]=>hvs
        simp only[List.cons.injEq,and_true] at hvs
        subst hvs
        cases hr
theorem lk_eff {op:Op} (hl:isLk op=true) {e:Ef} (h:CanX P op σ e):∀ z v id,z∈op.operands.toList→evA σ z=some v→id∈v.idl→∃ l,σ.hp id=some (.map l):=by
 cases op<;>try(cases hl;done)
 rename_i t x y ok
 simp only[CanX] at h
 obtain⟨ob,h,_⟩:=h
 unfold eff at h
 have ho:opnds (.lookup t x y ok)=[x,y]:=rfl
 rw[ho] at h
 cases hx:evA σ x with
 |none=>simp[hx] at h
 |some vx=>
  cases hy:evA σ y with
  |none=>simp[hx,hy] at h
  |some vy=>
   simp[hx,hy] at h
   simp only[effA] at h
   split at h
   ·rename_i hvs hos
    simp only[List.cons.injEq,and_true] at hvs hos
    obtain⟨rfl,rfl⟩:=hvs
    intro z v id hz hv hi
    have hz:z=x∨z=y:=by
     have e:(Op.lookup t x y ok).operands.toList=[x,y]:=rfl
     rw[e] at hz
     simpa using hz
    rcases hz with rfl|rfl
    ·rw[hx] at hv
     cases hv
     simp only[AV.idl,List.mem_singleton] at hi
     subst hi
     exact⟨_,hos.1⟩
    ·rw[hy] at hv
     cases hv
     cases hi
   ·rename_i hvs hos
    simp only[List.cons.injEq,and_true] at hvs hos
    obtain⟨rfl,rfl⟩:=hvs
    intro z v id hz hv hi
    have hz:z=x∨z=y:=by
     have e:(Op.lookup t x y ok).operands.toList=[x,y]:=rfl
     rw[e] at hz
     simpa using hz
    rcases hz with rfl|rfl
    ·rw[hx] at hv
     cases hv
     simp only[AV.idl,List.mem_singleton] at hi
     subst hi
     exact⟨_,hos.1⟩
    ·rw[hy] at hv
     cases hv
     cases hi
   ·cases h
theorem comm_la {bar : Bool} {bl : List Nat} {ds : List (Option Nat)} {k i : Nat} {x y : Oper} {K : St → Prop} {Kp : AV → St → Prop} (hki : k ≠ i) (hxl' : (isLd x.op = true ∧ (bl.getD k 0).testBit k = true) ∨ isLk x.op = true) (hya : isApp y.op = true)
    (hxl:∀ d,x.dst=some d→d∉looks ds y) (hxy:∀ d,x.dst=some d→y.dst≠some d) (hyl:∀ d,y.dst=some d→d∉looks ds x) (hnb:(bl.getD i 0).testBit k=false) (hnb2:(bl.getD k 0).testBit i=false)
    (h:goG P bar (some bl) ds k x σ (fun σ1=>goG P bar (some bl) ds i y σ1 K Kp) Kp):goG P bar (some bl) ds i y σ (fun σ1=>goG P bar (some bl) ds k x σ1 K Kp) Kp:=by
  have hxR:clsOf bar x.op= .R:=by
    rcases hxl' with ⟨h,_⟩|h
    · revert h;cases x.op<;>intro h<;>first|rfl|cases h
    · revert h;cases x.op<;>intro h<;>first|rfl|cases h
  have hxB:clsOf bar x.op≠ .B:=by rw[hxR];decide
  have hyB:clsOf bar y.op≠ .B:=by
    revert hya
    generalize y.op=op
    intro h
    cases op<;>try(cases h;done)
    rename_i c
    obtain⟨callee,args,ts⟩:=c
    cases callee with
    |invoke _ _=>cases h
    |value _=>cases h
    |builtin b=>cases b<;>first|(cases h;done)|simp[clsOf]
  rw[goG_can hxB] at h
  obtain⟨e1,c1,h⟩:=h
  rw[goG_can hyB] at h
  obtain⟨e2,c2,h⟩:=h
  rw[Ef.app_nx] at h
  rw[goG_can hyB]
  obtain⟨v1,rfl⟩:=(can_kind (bar:=bar) c1).1 (.inr hxR)
  have c2':=(can_back (P:=P) (σ':=(Ef.val v1).app σ x.dst (σ.nx+1048576*k)) hyB ⟨by rw[Ef.app_eq],Ef.app_nx _ _ _ _⟩ hxl (.inr (.inl (by rw[Ef.app_eq];rfl)))).1 c2
  refine⟨e2,c2',?_⟩
  rw[goG_can hxB]
  refine⟨.val v1,?_,?_⟩
  · -- the load gives the same behind the append
    have hfr:∀ t,t∈looks ds x→(e2.app σ y.dst (σ.nx+1048576*i)).fr t=σ.fr t:=by
      intro t ht
      rw[Ef.app_eq]
      exact putf_ne fun e=>hyl t e ht
    have hfr2:∀ t,t∈slotsOf x.op→(e2.app σ y.dst (σ.nx+1048576*i)).fr t=σ.fr t:=fun t ht=>hfr t (by simp[looks,ht])
    have hev:x.op.operands.toList.mapM (evA (e2.app σ y.dst (σ.nx+1048576*i)))=x.op.operands.toList.mapM (evA σ):=evs_congr fun t ht=>hfr2 t (slots_mem ht)
    unfold Can at c1 ⊢
    rw[gdA_congr hfr]
    cases hg:gdA ds x.guard σ.fr with
    |none=>rw[hg] at c1;exact c1
    |some b=>
      cases b with
      |false=>rw[hg] at c1;exact c1
      |true=>
        rw[hg] at c1
        simp only at c1 ⊢
        obtain⟨i1,x1⟩:=c1
        have hnr:∀ z v id,z∈x.op.operands.toList→evA σ z=some v→id∈v.idl→(∀ sz l,σ.hp id≠some (.row sz l))∧idOk σ.nx (bl.getD k 0) [v]=true:=by
          intro z' v' id hz' hv' hi
          have hok:idOk σ.nx (bl.getD k 0) [v']=true:=by
            simp only[idsChk] at i1
            split at i1
            · rename_i vs hvs
              obtain⟨v2,g1,g2⟩:=mapM_mem' hvs z' hz'
              rw[hv'] at g2
              cases g2
              have i2:=i1.1
              simp only[idOk,List.all_eq_true,List.all_cons,List.all_nil,Bool.and_true] at i2 ⊢
              exact i2 v' g1
            · exact i1.elim
          refine⟨?_,hok⟩
          rcases hxl' with ⟨hxl',hfl⟩|hxl'
          · obtain⟨_,z,v,hz,hv,hcell⟩:=ld_eff hxl' x1
            rw[hz,List.mem_singleton] at hz'
            subst hz'
            rw[hv] at hv'
            cases hv'
            have hrp:rpOk ((bl.getD k 0).testBit k) v':=by
              simp only[idsChk,hz] at i1
              rw[show [z'].mapM (evA σ)=some [v'] by simp[hv]] at i1
              have:=i1.2
              revert this hxl'
              cases x.op<;>intro hxl'<;>first|(cases hxl';done)|exact fun h=>h.1
            obtain⟨l,hl⟩:=hcell _ id hfl hrp hi
            intro sz l' h
            rw[hl] at h
            cases h
          · obtain⟨l,hl⟩:=lk_eff hxl' x1 z' v' id hz' hv' hi
            intro sz l' h
            rw[hl] at h
            cases h
        refine⟨by simp only[idsChk,hev,Ef.app_nx] at i1 ⊢;exact i1,canX_congr hxB x1 hfr2 (.inr ?_) (fun hc=>?_)⟩
        rotate_left
        · exfalso
          rcases hxl' with ⟨h,_⟩|h
          · revert h hc;cases x.op<;>intro h hc<;>first|(cases h;done)|cases hc
          · revert h hc;cases x.op<;>intro h hc<;>first|(cases h;done)|cases hc
        intro z' v' id hz' hv' hi
        obtain⟨hl,hrp⟩:=hnr z' v' id hz' hv' hi
        have hidn:id≠σ.nx+1048576*i:=by
          intro e
          have:=hrp
          simp only[idOk,List.all_cons,List.all_nil,Bool.and_true,List.all_eq_true] at this
          have:=this id hi
          rw[e] at this
          simp only[Bool.or_eq_true,decide_eq_true_eq] at this
          rcases this with h|h
          · omega
          · rw[show(σ.nx+1048576*i - σ.nx) / 1048576=i by omega,hnb2] at h;cases h
        rw[Ef.app_eq]
        simp only
        unfold Can at c2'
        split at c2'
        · rcases app_eff hya c2'.2 with ⟨o,f,rfl⟩|⟨old,o,f,sz,l',rfl,ho⟩
          · simp[Ef.hp,updo,hidn]
          · have:id≠old:=fun e=>hl _ _ (by rw[e,ho])
            simp[Ef.hp,updo,hidn,this]
        · subst c2';rfl
        · exact c2'.elim
  · rw[Ef.app_nx]
    have heq:(Ef.val v1).app (e2.app σ y.dst (σ.nx+1048576*i)) x.dst (σ.nx+1048576*k)=e2.app ((Ef.val v1).app σ x.dst (σ.nx+1048576*k)) y.dst (σ.nx+1048576*i):=by
      simp only[Ef.app_eq]
      have hf:putf (putf σ.fr y.dst (e2.x (σ.nx+1048576*i))) x.dst ((Ef.val v1).x (σ.nx+1048576*k))=putf (putf σ.fr x.dst ((Ef.val v1).x (σ.nx+1048576*k))) y.dst (e2.x (σ.nx+1048576*i)):=by
        cases hd:x.dst with
        |none=>rfl
        |some d=>
          cases hd2:y.dst with
          |none=>rfl
          |some d2=>exact upd_comm _ _ _ (fun e=>hxy d hd (by rw[hd2,e]))
      rw[hf]
      rfl
    rw[heq]
    exact h
theorem out_lt {op:Op} (hl:isLd op=true) {e:Ef} (h:CanX P op σ e) {z:Operand} {v:AV} {id:Nat} (hz:op.operands.toList=[z]) (hv:evA σ z=some v) (ho:outOk true v) (hi:id∈v.idl):id % 2=0:=by
 obtain⟨_,z',v',hz',hv',hcell⟩:=ld_eff hl h
 rw[hz] at hz'
 cases hz'
 rw[hv] at hv'
 cases hv'
 cases v with
 |ptr i o=>
  simp only[AV.idl,List.mem_singleton] at hi
  subst hi
  simpa [outOk,outB] using ho
 |rptr _ _ _ _=>cases ho
 |_=>
  exfalso
  revert h hz hl
  cases op<;>intro hl<;>first|(cases hl;done)|skip
  rename_i t x
  intro h hz
  simp only[CanX] at h
  obtain⟨ob,h,_⟩:=h
  unfold eff at h
  have e1:opnds (.load t x)=[x]:=rfl
  have e2:x=z:=by
   have:(Op.load t x).operands.toList=[x]:=rfl
   rw[this] at hz
   exact(List.cons.inj hz).1
  subst e2
  rw[e1] at h
  simp[hv] at h
  simp only[effA] at h
  repeat' split at h
  all_goals first|(cases h;done)|(simp_all[AV.idl];done)
theorem st_eff {op : Op} (ha : isSt op = true) {e : Ef} {bl : List Nat} {i : Nat} (h : CanX P op σ e)
    (hc:match op.operands.toList.mapM (evA σ) with|some vs=>idOk σ.nx (bl.getD i 0) vs=true∧ldOk bl.length (bl.getD i 0) i op vs|none=>False) (hm:(bl.getD i 0).testBit (bl.length+i)=true):∃ (o:AObj) (j:Nat) (f:AV),e= .set j o f∧j % 2=1:=by
  cases op<;>try(cases ha;done)
  rename_i t x y
  simp only[CanX] at h
  obtain⟨ob,h,_⟩:=h
  unfold eff at h
  have ho:opnds (.store t x y)=[x,y]:=rfl
  have ho2:(Op.store t x y).operands.toList=[x,y]:=rfl
  rw[ho] at h
  rw[ho2] at hc
  cases hx:evA σ x with
  |none=>simp[hx] at h
  |some vx=>
    cases hy:evA σ y with
    |none=>simp[hx,hy] at h
    |some vy=>
      simp[hx,hy] at h hc
      have hin:innOk true vx:=by
        have:=hc.2
        simp only[ldOk] at this
        rw[List.getD_eq_getElem?_getD] at hm
        rw[hm] at this
        exact this
      simp only[effA] at h
      split at h
      · split at h
        · rename_i hvs hos
          simp only[List.cons.injEq,and_true] at hvs
          obtain⟨rfl,rfl⟩:=hvs
          simp only[Option.map_eq_some_iff,Prod.mk.injEq] at h
          obtain⟨l',_,_,rfl⟩:=h
          exact⟨_,_,_,rfl,by simpa [innOk,innB] using hin⟩
        · rename_i hvs hos
          simp only[List.cons.injEq,and_true] at hvs
          obtain⟨rfl,rfl⟩:=hvs
          cases hin
        · cases h
      · cases h
theorem comm_ls {bar : Bool} {bl : List Nat} {ds : List (Option Nat)} {k i : Nat} {x y : Oper} {K : St → Prop} {Kp : AV → St → Prop} (hki : k ≠ i) (hxl' : isLd x.op = true) (hmk : (bl.getD k 0).testBit (bl.length + k) = true) (hya : isSt y.op = true) (hmi : (bl.getD i 0).testBit (bl.length + i) = true)
    (hxl:∀ d,x.dst=some d→d∉looks ds y) (hxy:∀ d,x.dst=some d→y.dst≠some d) (hyl:∀ d,y.dst=some d→d∉looks ds x) (hnb:(bl.getD i 0).testBit k=false) (hnb2:(bl.getD k 0).testBit i=false)
    (h:goG P bar (some bl) ds k x σ (fun σ1=>goG P bar (some bl) ds i y σ1 K Kp) Kp):goG P bar (some bl) ds i y σ (fun σ1=>goG P bar (some bl) ds k x σ1 K Kp) Kp:=by
  have hxR:clsOf bar x.op= .R:=by
    revert hxl';cases x.op<;>intro h<;>first|rfl|cases h
  have hxB:clsOf bar x.op≠ .B:=by rw[hxR];decide
  have hyB:clsOf bar y.op≠ .B:=by
    revert hya
    generalize y.op=op
    intro h
    cases op<;>first|(cases h;done)|simp[clsOf]
  rw[goG_can hxB] at h
  obtain⟨e1,c1,h⟩:=h
  rw[goG_can hyB] at h
  obtain⟨e2,c2,h⟩:=h
  rw[Ef.app_nx] at h
  rw[goG_can hyB]
  obtain⟨v1,rfl⟩:=(can_kind (bar:=bar) c1).1 (.inr hxR)
  have c2':=(can_back (P:=P) (σ':=(Ef.val v1).app σ x.dst (σ.nx+1048576*k)) hyB ⟨by rw[Ef.app_eq],Ef.app_nx _ _ _ _⟩ hxl (.inr (.inl (by rw[Ef.app_eq];rfl)))).1 c2
  refine⟨e2,c2',?_⟩
  rw[goG_can hxB]
  refine⟨.val v1,?_,?_⟩
  · -- the load gives the same behind the append
    have hfr:∀ t,t∈looks ds x→(e2.app σ y.dst (σ.nx+1048576*i)).fr t=σ.fr t:=by
      intro t ht
      rw[Ef.app_eq]
      exact putf_ne fun e=>hyl t e ht
    have hfr2:∀ t,t∈slotsOf x.op→(e2.app σ y.dst (σ.nx+1048576*i)).fr t=σ.fr t:=fun t ht=>hfr t (by simp[looks,ht])
    have hev:x.op.operands.toList.mapM (evA (e2.app σ y.dst (σ.nx+1048576*i)))=x.op.operands.toList.mapM (evA σ):=evs_congr fun t ht=>hfr2 t (slots_mem ht)
    unfold Can at c1 ⊢
    rw[gdA_congr hfr]
    cases hg:gdA ds x.guard σ.fr with
    |none=>rw[hg] at c1;exact c1
    |some b=>
      cases b with
      |false=>rw[hg] at c1;exact c1
      |true=>
        rw[hg] at c1
        simp only at c1 ⊢
        obtain⟨i1,x1⟩:=c1
        have hnr:∀ z v id,z∈x.op.operands.toList→evA σ z=some v→id∈v.idl→id % 2=0:=by
          intro z' v' id hz' hv' hi
          obtain⟨_,z,v,hz,hv,_⟩:=ld_eff hxl' x1
          rw[hz,List.mem_singleton] at hz'
          subst hz'
          rw[hv] at hv'
          cases hv'
          have hrp:outOk ((bl.getD k 0).testBit (bl.length+k)) v':=by
            simp only[idsChk,hz] at i1
            rw[show [z'].mapM (evA σ)=some [v'] by simp[hv]] at i1
            have:=i1.2
            revert this hxl'
            cases x.op<;>intro hxl'<;>first|(cases hxl';done)|exact fun h=>h.2
          rw[hmk] at hrp
          exact out_lt hxl' x1 hz hv hrp hi
        refine⟨by simp only[idsChk,hev,Ef.app_nx] at i1 ⊢;exact i1,canX_congr hxB x1 hfr2 (.inr ?_) (fun hc=>?_)⟩
        rotate_left
        · exfalso
          revert hxl' hc;cases x.op<;>intro h hc<;>first|(cases h;done)|cases hc
        intro z' v' id hz' hv' hi
        have hl:=hnr z' v' id hz' hv' hi
        rw[Ef.app_eq]
        simp only
        unfold Can at c2'
        split at c2'
        · obtain⟨o,j,f,rfl,hj⟩:=st_eff hya c2'.2 (by have:=c2'.1;rw[idsChk] at this;exact this) hmi
          simp only[Ef.hp,updo]
          rw[if_neg (by omega)]
        · subst c2';rfl
        · exact c2'.elim
  · rw[Ef.app_nx]
    have heq:(Ef.val v1).app (e2.app σ y.dst (σ.nx+1048576*i)) x.dst (σ.nx+1048576*k)=e2.app ((Ef.val v1).app σ x.dst (σ.nx+1048576*k)) y.dst (σ.nx+1048576*i):=by
      simp only[Ef.app_eq]
      have hf:putf (putf σ.fr y.dst (e2.x (σ.nx+1048576*i))) x.dst ((Ef.val v1).x (σ.nx+1048576*k))=putf (putf σ.fr x.dst ((Ef.val v1).x (σ.nx+1048576*k))) y.dst (e2.x (σ.nx+1048576*i)):=by
        cases hd:x.dst with
        |none=>rfl
        |some d=>
          cases hd2:y.dst with
          |none=>rfl
          |some d2=>exact upd_comm _ _ _ (fun e=>hxy d hd (by rw[hd2,e]))
      rw[hf]
      rfl
    rw[heq]
    exact h
theorem comm_step {bar : Bool} {bl : List Nat} {ds : List (Option Nat)} {k i : Nat} {x y : Oper} {K : St → Prop} {Kp : AV → St → Prop} (hki : k ≠ i) (hok : okPair bar bl ds k x i y = true) (hnb : (bl.getD i 0).testBit k = false)
    (h:goG P bar (some bl) ds k x σ (fun σ1=>goG P bar (some bl) ds i y σ1 K Kp) Kp):goG P bar (some bl) ds i y σ (fun σ1=>goG P bar (some bl) ds k x σ1 K Kp) Kp:=by
  unfold okPair at hok
  rw[hnb] at hok
  simp only[Bool.false_or,Bool.and_eq_true,Bool.not_eq_true'] at hok
  obtain⟨⟨⟨hx1,hy1⟩,hcm⟩,hnb2⟩:=hok
  have hcm:(clsOf bar x.op).comm (clsOf bar y.op)=true∨((isLd x.op&&isApp y.op&&(bl.getD k 0).testBit k)=true∨(isLk x.op&&isApp y.op)=true)∨(isLd x.op&&isSt y.op&&(bl.getD k 0).testBit (bl.length+k)&&(bl.getD i 0).testBit (bl.length+i))=true:=by
    rcases Bool.or_eq_true_iff.1 hcm with hcm|hcm
    · rcases Bool.or_eq_true_iff.1 hcm with hcm|hcm
      · rcases Bool.or_eq_true_iff.1 hcm with hcm|hcm
        · exact .inl hcm
        · exact .inr (.inl (.inl hcm))
      · exact .inr (.inl (.inr hcm))
    · exact .inr (.inr hcm)
  have hx1l:∀ d,x.dst=some d→d∉looks ds y:=by
    intro d hd
    rw[hd] at hx1
    simp only[Bool.and_eq_true,Bool.not_eq_true'] at hx1
    simpa using hx1.1
  have hx1y:∀ d,x.dst=some d→y.dst≠some d:=by
    intro d hd
    rw[hd] at hx1
    simp only[Bool.and_eq_true,bne_iff_ne,ne_eq] at hx1
    exact hx1.2
  have hy1l:∀ d,y.dst=some d→d∉looks ds x:=by
    intro d hd
    rw[hd] at hy1
    simpa using hy1
  rcases hcm with hcm|hcm|hcm
  case inr.inr=>
    simp only[Bool.and_eq_true] at hcm
    exact comm_ls hki hcm.1.1.1 hcm.1.2 hcm.1.1.2 hcm.2 hx1l hx1y hy1l hnb hnb2 h
  case inr.inl=>
    have hcm2:((isLd x.op=true∧(bl.getD k 0).testBit k=true)∨isLk x.op=true)∧isApp y.op=true:=by
      rcases hcm with hcm|hcm
      · simp only[Bool.and_eq_true] at hcm
        exact⟨.inl ⟨hcm.1.1,hcm.2⟩,hcm.1.2⟩
      · simp only[Bool.and_eq_true] at hcm
        exact⟨.inr hcm.1,hcm.2⟩
    refine comm_la hki hcm2.1 hcm2.2 ?_ ?_ ?_ hnb hnb2 h
    · intro d hd
      rw[hd] at hx1
      simp only[Bool.and_eq_true,Bool.not_eq_true'] at hx1
      simpa using hx1.1
    · intro d hd
      rw[hd] at hx1
      simp only[Bool.and_eq_true,bne_iff_ne,ne_eq] at hx1
      exact hx1.2
    · intro d hd
      rw[hd] at hy1
      simpa using hy1
  have hxB:clsOf bar x.op≠ .B:=fun e=>by rw[e] at hcm;cases h:clsOf bar y.op<;>rw[h] at hcm<;>cases hcm
  have hyB:clsOf bar y.op≠ .B:=fun e=>by rw[e] at hcm;cases h:clsOf bar x.op<;>rw[h] at hcm<;>cases hcm
  have hxl:∀ d,x.dst=some d→d∉looks ds y:=by
    intro d hd
    rw[hd] at hx1
    simp only[Bool.and_eq_true,Bool.not_eq_true'] at hx1
    simpa using hx1.1
  have hxy:∀ d,x.dst=some d→y.dst≠some d:=by
    intro d hd
    rw[hd] at hx1
    simp only[Bool.and_eq_true,bne_iff_ne,ne_eq] at hx1
    exact hx1.2
  have hyl:∀ d,y.dst=some d→d∉looks ds x:=by
    intro d hd
    rw[hd] at hy1
    simpa using hy1
  rw[goG_can hxB] at h
  obtain⟨e1,c1,h⟩:=h
  rw[goG_can hyB] at h
  obtain⟨e2,c2,h⟩:=h
  rw[Ef.app_nx] at h
  rw[goG_can hyB]
  have k1:=can_kind (bar:=bar) c1
  have k2:=can_kind (bar:=bar) c2
  have hh1:clsOf bar y.op= .N∨(e1.app σ x.dst (σ.nx+1048576*k)).hp=σ.hp∨((∀ id,id≠σ.nx+1048576*k→(e1.app σ x.dst (σ.nx+1048576*k)).hp id=σ.hp id)∧(bl.getD i 0).testBit k=false):=by
    rw[Ef.app_eq]
    cases hcx:clsOf bar x.op with
    |N=>obtain⟨v,rfl⟩:=k1.1 (.inl hcx);exact .inr (.inl rfl)
    |R=>obtain⟨v,rfl⟩:=k1.1 (.inr hcx);exact .inr (.inl rfl)
    |A=>
      rcases k1.2 hcx with ⟨v,rfl⟩|⟨ob,v,rfl⟩
      · exact .inr (.inl rfl)
      · exact .inr (.inr ⟨fun id hid=>by simp[Ef.hp,updo,hid],hnb⟩)
    |W=>rw[hcx] at hcm;cases hcy:clsOf bar y.op<;>rw[hcy] at hcm<;>first|exact .inl rfl|cases hcm
    |B=>exact absurd hcx hxB
  have c2':=(can_back (P:=P) (σ':=e1.app σ x.dst (σ.nx+1048576*k)) hyB ⟨by rw[Ef.app_eq],Ef.app_nx _ _ _ _⟩ hxl hh1).1 c2
  have hh2:clsOf bar x.op= .N∨(e2.app σ y.dst (σ.nx+1048576*i)).hp=σ.hp∨((∀ id,id≠σ.nx+1048576*i→(e2.app σ y.dst (σ.nx+1048576*i)).hp id=σ.hp id)∧(bl.getD k 0).testBit i=false):=by
    rw[Ef.app_eq]
    cases hcy:clsOf bar y.op with
    |N=>obtain⟨v,rfl⟩:=k2.1 (.inl hcy);exact .inr (.inl rfl)
    |R=>obtain⟨v,rfl⟩:=k2.1 (.inr hcy);exact .inr (.inl rfl)
    |A=>
      rcases k2.2 hcy with ⟨v,rfl⟩|⟨ob,v,rfl⟩
      · exact .inr (.inl rfl)
      · exact .inr (.inr ⟨fun id hid=>by simp[Ef.hp,updo,hid],hnb2⟩)
    |W=>rw[hcy] at hcm;cases hcx:clsOf bar x.op<;>rw[hcx] at hcm<;>first|exact .inl rfl|cases hcm
    |B=>exact absurd hcy hyB
  have c1':=(can_back (P:=P) (σ':=e2.app σ y.dst (σ.nx+1048576*i)) hxB ⟨by rw[Ef.app_eq],Ef.app_nx _ _ _ _⟩ hyl hh2).2 c1
  refine⟨e2,c2',?_⟩
  rw[goG_can hxB]
  refine⟨e1,c1',?_⟩
  rw[Ef.app_nx]
  have heq:e1.app (e2.app σ y.dst (σ.nx+1048576*i)) x.dst (σ.nx+1048576*k)=e2.app (e1.app σ x.dst (σ.nx+1048576*k)) y.dst (σ.nx+1048576*i):=by
    simp only[Ef.app_eq]
    have hf:putf (putf σ.fr y.dst (e2.x (σ.nx+1048576*i))) x.dst (e1.x (σ.nx+1048576*k))=putf (putf σ.fr x.dst (e1.x (σ.nx+1048576*k))) y.dst (e2.x (σ.nx+1048576*i)):=by
      cases hd:x.dst with
      |none=>rfl
      |some d=>
        cases hd2:y.dst with
        |none=>rfl
        |some d2=>
          refine upd_comm _ _ _ (fun e=>hxy d hd (by rw[hd2,e]))
    rw[hf]
    congr 1
    have hids:σ.nx+1048576*k≠σ.nx+1048576*i:=by omega
    have valL:∀ v,e1= .val v→e1.hp (e2.hp σ.hp (σ.nx+1048576*i)) (σ.nx+1048576*k)=e2.hp (e1.hp σ.hp (σ.nx+1048576*k)) (σ.nx+1048576*i):=by rintro v rfl;rfl
    have valR:∀ v,e2= .val v→e1.hp (e2.hp σ.hp (σ.nx+1048576*i)) (σ.nx+1048576*k)=e2.hp (e1.hp σ.hp (σ.nx+1048576*k)) (σ.nx+1048576*i):=by rintro v rfl;rfl
    cases hcx:clsOf bar x.op with
    |N=>obtain⟨v,hv⟩:=k1.1 (.inl hcx);exact valL v hv
    |R=>obtain⟨v,hv⟩:=k1.1 (.inr hcx);exact valL v hv
    |A=>
      rcases k1.2 hcx with ⟨v,hv⟩|⟨ob,v,rfl⟩
      · exact valL v hv
      · cases hcy:clsOf bar y.op with
        |N=>obtain⟨v,hv⟩:=k2.1 (.inl hcy);exact valR v hv
        |R=>obtain⟨v,hv⟩:=k2.1 (.inr hcy);exact valR v hv
        |A=>
          rcases k2.2 hcy with ⟨v,hv⟩|⟨ob2,v2,rfl⟩
          · exact valR v hv
          · funext id
            simp only[Ef.hp,updo]
            by_cases h1:id=σ.nx+1048576*k
            · subst h1;rw[if_pos rfl,if_neg hids,if_pos rfl]
            · by_cases h2:id=σ.nx+1048576*i
              · subst h2;rw[if_neg h1,if_pos rfl,if_pos rfl]
              · simp[h1,h2]
        |W=>rw[hcx,hcy] at hcm;cases hcm
        |B=>exact absurd hcy hyB
    |W=>
      cases hcy:clsOf bar y.op with
      |N=>obtain⟨v,hv⟩:=k2.1 (.inl hcy);exact valR v hv
      |_=>rw[hcx,hcy] at hcm;cases hcm
    |B=>exact absurd hcx hxB
  rw[heq]
  exact h
end Go.Am

namespace Go.Am
variable {P:Program} {E:En} {ρ:Nat→Ref} {V:Nat→Prop} {Z:Nat→Nat→Prop} {σ:St} {a:Act} {w:World}
theorem yielded_of (h : Sat E ρ V Z σ a w) {ops : Array Oper} {j s : Nat} (hj : (ops.toList.map (·.dst))[j]? = some (some s)) :
    (∀ b,σ.fr s=some (.bool b)→yielded ops a.tmps j=some b)∧(σ.fr s=some (.tup [])→yielded ops a.tmps j=none):=by
  have h1:(ops[j]?).bind (·.dst)=some s:=by
    rw[List.getElem?_map] at hj
    rw[← Array.getElem?_toList]
    cases hx:ops.toList[j]? with
    |none=>simp[hx] at hj
    |some o=>simp[hx] at hj ⊢;exact hj
  have h2:∀ x,σ.fr s=some x→Rel ρ V Z w (a.tmps.getD s undef) x:=fun x hx=>h.fr s x hx
  constructor
  · intro b hb
    have:=(h2 _ hb).bool_inv
    unfold yielded
    rw[h1]
    simp only[Option.bind_some]
    have h3:a.tmps[s]? =some (.bool b):=by
      by_cases hs:s<a.tmps.size
      · simp[Array.getD,hs] at this;simp[hs,this]
      · simp[Array.getD,hs,undef] at this
    rw[h3]
  · intro hb
    obtain⟨cs,e,hc,_⟩:=(h2 _ hb).tup_inv
    unfold yielded
    rw[h1]
    simp only[Option.bind_some]
    by_cases hs:s<a.tmps.size
    · simp[Array.getD,hs] at e;simp[hs,e]
    · rw[Array.getElem?_eq_none (by omega)]
theorem wanted_of (h:Sat E ρ V Z σ a w) {ops:Array Oper} {o:Oper} {b:Bool} (hg:gdA (ops.toList.map (·.dst)) o.guard σ.fr=some b):Region.wanted o (yielded ops a.tmps)=b:=by
 unfold gdA at hg
 unfold Region.wanted
 cases hgd:o.guard with
 |none=>rw[hgd] at hg;simpa using hg
 |some p=>
  obtain⟨j,want⟩:=p
  simp only[hgd] at hg ⊢
  cases hdj:(ops.toList.map (·.dst))[j]? with
  |none=>simp[hdj] at hg
  |some d=>
   cases d with
   |none=>simp[hdj] at hg
   |some s=>
    simp only[hdj] at hg
    obtain⟨y1,y2⟩:=yielded_of h hdj
    cases hs:σ.fr s with
    |none=>simp[hs] at hg
    |some x=>
     simp only[hs] at hg
     cases x<;>try(simp at hg;done)
     ·rename_i c
      rw[y1 c hs]
      simpa using hg
     ·rename_i l
      cases l with
      |cons _ _=>simp at hg
      |nil=>
       rw[y2 hs]
       simpa using hg
theorem goG_wp (h : Sat E ρ V Z σ a w) {bar : Bool} {bs : Option (List Nat)} {ops : Array Oper} {k : Nat} {o : Oper} (ho : ops[k]? = some o) (hV : ∀ id, V id → ¬ (σ.nx + 1048576 * k ≤ id ∧ id < σ.nx + 1048576 * k + 1048576)) (hd : ∀ n, o.dst = some n → n < E.nt) {K : St → Prop} {Kp : AV → St → Prop}
    (hgo:goG P bar bs (ops.toList.map (·.dst)) k o σ K Kp) {next:Act→World→Prop} {Q:Exit→Act→World→Prop} (hK:Next' E V σ k K next) (hP:Panic' E σ Kp Q):wpOpIn (rfn E.rd) 0 P ops Q k next a w:=by
  unfold wpOpIn
  rw[ho]
  simp only
  unfold goG at hgo
  cases hg:gdA (ops.toList.map (·.dst)) o.guard σ.fr with
  |none=>simp[hg] at hgo
  |some b=>
    have hw:=wanted_of h hg
    cases b with
    |true=>
      rw[hg] at hgo
      rw[if_pos hw]
      exact goX_wp h hV hd hgo.2 hK hP
    |false=>
      rw[hg] at hgo
      rw[if_neg (by rw[hw];simp)]
      exact⟨fun _ _=>trivial,hK _ _ _ _ _ _ hgo (St.put_nx _ _ _) (h.val hd rfl rfl rfl (.tup #[] [] rfl (fun i hi=>absurd hi (Nat.not_lt_zero _)))) (fun id hid=> .inl hid) (fun _ h=>h)⟩
theorem goG_mono {bar:Bool} {bs:Option (List Nat)} {ds:List (Option Nat)} {k:Nat} {o:Oper} {K K':St→Prop} {Kp:AV→St→Prop} (hB:clsOf bar o.op≠ .B) (hK:∀ σ,K σ→K' σ) (h:goG P bar bs ds k o σ K Kp):goG P bar bs ds k o σ K' Kp:=by
 rw[goG_can hB] at h ⊢
 obtain⟨e,h1,h2⟩:=h
 exact⟨e,h1,hK _ h2⟩
theorem goR_front {bar : Bool} {bl : List Nat} {ds : List (Option Nat)} {i : Nat} {y : Oper} {K : St → Prop} {Kp : AV → St → Prop} : ∀ (r1 r2 : List (Oper × Nat)) (σ : St),
    (∀ x k,(x,k)∈r1→k≠i∧okPair bar bl ds k x i y=true∧(bl.getD i 0).testBit k=false)→
    goR P bar (some bl) ds (r1++(y,i)::r2) σ K Kp→goR P bar (some bl) ds ((y,i)::(r1++r2)) σ K Kp
  | [],r2,σ,_,h=>h
  |(x,k)::r1,r2,σ,hok,h=>by
    obtain⟨h1,h2,h3⟩:=hok x k (by simp)
    have hxB:clsOf bar x.op≠ .B:=by
      intro e
      unfold okPair at h2
      rw[h3] at h2
      simp only[Bool.false_or,Bool.and_eq_true] at h2
      have:=h2.1.2
      simp only[Bool.or_eq_true] at this
      rcases this with ((this|this)|this)|this
      · rw[e] at this
        cases h:clsOf bar y.op<;>rw[h] at this<;>cases this
      · simp only[Bool.and_eq_true] at this
        exact absurd e (ld_nB this.1.1)
      · simp only[Bool.and_eq_true] at this
        exact absurd e (lk_nB this.1)
      · simp only[Bool.and_eq_true] at this
        exact absurd e (ld_nB this.1.1.1)
    simp only[List.cons_append,goR] at h
    have h':=goG_mono (P:=P) hxB (fun σ1=>goR_front r1 r2 σ1 (fun x' k' hm=>hok x' k' (List.mem_cons_of_mem _ hm))) h
    simp only[goR] at h'
    have:=comm_step (P:=P) h1 h2 h3 h'
    simpa only[goR,List.cons_append] using this
def ancs:List Oper→List Nat→List Nat
 | [],acc=>acc
 |o::r,acc=>ancs r (acc++[o.after.toList.foldl (fun s e=>if Region.binds .any e then s ||| 2 ^ e.on ||| acc.getD e.on 0 else s) 0])
def anc0 (ops:Array Oper):List Nat:=ancs ops.toList []
def flg (l:List Oper) (a:List Nat) (k:Nat):Bool:=
 match l[k]? with
 |some x=>isLd x.op&&l.zipIdx.any fun(y,j)=>decide (k<j)&&isApp y.op&&!(a.getD j 0).testBit k
 |none=>false
def flgS (l:List Oper) (a:List Nat) (k:Nat):Bool:=
 match l[k]? with
 |some x=>(isLd x.op&&l.zipIdx.any fun(y,j)=>decide (k<j)&&isSt y.op&&!(a.getD j 0).testBit k)||(isSt x.op&&l.zipIdx.any fun(y,j)=>decide (j<k)&&isLd y.op&&!(a.getD k 0).testBit j)
 |none=>false
def flgs (l:List Oper) (a:List Nat):List Nat:=a.zipIdx.map fun(m,k)=>(if flg l a k then m ||| 2 ^ k else m) ||| (if flgS l a k then 2 ^ (a.length+k) else 0)
def ancL (ops:Array Oper):List Nat:=flgs ops.toList (anc0 ops)
theorem ancs_len:∀ (l:List Oper) (acc:List Nat),(ancs l acc).length=acc.length+l.length
 | [],acc=>rfl
 |o::l,acc=>by rw[ancs,ancs_len l];simp;omega
theorem ancL_ne {ops:Array Oper} {i k:Nat} (h:k≠i) (hk:k<ops.size):((ancL ops).getD i 0).testBit k=((anc0 ops).getD i 0).testBit k:=by
 unfold ancL flgs
 have hl:(anc0 ops).length=ops.size:=by unfold anc0;rw[ancs_len];simp
 simp only[List.getD_eq_getElem?_getD,List.getElem?_map,List.getElem?_zipIdx]
 cases(anc0 ops)[i]? with
 |none=>rfl
 |some m=>
  simp only[Option.map_some,Option.getD_some,Nat.zero_add]
  have h2:∀ b:Bool,(if b=true then 2 ^ ((anc0 ops).length+i) else 0).testBit k=false:=by
   intro b
   cases b
   ·simp
   ·rw[if_pos rfl,Nat.testBit_two_pow];simp;omega
  rw[Nat.testBit_or,h2,Bool.or_false]
  split
  ·rw[Nat.testBit_or,Nat.testBit_two_pow]
   simp[Ne.symm h]
  ·rfl
def okBack (ops:Array Oper):Bool:=ops.toList.zipIdx.all fun(o,i)=>o.after.toList.all fun e=>!Region.binds .any e||decide (e.on<i)
def okStatic (bar:Bool) (ops:Array Oper):Bool:=
 okBack ops&&(ops.toList.zipIdx.all fun(y,i)=>ops.toList.zipIdx.all fun(x,k)=>!decide (k<i)||okPair bar (ancL ops) (ops.toList.map (·.dst)) k x i y)
theorem foldl_bits (acc : List Nat) : ∀ (es : List Edge) (s k : Nat), (es.foldl (fun s e => if Region.binds .any e then s ||| 2 ^ e.on ||| acc.getD e.on 0 else s) s).testBit k = true →
    s.testBit k=true∨∃ e,e∈es∧Region.binds .any e=true∧(e.on=k∨(acc.getD e.on 0).testBit k=true)
  | [],s,k,h=> .inl h
  |e::es,s,k,h=>by
    simp only[List.foldl_cons] at h
    rcases foldl_bits acc es _ k h with h1|⟨e',h1,h2,h3⟩
    · split at h1
      · rename_i hb
        simp only[Nat.testBit_or,Bool.or_eq_true] at h1
        rcases h1 with (h1|h1)|h1
        · exact .inl h1
        · rw[Nat.testBit_two_pow] at h1
          exact .inr ⟨e,by simp,hb,.inl (by simpa using h1)⟩
        · exact .inr ⟨e,by simp,hb,.inr h1⟩
      · exact .inl h1
    · exact .inr ⟨e',by simp[h1],h2,h3⟩
theorem ancs_spec : ∀ (r done : List Oper) (acc : List Nat), acc.length = done.length →
    (∀ i o,done[i]? =some o→∀ k,(acc.getD i 0).testBit k=true→∃ e,e∈o.after.toList∧Region.binds .any e=true∧(e.on=k∨(e.on<i∧(acc.getD e.on 0).testBit k=true)))→
    (ancs r acc).length=(done++r).length∧∀ i o,(done++r)[i]? =some o→∀ k,((ancs r acc).getD i 0).testBit k=true→∃ e,e∈o.after.toList∧Region.binds .any e=true∧(e.on=k∨(e.on<i∧((ancs r acc).getD e.on 0).testBit k=true))
  | [],done,acc,hl,h=>by simp only[ancs,List.append_nil];exact⟨hl,h⟩
  |o::r,done,acc,hl,h=>by
    simp only[ancs]
    have:=ancs_spec r (done++[o]) (acc++[o.after.toList.foldl (fun s e=>if Region.binds .any e then s ||| 2 ^ e.on ||| acc.getD e.on 0 else s) 0]) (by simp[hl]) ?_
    · simpa using this
    · intro i o' hi k hk
      have hold:∀ j,j<acc.length→(acc++[o.after.toList.foldl (fun s e=>if Region.binds .any e then s ||| 2 ^ e.on ||| acc.getD e.on 0 else s) 0]).getD j 0=acc.getD j 0:=by
        intro j hj
        simp only[List.getD_eq_getElem?_getD]
        rw[List.getElem?_append_left hj]
      by_cases hlt:i<done.length
      · rw[List.getElem?_append_left hlt] at hi
        rw[hold i (by omega)] at hk
        obtain⟨e,h1,h2,h3⟩:=h i o' hi k hk
        refine⟨e,h1,h2,h3.imp (fun x=>x) fun⟨h4,h5⟩=>⟨h4,?_⟩⟩
        rw[hold _ (by omega)];exact h5
      · have hi0 : i = done.length := by
          rcases Nat.lt_or_ge i (done++[o]).length with h6|h6
          · simp at h6;omega
          · rw[List.getElem?_eq_none h6] at hi;cases hi
        subst hi0
        rw[List.getElem?_append_right (Nat.le_refl _)] at hi
        simp at hi
        subst hi
        have hk':(o.after.toList.foldl (fun s e=>if Region.binds .any e then s ||| 2 ^ e.on ||| acc.getD e.on 0 else s) 0).testBit k=true:=by
          simp only[List.getD_eq_getElem?_getD] at hk
          rw[List.getElem?_append_right (by omega),hl] at hk
          simpa using hk
        rcases foldl_bits acc _ _ _ hk' with h7|⟨e,h7,h8,h9⟩
        · simp at h7
        · refine⟨e,h7,h8,h9.imp (fun x=>x) fun h10=>?_⟩
          have hlt2:e.on<acc.length:=by
            rcases Nat.lt_or_ge e.on acc.length with h11|h11
            · exact h11
            · simp[List.getD_eq_getElem?_getD,List.getElem?_eq_none h11] at h10
          exact⟨by omega,by rw[hold _ hlt2];exact h10⟩
theorem ancL_spec (ops:Array Oper):∀ (i:Nat) (o:Oper),ops[i]? =some o→∀ k,((anc0 ops).getD i 0).testBit k=true→∃ e,e∈o.after.toList∧Region.binds .any e=true∧(e.on=k∨(e.on<i∧((anc0 ops).getD e.on 0).testBit k=true)):=by
 intro i o hi k hk
 have:=(ancs_spec ops.toList [] [] rfl (fun i o h=>by simp at h)).2 i o (by simpa [← Array.getElem?_toList] using hi) k hk
 exact this
end Go.Am

namespace Go.Am
variable {P:Program} {E:En}
def rem (ops:Array Oper) (listed:Array Bool):List (Oper×Nat):=ops.toList.zipIdx.filter fun p=>!listed.getD p.2 true
theorem mem_rem {ops:Array Oper} {listed:Array Bool} {o:Oper} {i:Nat} (hs:listed.size=ops.size):(o,i)∈rem ops listed↔ops[i]? =some o∧listed[i]? =some false:=by
 unfold rem
 rw[List.mem_filter,List.mem_zipIdx_iff_getElem?]
 simp only[Nat.zero_le,Nat.sub_zero,Array.getElem?_toList,Bool.not_eq_true',true_and]
 refine and_congr_right fun h=>?_
 have hi:i<ops.size:=by
  rcases Nat.lt_or_ge i ops.size with h'|h'
  ·exact h'
  ·rw[Array.getElem?_eq_none h'] at h;cases h
 have hi2:i<listed.size:=by omega
 simp[Array.getD,hi2]
theorem rem_sorted (ops:Array Oper) (listed:Array Bool):(rem ops listed).Pairwise (fun p q=>p.2<q.2):=by
 unfold rem
 apply List.Pairwise.filter
 have:(ops.toList.zipIdx.map (·.2)).Pairwise (· < ·):=by
  rw[show ops.toList.zipIdx.map (·.2)=List.range' 0 ops.toList.length from by simp[List.zipIdx_map_snd]]
  exact List.pairwise_lt_range'
 exact List.pairwise_map.1 this
theorem rem_set {ops:Array Oper} {listed:Array Bool} {i:Nat} (hi:i<listed.size) {r1 r2:List (Oper×Nat)} {y:Oper} (h:rem ops listed=r1++(y,i)::r2):rem ops (listed.setIfInBounds i true)=r1++r2:=by
 have hsort:=rem_sorted ops listed
 rw[h] at hsort
 have h1:rem ops (listed.setIfInBounds i true)=(rem ops listed).filter fun p=>p.2 !=i:=by
  unfold rem
  rw[List.filter_filter]
  congr 1
  funext p
  by_cases e:p.2=i
  ·subst e;simp[Array.getD,hi]
  ·have e2:(listed.setIfInBounds i true).getD p.2 true=listed.getD p.2 true:=by
    simp[Array.getD_eq_getD_getElem?,Array.getElem?_setIfInBounds_ne (Ne.symm e)]
   rw[e2]
   simp[e]
 rw[h1,h,List.filter_append,List.filter_cons]
 simp only[bne_self_eq_false,Bool.false_eq_true,if_false]
 rw[List.pairwise_append] at hsort
 obtain⟨_,hs2,hs3⟩:=hsort
 rw[List.pairwise_cons] at hs2
 have f1:r1.filter (fun p=>p.2 !=i)=r1:=by
  rw[List.filter_eq_self]
  intro p hp
  have:=hs3 p hp (y,i) (by simp)
  simp at this
  simp;omega
 have f2:r2.filter (fun p=>p.2 !=i)=r2:=by
  rw[List.filter_eq_self]
  intro p hp
  have:=hs2.1 p hp
  simp at this
  simp;omega
 rw[f1,f2]
theorem mem_ready {ops:Array Oper} {listed:Array Bool} {i:Nat} :i∈Region.ready .any ops listed↔i<ops.size∧listed.getD i true=false∧∃ o,ops[i]? =some o∧∀ e,e∈o.after.toList→Region.binds .any e=true→listed.getD e.on false=true:=by
 unfold Region.ready
 rw[List.mem_filter]
 simp only[List.mem_range,Bool.and_eq_true,Bool.not_eq_true']
 refine and_congr_right fun h=>and_congr_right fun _=>?_
 have:ops[i]? =some ops[i]:=Array.getElem?_eq_getElem h
 simp only[this,Option.map_some,Option.getD_some,Option.some.injEq,exists_eq_left']
 rw[← Array.all_toList,List.all_eq_true]
 constructor
 ·intro h1 e he hb
  have:=h1 e he
  rw[hb] at this
  simpa using this
 ·intro h1 e he
  cases hb:Region.binds .any e with
  |false=>simp
  |true=>simpa using h1 e he hb
def ListedClosed (ops:Array Oper) (listed:Array Bool):Prop:=
 ∀ j o,ops[j]? =some o→listed.getD j false=true→∀ e,e∈o.after.toList→Region.binds .any e=true→listed.getD e.on false=true
theorem okBack_spec {ops:Array Oper} (h:okBack ops=true) {i:Nat} {o:Oper} (ho:ops[i]? =some o):∀ e,e∈o.after.toList→Region.binds .any e=true→e.on<i:=by
 unfold okBack at h
 rw[List.all_eq_true] at h
 intro e he hb
 have:=h (o,i) (by rw[List.mem_zipIdx_iff_getElem?];simpa using ho)
 simp only[List.all_eq_true] at this
 have:=this e he
 rw[hb] at this
 simpa using this
theorem anc_listed {ops : Array Oper} {listed : Array Bool} (hb : okBack ops = true) (hc : ListedClosed ops listed) : ∀ (i : Nat) (o : Oper), ops[i]? = some o → (∀ e, e ∈ o.after.toList → Region.binds .any e = true → listed.getD e.on false = true) →
    ∀ k,((anc0 ops).getD i 0).testBit k=true→listed.getD k false=true∧k<i:=by
  intro i
  induction i using Nat.strongRecOn with
  |_ i ih=>
    intro o ho hpre k hk
    obtain⟨e,h1,h2,h3⟩:=ancL_spec ops i o ho k hk
    have hlt:=okBack_spec hb ho e h1 h2
    rcases h3 with h3|⟨h3,h4⟩
    · rw[← h3];exact⟨hpre e h1 h2,hlt⟩
    · have hil : i < ops.size := by
        rcases Nat.lt_or_ge i ops.size with h'|h'
        · exact h'
        · rw[Array.getElem?_eq_none h'] at ho;cases ho
      have he:ops[e.on]? =some (ops[e.on]'(by omega)):=Array.getElem?_eq_getElem (by omega)
      obtain⟨g1,g2⟩:=ih e.on h3 _ he (fun e' he' hb'=>hc e.on _ he (hpre e h1 h2) e' he' hb') k h4
      exact⟨g1,by omega⟩
theorem okStatic_spec {bar:Bool} {ops:Array Oper} (h:okStatic bar ops=true) {i k:Nat} {x y:Oper} (hy:ops[i]? =some y) (hx:ops[k]? =some x) (hki:k<i):okPair bar (ancL ops) (ops.toList.map (·.dst)) k x i y=true:=by
 unfold okStatic at h
 simp only[Bool.and_eq_true,List.all_eq_true] at h
 have h1:=h.2 (y,i) (by rw[List.mem_zipIdx_iff_getElem?];simpa using hy)
 have h2:=h1 (x,k) (by rw[List.mem_zipIdx_iff_getElem?];simpa using hx)
 simp only[Bool.or_eq_true,Bool.not_eq_true',decide_eq_false_iff_not] at h2
 exact h2.resolve_left (by omega)
theorem wpAny_goR {bar : Bool} {ops : Array Oper} (hok : okStatic bar ops = true) (hdst : ∀ (i : Nat) (o : Oper), ops[i]? = some o → ∀ n, o.dst = some n → n < E.nt) {nx : Nat} {K : St → Prop} {Kp : AV → St → Prop} {Q : Exit → Act → World → Prop}
    (hfin:∀ σ' a' w' ρ' V' Z',K σ'→σ'.nx=nx→Sat E ρ' V' Z' σ' a' w'→(∀ id,V' id→id<nx+1048576*ops.size)→Q .normal a' w')
    (hP:∀ σ,σ.nx=nx→Panic' E σ Kp Q):∀ (fuel:Nat) (listed:Array Bool) (σ:St) (ρ:Nat→Ref) (V:Nat→Prop) (Z:Nat→Nat→Prop) (a:Act) (w:World),listed.size=ops.size→Sat E ρ V Z σ a w→σ.nx=nx→
      (∀ id,V id→id<nx+1048576*ops.size)→(∀ o k,(o,k)∈rem ops listed→∀ id,V id→¬ (nx+1048576*k≤id∧id<nx+1048576*k+1048576))→ListedClosed ops listed→
      goR P bar (some (ancL ops)) (ops.toList.map (·.dst)) (rem ops listed) σ K Kp→(rem ops listed).length≤fuel→wpAnyIn (rfn E.rd) 0 P .any ops Q fuel listed a w:=by
  have hback:okBack ops=true:=by unfold okStatic at hok;simp only[Bool.and_eq_true] at hok;exact hok.1
  have hnone:∀ (listed:Array Bool),listed.size=ops.size→Region.ready .any ops listed=[]→rem ops listed=[]:=by
    intro listed hs hr
    cases hrem:rem ops listed with
    |nil=>rfl
    |cons p r=>
      exfalso
      obtain⟨o,i⟩:=p
      have hm:(o,i)∈rem ops listed:=by rw[hrem];simp
      obtain⟨h1,h2⟩:=(mem_rem hs).1 hm
      have hil:i<ops.size:=by
        rcases Nat.lt_or_ge i ops.size with h'|h'
        · exact h'
        · rw[Array.getElem?_eq_none h'] at h1;cases h1
      have hin:i∈Region.ready .any ops listed:=by
        refine mem_ready.2 ⟨hil,by simp[Array.getD_eq_getD_getElem?,h2],o,h1,fun e he hb=>?_⟩
        have hlt:=okBack_spec hback h1 e he hb
        have hel:e.on<listed.size:=by omega
        cases hv:listed.getD e.on false with
        |true=>rfl
        |false=>
          exfalso
          have hl:listed[e.on]? =some false:=by
            simp[Array.getD,hel] at hv
            rw[Array.getElem?_eq_getElem hel,hv]
          have hm2:(ops[e.on]'(by omega),e.on)∈rem ops listed:=(mem_rem hs).2 ⟨Array.getElem?_eq_getElem _,hl⟩
          have hsort:=rem_sorted ops listed
          rw[hrem,List.pairwise_cons] at hsort
          rw[hrem] at hm2
          rcases List.mem_cons.1 hm2 with h5|h5
          · have:=congrArg Prod.snd h5;simp at this;omega
          · have:=hsort.1 _ h5;simp at this;omega
      rw[hr] at hin
      cases hin
  intro fuel
  induction fuel with
  |zero=>
    intro listed σ ρ V Z a w hs h hnx hVb hVk hcl hgo hlen
    have hrem:rem ops listed=[]:=List.length_eq_zero_iff.1 (by omega)
    refine⟨?_,?_⟩
    · rw[List.eq_nil_iff_forall_not_mem]
      intro i hi
      obtain⟨h1,h2,o,h3,_⟩:=mem_ready.1 hi
      have:(o,i)∈rem ops listed:=(mem_rem hs).2 ⟨h3,by
        have hi2:i<listed.size:=by omega
        simp[Array.getD,hi2] at h2
        rw[Array.getElem?_eq_getElem hi2,h2]⟩
      rw[hrem] at this
      cases this
    · rw[hrem] at hgo
      exact hfin _ _ _ _ _ _ hgo hnx h hVb
  |succ fuel ih=>
    intro listed σ ρ V Z a w hs h hnx hVb hVk hcl hgo hlen
    refine⟨fun hr=>?_,fun i hi=>?_⟩
    · rw[hnone listed hs hr] at hgo
      exact hfin _ _ _ _ _ _ hgo hnx h hVb
    · obtain⟨h1,h2,y,h3,h4⟩:=mem_ready.1 hi
      have hi2:i<listed.size:=by omega
      have hm:(y,i)∈rem ops listed:=(mem_rem hs).2 ⟨h3,by
        simp[Array.getD,hi2] at h2
        rw[Array.getElem?_eq_getElem hi2,h2]⟩
      obtain⟨r1,r2,hrem⟩:=List.append_of_mem hm
      have hsort:=rem_sorted ops listed
      rw[hrem,List.pairwise_append] at hsort
      have hr1:∀ x k,(x,k)∈r1→k<i∧ops[k]? =some x∧listed[k]? =some false:=by
        intro x k hx
        have hlt:=hsort.2.2 _ hx (y,i) (by simp)
        have hmem:(x,k)∈rem ops listed:=by rw[hrem];simp[hx]
        exact⟨hlt,(mem_rem hs).1 hmem⟩
      rw[hrem] at hgo
      have hfront:=goR_front r1 r2 σ (fun x k hx=>by
        obtain⟨g1,g2,g3⟩:=hr1 x k hx
        refine⟨by omega,okStatic_spec hok h3 g2 g1,?_⟩
        cases ht:((ancL ops).getD i 0).testBit k with
        |false=>rfl
        |true=>
          rw[ancL_ne (by omega) (by
            rcases Nat.lt_or_ge k ops.size with h'|h'
            · exact h'
            · rw[Array.getElem?_eq_none h'] at g2;cases g2)] at ht
          have:=(anc_listed hback hcl i y h3 h4 k ht).1
          simp[Array.getD_eq_getD_getElem?,g3] at this) hgo
      simp only[goR] at hfront
      have hrem':=rem_set hi2 hrem
      refine goG_wp h h3 (fun id hid=>by rw[hnx];exact hVk y i hm id hid) (hdst i y h3) hfront ?_ (hP σ hnx)
      intro σ' a' w' ρ' V' Z' hgo' hnx' hS' hV1 hV2
      rw[hnx] at hV1 hnx'
      refine ih (listed.setIfInBounds i true) σ' ρ' V' Z' a' w' (by simpa using hs) hS' hnx' ?_ ?_ ?_ ?_ ?_
      · intro id hid
        rcases hV1 id hid with h5|h5
        · exact hVb id h5
        · omega
      · intro o k hok' id hid
        rw[hrem'] at hok'
        have hki:k≠i:=by
          rcases List.mem_append.1 hok' with h6|h6
          · have:=(hr1 o k h6).1;omega
          · have:=(List.pairwise_cons.1 hsort.2.1).1 _ h6;simp at this;omega
        rcases hV1 id hid with h5|h5
        · refine hVk o k ?_ id h5
          rw[hrem]
          rcases List.mem_append.1 hok' with h6|h6
          · simp[h6]
          · simp[h6]
        · omega
      · intro j o hj hl e he hb
        have hset:∀ m,listed.getD m false=true→(listed.setIfInBounds i true).getD m false=true:=by
          intro m hm'
          by_cases e1:m=i
          · subst e1;simp[Array.getD,hi2]
          · simp[Array.getD_eq_getD_getElem?,Array.getElem?_setIfInBounds_ne (Ne.symm e1)] at hm' ⊢;exact hm'
        by_cases e1:j=i
        · subst e1
          rw[h3] at hj
          cases hj
          exact hset _ (h4 e he hb)
        · have : listed.getD j false = true := by
            simp[Array.getD_eq_getD_getElem?,Array.getElem?_setIfInBounds_ne (Ne.symm e1)] at hl ⊢;exact hl
          exact hset _ (hcl j o hj this e he hb)
      · rw[hrem'];exact hgo'
      · rw[hrem']
        have:(rem ops listed).length=(r1++r2).length+1:=by rw[hrem];simp;omega
        omega
theorem rem_init (ops:Array Oper):rem ops (Array.replicate ops.size false)=ops.toList.zipIdx:=by
 unfold rem
 rw[List.filter_eq_self]
 intro p hp
 obtain⟨o,i⟩:=p
 rw[List.mem_zipIdx_iff_getElem?] at hp
 have:i<ops.size:=by
  rcases Nat.lt_or_ge i ops.size with h'|h'
  ·exact h'
  ·simp[h'] at hp
 simp[Array.getD,this]
theorem wpOps_goR {bar : Bool} {ops : Array Oper} (hdst : ∀ (i : Nat) (o : Oper), ops[i]? = some o → ∀ n, o.dst = some n → n < E.nt) {nx : Nat} {K : St → Prop} {Kp : AV → St → Prop} {Q : Exit → Act → World → Prop}
    (hfin:∀ σ' a' w' ρ' V' Z',K σ'→σ'.nx=nx→Sat E ρ' V' Z' σ' a' w'→(∀ id,V' id→id<nx+1048576*ops.size)→Q .normal a' w')
    (hP:∀ σ,σ.nx=nx→Panic' E σ Kp Q):∀ (r:List (Oper×Nat)) (j:Nat) (σ:St) (ρ:Nat→Ref) (V:Nat→Prop) (Z:Nat→Nat→Prop) (a:Act) (w:World),r=ops.toList.zipIdx.drop j→Sat E ρ V Z σ a w→σ.nx=nx→
      (∀ id,V id→id<nx+1048576*j)→j≤ops.size→goR P bar none (ops.toList.map (·.dst)) r σ K Kp→wpOpsIn (rfn E.rd) 0 P ops Q (List.range' j (ops.size - j)) a w
  | [],j,σ,ρ,V,Z,a,w,hr,h,hnx,hVb,hj,hgo=>by
    have:ops.size≤j:=by
      have:=congrArg List.length hr
      simp at this
      omega
    have e:ops.size - j=0:=by omega
    rw[e]
    exact hfin _ _ _ _ _ _ hgo hnx h (fun id hid=>by have:=hVb id hid;omega)
  |(o,k)::r,j,σ,ρ,V,Z,a,w,hr,h,hnx,hVb,hj,hgo=>by
    have hjl:j<ops.size:=by
      have:=congrArg List.length hr
      simp at this
      omega
    have h0:(ops.toList.zipIdx.drop j)[0]? =some (o,k):=by rw[← hr];rfl
    rw[List.getElem?_drop,List.getElem?_zipIdx] at h0
    simp only[Nat.add_zero,Nat.zero_add] at h0
    have hoj:ops[j]? =some o∧k=j:=by
      cases hoj:ops.toList[j]? with
      |none=>simp[hoj] at h0
      |some o'=>
        simp only[hoj,Option.map_some,Option.some.injEq,Prod.mk.injEq] at h0
        rw[← Array.getElem?_toList,hoj,h0.1]
        exact⟨rfl,h0.2.symm⟩
    obtain⟨ho,rfl⟩:=hoj
    have hr':r=ops.toList.zipIdx.drop (k+1):=by
      rw[← List.drop_drop, ← hr];rfl
    rw[show ops.size - k=(ops.size - (k+1))+1 by omega,List.range'_succ,wpOpsIn_cons]
    simp only[goR] at hgo
    refine goG_wp h ho (fun id hid=>by have:=hVb id hid;omega) (hdst k o ho) hgo ?_ (hP σ hnx)
    intro σ' a' w' ρ' V' Z' hgo' hnx' hS' hV1 hV2
    rw[hnx] at hV1 hnx'
    refine wpOps_goR hdst hfin hP r (k+1) σ' ρ' V' Z' a' w' hr' hS' hnx' (fun id hid=>?_) (by omega) hgo'
    rcases hV1 id hid with h5|h5
    · have:=hVb id h5;omega
    · omega
end Go.Am
