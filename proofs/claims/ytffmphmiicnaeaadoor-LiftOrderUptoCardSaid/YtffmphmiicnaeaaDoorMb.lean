/- A part of the proof: an abstract machine for the walks, and what the walked functions compute. -/
import Derived.Test.YtffmphmiicnaeaaDoorMa
set_option linter.unusedVariables false
set_option linter.unusedSimpArgs false
namespace Go.Am
def OpOk (P:Program) (E:En) (o:Oper) (σ:St) (a:Act) (w:World) (V:Nat→Prop) (Z:Nat→Nat→Prop) (id:Nat) (e:Ef):Prop:=
 ∃ n w' v ρ' V',(execOp a.eval o).run P w= .ok n w'∧(n= .value v∨(n= .skip∧v=undef))∧(∀ i,V i→V' i)∧(∀ i,V' i→V i∨i=id)∧
  Sat E ρ' V' Z (e.app σ o.dst id) (a.put o.dst v) w'
variable {P:Program} {E:En} {ρ:Nat→Ref} {V:Nat→Prop} {Z:Nat→Nat→Prop} {σ:St} {a:Act} {w:World}
theorem ev_rel (h:Sat E ρ V Z σ a w) {x:Operand} {v:AV} (hx:evA σ x=some v):Rel ρ V Z w (a.eval x) v:=by
 cases x with
 |tmp t=>exact h.fr t v hx
 |const c=>exact avOf_rel hx
 |func f=>cases hx;exact .fn _ _ _ _ _ rfl rfl (fun i hi=>absurd hi (Nat.not_lt_zero _)) (fun i hi=>absurd hi (Nat.not_lt_zero _))
 |global g=>cases hx
theorem ok_val (h : Sat E ρ V Z σ a w) {o : Oper} (hd : ∀ n, o.dst = some n → n < E.nt) {id : Nat} {v : Value} {x : AV} (hrun : (execOp a.eval o).run P w = .ok (.value v) w)
    (hv:Rel ρ V Z w v x):OpOk P E o σ a w V Z id (.val x):=
  ⟨.value v,w,v,ρ,V,hrun,.inl rfl,fun _ h=>h,fun _ h=> .inl h,h.val hd rfl rfl rfl hv⟩
theorem run_value {s:Sem Value} {v:Value} {w w':World} (h:s.run P w= .ok v w'):(do pure (Next.value (← s)):Sem Next).run P w= .ok (.value v) w':=by
 simp[h]
theorem ok_box (h : Sat E ρ V Z σ a w) {o : Oper} (hd : ∀ n, o.dst = some n → n < E.nt) {id : Nat} (hid : ¬ V id) {t : TypeId} {v : Value} {x : AV} (hv : Rel ρ V Z w v x) (ht : x.isTup = false)
    (hrun:execOp a.eval o=(do pure (Next.value (← Instr.box t v)))):OpOk P E o σ a w V Z id (.new (.cells x.cells) (.ptr · 0)):=by
  have hr:(Instr.box t v).run P w= .ok (.pointer (some ⟨w.heap.size,0,none⟩)) { w with heap:=w.heap.push (.cells v.cells t) } :=by
    simp[Instr.box,newVar,newRow]
  refine⟨.value (.pointer (some ⟨w.heap.size,0,none⟩)),{ w with heap:=w.heap.push (.cells v.cells t) },.pointer (some ⟨w.heap.size,0,none⟩),fun i=>if i=id then⟨w.heap.size,0,0,false,0⟩ else ρ i,fun i=>V i∨i=id,?_,.inl rfl,fun _ h=> .inl h,fun _ h=>h,?_⟩
  · rw[hrun,run_value hr]
  · have hne:∀ i,V i→i≠id:=fun i hi e=>hid (e▸hi)
    have hmono:∀ v x,Rel ρ V Z w v x→Rel (fun i=>if i=id then(⟨w.heap.size,0,0,false,0⟩:Ref) else ρ i) (fun i=>V i∨i=id) Z { w with heap:=w.heap.push (.cells v.cells t) } v x→True:=fun _ _ _ _=>trivial
    have hcell:∀ b o,Z b o→({ w with heap:=w.heap.push (.cells v.cells t) } :World).cell? ⟨b,o,none⟩=w.cell? ⟨b,o,none⟩:=by
      intro b o hz
      refine cell?_of_heap ?_
      show(w.heap.push _)[b]? =_
      have:=h.hs.lt b o hz
      rw[Array.getElem?_push,if_neg (by omega)]
    refine h.alloc (o:= .cells x.cells) hd ⟨w.heap.size,0,0,false,0⟩ rfl hid (fun c t f hc=>by cases hc;rfl) ?_ ?_
    · refine⟨by simp,v.cells,t,by simp,(Rel.cells hv).1,fun i hi=>⟨?_,?_⟩⟩
      · by_cases hx:∃ l,x= .agg l
        · obtain⟨l,rfl⟩:=hx
          obtain⟨_,_,_,h1,_⟩:=hv.agg_inv
          exact h1 i hi
        · have hx':∀ l,x≠ .agg l:=fun l hl=>hx ⟨l,hl⟩
          rw[AV.cells_one hx'] at hi ⊢
          obtain rfl:i=0:=by simp only[List.length_cons,List.length_nil] at hi;omega
          cases x<;>first|rfl|exact absurd rfl (hx' _)|cases ht
      · exact((Rel.cells hv).2 i hi).mono (fun i hi=>if_neg (hne i hi)) (fun _ h=> .inl h) (fun _ _ h=>h) hcell
    · have:=Rel.ptr (ρ:=fun i=>if i=id then(⟨w.heap.size,0,0,false,0⟩:Ref) else ρ i) (V:=fun i=>V i∨i=id) (Z:=Z) (w:= { w with heap:=w.heap.push (.cells v.cells t) }) id 0 (.inr rfl)
      simpa using this
theorem ok_alloc (h : Sat E ρ V Z σ a w) {o : Oper} (hd : ∀ n, o.dst = some n → n < E.nt) {id : Nat} (hid : ¬ V id) {t : TypeId} {T : TI} {zs : List AV} (hT : ti P t = some T) (hz : T.zero = some zs)
    (hrun:execOp a.eval o=(do pure (Next.value (← Instr.alloc t true (.tuple #[]))))):OpOk P E o σ a w V Z id (.new (.cells zs) (.ptr · 0)):=by
  obtain⟨z,hz1,hz2⟩:=run_zero (w:=w) hT hz
  have hr:(Instr.alloc t true (.tuple #[])).run P w= .ok (.pointer (some ⟨w.heap.size,0,none⟩)) { w with heap:=w.heap.push (.cells z.cells t) } :=by
    simp[Instr.alloc,newVar,newRow,hz1]
  refine⟨.value (.pointer (some ⟨w.heap.size,0,none⟩)),{ w with heap:=w.heap.push (.cells z.cells t) },.pointer (some ⟨w.heap.size,0,none⟩),fun i=>if i=id then⟨w.heap.size,0,0,false,0⟩ else ρ i,fun i=>V i∨i=id,?_,.inl rfl,fun _ h=> .inl h,fun _ h=>h,?_⟩
  · rw[hrun,run_value hr]
  · refine h.alloc (o:= .cells zs) hd ⟨w.heap.size,0,0,false,0⟩ rfl hid (fun c t f hc=>by cases hc;rfl) ?_ ?_
    · refine⟨by simp,z.cells,t,by simp,(cells_avOf1 (ρ:=ρ) (V:=V) (Z:=Z) (w:=w) hz2).1,fun i hi=>(cells_avOf1 hz2).2 i hi⟩
    · have:=Rel.ptr (ρ:=fun i=>if i=id then(⟨w.heap.size,0,0,false,0⟩:Ref) else ρ i) (V:=fun i=>V i∨i=id) (Z:=Z) (w:= { w with heap:=w.heap.push (.cells z.cells t) }) id 0 (.inr rfl)
      simpa using this
theorem ld_run {t : TypeId} {T : TI} (hT : ti P t = some T) {b o off : Nat} {l : List AV} {cs : Nat → Value} (hc : ∀ j, j < l.length → w.cell? ⟨b, o + j, none⟩ = some (cs j))
    (h1:∀ j,j<l.length→(l.getD j default).one=true) (hr:∀ j,j<l.length→Rel ρ V Z w (cs j) (l.getD j default)) {x:AV} (hx:ldA T l off=some x):
    ∃ v,(Instr.loadAt t (.pointer (some ⟨b,o+off,none⟩))).run P w= .ok v w∧Rel ρ V Z w v x:=by
  unfold ldA at hx
  unfold Instr.loadAt Instr.sureAddr loadVar
  simp only[Sem.run_bind,Sem.run_pure,Result.andThen_ok,run_isAgg hT]
  cases hk:T.k.isAgg with
  |true=>
    rw[hk] at hx
    simp only[if_true] at hx
    split at hx
    · rename_i hle
      cases hx
      refine⟨.agg ((List.range T.size).map fun j=>cs (off+j)).toArray,?_,?_⟩
      · simp only[if_true,Sem.run_bind,run_sizeOf hT,Result.andThen_ok]
        rw[loadCells_run (fun j=>cs (off+j)) (fun j hj=>by rw[Nat.add_assoc];exact hc (off+j) (by omega))]
        simp
      · have hlen:((l.drop off).take T.size).length=T.size:=by simp;omega
        have hg:∀ i,i<T.size→((l.drop off).take T.size).getD i default=l.getD (off+i) default:=by
          intro i hi
          simp[List.getD_eq_getElem?_getD,List.getElem?_take,hi,List.getElem?_drop]
        refine .agg _ _ (by simp[hlen]) ?_ ?_
        · intro i hi;rw[hlen] at hi;rw[hg i hi];exact h1 _ (by omega)
        · intro i hi;rw[hlen] at hi;rw[hg i hi,getD_range_map _ hi];exact hr _ (by omega)
    · cases hx
  |false=>
    rw[hk] at hx
    simp only[Bool.false_eq_true,if_false] at hx ⊢
    have hlt:off<l.length:=by
      rcases Nat.lt_or_ge off l.length with h|h
      · exact h
      · rw[List.getElem?_eq_none h] at hx;cases hx
    refine⟨cs off,by simp[load,Sem.run,hc off hlt],?_⟩
    have:=hr off hlt
    simpa [List.getD_eq_getElem?_getD,hx] using this
theorem ok_load_ptr (h : Sat E ρ V Z σ a w) {o : Oper} (hd : ∀ n, o.dst = some n → n < E.nt) {id' : Nat} {t : TypeId} {T : TI} (hT : ti P t = some T) {v : Value} {id off : Nat} {l : List AV}
    (hv:Rel ρ V Z w v (.ptr id off)) (ho:σ.hp id=some (.cells l)) {x:AV} (hx:ldA T l off=some x)
    (hrun:execOp a.eval o=(do pure (Next.value (← Instr.loadAt t v)))):OpOk P E o σ a w V Z id' (.val x):=by
  obtain⟨hV,h0,cs,ty,h1,h2,h3⟩:=h.hs.obj _ _ ho
  cases hv
  have hc:∀ j,j<l.length→w.cell? ⟨(ρ id).blk,0+j,none⟩=some (cs.getD j undef):=by
    intro j hj
    have:j<cs.size:=by omega
    simp[World.cell?,h1,Array.getD,this]
  obtain⟨v',hr,hrel⟩:=ld_run hT hc (fun j hj=>(h3 j hj).1) (fun j hj=>(h3 j hj).2) hx
  rw[Nat.zero_add] at hr
  exact ok_val h hd (by rw[hrun,run_value hr]) hrel
theorem ok_load_eptr (h : Sat E ρ V Z σ a w) {o : Oper} (hd : ∀ n, o.dst = some n → n < E.nt) {id' : Nat} {t : TypeId} {T : TI} (hT : ti P t = some T) {v : Value} {e : AV} {off : Nat}
    (hv:Rel ρ V Z w v (.eptr e off)) {x:AV} (hx:ldA T e.cells off=some x)
    (hrun:execOp a.eval o=(do pure (Next.value (← Instr.loadAt t v)))):OpOk P E o σ a w V Z id' (.val x):=by
  cases hv
  rename_i b o' cs h1 h2
  obtain⟨v',hr,hrel⟩:=ld_run hT (fun j hj=>(h1 j hj).1) (fun j hj=>(h1 j hj).2.2.1) h2 hx
  exact ok_val h hd (by rw[hrun,run_value hr]) hrel
theorem row_idx {i n sz j:Nat} (hi:i<n) (hj:j<sz):i*sz+j<n*sz:=by
 have:(i+1)*sz≤n*sz:=Nat.mul_le_mul_right sz hi
 rw[Nat.add_mul] at this
 omega
theorem ok_load_rptr (h : Sat E ρ V Z σ a w) {o : Oper} (hd : ∀ n, o.dst = some n → n < E.nt) {id' : Nat} {t : TypeId} {T : TI} (hT : ti P t = some T) {v : Value} {id sz i off : Nat} {l : List AV} {e : AV}
    (hv:Rel ρ V Z w v (.rptr id sz i off)) (ho:σ.hp id=some (.row sz l)) (hi:l[i]? =some e) {x:AV} (hx:ldA T e.cells off=some x)
    (hrun:execOp a.eval o=(do pure (Next.value (← Instr.loadAt t v)))):OpOk P E o σ a w V Z id' (.val x):=by
  obtain⟨hV,h0⟩:=h.hs.obj _ _ ho
  have hil:i<l.length:=by
    rcases Nat.lt_or_ge i l.length with h|h
    · exact h
    · rw[List.getElem?_eq_none h] at hi;cases hi
  have he:l.getD i default=e:=by simp[List.getD_eq_getElem?_getD,hi]
  rcases h0 with ⟨_,hl⟩|⟨h0,cs,ty,h1,h2,h3,h4,h5,h6⟩
  · subst hl;simp at hil
  have hsz:=h5 i hil
  rw[he] at hsz
  cases hv
  have hc:∀ j,j<e.cells.length→w.cell? ⟨(ρ id).blk,(ρ id).off+i*sz+j,none⟩=some (cs.getD ((ρ id).off+i*sz+j) undef):=by
    intro j hj
    have h7:(ρ id).off+i*sz+j<cs.size:=by
      have:=row_idx (j:=j) (sz:=sz) hil (by omega)
      have h8:l.length*sz≤(ρ id).cap*sz:=Nat.mul_le_mul_right sz h3
      omega
    simp[World.cell?,h1,Array.getD,h7]
  have h6':=fun j (hj:j<e.cells.length)=>h6 i j hil (by omega)
  rw[he] at h6'
  obtain⟨v',hr,hrel⟩:=ld_run hT hc (fun j hj=>(h6' j hj).1) (fun j hj=>(h6' j hj).2) hx
  exact ok_val h hd (by rw[hrun,run_value hr]) hrel
theorem spl_len {l xs:List AV} {off:Nat} (h:off+xs.length≤l.length):(spl l off xs).length=l.length:=by
 simp[spl];omega
theorem spl_getD {l xs : List AV} {off : Nat} (h : off + xs.length ≤ l.length) (k : Nat) :
    (spl l off xs).getD k default=if off≤k∧k<off+xs.length then xs.getD (k - off) default else l.getD k default:=by
  simp only[spl,List.getD_eq_getElem?_getD]
  by_cases h1:k<off
  · rw[if_neg (by omega),List.append_assoc,List.getElem?_append_left (by simp;omega),List.getElem?_take,if_pos h1]
  · have ht:(l.take off).length=off:=by simp;omega
    by_cases h2:k<off+xs.length
    · rw[if_pos (by omega),List.append_assoc,List.getElem?_append_right (by omega),ht,List.getElem?_append_left (by omega)]
    · rw[if_neg (by omega),List.getElem?_append_right (by simp;omega),List.getElem?_drop]
      congr 2
      simp
      omega
theorem st_run {t : TypeId} {T : TI} (hT : ti P t = some T) {b o : Nat} {v : Value} {x : AV} (hv : Rel ρ V Z w v x) (hsz : x.cells.length = T.size) (htup : x.isTup = false) {cs : Array Value} {ty : TypeId}
    (hh:w.heap[b]? =some (.cells cs ty (0,0))) (hle:o+T.size≤cs.size):
    ∃ w' cs',(Instr.storeAt t (.pointer (some ⟨b,o,none⟩)) v).run P w= .ok () w'∧w'.heap[b]? =some (.cells cs' ty (0,0))∧cs'.size=cs.size∧
      (∀ k,cs'.getD k undef=if o≤k∧k<o+T.size then v.cells.getD (k - o) undef else cs.getD k undef)∧
      (∀ b',b'≠b→w'.heap[b']? =w.heap[b']?)∧w'.heap.size=w.heap.size∧w'.os=w.os∧w'.output=w.output∧
      (∀ j,j<T.size→(x.cells.getD j default).one=true):=by
  obtain⟨h1,h2⟩:=hv.cells
  have hone:∀ j,j<T.size→(x.cells.getD j default).one=true:=by
    intro j hj
    rw[← hsz] at hj
    by_cases hx:∃ l,x= .agg l
    · obtain⟨l,rfl⟩:=hx
      obtain⟨_,_,_,h1,_⟩:=hv.agg_inv
      exact h1 j hj
    · have hx':∀ l,x≠ .agg l:=fun l hl=>hx ⟨l,hl⟩
      rw[AV.cells_one hx'] at hj ⊢
      obtain rfl:j=0:=by simp only[List.length_cons,List.length_nil] at hj;omega
      cases x<;>first|rfl|exact absurd rfl (hx' _)|cases htup
  have hoc:∀ u∈v.cells.toList,u.oneCell'=true:=by
    intro u hu
    obtain⟨j,hj,rfl⟩:=List.getElem_of_mem hu
    have hj':j<T.size:=by simp only[Array.length_toList] at hj;omega
    have:=(h2 j (by omega)).oneCell (hone j hj')
    have hj2:j<v.cells.size:=by omega
    simpa [Array.getD,hj2] using this
  obtain⟨w',cs',r1,r2,r3,r4,r5,r6,r7,r8⟩:=storeCells_run (P:=P) v.cells.toList 0 o w cs ty hh (by simp;omega) hoc
  refine⟨w',cs',?_,r2,r3,?_,r5,r6,r7,r8,hone⟩
  · unfold Instr.storeAt Instr.sureAddr storeVar
    simp only[Sem.run_bind,Sem.run_pure,Result.andThen_ok,run_sizeOf hT]
    rw[if_neg (by omega)]
    exact r1
  · intro k
    rw[r4 k]
    simp only[Nat.add_zero,Array.length_toList,h1,hsz]
    split
    · simp[List.getD_eq_getElem?_getD,Array.getD_eq_getD_getElem?]
    · rfl
theorem ok_store_ptr (h : Sat E ρ V Z σ a w) {o : Oper} (hd : ∀ n, o.dst = some n → n < E.nt) {id' : Nat} {t : TypeId} {T : TI} (hT : ti P t = some T) {v u : Value} {id off : Nat} {l l' : List AV} {x : AV}
    (hv:Rel ρ V Z w v (.ptr id off)) (hu:Rel ρ V Z w u x) (ho:σ.hp id=some (.cells l)) (hx:stA T l off x=some l')
    (hrun:execOp a.eval o=(do Instr.storeAt t v u;pure .skip)):OpOk P E o σ a w V Z id' (.set id (.cells l') (.tup [])):=by
  obtain⟨hV,h0,cs,ty,h1,h2,h3⟩:=h.hs.obj _ _ ho
  unfold stA at hx
  split at hx
  · rename_i hcond
    obtain⟨hsz,hle,htup⟩:=hcond
    cases hx
    cases hv
    obtain⟨w',cs',r1,r2,r3,r4,r5,r6,r7,r8,hone⟩:=st_run (o:=off) hT hu hsz htup h1 (by omega)
    have hsep:∀ o,¬ Z (ρ id).blk o:=h.hs.sep _ _ _ ho ⟨h0,rfl⟩
    have hcell:∀ b o,Z b o→w'.cell? ⟨b,o,none⟩=w.cell? ⟨b,o,none⟩:=by
      intro b o hz
      exact cell?_of_heap (r5 b (fun e=>hsep o (e▸hz)))
    have hm:∀ {v x},Rel ρ V Z w v x→Rel ρ V Z w' v x:=fun hh=>hh.mono (fun _ _=>rfl) (fun _ h=>h) (fun _ _ h=>h) hcell
    refine⟨.skip,w',undef,ρ,V,by rw[hrun];simp[r1],.inr ⟨rfl,rfl⟩,fun _ h=>h,fun _ h=> .inl h,?_⟩
    refine h.set hd ho h0 r5 r6 r7 r8 (fun c t f hc=>by rw[r2] at hc;cases hc;rfl) ?_ (.tup _ _ rfl (fun i hi=>absurd hi (Nat.not_lt_zero _)))
    refine⟨h0,cs',ty,r2,by rw[r3,h2,spl_len (by omega)],fun i hi=>?_⟩
    rw[spl_len (by omega)] at hi
    rw[spl_getD (by omega),r4 i,hsz]
    by_cases hi2:off≤i∧i<off+T.size
    · rw[if_pos hi2,if_pos hi2]
      exact⟨hone _ (by omega),hm (hu.cells.2 _ (by omega))⟩
    · rw[if_neg hi2,if_neg hi2]
      exact⟨(h3 i hi).1,hm (h3 i hi).2⟩
  · cases hx
theorem ok_store_rptr (h : Sat E ρ V Z σ a w) {o : Oper} (hd : ∀ n, o.dst = some n → n < E.nt) {id' : Nat} {t : TypeId} {T : TI} (hT : ti P t = some T) {v u : Value} {id sz i off : Nat} {l c : List AV} {x e : AV}
    (hv:Rel ρ V Z w v (.rptr id sz i off)) (hu:Rel ρ V Z w u x) (ho:σ.hp id=some (.row sz l)) (hi:l[i]? =some e) (hx:stA T e.cells off x=some c)
    (hrun:execOp a.eval o=(do Instr.storeAt t v u;pure .skip)):
    OpOk P E o σ a w V Z id' (.set id (.row sz (l.set i (reElem e c))) (.tup [])):=by
  obtain⟨hV,h0⟩:=h.hs.obj _ _ ho
  have hil:i<l.length:=by
    rcases Nat.lt_or_ge i l.length with h|h
    · exact h
    · rw[List.getElem?_eq_none h] at hi;cases hi
  have he:l.getD i default=e:=by simp[List.getD_eq_getElem?_getD,hi]
  rcases h0 with ⟨_,hl⟩|⟨h0,cs,ty,h1,h2,h3,h4,h5,h6⟩
  · subst hl;simp at hil
  have hesz:=h5 i hil
  rw[he] at hesz
  unfold stA at hx
  split at hx
  · rename_i hcond
    obtain⟨hsz,hle,htup⟩:=hcond
    cases hx
    cases hv
    have hbound:(ρ id).off+i*sz+sz≤cs.size:=by
      have h8:(i+1)*sz≤(ρ id).cap*sz:=Nat.mul_le_mul_right sz (by omega)
      rw[Nat.add_mul] at h8
      omega
    obtain⟨w',cs',r1,r2,r3,r4,r5,r6,r7,r8,hone⟩:=st_run (o:=(ρ id).off+i*sz+off) hT hu hsz htup h1 (by omega)
    have hsep:∀ o,¬ Z (ρ id).blk o:=h.hs.sep _ _ _ ho ⟨h0,rfl⟩
    have hcell:∀ b o,Z b o→w'.cell? ⟨b,o,none⟩=w.cell? ⟨b,o,none⟩:=by
      intro b o hz
      exact cell?_of_heap (r5 b (fun e=>hsep o (e▸hz)))
    have hm:∀ {v x},Rel ρ V Z w v x→Rel ρ V Z w' v x:=fun hh=>hh.mono (fun _ _=>rfl) (fun _ h=>h) (fun _ _ h=>h) hcell
    have hcl:(spl e.cells off x.cells).length=sz:=by rw[spl_len (by omega)];exact hesz
    have hcells:(reElem e (spl e.cells off x.cells)).cells=spl e.cells off x.cells:=by
      by_cases hx:∃ l,e= .agg l
      · obtain⟨l,rfl⟩:=hx;rfl
      · have hx':∀ l,e≠ .agg l:=fun l hl=>hx ⟨l,hl⟩
        have h9:e.cells.length=1:=by rw[AV.cells_one hx'];rfl
        have h10:(reElem e (spl e.cells off x.cells))=(spl e.cells off x.cells).getD 0 default:=by
          unfold reElem
          cases e<;>first|rfl|exact absurd rfl (hx' _)
        rw[h10]
        have h11:(spl e.cells off x.cells).length=1:=by omega
        have h12:((spl e.cells off x.cells).getD 0 default).one=true:=by
          rw[spl_getD (by omega)]
          split
          · exact hone _ (by omega)
          · have:=(h6 i 0 hil (by omega)).1
            rw[he] at this
            exact this
        obtain⟨y,hy⟩:=List.length_eq_one_iff.1 h11
        rw[hy] at h12 ⊢
        refine AV.cells_one fun l hl=>?_
        rw[hl] at h12
        cases h12
    refine⟨.skip,w',undef,ρ,V,by rw[hrun];simp[r1],.inr ⟨rfl,rfl⟩,fun _ h=>h,fun _ h=> .inl h,?_⟩
    refine h.set hd ho h0 r5 r6 r7 r8 (fun c t f hc=>by rw[r2] at hc;cases hc;rfl) ?_ (.tup _ _ rfl (fun i hi=>absurd hi (Nat.not_lt_zero _)))
    have hset : ∀ k, k < l.length → (l.set i (reElem e (spl e.cells off x.cells))).getD k default =
        if k=i then(reElem e (spl e.cells off x.cells)) else l.getD k default:=by
      intro k hk
      by_cases e1:k=i
      · subst e1;simp[List.getD_eq_getElem?_getD,hk]
      · simp[List.getD_eq_getElem?_getD,List.getElem?_set,Ne.symm e1,e1]
    refine .inr ⟨h0,cs',ty,r2,by rw[h2];simp,by simpa using h3,by rw[r3];exact h4,?_,?_⟩
    · intro k hk
      simp only[List.length_set] at hk
      rw[hset k hk]
      split
      · rw[hcells];exact hcl
      · exact h5 k hk
    · intro k j hk hj
      simp only[List.length_set] at hk
      rw[hset k hk,r4]
      by_cases hki:k=i
      · subst hki
        rw[if_pos rfl]
        · rw[hcells,spl_getD (by omega)]
          by_cases hj2:off≤j∧j<off+x.cells.length
          · rw[if_pos hj2,if_pos (by omega)]
            refine⟨hone _ (by omega),?_⟩
            rw[show(ρ id).off+k*sz+j - ((ρ id).off+k*sz+off)=j - off by omega]
            exact hm (hu.cells.2 _ (by omega))
          · rw[if_neg hj2,if_neg (by omega)]
            have:=h6 k j hk hj
            rw[he] at this
            exact⟨this.1,hm this.2⟩
      · rw[if_neg hki]
        have hout:¬ ((ρ id).off+i*sz+off≤(ρ id).off+k*sz+j∧(ρ id).off+k*sz+j<(ρ id).off+i*sz+off+T.size):=by
          intro⟨g1,g2⟩
          rcases Nat.lt_or_gt_of_ne hki with g|g
          · have:=Nat.mul_le_mul_right sz (show k+1≤i by omega)
            rw[Nat.add_mul] at this
            omega
          · have:=Nat.mul_le_mul_right sz (show i+1≤k by omega)
            rw[Nat.add_mul] at this
            omega
        rw[if_neg hout]
        exact⟨(h6 k j hk hj).1,hm (h6 k j hk hj).2⟩
  · cases hx
end Go.Am

namespace Go.Am
variable {P:Program} {E:En} {ρ:Nat→Ref} {V:Nat→Prop} {Z:Nat→Nat→Prop} {σ:St} {a:Act} {w:World}
def Cells (ρ:Nat→Ref) (V:Nat→Prop) (Z:Nat→Nat→Prop) (w:World) (cs:Array Value) (off sz:Nat) (l:List AV):Prop:=
 (∀ i,i<l.length→(l.getD i default).cells.length=sz)∧
 ∀ i j,i<l.length→j<sz→((l.getD i default).cells.getD j default).one=true∧Rel ρ V Z w (cs.getD (off+i*sz+j) undef) ((l.getD i default).cells.getD j default)
theorem Rel.sl_inv {v : Value} {l : List AV} (h : Rel ρ V Z w v (.sl l)) : ∃ a cap, v = .slice a l.length cap ∧ l.length ≤ cap ∧
    (l=[]∨∃ (b o sz:Nat) (cs:Nat→Nat→Value),a=some ⟨b,o,none⟩∧(∀ i,i<l.length→(l.getD i default).cells.length=sz)∧
      (∀ i j,i<l.length→j<sz→w.cell? ⟨b,o+i*sz+j,none⟩=some (cs i j)∧Z b (o+i*sz+j)∧((l.getD i default).cells.getD j default).one=true∧((l.getD i default).cells.getD j default).clo=true)∧
      (∀ i j,i<l.length→j<sz→Rel ρ V Z w (cs i j) ((l.getD i default).cells.getD j default))):=by
  generalize hx:AV.sl l=x at h
  cases h<;>cases hx
  · exact⟨_,_,rfl,Nat.zero_le _,.inl rfl⟩
  · rename_i b o cap sz cs h0 h1 h2 h3
    exact⟨_,_,rfl,h0,.inr ⟨b,o,sz,cs,rfl,h1,h2,h3⟩⟩
theorem Rel.rw_inv {v:Value} {id:Nat} (h:Rel ρ V Z w v (.rw id)):v=(ρ id).slice∧V id:=by
 generalize hx:AV.rw id=x at h
 cases h<;>cases hx
 exact⟨rfl, ‹_›⟩
theorem Rel.int_inv {v:Value} {k:IntKind} {n:Int} (h:Rel ρ V Z w v (.int k n)):v= .int k n:=by
 generalize hx:AV.int k n=x at h
 cases h<;>cases hx
 rfl
theorem Rel.nilsl_inv {v:Value} (h:Rel ρ V Z w v .nilsl):v= .slice none 0 0:=by
 generalize hx:AV.nilsl=x at h
 cases h<;>cases hx
 rfl
theorem div_mod_idx {i j sz:Nat} (hj:j<sz):(i*sz+j) / sz=i∧(i*sz+j) % sz=j:=by
 have hs:0<sz:=by omega
 constructor
 ·rw[Nat.mul_comm,Nat.mul_add_div hs,Nat.div_eq_of_lt hj,Nat.add_zero]
 ·rw[Nat.mul_comm,Nat.mul_add_mod,Nat.mod_eq_of_lt hj]
theorem SzOk.getD {l:List AV} {n:Nat} (h:SzOk l n) {i:Nat} (hi:i<l.length):(l.getD i default).cells.length=n:=by
 have:l.getD i default=l[i]:=by simp[List.getD_eq_getElem?_getD,hi]
 rw[this]
 exact h _ (List.getElem_mem hi)
theorem sl_cells {l : List AV} {b o sz : Nat} {cs : Nat → Nat → Value} (h1 : ∀ i, i < l.length → (l.getD i default).cells.length = sz)
    (h2:∀ i j,i<l.length→j<sz→w.cell? ⟨b,o+i*sz+j,none⟩=some (cs i j)∧Z b (o+i*sz+j)∧((l.getD i default).cells.getD j default).one=true∧((l.getD i default).cells.getD j default).clo=true)
    (h3:∀ i j,i<l.length→j<sz→Rel ρ V Z w (cs i j) ((l.getD i default).cells.getD j default)):
    ∃ nc,(loadCells ⟨b,o,none⟩ (l.length*sz)).run P w= .ok nc w∧nc.size=l.length*sz∧Cells ρ V Z w nc 0 sz l:=by
  refine⟨((List.range (l.length*sz)).map fun k=>cs (k / sz) (k % sz)).toArray,?_,by simp,h1,?_⟩
  · refine loadCells_run (fun k=>cs (k / sz) (k % sz)) (fun k hk=>?_)
    have hs:0<sz:=by
      rcases Nat.eq_zero_or_pos sz with h|h
      · subst h;simp at hk
      · exact h
    have hi:k / sz<l.length:=by rw[Nat.div_lt_iff_lt_mul hs];exact hk
    have:=(h2 (k / sz) (k % sz) hi (Nat.mod_lt _ hs)).1
    rw[show o+k / sz*sz+k % sz=o+k by rw[Nat.add_assoc,Nat.mul_comm,Nat.div_add_mod]] at this
    exact this
  · intro i j hi hj
    refine⟨(h2 i j hi hj).2.2.1,?_⟩
    rw[Nat.zero_add,getD_range_map _ (row_idx hi hj)]
    have:=div_mod_idx (i:=i) hj
    simp only[this.1,this.2]
    exact h3 i j hi hj
theorem row_cells {l : List AV} {b sz ro : Nat} {cs : Array Value} {ty : TypeId} (h1 : w.heap[b]? = some (.cells cs ty (0, 0))) (h4 : ro + l.length * sz ≤ cs.size) (h : Cells ρ V Z w cs ro sz l) :
    ∃ nc,(loadCells ⟨b,ro,none⟩ (l.length*sz)).run P w= .ok nc w∧nc.size=l.length*sz∧Cells ρ V Z w nc 0 sz l:=by
  refine⟨((List.range (l.length*sz)).map fun k=>cs.getD (ro+k) undef).toArray,?_,by simp,h.1,?_⟩
  · refine loadCells_run (fun k=>cs.getD (ro+k) undef) (fun k hk=>?_)
    have:ro+k<cs.size:=by omega
    simp[World.cell?,h1,Array.getD,this]
  · intro i j hi hj
    refine⟨(h.2 i j hi hj).1,?_⟩
    rw[Nat.zero_add,getD_range_map _ (row_idx hi hj)]
    simpa [Nat.add_assoc] using (h.2 i j hi hj).2
theorem ObjRel.row_cells' {id sz : Nat} {l : List AV} (h : ObjRel ρ V Z w id (.row sz l)) : ((ρ id).nil = true ∧ l = []) ∨
    ((ρ id).nil=false∧∃ cs ty,w.heap[(ρ id).blk]? =some (.cells cs ty (0,0))∧(ρ id).len=l.length∧l.length≤(ρ id).cap∧(ρ id).off+(ρ id).cap*sz≤cs.size∧Cells ρ V Z w cs (ρ id).off sz l):=by
  rcases h with h|⟨h0,cs,ty,h1,h2,h3,h4,h5,h6⟩
  · exact .inl h
  · exact .inr ⟨h0,cs,ty,h1,h2,h3,h4,h5,fun i j hi hj=>h6 i j hi hj⟩
theorem ObjRel.of_cells {id sz : Nat} {l : List AV} (h0 : (ρ id).nil = false) {cs : Array Value} {ty : TypeId} (h1 : w.heap[(ρ id).blk]? = some (.cells cs ty (0, 0))) (h2 : (ρ id).len = l.length) (h3 : l.length ≤ (ρ id).cap)
    (h4:(ρ id).off+(ρ id).cap*sz≤cs.size) (h:Cells ρ V Z w cs (ρ id).off sz l):ObjRel ρ V Z w id (.row sz l):=
  .inr ⟨h0,cs,ty,h1,h2,h3,h4,h.1,fun i j hi hj=>h.2 i j hi hj⟩
theorem ObjRel.of_cells0 {id sz : Nat} {l : List AV} (h0 : (ρ id).nil = false) {cs : Array Value} {ty : TypeId} (h1 : w.heap[(ρ id).blk]? = some (.cells cs ty (0, 0))) (h2 : (ρ id).len = l.length) (h3 : l.length ≤ (ρ id).cap)
    (h4:cs.size=(ρ id).cap*sz) (h:Cells ρ V Z w cs 0 sz l) (ho:(ρ id).off=0:=by simp):ObjRel ρ V Z w id (.row sz l):=
  .of_cells h0 h1 h2 h3 (by rw[ho,Nat.zero_add];exact Nat.le_of_eq h4.symm) (by rw[ho];exact h)
theorem Cells.mono {ρ' : Nat → Ref} {V' : Nat → Prop} {Z' : Nat → Nat → Prop} {w' : World} {cs : Array Value} {off sz : Nat} {l : List AV} (h : Cells ρ V Z w cs off sz l)
    (hm:∀ v x,Rel ρ V Z w v x→Rel ρ' V' Z' w' v x):Cells ρ' V' Z' w' cs off sz l:=
  ⟨h.1,fun i j hi hj=>⟨(h.2 i j hi hj).1,hm _ _ (h.2 i j hi hj).2⟩⟩
theorem Cells.appendO {c1 c2 : Array Value} {off1 off2 sz : Nat} {l1 l2 : List AV} (ro : Nat) (h1 : Cells ρ V Z w c1 off1 sz l1) (h2 : Cells ρ V Z w c2 off2 sz l2) {c : Array Value}
    (e1:∀ k,k<l1.length*sz→c.getD (ro+k) undef=c1.getD (off1+k) undef) (e2:∀ k,k<l2.length*sz→c.getD (ro+(l1.length*sz+k)) undef=c2.getD (off2+k) undef):
    Cells ρ V Z w c ro sz (l1++l2):=by
  have g1:∀ i,i<l1.length→(l1++l2).getD i default=l1.getD i default:=fun i hi=>by simp[List.getD_eq_getElem?_getD,List.getElem?_append_left hi]
  have g2:∀ i,l1.length≤i→(l1++l2).getD i default=l2.getD (i - l1.length) default:=fun i hi=>by simp[List.getD_eq_getElem?_getD,List.getElem?_append_right hi]
  constructor
  · intro i hi
    simp only[List.length_append] at hi
    by_cases h:i<l1.length
    · rw[g1 i h];exact h1.1 i h
    · rw[g2 i (by omega)];exact h2.1 _ (by omega)
  · intro i j hi hj
    simp only[List.length_append] at hi
    by_cases h:i<l1.length
    · rw[g1 i h,Nat.add_assoc,e1 _ (row_idx h hj), ← Nat.add_assoc];exact h1.2 i j h hj
    · rw[g2 i (by omega)]
      have:=h2.2 (i - l1.length) j (by omega) hj
      rw[show ro+i*sz+j=ro+(l1.length*sz+((i - l1.length)*sz+j)) by
        have:i=l1.length+(i - l1.length):=by omega
        conv=>lhs;rw[this,Nat.add_mul]
        omega,e2 _ (row_idx (by omega) hj), ← Nat.add_assoc]
      exact this
theorem Cells.append {c1 c2 : Array Value} {off1 off2 sz : Nat} {l1 l2 : List AV} (h1 : Cells ρ V Z w c1 off1 sz l1) (h2 : Cells ρ V Z w c2 off2 sz l2) {c : Array Value}
    (e1:∀ k,k<l1.length*sz→c.getD k undef=c1.getD (off1+k) undef) (e2:∀ k,k<l2.length*sz→c.getD (l1.length*sz+k) undef=c2.getD (off2+k) undef):
    Cells ρ V Z w c 0 sz (l1++l2):=Cells.appendO 0 h1 h2 (fun k hk=>by rw[Nat.zero_add];exact e1 k hk) (fun k hk=>by rw[Nat.zero_add];exact e2 k hk)
theorem mkElem_cells {T:TI} {zs:List AV} {z:Value} (hz:z.cells.toList.mapM avOf1=some zs) (hl:zs.length=T.size) (hk:T.k.isAgg=true∨T.size=1):(mkElem T zs).cells=zs:=by
 unfold mkElem
 split
 ·rfl
 ·rename_i h
  rcases hk with hk|hk
  ·exact absurd hk h
  ·obtain⟨y,hy⟩:=List.length_eq_one_iff.1 (hl.trans hk)
   subst hy
   have:=(cells_avOf1 (ρ:=fun _=>⟨0,0,0,false,0⟩) (V:=fun _=>True) (Z:=fun _ _=>True) (w:=default) hz).2 0 (by simp)
   exact AV.cells_one fun l hl=>by
    have h1:=this.1
    simp only[List.getD_cons_zero] at h1 hl
    rw[hl] at h1;cases h1
theorem zero_cells {T : TI} {zs : List AV} {z : Value} (hz : z.cells.toList.mapM avOf1 = some zs) (hl : zs.length = T.size) (hk : T.k.isAgg = true ∨ T.size = 1) (n : Nat) (c : Array Value)
    (hc:∀ k,k<n*T.size→c.getD k undef=z.cells.getD (k % T.size) undef):Cells ρ V Z w c 0 T.size (List.replicate n (mkElem T zs)):=by
  have h1:=cells_avOf1 (ρ:=ρ) (V:=V) (Z:=Z) (w:=w) hz
  have g:∀ i,i<n→(List.replicate n (mkElem T zs)).getD i default=mkElem T zs:=fun i hi=>by simp[List.getD_eq_getElem?_getD,hi]
  constructor
  · intro i hi
    simp only[List.length_replicate] at hi
    rw[g i hi,mkElem_cells hz hl hk,hl]
  · intro i j hi hj
    simp only[List.length_replicate] at hi
    rw[g i hi,mkElem_cells hz hl hk,Nat.zero_add,hc _ (row_idx hi hj),(div_mod_idx hj).2]
    exact h1.2 j (by omega)
theorem getD_zeroCells (z:Array Value) (n k:Nat) (hk:k<n*z.size):(Builtin.zeroCells z n).getD k undef=z.getD (k % z.size) undef:=by
 have hs:0<z.size:=by
  rcases Nat.eq_zero_or_pos z.size with h|h
  ·rw[h] at hk;simp at hk
  ·exact h
 have hm:k % z.size<z.size:=Nat.mod_lt _ hs
 simp[Builtin.zeroCells,Array.getD,hk,hm]
theorem growBy_le (n:Nat):∀ r c,Builtin.growBy n r c≤max c (n+(n+768) / 4)
 |0,c=>by simp[Builtin.growBy];omega
 |r+1,c=>by
  simp only[Builtin.growBy]
  split
  ·omega
  ·have:=growBy_le n r (c+(c+768) / 4)
   omega
theorem nextcap_le {need cap:Nat} (h:cap<need):Builtin.nextslicecap need cap≤2*need+1024:=by
 unfold Builtin.nextslicecap
 split
 ·omega
 ·split
  ·omega
  ·have:=growBy_le need 4 cap
   omega
theorem src_run (h : Sat E ρ V Z σ a w) {Te : TI} {e ts tx : TypeId} (hTe : ti P e = some Te) {x : AV} {v : Value} {ox : Option AObj} {ob : Prop} {xs : List AV} (hs : srcA P Te tx x ox = some (ob, xs)) (hob : ob)
    (hx:Rel ρ V Z w v x) (hox:∀ o,ox=some o→∀ id,x.id? =some id→σ.hp id=some o) {zs:List AV} (hz:Te.zero=some zs) (hzl:zs.length=Te.size) (hb:xs.length*Te.bytes≤2 ^ 48) (hn:xs.length≤2 ^ 46):
    ∃ u,(underlying tx).run P w= .ok u w∧
      ((match u with| .int _=>true|_=>false)=true→∃ k,v= .int k xs.length)∧
      ((match u with| .int _=>true|_=>false)=false→(Builtin.lenOf v).run P w= .ok xs.length w∧∃ nc,(Builtin.firstCells Te.size xs.length v).run P w= .ok nc w∧nc.size=xs.length*Te.size∧Cells ρ V Z w nc 0 Te.size xs)∧
      ((match u with| .int _=>true|_=>false)=true→∀ z:Value,z.cells.toList.mapM avOf1=some zs→∀ nc:Array Value,nc.size=xs.length*Te.size→(∀ k,k<xs.length*Te.size→nc.getD k undef=z.cells.getD (k % Te.size) undef)→Cells ρ V Z w nc 0 Te.size xs):=by
  unfold srcA at hs
  cases hTx:ti P tx with
  |none=>rw[hTx] at hs;cases hs
  |some Tx=>
    rw[hTx] at hs
    simp only at hs
    obtain⟨u,hu1,hu2⟩:=run_underlying (w:=w) hTx
    refine⟨u,hu1,?_⟩
    generalize Tx.k=kk at hs hu2
    unfold srcB at hs
    split at hs
    · rename_i k1 k2 n
      rw[tk_int hu2]
      rw[hz] at hs
      simp only at hs
      split at hs
      · rename_i hcond
        cases hs
        rw[hx.int_inv]
        have hlen:((List.replicate n.toNat (mkElem Te zs)).length:Int)=n:=by simp;omega
        refine⟨fun _=>⟨k2,by rw[hlen]⟩,fun hc=>by simp at hc,fun _ z hz' nc hnc hcs=>zero_cells hz' hzl hcond.2 _ _ (by simpa using hcs)⟩
      · cases hs
    · rw[tk_slice hu2]
      cases hs
      rw[hx.nilsl_inv]
      refine⟨fun hc=>by simp at hc,fun _=>⟨by simp[Builtin.lenOf], #[],by simp[Builtin.firstCells],by simp,fun i hi=>absurd hi (Nat.not_lt_zero _),fun i j hi=>absurd hi (Nat.not_lt_zero _)⟩,fun hc=>by simp at hc⟩
    · rename_i xs'
      rw[tk_slice hu2]
      cases hs
      refine⟨fun hc=>by simp at hc,fun _=>?_,fun hc=>by simp at hc⟩
      obtain⟨a',cap,rfl,hcap,h1⟩:=hx.sl_inv
      refine⟨by simp[Builtin.lenOf],?_⟩
      rcases h1 with rfl|⟨b,o,sz,cs,rfl,h1,h2,h3⟩
      · refine⟨#[],?_,by simp,fun i hi=>absurd hi (Nat.not_lt_zero _),fun i j hi=>absurd hi (Nat.not_lt_zero _)⟩
        cases a'<;>simp[Builtin.firstCells,loadCells,loadCellsFrom]
      · by_cases hnil:xs=[]
        · subst hnil
          exact⟨#[],by simp[Builtin.firstCells,loadCells,loadCellsFrom],by simp,fun i hi=>absurd hi (Nat.not_lt_zero _),fun i j hi=>absurd hi (Nat.not_lt_zero _)⟩
        · have hpos:0<xs.length:=List.length_pos_iff.2 hnil
          have hsz:sz=Te.size:=(h1 0 hpos).symm.trans (hob.getD hpos)
          subst hsz
          obtain⟨nc,g1,g2,g3⟩:=sl_cells (P:=P) h1 h2 h3
          exact⟨nc,by simpa [Builtin.firstCells] using g1,g2,g3⟩
    · rename_i id sz xs'
      rw[tk_slice hu2]
      split at hs
      · rename_i hsz
        subst hsz
        cases hs
        refine⟨fun hc=>by simp at hc,fun _=>?_,fun hc=>by simp at hc⟩
        have hobj:=(h.hs.obj id _ (hox _ rfl id rfl)).2
        obtain⟨rfl,hV⟩:=hx.rw_inv
        unfold Ref.slice
        rcases hobj.row_cells' with ⟨h0,rfl⟩|⟨h0,cs,ty,h1,h2,h3,h4,h5⟩
        · rw[if_pos h0]
          exact⟨by simp[Builtin.lenOf], #[],by simp[Builtin.firstCells],by simp,fun i hi=>absurd hi (Nat.not_lt_zero _),fun i j hi=>absurd hi (Nat.not_lt_zero _)⟩
        · rw[if_neg (by simp[h0])]
          refine⟨by simp[Builtin.lenOf,h2],?_⟩
          obtain⟨nc,g1,g2,g3⟩:=row_cells (P:=P) h1 (Nat.le_trans (Nat.add_le_add_left (Nat.mul_le_mul_right _ h3) _) h4) h5
          exact⟨nc,by simpa [Builtin.firstCells] using g1,g2,g3⟩
      · cases hs
    · cases hs
end Go.Am

namespace Go.Am
variable {P:Program} {E:En} {ρ:Nat→Ref} {V:Nat→Prop} {Z:Nat→Nat→Prop} {σ:St} {a:Act} {w:World}
def NewCells (P:Program) (w:World) (e tx:TypeId) (size n:Nat) (v:Value) (nc:Array Value):Prop:=
  ∃ u,(underlying tx).run P w= .ok u w∧
    (((match u with| .int _=>true|_=>false)=true∧(∃ k,v= .int k n)∧∃ z,(zeroValue e).run P w= .ok z w∧z.cells.size=size∧nc=if n*size=0 then #[] else Builtin.zeroCells z.cells n)∨
     ((match u with| .int _=>true|_=>false)=false∧(Builtin.lenOf v).run P w= .ok n w∧(Builtin.firstCells size n v).run P w= .ok nc w))∧nc.size=n*size
theorem src_new (h : Sat E ρ V Z σ a w) {Te : TI} {e tx : TypeId} (hTe : ti P e = some Te) {x : AV} {v : Value} {ox : Option AObj} {ob : Prop} {xs : List AV} (hs : srcA P Te tx x ox = some (ob, xs)) (hob : ob)
    (hx:Rel ρ V Z w v x) (hox:∀ o,ox=some o→∀ id,x.id? =some id→σ.hp id=some o) {zs:List AV} (hz:Te.zero=some zs) (hzl:zs.length=Te.size) (hb:xs.length*Te.bytes≤2 ^ 48) (hn:xs.length≤2 ^ 46):
    ∃ nc,NewCells P w e tx Te.size xs.length v nc∧Cells ρ V Z w nc 0 Te.size xs:=by
  obtain⟨u,h1,h2,h3,h4⟩:=src_run (ts:=tx) h hTe hs hob hx hox hz hzl hb hn
  obtain⟨z,hz1,hz2⟩:=run_zero (w:=w) hTe hz
  have hzs:z.cells.size=Te.size:=by
    have:=(mapM_avOf1 _ _ hz2).1
    simp at this
    omega
  cases hc:(match u with| .int _=>true|_=>false) with
  |false=>
    obtain⟨g1,nc,g2,g3,g4⟩:=h3 hc
    exact⟨nc,⟨u,h1,.inr ⟨hc,g1,g2⟩,g3⟩,g4⟩
  |true=>
    have hsz:(if xs.length*Te.size=0 then #[] else Builtin.zeroCells z.cells xs.length).size=xs.length*Te.size:=by
      split
      · rename_i h0;rw[h0];rfl
      · simp[Builtin.zeroCells,hzs]
    refine⟨if xs.length*Te.size=0 then #[] else Builtin.zeroCells z.cells xs.length,⟨u,h1,.inl ⟨hc,h2 hc,z,hz1,hzs,rfl⟩,hsz⟩,h4 hc z hz2 _ hsz fun k hk=>?_⟩
    rw[if_neg (by omega)]
    have:=getD_zeroCells z.cells xs.length k (by rw[hzs];exact hk)
    rw[this,hzs]
theorem append_fits {ts tx e : TypeId} {Ts Te : TI} (hTs : ti P ts = some Ts) (hk : Ts.k = .slice e) (hTe : ti P e = some Te) {base : Option Addr} {n m cap : Nat} {v : Value} {nc : Array Value} {ty : TypeId}
    (hnew:NewCells P w e tx Te.size m v nc) (hfit:n+m≤cap) (hb:m*Te.bytes≤2 ^ 48) (hm:m≤2 ^ 46) {w':World}
    (hst:match base with|some b=>(storeCells (b.add (n*Te.size)) nc.toList).run P w= .ok () w'|none=>w'=w):
    (Builtin.append_ #[ts,tx] ty #[.slice base n cap,v]).run P w= .ok (.slice base (n+m) cap) w':=by
  obtain⟨u,hu,hcase,hsz⟩:=hnew
  obtain⟨i,hi1,hi2,hi3,_⟩:=run_typeInfo (w:=w) hTe
  have hus:(underlying ts).run P w= .ok (.slice e) w:=run_underlying_slice hTs hk
  rcases hcase with ⟨hz,⟨k,rfl⟩,z,hz1,hz2,hnc⟩|⟨hz,hl,hf⟩
  · have hw:IntKind.i64.wrap (m:Int)=m:=IntWalk.i64_in _ (by omega)
    have hb2:¬ ((m:Int)*(i.bytes:Int)>2 ^ 48):=by
      rw[hi3]
      have:((m*Te.bytes:Nat):Int)≤2 ^ 48:=by exact_mod_cast hb
      push_cast at this
      omega
    have hneg:¬ ((m:Int)<0):=by omega
    obtain⟨kk,rfl⟩:∃ kk,u= .int kk:=by cases u<;>first|exact⟨_,rfl⟩|cases hz
    unfold Builtin.append_
    simp only[Sem.run_bind,hus,Result.andThen_ok,run_sizeOf hTe,hu,Sem.run_pure,asInt,asIntOf,hw,hneg,if_false,hi1,hb2,Sem.run_ite,Int.toNat_natCast,
      List.getElem?_toArray,List.getElem?_cons_zero,List.getElem?_cons_succ,hfit,if_true,Result.andThen_ok,Sem.run_bind,Sem.run_pure,hw,hneg,if_false,hi1,hb2,Sem.run_ite,Int.toNat_natCast,hfit,Bool.not_true,Bool.false_eq_true]
    subst hnc
    by_cases h0:m*Te.size=0
    · simp only[h0,if_true,Result.andThen_ok] at hst ⊢
      cases base with
      |none=>simp only at hst ⊢;subst hst;simp
      |some b=>simp only at hst ⊢;simp[hst]
    · simp only[h0,if_false,Result.andThen_ok,hz1,Sem.run_bind,Sem.run_pure] at hst ⊢
      cases base with
      |none=>simp only at hst ⊢;subst hst;simp
      |some b=>simp only at hst ⊢;simp[hst]
  · cases u
    case int=>cases hz
    all_goals
      unfold Builtin.append_
      simp only[Sem.run_bind,hus,Result.andThen_ok,run_sizeOf hTe,hu,Sem.run_pure,
        List.getElem?_toArray,List.getElem?_cons_zero,List.getElem?_cons_succ,
        Result.andThen_ok,Sem.run_bind,Sem.run_pure,if_false,Sem.run_ite,hl,hf,hfit,if_true,Bool.not_false,Bool.false_eq_true]
      cases base with
      |none=>simp only at hst ⊢;subst hst;simp
      |some b=>simp only at hst ⊢;simp[hst]
theorem NewCells.heap {e tx : TypeId} {size n : Nat} {v : Value} {nc : Array Value} (h : NewCells P w e tx size n v nc) : ∃ u, (∀ w', (underlying tx).run P w' = .ok u w') ∧
    (((match u with| .int _=>true|_=>false)=true∧(∃ k,v= .int k n))∨((match u with| .int _=>true|_=>false)=false∧∀ w',(Builtin.lenOf v).run P w'= .ok n w')):=by
  obtain⟨u,hu,hcase,hsz⟩:=h
  refine⟨u,?_,?_⟩
  · intro w'
    unfold underlying at hu ⊢
    simp only[Sem.run_bind,run_program,Result.andThen_ok] at hu ⊢
    cases hp:P.underlying tx with
    |none=>simp[hp] at hu
    |some d=>simp only[hp,Sem.run_pure] at hu ⊢;cases hu;rfl
  · rcases hcase with ⟨hz,hk,_⟩|⟨hz,hl,_⟩
    · exact .inl ⟨hz,hk⟩
    · refine .inr ⟨hz,fun w'=>?_⟩
      cases v<;>simp[Builtin.lenOf] at hl ⊢ <;>first|exact hl|exact hl.1
theorem append_grows {ts tx e : TypeId} {Ts Te : TI} (hTs : ti P ts = some Ts) (hk : Ts.k = .slice e) (hTe : ti P e = some Te) {zs : List AV} (hz0 : Te.zero = some zs) {base : Option Addr} {n m cap : Nat} {v : Value} {oc nc : Array Value} {ty : TypeId}
    (hnew:NewCells P w.drew e tx Te.size m v nc) (hgrow:cap<n+m) (hb:(2*(n+m)+1024)*Te.bytes≤2 ^ 48) (hm:n+m≤2 ^ 46)
    (hold:(Builtin.firstCells Te.size n (.slice base n cap)).run P w.drew= .ok oc w.drew):
    ∃ (newCap:Nat) (rest:Array Value),n+m≤newCap∧rest.size=(newCap - (n+m))*zs.length∧
    (Builtin.append_ #[ts,tx] ty #[.slice base n cap,v]).run P w= .ok (.slice (some ⟨w.heap.size,0,none⟩) (n+m) newCap) { w.drew with heap:=w.heap.push (.cells (oc++nc++rest) e) } :=by
  obtain⟨u,hu,hcase,hsz⟩:=hnew
  obtain⟨u',hu',hcase'⟩:=NewCells.heap (P:=P) (w:=w.drew) ⟨u,hu,hcase,hsz⟩
  obtain⟨i,hi1,hi2,hi3,_⟩:=run_typeInfo (w:=w) hTe
  obtain⟨i',hi1',hi2',hi3',_⟩:=run_typeInfo (w:=w.drew) hTe
  obtain⟨zz,hzz1,hzz2⟩:=run_zero (w:=w.drew) hTe hz0
  have hzzs:zz.cells.size=zs.length:=by have:=(mapM_avOf1 _ _ hzz2).1;simpa using this
  have hus:(underlying ts).run P w= .ok (.slice e) w:=run_underlying_slice hTs hk
  have huu:u'=u:=by have:=hu' w.drew;rw[hu] at this;cases this;rfl
  subst huu
  have huw:=hu' w
  have hnf:¬ (n+m≤cap):=by omega
  have hmb:m*Te.bytes≤2 ^ 48:=Nat.le_trans (Nat.mul_le_mul_right _ (by omega)) hb
  have hi64:¬ (((n+m:Nat):Int)>IntKind.i64.max):=by
    have:IntKind.i64.max=9223372036854775807:=by decide
    rw[this];omega
  have hcapb:¬ (Builtin.nextslicecap (n+m) cap*i.bytes>2 ^ 48):=by
    rw[hi3]
    have h1:=Nat.mul_le_mul_right Te.bytes (nextcap_le hgrow)
    omega
  refine⟨(Question.appendCap (n+m) cap e).cut (w.tape w.drawn (.appendCap (n+m) cap e)),Builtin.zeroCells zz.cells ((Question.appendCap (n+m) cap e).cut (w.tape w.drawn (.appendCap (n+m) cap e)) - (n+m)),by simp[Question.cut],by simp[Builtin.zeroCells,hzzs],?_⟩
  have hdrew:({ w with drawn:=w.drawn+1 } :World)=w.drew:=rfl
  rcases hcase with ⟨hz,⟨k,rfl⟩,z,hz1,hz2,hnc⟩|⟨hz,hl,hf⟩
  · have hw:IntKind.i64.wrap (m:Int)=m:=IntWalk.i64_in _ (by omega)
    have hb2:¬ ((m:Int)*(i.bytes:Int)>2 ^ 48):=by
      rw[hi3]
      have:((m*Te.bytes:Nat):Int)≤2 ^ 48:=by exact_mod_cast hmb
      push_cast at this
      omega
    have hneg:¬ ((m:Int)<0):=by omega
    obtain rfl:zz=z:=by rw[hz1] at hzz1;cases hzz1;rfl
    obtain⟨kk,rfl⟩:∃ kk,u'= .int kk:=by cases u'<;>first|exact⟨_,rfl⟩|cases hz
    unfold Builtin.append_
    simp only[Sem.run_bind,hus,Result.andThen_ok,run_sizeOf hTe,huw,Sem.run_pure,asInt,asIntOf,hw,hneg,if_false,hi1,hb2,Sem.run_ite,Int.toNat_natCast,
      List.getElem?_toArray,List.getElem?_cons_zero,List.getElem?_cons_succ,hnf,if_true,Result.andThen_ok,Sem.run_bind,Sem.run_pure,hw,hneg,if_false,hi1,hb2,Sem.run_ite,Int.toNat_natCast,hnf,hi64,false_and,hcapb,Bool.not_true,Bool.false_eq_true,
      run_choose,Question.forced,run_askRoom,hdrew,hold,hi1',hzz1]
    subst hnc
    by_cases h0:m*Te.size=0
    · simp[h0,newRow,hzz1];rfl
    · simp[h0,newRow,hz1,hzz1];rfl
  · have hlw : (Builtin.lenOf v).run P w = .ok m w := by
      rcases hcase' with ⟨h1,_⟩|⟨_,h2⟩
      · rw[hz] at h1;cases h1
      · exact h2 w
    cases u'
    case int=>cases hz
    all_goals
      unfold Builtin.append_
      simp only[Sem.run_bind,hus,Result.andThen_ok,run_sizeOf hTe,huw,Sem.run_pure,
        List.getElem?_toArray,List.getElem?_cons_zero,List.getElem?_cons_succ,
        Result.andThen_ok,Sem.run_bind,Sem.run_pure,if_false,Sem.run_ite,hlw,hnf,hi1,hi64,false_and,hcapb,Bool.not_false,Bool.false_eq_true,if_true,
        run_choose,Question.forced,run_askRoom,hdrew,hold,hi1',hzz1,hf]
      simp[newRow]
      rfl
end Go.Am

namespace Go.Am
variable {P:Program} {E:En} {ρ:Nat→Ref} {V:Nat→Prop} {Z:Nat→Nat→Prop} {σ:St} {a:Act} {w:World}
def nilRef:Ref:=⟨0,0,0,true,0⟩
theorem Sat.newnil (h : Sat E ρ V Z σ a w) {d : Option Tmp} (hd : ∀ n, d = some n → n < E.nt) {id : Nat} (hid : ¬ V id) (sz : Nat) :
    Sat E (fun i=>if i=id then nilRef else ρ i) (fun i=>V i∨i=id) Z (({ σ with hp:=updo σ.hp id (some (.row sz [])) } :St).put d (.rw id)) (a.put d (.slice none 0 0)) w:=by
  have hne:∀ i,V i→i≠id:=fun i hi e=>hid (e▸hi)
  refine h.step (fun _=>False) hd (fun i hi=>if_neg (hne i hi)) (fun _ h=> .inl h) (fun _ _ h=>h) (fun _ h=>h.elim) (fun _ _ _=>rfl) (Nat.le_refl _) rfl rfl ?_ ?_ ?_ (fun b o hz=> .inl hz) ?_
  · intro b hb c t f hcf
    rcases hb with hb|hb
    · rw[Array.getElem?_eq_none hb] at hcf;cases hcf
    · exact hb.elim
  · intro i o' ho
    by_cases e:i=id
    · subst e
      simp only[updo,if_true] at ho
      cases ho
      refine .inr ⟨.inr rfl,.inl ⟨by simp[nilRef],rfl⟩,fun b hb=>?_⟩
      simp only[if_true] at hb
      exact absurd hb.1 (by simp[nilRef])
    · simp only[updo,if_neg e] at ho
      exact .inl ⟨ho,fun _ _ h=>h⟩
  · intro i i' o1 o2 b ho ho' hb hb' hb2
    exfalso
    rcases hb2 with hb2|hb2
    · exact hb2.elim
    · by_cases e:i=id
      · subst e;simp only[if_true] at hb;exact absurd hb.1 (by simp[nilRef])
      · simp only[updo,if_neg e] at ho
        simp only[if_neg e] at hb
        exact absurd ((h.hs.obj _ _ ho).2.lt b hb) (Nat.not_lt.2 hb2)
  · have:=Rel.rw (ρ:=fun i=>if i=id then nilRef else ρ i) (V:=fun i=>V i∨i=id) (Z:=Z) (w:=w) id (.inr rfl)
    simpa [Ref.slice,nilRef] using this
theorem cells_push {x:Obj} (h:Sat E ρ V Z σ a w):∀ b o,Z b o→({ w.drew with heap:=w.heap.push x } :World).cell? ⟨b,o,none⟩=w.cell? ⟨b,o,none⟩:=by
 intro b o hz
 refine cell?_of_heap ?_
 show(w.heap.push _)[b]? =_
 have:=h.hs.lt b o hz
 rw[Array.getElem?_push,if_neg (by omega)]
theorem grown_cells {sz newCap : Nat} {l xs : List AV} {oc nc rest : Array Value} (h1 : Cells ρ V Z w oc 0 sz l) (h2 : Cells ρ V Z w nc 0 sz xs) (e1 : oc.size = l.length * sz) (e2 : nc.size = xs.length * sz) :
    Cells ρ V Z w (oc++nc++rest) 0 sz (l++xs):=by
  refine Cells.append h1 h2 (fun k hk=>?_) (fun k hk=>?_)
  · rw[Nat.zero_add]
    simp only[Array.getD_eq_getD_getElem?]
    rw[Array.append_assoc,Array.getElem?_append_left (by omega)]
  · rw[Nat.zero_add]
    simp only[Array.getD_eq_getD_getElem?]
    rw[Array.append_assoc,Array.getElem?_append_right (by omega),Array.getElem?_append_left (by omega),e1]
    congr 2
    omega
theorem ok_append_src (h : Sat E ρ V Z σ a w) {o : Oper} (hd : ∀ n, o.dst = some n → n < E.nt) {id : Nat} (hid : ¬ V id) {ts tx e ty : TypeId} {Ts Te : TI} (hTs : ti P ts = some Ts) (hk : Ts.k = .slice e) (hTe : ti P e = some Te)
    {zs:List AV} (hz:Te.zero=some zs) (hzl:zs.length=Te.size) {v u:Value} {l xs:List AV} {old:Nat} (hsrc:∀ w':World,w'=w∨w'=w.drew→∃ nc,NewCells P w' e tx Te.size xs.length v nc∧Cells ρ V Z w' nc 0 Te.size xs)
    (hu:Rel ρ V Z w u (.rw old)) (hold:σ.hp old=some (.row Te.size l))
    (hn:l.length+xs.length≤2 ^ 46) (hb:(2*(l.length+xs.length)+1024)*Te.bytes≤2 ^ 48)
    (hrun:execOp a.eval o=(do pure (Next.value (← Builtin.append_ #[ts,tx] ty #[u,v])))):OpOk P E o σ a w V Z id (.swap old (.row Te.size (l++xs)) .rw):=by
  obtain⟨hV,hobj⟩:=h.hs.obj _ _ hold
  obtain⟨rfl,_⟩:=hu.rw_inv
  have hne:∀ i,V i→i≠id:=fun i hi e=>hid (e▸hi)
  have hbx:xs.length*Te.bytes≤2 ^ 48:=Nat.le_trans (Nat.mul_le_mul_right _ (by omega)) hb
  have hmono:∀ (r:Ref) (w':World),(∀ b o,Z b o→w'.cell? ⟨b,o,none⟩=w.cell? ⟨b,o,none⟩)→∀ v x,Rel ρ V Z w v x→Rel (fun i=>if i=id then r else ρ i) (fun i=>V i∨i=id) Z w' v x:=
    fun r w' hc v x hr=>hr.mono (fun i hi=>if_neg (hne i hi)) (fun _ h=> .inl h) (fun _ _ h=>h) hc
  have hsw:∀ (r:Ref),r.nil=false→∀ (w':World),Rel (fun i=>if i=id then r else ρ i) (fun i=>V i∨i=id) Z w' (.slice (some ⟨r.blk,r.off,none⟩) r.len r.cap) (.rw id):=by
    intro r hr w'
    have:=Rel.rw (ρ:=fun i=>if i=id then r else ρ i) (V:=fun i=>V i∨i=id) (Z:=Z) (w:=w') id (.inr rfl)
    simpa [Ref.slice,hr] using this
  have grow : ∀ (base : Option Addr) (cap : Nat) (oc : Array Value), (ρ old).slice = .slice base l.length cap → cap < l.length + xs.length → (Builtin.firstCells Te.size l.length (.slice base l.length cap)).run P w.drew = .ok oc w.drew →
      oc.size=l.length*Te.size→Cells ρ V Z w oc 0 Te.size l→OpOk P E o σ a w V Z id (.swap old (.row Te.size (l++xs)) .rw):=by
    intro base cap oc hsl hlt hoc hocs hcl
    have hdr:=h.drew (w':=w.drew) rfl rfl rfl
    obtain⟨nc,hnew,hcx⟩:=hsrc _ (.inr rfl)
    obtain⟨newCap,rest,hge,hrs,hr⟩:=append_grows (w:=w) (ty:=ty) hTs hk hTe hz hnew hlt hb hn hoc
    have hcells:=cells_push (x:= .cells (oc++nc++rest) e) h
    rw[hsl] at hrun
    refine⟨_,_,_,fun i=>if i=id then⟨w.heap.size,l.length+xs.length,newCap,false,0⟩ else ρ i,fun i=>V i∨i=id,by rw[hrun,run_value hr],.inl rfl,fun _ h=> .inl h,fun _ h=>h,?_⟩
    refine h.swap (w':= { w.drew with heap:=w.heap.push (.cells (oc++nc++rest) e) }) (o:= .row Te.size (l++xs)) (x:= .rw id) hd hold ⟨w.heap.size,l.length+xs.length,newCap,false,0⟩ hid (fun b hb=> .inr (by have:=hb.2;simp at this;omega)) ?_ (by simp) rfl rfl ?_ ?_ ?_
    · intro b hb _
      show(w.heap.push _)[b]? =_
      rw[Array.getElem?_push,if_neg (by omega)]
    · intro b hb c t f hcf
      change (w.heap.push _)[b]? =_ at hcf
      rw[Array.getElem?_push] at hcf
      split at hcf
      · cases hcf;rfl
      · rename_i hb3
        rcases hb with hb|hb
        · rw[Array.getElem?_eq_none hb] at hcf;cases hcf
        · rcases hobj.row_cells' with ⟨h0,_⟩|⟨h0,cs,ty',h1,_⟩
          · exact absurd hb.1 (by simp[h0])
          · rw[← hb.2,h1] at hcf;cases hcf;rfl
    · refine ObjRel.of_cells0 (by simp) (cs:=oc++nc++rest) (ty:=e) (by simp) (by simp) (by simp;omega) ?_ ?_
      · have e2:nc.size=xs.length*Te.size:=by obtain⟨_,_,_,h⟩:=hnew;exact h
        have e3:newCap*Te.size=(l.length+xs.length)*Te.size+(newCap - (l.length+xs.length))*Te.size:=by rw[← Nat.add_mul];congr 1;omega
        simp only[Array.size_append,hocs,e2,hrs,hzl,if_true]
        rw[e3,Nat.add_mul]
      · have hcx':Cells ρ V Z w nc 0 Te.size xs:=hcx.mono (fun v x hr=>hr.mono (fun _ _=>rfl) (fun _ h=>h) (fun _ _ h=>h) (fun _ _ _=>rfl))
        have e2:nc.size=xs.length*Te.size:=by obtain⟨_,_,_,h⟩:=hnew;exact h
        exact(grown_cells (newCap:=newCap) hcl hcx' hocs e2).mono (hmono _ _ hcells)
    · exact hsw ⟨w.heap.size,l.length+xs.length,newCap,false,0⟩ rfl _
  obtain⟨nc,hnew,hcx⟩:=hsrc _ (.inl rfl)
  have hncs:nc.size=xs.length*Te.size:=by obtain⟨_,_,_,h⟩:=hnew;exact h
  rcases hobj.row_cells' with ⟨h0,rfl⟩|⟨h0,cs,ty',h1,h2,h3,h4,h5⟩
  · by_cases hxe:xs=[]
    · subst hxe
      have hsl:(ρ old).slice= .slice none 0 0:=by simp[Ref.slice,h0]
      have hr:=append_fits (base:=none) (n:=0) (m:=0) (cap:=0) (ty:=ty) (w':=w) hTs hk hTe hnew (by omega) hbx (by simp) rfl
      rw[hsl] at hrun
      refine⟨_,_,_,fun i=>if i=id then nilRef else ρ i,fun i=>V i∨i=id,by rw[hrun,run_value hr],.inl rfl,fun _ h=> .inl h,fun _ h=>h,?_⟩
      refine h.swap (o:= .row Te.size ([]++[])) (x:= .rw id) hd hold nilRef hid (fun b hb=>absurd hb.1 (by simp[nilRef])) (fun _ _ _=>rfl) (Nat.le_refl _) rfl rfl ?_ (.inl ⟨by simp[nilRef],rfl⟩) ?_
      · intro b hb c t f hcf
        rcases hb with hb|hb
        · rw[Array.getElem?_eq_none hb] at hcf;cases hcf
        · exact absurd hb.1 (by simp[h0])
      · have:=Rel.rw (ρ:=fun i=>if i=id then nilRef else ρ i) (V:=fun i=>V i∨i=id) (Z:=Z) (w:=w) id (.inr rfl)
        simpa [Ref.slice,nilRef] using this
    · have hpos:0<xs.length:=List.length_pos_iff.2 hxe
      refine grow none 0 #[] (by simp[Ref.slice,h0]) (by simpa using hpos) (by simp[Builtin.firstCells]) (by simp) ⟨fun i hi=>absurd hi (Nat.not_lt_zero _),fun i j hi=>absurd hi (Nat.not_lt_zero _)⟩
  · have hsl:(ρ old).slice= .slice (some ⟨(ρ old).blk,(ρ old).off,none⟩) l.length (ρ old).cap:=by simp[Ref.slice,h0,h2]
    by_cases hfit:l.length+xs.length≤(ρ old).cap
    · have hnc1 : ∀ v ∈ nc.toList, v.oneCell' = true := by
        intro y hy
        obtain⟨k,hk',rfl⟩:=List.getElem_of_mem hy
        simp only[Array.length_toList] at hk'
        have hs0:0<Te.size:=by
          rcases Nat.eq_zero_or_pos Te.size with h|h
          · rw[hncs,h] at hk';simp at hk'
          · exact h
        have hi:k / Te.size<xs.length:=by rw[Nat.div_lt_iff_lt_mul hs0];omega
        have:=hcx.2 (k / Te.size) (k % Te.size) hi (Nat.mod_lt _ hs0)
        rw[show 0+k / Te.size*Te.size+k % Te.size=k by rw[Nat.zero_add,Nat.mul_comm,Nat.div_add_mod]] at this
        have h6:=this.2.oneCell this.1
        simpa [Array.getD,hk'] using h6
      have hfit':(ρ old).off+(l.length+xs.length)*Te.size≤cs.size:=Nat.le_trans (Nat.add_le_add_left (Nat.mul_le_mul_right _ hfit) _) h4
      rw[Nat.add_mul] at hfit'
      obtain⟨w',cs',r1,r2,r3,r4,r5,r6,r7,r8⟩:=storeCells_run (P:=P) nc.toList 0 ((ρ old).off+l.length*Te.size) w cs ty' h1 (by simp;omega) hnc1
      have hr:=append_fits (base:=some ⟨(ρ old).blk,(ρ old).off,none⟩) (n:=l.length) (m:=xs.length) (cap:=(ρ old).cap) (ty:=ty) (w':=w') hTs hk hTe hnew hfit hbx (by omega) (by simp only[addr_add];exact r1)
      rw[hsl] at hrun
      have hat:∀ b,(ρ old).at b↔b=(ρ old).blk:=fun b=>⟨fun hb=>hb.2.symm,fun hb=>⟨h0,hb.symm⟩⟩
      have hcell:∀ b o,Z b o→w'.cell? ⟨b,o,none⟩=w.cell? ⟨b,o,none⟩:=by
        intro b o hz
        exact cell?_of_heap (r5 b (fun e=>h.hs.sep _ _ b hold ((hat b).2 e) o hz))
      refine⟨_,_,_,fun i=>if i=id then⟨(ρ old).blk,l.length+xs.length,(ρ old).cap,false,(ρ old).off⟩ else ρ i,fun i=>V i∨i=id,by rw[hrun,run_value hr],.inl rfl,fun _ h=> .inl h,fun _ h=>h,?_⟩
      refine h.swap (o:= .row Te.size (l++xs)) (x:= .rw id) hd hold ⟨(ρ old).blk,l.length+xs.length,(ρ old).cap,false,(ρ old).off⟩ hid (fun b hb=> .inl ((hat b).2 hb.2.symm)) (fun b _ hb=>r5 b (fun e=>hb ((hat b).2 e))) (by omega) r7 r8 ?_ ?_ ?_
      · intro b hb c t f hcf
        rcases hb with hb|hb
        · rw[Array.getElem?_eq_none (by omega)] at hcf;cases hcf
        · rw[(hat b).1 hb,r2] at hcf;cases hcf;rfl
      · refine ObjRel.of_cells (by simp) (cs:=cs') (ty:=ty') (by simpa using r2) (by simp) (by simpa using hfit) (by simpa [r3] using h4) ?_
        have hm:=hmono ⟨(ρ old).blk,l.length+xs.length,(ρ old).cap,false,(ρ old).off⟩ w' hcell
        simp only[if_true]
        refine Cells.appendO (ρ old).off (h5.mono hm) (hcx.mono hm) (fun k hk=>?_) (fun k hk=>?_)
        · rw[r4,if_neg (by omega)]
        · rw[r4,if_pos (by simp only[Array.length_toList];omega),Nat.zero_add]
          simp[List.getD_eq_getElem?_getD,Array.getD_eq_getD_getElem?,Nat.add_sub_add_left, ← Nat.add_assoc]
      · exact hsw ⟨(ρ old).blk,l.length+xs.length,(ρ old).cap,false,(ρ old).off⟩ rfl _
    · obtain⟨oc,g1,g2,g3⟩:=row_cells (P:=P) (w:=w.drew) (ρ:=ρ) (V:=V) (Z:=Z) h1 (Nat.le_trans (Nat.add_le_add_left (Nat.mul_le_mul_right _ h3) _) h4) (h5.mono (fun v x hr=>hr.mono (fun _ _=>rfl) (fun _ h=>h) (fun _ _ h=>h) (fun _ _ _=>rfl)))
      exact grow _ _ oc hsl (by omega) (by simpa [Builtin.firstCells] using g1) g2 (g3.mono (fun v x hr=>hr.mono (fun _ _=>rfl) (fun _ h=>h) (fun _ _ h=>h) (fun _ _ _=>rfl)))
theorem ok_append_rw (h : Sat E ρ V Z σ a w) {o : Oper} (hd : ∀ n, o.dst = some n → n < E.nt) {id : Nat} (hid : ¬ V id) {ts tx e ty : TypeId} {Ts Te : TI} (hTs : ti P ts = some Ts) (hk : Ts.k = .slice e) (hTe : ti P e = some Te)
    {zs:List AV} (hz:Te.zero=some zs) (hzl:zs.length=Te.size) {x:AV} {v u:Value} {ox:Option AObj} {ob:Prop} {l xs:List AV} {old:Nat} (hs:srcA P Te tx x ox=some (ob,xs)) (hob:ob)
    (hx:Rel ρ V Z w v x) (hox:∀ o,ox=some o→∀ id,x.id? =some id→σ.hp id=some o) (hu:Rel ρ V Z w u (.rw old)) (hold:σ.hp old=some (.row Te.size l))
    (hn:l.length+xs.length≤2 ^ 46) (hb:(2*(l.length+xs.length)+1024)*Te.bytes≤2 ^ 48)
    (hrun:execOp a.eval o=(do pure (Next.value (← Builtin.append_ #[ts,tx] ty #[u,v])))):OpOk P E o σ a w V Z id (.swap old (.row Te.size (l++xs)) .rw):=by
  have hbx:xs.length*Te.bytes≤2 ^ 48:=Nat.le_trans (Nat.mul_le_mul_right _ (by omega)) hb
  refine ok_append_src h hd hid hTs hk hTe hz hzl (fun w' hw=>?_) hu hold hn hb hrun
  rcases hw with rfl|rfl
  · exact src_new (P:=P) (e:=e) h hTe hs hob hx hox hz hzl hbx (by omega)
  · exact src_new (P:=P) (e:=e) (h.drew (w':=w.drew) rfl rfl rfl) hTe hs hob (hx.mono (fun _ _=>rfl) (fun _ h=>h) (fun _ _ h=>h) (fun _ _ _=>rfl)) hox hz hzl hbx (by omega)
theorem ok_append_nil (h : Sat E ρ V Z σ a w) {o : Oper} (hd : ∀ n, o.dst = some n → n < E.nt) {id : Nat} (hid : ¬ V id) {ts tx e ty : TypeId} {Ts Te : TI} (hTs : ti P ts = some Ts) (hk : Ts.k = .slice e) (hTe : ti P e = some Te)
    {zs:List AV} (hz:Te.zero=some zs) (hzl:zs.length=Te.size) {x:AV} {v u:Value} {ox:Option AObj} {ob:Prop} {xs:List AV} (hs:srcA P Te tx x ox=some (ob,xs)) (hob:ob)
    (hx:Rel ρ V Z w v x) (hox:∀ o,ox=some o→∀ id,x.id? =some id→σ.hp id=some o) (hu:Rel ρ V Z w u .nilsl)
    (hn:xs.length≤2 ^ 46) (hb:(2*xs.length+1024)*Te.bytes≤2 ^ 48)
    (hrun:execOp a.eval o=(do pure (Next.value (← Builtin.append_ #[ts,tx] ty #[u,v])))):OpOk P E o σ a w V Z id (.new (.row Te.size xs) .rw):=by
  obtain rfl:=hu.nilsl_inv
  have hne:∀ i,V i→i≠id:=fun i hi e=>hid (e▸hi)
  have hbx:xs.length*Te.bytes≤2 ^ 48:=Nat.le_trans (Nat.mul_le_mul_right _ (by omega)) hb
  by_cases hxe:xs=[]
  · subst hxe
    obtain⟨nc,hnew,hcx⟩:=src_new (P:=P) (e:=e) h hTe hs hob hx hox hz hzl hbx (by simp)
    have hr:=append_fits (base:=none) (n:=0) (m:=0) (cap:=0) (ty:=ty) (w':=w) hTs hk hTe hnew (by omega) hbx (by simp) rfl
    exact⟨_,_,_,fun i=>if i=id then nilRef else ρ i,fun i=>V i∨i=id,by rw[hrun,run_value hr],.inl rfl,fun _ h=> .inl h,fun _ h=>h,h.newnil hd hid Te.size⟩
  · have hpos:0<xs.length:=List.length_pos_iff.2 hxe
    have hdr:=h.drew (w':=w.drew) rfl rfl rfl
    have hxd:Rel ρ V Z w.drew v x:=hx.mono (fun _ _=>rfl) (fun _ h=>h) (fun _ _ h=>h) (fun _ _ _=>rfl)
    obtain⟨nc,hnew,hcx⟩:=src_new (P:=P) (e:=e) hdr hTe hs hob hxd hox hz hzl hbx hn
    obtain⟨newCap,rest,hge,hrs,hr⟩:=append_grows (w:=w) (ty:=ty) (base:=none) (n:=0) (cap:=0) (oc:= #[]) hTs hk hTe hz hnew (by omega) (by simpa using hb) (by simpa using hn) (by simp[Builtin.firstCells])
    have hncs:nc.size=xs.length*Te.size:=by obtain⟨_,_,_,h⟩:=hnew;exact h
    simp only[Nat.zero_add] at hr hge hrs
    refine⟨_,_,_,fun i=>if i=id then⟨w.heap.size,xs.length,newCap,false,0⟩ else ρ i,fun i=>V i∨i=id,by rw[hrun,run_value hr],.inl rfl,fun _ h=> .inl h,fun _ h=>h,?_⟩
    have hcells:=cells_push (x:= .cells (#[]++nc++rest) e) hdr
    refine hdr.alloc (o:= .row Te.size xs) hd ⟨w.heap.size,xs.length,newCap,false,0⟩ rfl hid (fun c t f hc=>by cases hc;rfl) ?_ ?_
    · refine ObjRel.of_cells0 (by simp) (cs:= #[]++nc++rest) (ty:=e) (by simp[show w.drew.heap=w.heap from rfl]) (by simp) (by simp;omega) ?_ ?_
      · have e3:newCap*Te.size=xs.length*Te.size+(newCap - xs.length)*Te.size:=by rw[← Nat.add_mul];congr 1;omega
        simp only[Array.size_append,hncs,hrs,hzl,if_true,e3,List.size_toArray,List.length_nil]
        omega
      · have:=grown_cells (newCap:=newCap) (l:=[]) (oc:= #[]) (rest:=rest) (sz:=Te.size) (ρ:=ρ) (V:=V) (Z:=Z) (w:=w.drew) ⟨fun i hi=>absurd hi (Nat.not_lt_zero _),fun i j hi=>absurd hi (Nat.not_lt_zero _)⟩ hcx (by simp) hncs
        rw[List.nil_append] at this
        exact this.mono (fun v x hr=>hr.mono (fun i hi=>if_neg (hne i hi)) (fun _ h=> .inl h) (fun _ _ h=>h) hcells)
    · have:=Rel.rw (ρ:=fun i=>if i=id then(⟨w.heap.size,xs.length,newCap,false,0⟩:Ref) else ρ i) (V:=fun i=>V i∨i=id) (Z:=Z) (w:= { w.drew with heap:=w.drew.heap.push (.cells (#[]++nc++rest) e) }) id (.inr rfl)
      simpa [Ref.slice] using this
end Go.Am
