/- A part of the proof: an abstract machine for the walks, and what the walked functions compute. -/
import Derived.Lib.SliceRun
import Derived.Test.YtfpcjabbcpgbjaaDoorMj
set_option linter.unusedVariables false
set_option linter.unusedSimpArgs false
namespace Go.Am
open Go
variable {P:Program} {E:En} {ρ:Nat->Ref} {V:Nat->Prop} {Z:Nat->Nat->Prop} {O:St} {a:Act} {w:World}
def Xk (P:Program) (l:Nat) (R:Ending->World->Prop):Exit->Act->World->Prop
 | .normal,_,w=>∃ v w',(Instr.endRound l none).run P w= .ok v w'/\R (.returned v) w'
 | .ret,_,w=>∃ v w',(Instr.endRound l (some .ret)).run P w= .ok v w'/\R (.returned v) w'
 | .exit id,_,w=>∃ v w',(Instr.endRound l (some (.exit id))).run P w= .ok v w'/\R (.returned v) w'
 | .panic chain,a,w=>a.defers=[]/\R (.panicked chain) w
 |_,_,_=>False
def jbl (R:Ending->World->Prop):Exit->Act->World->Prop
 | .panic chain,a,w=>a.defers=[]/\R (.panicked chain) w
 |_,_,_=>False
theorem Ql {f : FuncId} {fn : Func} (hf : P.funcs[f]? = some fn) {b c : Frame} (hbf : b.fn = f) {a : Act} {todo : List Item} {cs : List Frame} {w : World} {chain : List PanicEntry} (hd : a.defers = []) :
    step P (lone { b.atR a todo with mode:= .panicking chain } (c::cs) w)= .next (lone (c.raise chain) cs w):=
  step_leave_panicked ⟨rfl,hd,fn,by show P.funcs[b.fn]? =some fn;rw[hbf];exact hf⟩
theorem oB {l : Nat} {f : FuncId} {tmps : Array Value} {assign body : Code} {w : World} {R : Ending -> World -> Prop} (hf : P.funcs[f]? ≠ none)
    (h:wpX P (some l) true assign (Exit.then (fun a₁ w₁=>∃ w₂,(Instr.beginRound l).run P w₁= .ok () w₂/\wpX P (some l) true body (Xk P l R) a₁ w₂) (jbl R))
      { tmps:=tmps,defers:=[] } w):RoundIn Fence.wide 0 P l f tmps assign body w R:=by
  obtain⟨fn,hfn⟩:=Option.ne_none_iff_exists'.1 hf
  refine⟨trivial,fun c cs hr=>?_⟩
  let b:Frame:= { (default:Frame) with fn:=f,kind:= .normal,roundOf:=some l }
  have hb0:Frame.round l f tmps assign body .normal=b.atR { tmps:=tmps,defers:=[] } [.code assign,.beginRound,.code body]:=by
    simp[Frame.round,Frame.atR,b]
  obtain⟨e,a₁,w₁,hq,harr⟩:=h b [.beginRound,.code body] (c::cs) rfl (fun _=>hf)
  rw[<- hb0] at harr
  cases e with
  |normal=>
    obtain⟨w₂,hbr,hbody⟩:=hq
    have s1:StepsIn (Machine.fenced P Fence.wide) P (lone (b.atR a₁ [.beginRound,.code body]) (c::cs) w₁) (lone (b.atR a₁ [.code body]) (c::cs) w₂):=
      .one (yC _) (stepR_beginRound rfl hbr)
    obtain⟨e₂,a₂,w₃,hq₂,harr₂⟩:=hbody b [] (c::cs) rfl (fun _=>hf)
    cases e₂ with
    |normal=>
      obtain⟨v,w₄,hend,hR⟩:=hq₂
      exact⟨.returned v,w₄,hR,(StepsIn.trans harr s1).trans (StepsIn.trans harr₂ (.one (yC _) (stepR_round_end rfl rfl hend)))⟩
    |ret=>
      obtain⟨v,w₄,hend,hR⟩:=hq₂
      obtain⟨k₁,hs⟩:=harr₂.2 rfl
      exact⟨.returned v,w₄,hR,(StepsIn.trans harr s1).trans (StepsIn.trans hs (.one (yC _) (stepR_round_ret rfl rfl hend)))⟩
    |exit id=>
      obtain⟨v,w₄,hend,hR⟩:=hq₂
      obtain⟨k₁,hk,hs⟩:=harr₂.2 rfl rfl
      exact⟨.returned v,w₄,hR,(StepsIn.trans harr s1).trans (StepsIn.trans hs (.one (yC _) (stepR_round_exit rfl rfl hk hend)))⟩
    |goto t=>exact hq₂.elim
    |panic chain=>
      obtain⟨hd,hR⟩:=hq₂
      obtain⟨todo,hs⟩:=harr₂
      exact⟨.panicked chain,w₃,hR,(StepsIn.trans harr s1).trans (StepsIn.trans hs (.one (yC _) (Ql hfn rfl hd)))⟩
    |outgrown=>exact hq₂.elim
  |panic chain=>
    obtain⟨hd,hR⟩:=hq
    obtain⟨todo,hs⟩:=harr
    exact⟨.panicked chain,w₁,hR,StepsIn.trans hs (.one (yC _) (Ql hfn rfl hd))⟩
  |exit id=>exact hq.elim
  |goto t=>exact hq.elim
  |ret=>exact hq.elim
  |outgrown=>exact hq.elim
def Xh (P:Program) (ex:Bool) (l:Nat) (Q:Exit->Act->World->Prop) (a':Act):Ending->World->Prop
  | .returned _, w₃ => ∃ jump w₄, (Instr.endLoop l).run P w₃ = .ok jump w₄ /\
      (match jump with
       |none=>Q .normal a' w₄
       |some c=>wpX P none ex c Q a' w₄)
  | .panicked chain,w₃=>Q (.panic chain) a' w₃
  | .outgrown,_=>False
theorem Oc {ex : Bool} {g : Operand} {ps : Array Tmp} {assign body : Code} {Q : Exit -> Act -> World -> Prop} {a : Act} {w : World}
    (h:∀ fn,(ex=true->P.funcs[fn]? ≠none)->∃ (l:Nat) (mark:List Deferred) (w₁:World) (d:Deferred) (w₁':World) (f:FuncId) (args:Array Value) (w₂:World),
      (Instr.enterLoop fn a.tmps ps assign body none).run P w= .ok (l,mark) w₁/\(resolve a.eval (rangeCall g l) 0).run P w₁= .ok d w₁'/\
      (invoke d.target d.args).run P w₁'= .ok (.enter f args) w₂/\Calls P f args w₂ (Xh P ex l Q { a with defers:=mark++a.defers })):
    wpX P none ex (.rangeFunc g ps assign body) Q a w:=by
  intro b k cs hro hx
  obtain⟨l,mark,w₁,d,w₁',f,args,w₂,he,hres,hinv,hcall⟩:=h b.fn hx
  rw[<- hro] at he
  have henter:=stepR_rangeFunc (P:=P) (b:=b) (a:=a) (k:=k) (cs:=cs) (w:=w) he hres hinv
  obtain⟨e,w₃,fr,hR,hsteps,hfn,hleave⟩:=((callsIn_wide (n:=0)).2 hcall).2 (b.atR { a with defers:=mark++a.defers } (.inRangeFunc l::k)::cs) (fun _ h=>by cases h)
  cases e with
  |outgrown=>exact hR.elim
  |returned v=>
    obtain⟨jump,w₄,hend,hj⟩:=hR
    have sback:StepsIn (Machine.fenced P Fence.wide) P (lone (b.atR a (.code (.rangeFunc g ps assign body)::k)) cs w) (lone (b.atR { a with defers:=mark++a.defers } ((jump.map Item.code).toList++k)) cs w₄):=by
      refine .head (yC _) henter (StepsIn.trans hsteps (.head (yC _) ?_ (.one (yC _) (stepR_endRangeFunc hend))))
      rw[<- finish_atR_inRangeFunc l v];exact step_leave_returned hleave
    cases jump with
    |none=>exact⟨.normal,_,w₄,hj,sback⟩
    |some c=>
      obtain⟨e',a'',w₅,hq,harr⟩:=hj b k cs hro hx
      exact⟨e',a'',w₅,hq,.of_steps sback harr⟩
  |panicked chain=>
    refine⟨.panic chain,_,w₃,hR,.inRangeFunc l::k,.head (yC _) henter (StepsIn.trans hsteps (.one (yC _) ?_))⟩
    rw[<- Frame.raise_atR];exact step_leave_panicked hleave
theorem Sat.setLp (h : Sat E ρ V Z O a w) {rid : Nat} {q : Lp} {fr : List AV} (hr : O.hp rid = some (.lp q fr)) (st : LoopState) (pend : Option Code) :
    ∃ r:Loop,w.heap[q.l]? =some (.loop r)/\r.state=q.st/\r.pending=q.pend/\Sat E ρ V Z ⟨O.fr,jb O.hp rid (some (.lp { q with st:=st,pend:=pend } fr)),O.nx⟩ a (w.putObj q.l (.loop { r with state:=st,pending:=pend })):=by
  obtain⟨hV,h0,h1,tmps,ds,h2,h3,h4⟩:=h.hs.obj rid _ hr
  rw[h1] at h2
  have hat:(ρ rid).at q.l:=⟨h0,h1⟩
  have hlt:q.l<w.heap.size:=by
    rcases Nat.lt_or_ge q.l w.heap.size with g|g
    · exact g
    · rw[Array.getElem?_eq_none g] at h2;cases h2
  refine⟨_,h2,rfl,rfl,?_⟩
  have hcell:∀ b o,(w.putObj q.l (.loop ⟨st,pend,q.fn,tmps,q.ps,q.assign,q.body,ds⟩)).cell? ⟨b,o,none⟩=w.cell? ⟨b,o,none⟩:=by
    intro b o
    by_cases hb:b=q.l
    · subst hb
      simp[World.cell?,World.putObj_heap_same hlt,h2]
    · exact cell?_of_heap (World.putObj_heap_other hb)
  have hS:=h.step0 (ρ':=ρ) (V':=V) (Z':=Z) (d:=none) (v:= .bool true) (x:= .bool true) (w':=w.putObj q.l (.loop ⟨st,pend,q.fn,tmps,q.ps,q.assign,q.body,ds⟩)) (hp':=jb O.hp rid (some (.lp { q with st:=st,pend:=pend } fr)))
    (fun b=>b=q.l) (fun _ h=>by cases h) (fun _ _=>rfl) (fun _ h=>h) (fun _ _ h=>h) (fun b hb=>⟨rid,_,hr,by rw[hb];exact hat⟩) (fun b _ hb=>World.putObj_heap_other hb) (by rw[World.putObj_size];exact Nat.le_refl _) rfl rfl ?_ ?_ (fun b o hz=> .inl hz) (.bool _)
  · exact hS
  · intro id o ho
    simp only[jb] at ho
    split at ho
    · rename_i e
      subst e
      cases ho
      refine .inr ⟨hV,⟨h0,h1,tmps,ds,by rw[h1];exact World.putObj_heap_same hlt,h3,fun i hi=>(h4 i hi).mono (fun _ _=>rfl) (fun _ h=>h) (fun _ _ h=>h) (fun b o _=>hcell b o)⟩,fun b hb=>⟨.inl ?_,h.hs.sep _ _ b hr hb⟩⟩
      rw[<- hb.2,h1]
    · rename_i hne
      exact .inl ⟨ho,fun b hb he=>hne (h.hs.inj id rid _ _ b ho hr hb (by rw[he];exact hat))⟩
  · intro id id' o o' b ho ho' hb hb' _
    have hx:∀ id o,jb O.hp rid (some (.lp { q with st:=st,pend:=pend } fr)) id=some o->∃ o,O.hp id=some o:=by
      intro id o ho
      simp only[jb] at ho
      split at ho
      · rename_i e;exact⟨_,by rw[e];exact hr⟩
      · exact⟨o,ho⟩
    obtain⟨o1,g1⟩:=hx id o ho
    obtain⟨o2,g2⟩:=hx id' o' ho'
    exact h.hs.inj id id' o1 o2 b g1 g2 hb hb'
def gn (q:Lp) (frv us:List AV):Nat->Option AV:=(q.ps.toList.zip us).foldl (fun f p=>upd f p.1 p.2) (jL (q.ts.zip frv))
theorem YW:∀ {fr:List (Nat×AV)} {t:Nat} {x:AV},jL fr t=some x->(t,x)∈fr:=by
 intro fr
 induction fr with
 |nil=>intro t x h;cases h
 |cons p fr ih=>
  intro t x h
  obtain⟨t',x'⟩:=p
  simp only[jL,upd] at h
  split at h
  ·rename_i e;cases h;simp[e]
  ·exact List.mem_cons_of_mem _ (ih h)
theorem U5 {R : Value -> AV -> Prop} : ∀ (ps : List Tmp) (vs : List Value) (us : List AV) (T : Array Value) (f : Nat -> Option AV), (∀ p, p ∈ ps -> p < T.size) -> vs.length = us.length -> (∀ i, i < us.length -> R (vs.getD i undef) (us.getD i default)) -> (∀ t x, f t = some x -> R (T.getD t undef) x) ->
    ∀ t x,(ps.zip us).foldl (fun f p=>upd f p.1 p.2) f t=some x->R (((ps.zip vs).foldl (fun t p=>t.setIfInBounds p.1 p.2) T).getD t undef) x
  | [],vs,us,T,f,_,_,_,hf,t,x,h=>by simpa using hf t x (by simpa using h)
  |p::ps,[],[],T,f,_,_,_,hf,t,x,h=>by simpa using hf t x (by simpa using h)
  |p::ps,[],u::us,T,f,_,hl,_,hf,t,x,h=>by simp at hl
  |p::ps,v::vs,[],T,f,_,hl,_,hf,t,x,h=>by simp at hl
  |p::ps,v::vs,u::us,T,f,hps,hl,hr,hf,t,x,h=>by
    simp only[List.zip_cons_cons,List.foldl_cons] at h ⊢
    refine U5 ps vs us (T.setIfInBounds p v) (upd f p u) (fun p' hp'=>by simpa using hps p' (List.mem_cons_of_mem _ hp')) (by simpa using hl) (fun i hi=>?_) (fun t x ht=>?_) t x h
    · simpa using hr (i+1) (by simpa using hi)
    · have hp:=hps p (by simp)
      simp only[upd] at ht
      by_cases e:t=p
      · subst e
        simp at ht
        subst ht
        have:=hr 0 (by simp)
        simpa [Array.getD,hp] using this
      · rw[if_neg e] at ht
        have:=hf t x ht
        have e2:(T.setIfInBounds p v).getD t undef=T.getD t undef:=by
          simp[Array.getD_eq_getD_getElem?,Array.getElem?_setIfInBounds_ne (Ne.symm e)]
        rw[e2];exact this
theorem jcC (ps:Array Tmp) (args T:Array Value):(ps.zip args).foldl (fun t (p,v)=>t.setIfInBounds p v) T=(ps.toList.zip args.toList).foldl (fun t p=>t.setIfInBounds p.1 p.2) T:=by
 rw[<- Array.foldl_toList,Array.toList_zip]
theorem fold_size:∀ (l:List (Tmp×Value)) (T:Array Value),(l.foldl (fun t p=>t.setIfInBounds p.1 p.2) T).size=T.size
 | [],T=>rfl
 |p::l,T=>by rw[List.foldl_cons,fold_size l];simp
theorem YCall.of_round {q : Lp} {frv vs : List AV} {hp : Nat -> Option AObj} {nx np : Nat} {R Rp : AV -> (Nat -> Option AObj) -> Prop} (rid : Nat) (hf : P.funcs[q.fn]? ≠ none) (hr : hp rid = some (.lp q frv)) (hrn : rid < np) (hst : q.st = .ready) (hvs : vs.length = q.ps.size) (hps : ∀ p, p ∈ q.ps.toList -> p < q.nt)
    (h:∀ (E:En) (Q:AEx->St->Prop),E.nt=q.nt->E.np=np->E.rd=some q.l->
      (∀ O fr',O.hp rid=some (.lp { q with st:= .busy } fr')->R (.bool true) (jb O.hp rid (some (.lp { q with st:= .ready,pend:=none } fr')))->Q .norm O)->
      (∀ O fr',O.hp rid=some (.lp { q with st:= .busy } fr')->R (.bool false) (jb O.hp rid (some (.lp { q with st:= .done,pend:=some .ret } fr')))->Q .ret O)->
      (∀ j O fr',O.hp rid=some (.lp { q with st:= .busy } fr')->R (.bool false) (jb O.hp rid (some (.lp { q with st:= .done,pend:=some (.exit j) } fr')))->Q (.exit j) O)->
      (∀ x O,Rp x O.hp->Q (.pan x) O)->
      AW P E q.assign (fun e O'=>match e with| .norm=>∃ fr',O'.hp rid=some (.lp q fr')/\AW P E q.body Q ⟨O'.fr,jb O'.hp rid (some (.lp { q with st:= .busy } fr')),O'.nx⟩| .pan x=>Rp x O'.hp|_=>False) ⟨gn q frv vs,hp,nx⟩):YCall P q.l vs hp nx np R Rp:=by
  intro ρ V Z w args hh hnp hnx hsz hrel
  obtain⟨hV,h0,h1,tmps,ds,h2,h3,h4⟩:=hh.obj rid _ hr
  have h2':=h2
  rw[h1] at h2'
  refine⟨_,h2',by rw[hsz];exact hvs,oB hf ?_⟩
  simp only
  rw[jcC]
  let E:En:=⟨q.nt,[],w,Jx ρ hp,Z,np,ρ,some q.l,false,true⟩
  have hsat:Sat E ρ V Z ⟨gn q frv vs,hp,nx⟩ { tmps:=(q.ps.toList.zip args.toList).foldl (fun t p=>t.setIfInBounds p.1 p.2) tmps,defers:=[] } w:=by
    refine⟨by rw[fold_size];exact h3,⟨[],rfl,⟨by simp,by simp⟩,fun _=>rfl⟩,?_,hh,⟨fun _ _ _=>rfl,Nat.le_refl _,rfl,rfl,trivial⟩,fun id o b h1 h2 _=>⟨id,o,h1,h2⟩,fun _ _ h=>h,fun _ _ h=> .inl h,fun id hid=>⟨hnp id hid,rfl⟩⟩
    refine U5 (R:=Rel ρ V Z w) q.ps.toList args.toList vs tmps (jL (q.ts.zip frv)) (fun p hp=>by rw[h3];exact hps p hp) (by simpa using hsz) (fun i hi=>?_) (fun t x ht=>?_)
    · have:=hrel i hi
      simpa [List.getD_eq_getElem?_getD,Array.getD_eq_getD_getElem?] using this
    · obtain⟨i,hi,e⟩:=List.getElem_of_mem (YW ht)
      simp only[List.length_zip] at hi
      rw[List.getElem_zip] at e
      simp only[Prod.mk.injEq] at e
      have:=h4 i (by omega)
      have e1:q.ts.getD i 0=t:=by rw[<- e.1];simp[List.getD_eq_getElem?_getD,show i<q.ts.length by omega]
      have e2:frv.getD i default=x:=by rw[<- e.2];simp[List.getD_eq_getElem?_getD,show i<frv.length by omega]
      rw[e1,e2] at this
      exact this
  let Res := fun (e : Ending) (w' : World) => ∃ ρ' V' Z' hp', HSat ρ' V' Z' w' hp' /\ Ext w w' (Jx ρ hp) /\ (∀ id, id < np -> V' id /\ ρ' id = ρ id) /\ (∀ b o, Z b o -> Z' b o) /\
      (∀ b o,Z' b o->Z b o\/w.heap.size<=b\/Jx ρ hp b)/\(∀ id o b,hp' id=some o->(ρ' id).at b->b<w.heap.size->Jx ρ hp b)/\
      ((∃ v r,e= .returned v/\Rel ρ' V' Z' w' v r/\R r hp')\/∃ v x,e= .panicked [{ v,recovered:=false }]/\Rel ρ' V' Z' w' v x/\Rp x hp')
  let Q:AEx->St->Prop:=fun e O=>match e with
    | .norm=>∃ fr',O.hp rid=some (.lp { q with st:= .busy } fr')/\R (.bool true) (jb O.hp rid (some (.lp { q with st:= .ready,pend:=none } fr')))
    | .ret=>∃ fr',O.hp rid=some (.lp { q with st:= .busy } fr')/\R (.bool false) (jb O.hp rid (some (.lp { q with st:= .done,pend:=some .ret } fr')))
    | .exit j=>∃ fr',O.hp rid=some (.lp { q with st:= .busy } fr')/\R (.bool false) (jb O.hp rid (some (.lp { q with st:= .done,pend:=some (.exit j) } fr')))
    | .pan x=>Rp x O.hp
  have hpan:∀ {ρ' V' Z' O' a' w' v x},Sat E ρ' V' Z' O' a' w'->Rel ρ' V' Z' w' v x->Rp x O'.hp->a'.defers=[]/\Res (.panicked [{ v,recovered:=false }]) w':=by
    intro ρ' V' Z' O' a' w' v x hs hv hR
    exact⟨hs.df.none rfl,ρ',V',Z',O'.hp,hs.hs,hs.ext,hs.pn,hs.z0,hs.zn,hs.ownd,.inr ⟨v,x,rfl,hv,hR⟩⟩
  have hend : ∀ {ρ' V' Z' O' a' w' fr'} (jump : Option Code), Sat E ρ' V' Z' O' a' w' -> O'.hp rid = some (.lp { q with st := .busy } fr') -> R (.bool jump.isNone) (jb O'.hp rid (some (.lp { q with st := if jump.isNone then .ready else .done, pend := jump } fr'))) ->
      ∃ v w'',(Instr.endRound q.l jump).run P w'= .ok v w''/\Res (.returned v) w'':=by
    intro ρ' V' Z' O' a' w' fr' jump hs hrr hR
    obtain⟨r,g1,g2,g3,g4⟩:=hs.setLp hrr (if jump.isNone then .ready else .done) jump
    refine⟨_,_,run_endRound jump g1,ρ',V',Z',_,g4.hs,g4.ext,g4.pn,g4.z0,g4.zn,g4.ownd,.inl ⟨_,.bool jump.isNone,rfl,.bool _,hR⟩⟩
  have hA:=h E Q rfl rfl rfl (fun O fr' h1 h2=>⟨fr',h1,h2⟩) (fun O fr' h1 h2=>⟨fr',h1,h2⟩) (fun j O fr' h1 h2=>⟨fr',h1,h2⟩) (fun x O h=>h) ρ V Z _ w hsat hnx
  refine yd ?_ hA
  rintro e a1 w1 ⟨ρ1,V1,Z1,O1,x1,k1,k2,k3,k4⟩
  cases e<;>cases x1<;>simp only[ExR] at k1
  · obtain⟨fr',g1,g2⟩:=k2
    obtain⟨r,p1,p2,p3,p4⟩:=k3.setLp g1 .busy q.pend
    refine⟨_,run_beginRound p1 (by rw[p2];exact hst),?_⟩
    have e1:({ r with state:= .busy } :Loop)= { r with state:= .busy,pending:=q.pend } :=by rw[<- p3]
    rw[e1]
    have hB:=g2 ρ1 V1 Z1 a1 _ p4 (k4 (by simp))
    refine yd ?_ hB
    rintro e a2 w2 ⟨ρ2,V2,Z2,O2,x2,m1,m2,m3,m4⟩
    cases e<;>cases x2<;>simp only[ExR] at m1
    · obtain⟨fr2,n1,n2⟩:=m2
      exact hend none m3 n1 n2
    · subst m1
      obtain⟨fr2,n1,n2⟩:=m2
      exact hend (some (.exit _)) m3 n1 n2
    · obtain⟨fr2,n1,n2⟩:=m2
      exact hend (some .ret) m3 n1 n2
    · obtain⟨v,rfl,hv⟩:=m1
      exact hpan m3 hv m2
  · exact k2.elim
  · exact k2.elim
  · obtain⟨v,rfl,hv⟩:=k1
    exact hpan k3 hv k2
theorem alloc_old {w:World} {o:Obj} {b:Nat} (h:b<w.heap.size):(w.alloc o).heap[b]? =w.heap[b]? :=by
 show(w.heap.push o)[b]? =_
 rw[Array.getElem?_push,if_neg (by omega)]
def jgk (Q:AEx->St->Prop):Option Code->St->Prop
 |none,O=>Q .norm O
 |some .ret,O=>Q .ret O
 |some (.exit j),O=>Q (.exit j) O
 |_,_=>False
set_option maxHeartbeats 2000000 in
theorem uW {g : Operand} {ps : Array Tmp} {assign body : Code} {Q : AEx -> St -> Prop} {gf : FuncId} {first cap : List AV} (hE : E.rd = none /\ E.mks = true /\ E.ex = true) (hg : evA O g = some (.fn (.func gf) first cap)) (ts : List Nat) (vals : List AV)
    (hfr:∀ i,i<vals.length->O.fr (ts.getD i 0)=some (vals.getD i default))
    (h:∀ l fnn,P.funcs[fnn]? ≠none->CallB P gf (first++[.fn (.yield l) [] []]++cap) ⟨O.fr,jb O.hp O.nx (some (.lp ⟨l,fnn,ps,assign,body,E.nt,ts,.ready,none⟩ vals)),O.nx+1⟩ 0 none
      (fun O'=>∃ st pend vals',O'.hp O.nx=some (.lp ⟨l,fnn,ps,assign,body,E.nt,ts,st,pend⟩ vals')/\st≠ .busy/\jgk Q pend ⟨O'.fr,jb O'.hp O.nx none,O.nx+1+1048576⟩)
      (fun x O'=>Q (.pan x) O')):AW P E (.rangeFunc g ps assign body) Q O:=by
  obtain⟨hrd,hmk,hex⟩:=hE
  intro ρ V Z a w hs hV
  rw[hrd,hex]
  refine Oc fun fnn hfnn=>?_
  obtain⟨fs,cs,hfv,k1,k2,k3,k4⟩:=(jh hs hg).fn_inv
  obtain⟨hgf,hc⟩:=h (w.heap.size+1) fnn (hfnn rfl)
  generalize hw1:(w.alloc (.deferred (some []))).alloc (.loop { state:= .ready,pending:=none,fn:=fnn,tmps:=a.tmps,params:=ps,assign,body,defers:=w.heap.size })=w1
  have hsz1:w1.heap.size=w.heap.size+2:=by rw[<- hw1,World.size_alloc,World.size_alloc]
  have hold:∀ b,b<w.heap.size->w1.heap[b]? =w.heap[b]? :=by
    intro b hb
    rw[<- hw1,alloc_old (by rw[World.size_alloc];omega),alloc_old hb]
  have hD:w1.heap[w.heap.size]? =some (.deferred (some [])):=by
    rw[<- hw1,alloc_old (by rw[World.size_alloc];omega)]
    exact World.alloc_heap_new _ _
  have hL:w1.heap[w.heap.size+1]? =some (.loop ⟨.ready,none,fnn,a.tmps,ps,assign,body,w.heap.size⟩):=by
    rw[<- hw1]
    have:=World.alloc_heap_new (w.alloc (.deferred (some []))) (.loop ⟨.ready,none,fnn,a.tmps,ps,assign,body,w.heap.size⟩)
    rw[World.size_alloc] at this
    exact this
  have hrel1:∀ {v x},Rel ρ V Z w v x->Rel (fun id=>if id=O.nx then { blk:=w.heap.size+1 } else ρ id) (fun id=>V id\/id=O.nx) Z w1 v x:=fun hr=>
    hr.mono (fun id hid=>if_neg (by have:=hV id hid;omega)) (fun _ h=> .inl h) (fun _ _ h=>h) (fun b o hz=>cell?_of_heap (hold b (hs.hs.lt b o hz)))
  have hS1:=hs.step0 (ρ':=fun id=>if id=O.nx then { blk:=w.heap.size+1 } else ρ id) (V':=fun id=>V id\/id=O.nx) (Z':=Z) (d:=none) (v:= .bool true) (x:= .bool true) (w':=w1)
    (hp':=jb O.hp O.nx (some (.lp ⟨w.heap.size+1,fnn,ps,assign,body,E.nt,ts,.ready,none⟩ vals)))
    (fun _=>False) (fun _ h=>by cases h) (fun id hid=>if_neg (by have:=hV id hid;omega)) (fun _ h=> .inl h) (fun _ _ h=>h) (fun _ h=>h.elim) (fun b hb _=>hold b hb) (by omega) (by rw[<- hw1];rfl) (by rw[<- hw1];rfl) ?_ ?_ (fun b o hz=> .inl hz) (.bool _)
  rotate_left
  · intro id o ho
    simp only[jb] at ho
    split at ho
    · rename_i e
      subst e
      cases ho
      refine .inr ⟨.inr rfl,⟨by simp,by simp,a.tmps,w.heap.size,by simpa using hL,hs.nt,fun i hi=>hrel1 (hs.fr _ _ (hfr i hi))⟩,fun b hb=>?_⟩
      obtain⟨_,hb2⟩:=hb
      simp only[if_true] at hb2
      refine⟨.inr (by omega),fun off hz=>?_⟩
      have:=hs.hs.lt b off hz
      omega
    · exact .inl ⟨ho,fun _ _ h=>h⟩
  · intro id id' o o' b ho ho' hb hb' _
    have hx:∀ id o,jb O.hp O.nx (some (.lp ⟨w.heap.size+1,fnn,ps,assign,body,E.nt,ts,.ready,none⟩ vals)) id=some o->(if id=O.nx then({ blk:=w.heap.size+1 } :Ref) else ρ id).at b->(id=O.nx/\b=w.heap.size+1)\/(id≠O.nx/\O.hp id=some o/\(ρ id).at b):=by
      intro id o ho hb
      simp only[jb] at ho
      split at ho
      · rename_i e;subst e;rw[if_pos rfl] at hb;exact .inl ⟨rfl,hb.2.symm⟩
      · rename_i e;rw[if_neg e] at hb;exact .inr ⟨e,ho,hb⟩
    rcases hx id o ho hb with ⟨e1,e2⟩|⟨e1,e2,e3⟩<;>rcases hx id' o' ho' hb' with ⟨f1,f2⟩|⟨f1,f2,f3⟩
    · rw[e1,f1]
    · have:=(hs.hs.obj id' o' f2).2.lt b f3;omega
    · have:=(hs.hs.obj id o e2).2.lt b e3;omega
    · exact hs.hs.inj id id' o o' b e2 f2 e3 f3
  have hmark:DfOk E w1 { a with defers:=[⟨.collected w.heap.size, #[]⟩]++a.defers } :=by
    obtain⟨M,m1,⟨m2,m3⟩,_⟩:=hs.df
    refine⟨⟨.collected w.heap.size, #[]⟩::M,by simp[m1],⟨List.nodup_cons.2 ⟨fun hin=>?_,m2⟩,fun d hd=>?_⟩,fun hm=>by rw[hmk] at hm;cases hm⟩
    · obtain⟨b,e,hb,_⟩:=m3 _ hin
      have e:w.heap.size=b:=by injection e with e1 _;injection e1
      rw[<- e,Array.getElem?_eq_none (Nat.le_refl _)] at hb
      cases hb
    · rcases List.mem_cons.1 hd with rfl|hd
      · exact⟨_,rfl,hD,hs.ext.le⟩
      · obtain⟨b,e,hb,hbw⟩:=m3 d hd
        refine⟨b,e,?_,hbw⟩
        have hlt:b<w.heap.size:=by
          rcases Nat.lt_or_ge b w.heap.size with h1|h1
          · exact h1
          · rw[Array.getElem?_eq_none h1] at hb;cases hb
        rw[hold b hlt];exact hb
  have hS2:Sat E (fun id=>if id=O.nx then { blk:=w.heap.size+1 } else ρ id) (fun id=>V id\/id=O.nx) Z ⟨O.fr,jb O.hp O.nx (some (.lp ⟨w.heap.size+1,fnn,ps,assign,body,E.nt,ts,.ready,none⟩ vals)),O.nx+1⟩ { a with defers:=[⟨.collected w.heap.size, #[]⟩]++a.defers } w1:=
    ⟨hS1.nt,hmark,hS1.fr,hS1.hs,hS1.ext,hS1.ownd,hS1.z0,hS1.zn,hS1.pn⟩
  have hargs:=Qy (Qy (x:=fs) (y:= #[.func (.yield (w.heap.size+1)) #[] #[]]) (xs:=first) (ys:=[.fn (.yield (w.heap.size+1)) [] []]) ⟨k1,fun i hi=>hrel1 (k3 i hi)⟩
    ⟨rfl,fun i hi=>by
      obtain rfl:i=0:=by simp at hi;omega
      exact .fn _ _ _ _ _ rfl rfl (fun i hi=>absurd hi (Nat.not_lt_zero _)) (fun i hi=>absurd hi (Nat.not_lt_zero _))⟩) (y:=cs) (ys:=cap) ⟨k2,fun i hi=>hrel1 (k4 i hi)⟩
  have hcall:=hc E _ _ Z _ w1 _ hS2 (fun id hid=>by
    rcases hid with hid|hid
    · have:=hV id hid;show ¬ (O.nx+1+1048576*0<=id/\_);omega
    · show ¬ (O.nx+1+1048576*0<=id/\_);omega) (fun _ h=>by cases h) hargs.1 hargs.2
  refine⟨w.heap.size+1,[⟨.collected w.heap.size, #[]⟩],w1,⟨.fn (.func gf) cs,fs++ #[.func (.yield (w.heap.size+1)) #[] #[]]⟩,w1,gf,fs++ #[.func (.yield (w.heap.size+1)) #[] #[]]++cs,w1,?_,?_,?_,?_⟩
  · rw[run_enterLoop_outer,hw1]
  · unfold resolve rangeCall
    simp only[hfv]
    simp[Deferred.ofValue,Act.eval]
  · exact Yl hgf _
  · refine Calls.mono hcall ?_
    rintro e w' ⟨ρ',V',Z',hv1,hv2,⟨v,O',rfl,hnx,⟨st,pend,vals',q1,q2,q3⟩,hS⟩|⟨v,x,O',rfl,hnx,hk,hr,hS⟩⟩
    · obtain⟨r,p1,p2,p3,p4⟩:=hS.setLp q1 .exhausted pend
      have p3':r.pending=pend:=p3
      have e1:({ r with state:= .exhausted,pending:=pend } :Loop)= { r with state:= .exhausted } :=by rw[<- p3']
      rw[e1] at p4
      refine⟨pend,_,by rw[<- p3'];exact run_endLoop p1 (by rw[p2];exact q2),?_⟩
      have hS3:Sat E ρ' V' Z' ⟨O'.fr,jb O'.hp O.nx none,O.nx+1+1048576⟩ { a with defers:=[⟨.collected w.heap.size, #[]⟩]++a.defers } (w'.putObj (w.heap.size+1) (.loop { r with state:= .exhausted })):=by
        have hsub:∀ id o,jb O'.hp O.nx none id=some o->jb O'.hp O.nx (some (.lp ⟨w.heap.size+1,fnn,ps,assign,body,E.nt,ts,.exhausted,pend⟩ vals')) id=some o:=by
          intro id o ho
          simp only[jb] at ho ⊢
          split at ho
          · cases ho
          · rename_i e;rw[if_neg e];exact ho
        exact⟨p4.nt,p4.df,p4.fr,p4.hs.sub hsub,p4.ext,fun id o b ho=>p4.ownd id o b (hsub id o ho),p4.z0,p4.zn,p4.pn⟩
      have hVb:∀ id,V' id->id<O.nx+1+1048576:=by
        intro id hid
        rcases hv1 id hid with (h1|h1)|h1
        · have:=hV id h1;omega
        · omega
        · have h2:id<O.nx+1+1048576*0+1048576:=h1.2
          omega
      cases pend with
      |none=>exact⟨ρ',V',Z',_,.norm,trivial,q3,hS3,fun _=>hVb⟩
      |some c=>
        cases c<;>try exact q3.elim
        · exact oS (Q:=jbD E Q) ⟨ρ',V',Z',_,.exit _,rfl,q3,hS3,fun _=>hVb⟩
        · exact jax (Q:=jbD E Q) ⟨ρ',V',Z',_,.ret,trivial,q3,hS3,fun _=>hVb⟩
    · exact⟨ρ',V',Z',O',.pan x,⟨v,rfl,hr⟩,hk,hS,fun hx=>absurd rfl (hx x)⟩
end Go.Am

namespace Go.Am
open Go
variable {P:Program} {E:En} {O:St} {Q:AEx->St->Prop}
theorem Rel.sl_nil_inv {ρ:Nat->Ref} {V:Nat->Prop} {Z:Nat->Nat->Prop} {w:World} {v:Value} (h:Rel ρ V Z w v (.sl [])):∃ a n c,v= .slice a n c:=by
 generalize hx:AV.sl []=x at h
 cases h with
 |sl0 a cap=>exact⟨_,_,_,rfl⟩
 |sl b o cap sz l' cs h0 h1 h2 h3=>exact⟨_,_,_,rfl⟩
 |_=>cases hx
theorem XB {id d0 d1 t0 : Nat} {ty te y0 y1 y2 : TypeId} {p1 p2 : String} {a1 a2 : Array Edge} {n' c' : Nat} (hu : P.underlying ty = some (.slice te)) (hd0 : d0 < E.nt) (hd1 : d1 < E.nt) (h01 : d0 ≠ d1) (h0 : O.fr t0 = some (.sl []))
    (h:∀ b,Q .norm ⟨upd (upd O.fr d0 (.sl [])) d1 (.bool b),O.hp,O.nx⟩):
    AW P E (.region id #[{ dst:=some d0,op:= .move (.tmp t0),type:=y0,pos:=p1,after:=a1,guard:=none },{ dst:=some d1,op:= .binOp .eql ty (.tmp d0) (.const (.slice none n' c')) y1,type:=y2,pos:=p2,after:=a2,guard:=none }] false) Q O:=by
  intro ρ V Z a w hs hV
  refine YA ?_
  show wpOpsIn _ _ _ _ _ [0,1] a w
  obtain⟨x,n,c,hx⟩:=(hs.fr t0 _ h0).sl_nil_inv
  have hr0:=hs.fr t0 _ h0
  have e1:a.eval (.tmp t0)= .slice x n c:=hx
  rw[hx] at hr0
  have hlt:d0<a.tmps.size:=by rw[hs.nt];exact hd0
  have hnd0:∀ n,some d0=some n->n<E.nt:=fun n hn=>by cases hn;exact hd0
  have hnd1:∀ n,some d1=some n->n<E.nt:=fun n hn=>by cases hn;exact hd1
  have s1:=hs.val hnd0 rfl rfl rfl hr0
  have e2:(a.put (some d0) (.slice x n c)).eval (.tmp d0)= .slice x n c:=by
    simp[Act.put,Act.eval,hlt]
  have s2:=s1.val (v:= .bool x.isNone) (x:= .bool x.isNone) hnd1 rfl rfl rfl (.bool _)
  show Oper.wpIn _ _ _ _ _ _ _ _
  refine jX (res:= .ok (.value (.slice x n c)) w) (fun c=>by simp) ?_ ?_
  · change (execOp a.eval ({ dst:=some d0,op:= .move (.tmp t0),type:=y0,pos:=p1,after:=a1,guard:=none } :Oper)).run P w=_
    simp only[execOp,e1]
    rfl
  · show Oper.wpIn _ _ _ _ _ _ _ _
    refine jX (res:= .ok (.value (.bool x.isNone)) w) (fun c=>by simp) ?_ ?_
    · change (execOp (a.put (some d0) (.slice x n c)).eval ({ dst:=some d1,op:= .binOp .eql ty (.tmp d0) (.const (.slice none n' c')) y1,type:=y2,pos:=p2,after:=a2,guard:=none } :Oper)).run P w=_
      simp only[execOp,e2]
      rw[show Act.eval (a.put (some d0) (.slice x n c)) (.const (.slice none n' c'))= .slice none n' c' from rfl]
      simp[Sem.run_bind,QX (P:=P) (w:=w) (op:= .eql) (t:=ty) (x:= .tmp d0) (y:= .const (.slice none n' c')) (a:= .slice x n c) (b:= .slice none n' c') ⟨(fun c h=>by cases h),(fun h=>by cases h)⟩,Go.Lib.run_eql_slice_nil w ty te x _ _ _ _ hu]
    · exact⟨ρ,V,Z,_,.norm,trivial,h x.isNone,s2,fun _=>hV⟩
end Go.Am

namespace Go.Am
open Go
variable {P:Program} {E:En} {O:St} {Q:AEx->St->Prop}
theorem Sat.sub {ρ:Nat->Ref} {V:Nat->Prop} {Z:Nat->Nat->Prop} {a:Act} {w:World} (h:Sat E ρ V Z O a w) {τ:St} (hfr:τ.fr=O.fr) (hhp:∀ id o,τ.hp id=some o->O.hp id=some o):Sat E ρ V Z τ a w:=
 { h with fr:=fun t x ht=>h.fr t x (by rw[<- hfr];exact ht),hs:=h.hs.sub hhp,ownd:=fun id o b ho=>h.ownd id o b (hhp id o ho) }
def uI (hp:Nat->Option AObj) (base:Nat):List (Nat×AObj)->Nat->Option AObj
 | []=>hp
 |(i,o)::L=>jb (uI hp base L) (base+i) (some (o.ren (base+ ·)))
@[go_sem] theorem jlX (hp:Nat->Option AObj) (base:Nat):uI hp base []=hp:=rfl
@[go_sem] theorem jbj (hp:Nat->Option AObj) (base i:Nat) (o:AObj) (L:List (Nat×AObj)):uI hp base ((i,o)::L)=jb (uI hp base L) (base+i) (some (o.ren (base+ ·))):=rfl
theorem UZ {hp:Nat->Option AObj} {base:Nat} :∀ {L:List (Nat×AObj)} {id:Nat} {o:AObj},uI hp base L id=some o->(∃ j o',jp L j=some o'/\id=base+j/\o=o'.ren (base+ ·))\/hp id=some o
 | [],id,o,h=> .inr h
 |(i,x)::L,id,o,h=>by
  rw[jbj] at h
  unfold jb at h
  split at h
  ·rename_i e
   refine .inl ⟨i,x,?_,e,(Option.some.inj h).symm⟩
   simp[jp,jb]
  ·rename_i e
   rcases UZ h with ⟨j,o',h1,h2,h3⟩|h1
   ·refine .inl ⟨j,o',?_,h2,h3⟩
    have:j≠i:=fun e2=>e (by rw[h2,e2])
    simp[jp,jb,this,h1]
   ·exact .inr h1
theorem CallB.new {f : FuncId} {vs : List AV} {r0 : AV} {L : List (Nat × AObj)} {d : Option Nat} {k : Nat} {K : St -> Prop} {Kp : AV -> St -> Prop} (hA : ACall P f vs (fun _ => none) 0 0 (fun r hp' => r = r0 /\ hp' = jp L) (fun _ _ => False))
    (hvs:AV.cloL vs=true) (hr:r0.ids (· <1048576)) (hL:∀ p,p∈L->p.1<1048576/\p.2.ids (· <1048576))
    (hK:K ⟨(O.put d (r0.ren ((O.nx+1048576*k)+ ·))).fr,uI O.hp (O.nx+1048576*k) L,O.nx⟩):CallB P f vs O k d K Kp:=by
  have hmem:∀ id o,jp L id=some o->id<1048576/\o.ids (· <1048576):=by
    intro id o ho
    obtain⟨p,hp,rfl,rfl⟩:∃ p,p∈L/\p.1=id/\p.2=o:=by
      clear hK hA hL
      induction L with
      |nil=>cases ho
      |cons q L ih=>
        obtain⟨i,x⟩:=q
        simp only[jp,jb] at ho
        split at ho
        · rename_i e
          exact⟨(i,x),by simp,e.symm,Option.some.inj ho⟩
        · obtain⟨p,h1,h2⟩:=ih ho
          exact⟨p,List.mem_cons_of_mem _ h1,h2⟩
    exact hL p hp
  have hb:=CallB.of_A (O:=O) (k:=k) (d:=d) (Kp:=Kp) (K:=fun O'=>∃ hp',Back O O' (fun i=>i) (fun _=>none) 0 (O.nx+1048576*k) d (some r0) hp'/\hp'=jp L) hA (fun i=>i) (js hvs).symm (jt hvs)
    (fun id o h=>by cases h) (fun id id' o o' h=>by cases h) (fun id h=>absurd h (Nat.not_lt_zero _))
    (by rintro r hp' ⟨rfl,rfl⟩;exact⟨by simpa using hr,fun id o ho=>by simpa using hmem id o ho⟩) (fun r hp' h=>h.elim)
    (by rintro r hp' O' ⟨rfl,rfl⟩ hB;exact⟨_,hB,rfl⟩) (fun x hp' O' h=>h.elim)
  refine⟨hb.1,fun E ρ V Z a w args hs hV hd hsz hrel=>(hb.2 E ρ V Z a w args hs hV hd hsz hrel).mono ?_⟩
  rintro e w' ⟨ρ',V',Z',h1,h2,⟨v,O',he,hnx,⟨hp',hB,rfl⟩,hS⟩|h⟩
  · refine⟨ρ',V',Z',h1,h2,.inl ⟨v,_,he,?_,hK,hS.sub ?_ ?_⟩⟩
    · rfl
    · rw[hB.fr]
      have e1:jn (fun i=>i) 0 (O.nx+1048576*k)=((O.nx+1048576*k)+ ·):=by
        funext j;unfold jn;rw[if_neg (by omega)];simp
      rw[e1]
    · intro id o ho
      have e1:jn (fun i=>i) 0 (O.nx+1048576*k)=((O.nx+1048576*k)+ ·):=by
        funext j;unfold jn;rw[if_neg (by omega)];simp
      rcases UZ ho with ⟨j,o',g1,rfl,rfl⟩|g1
      · have:=hB.obj j o' g1
        rw[e1] at this
        exact this
      · exact hB.old id o g1 (fun j hj=>absurd rfl hj)
  · exact⟨ρ',V',Z',h1,h2,.inr h⟩
theorem CallB.newP {fr : Nat -> Option AV} {hp : Nat -> Option AObj} {nx : Nat} {f : FuncId} {vs : List AV} {r0 : AV} {L : List (Nat × AObj)} {d : Option Nat} {k : Nat} {K : St -> Prop} {Kp : AV -> St -> Prop} (hA : ACall P f vs (fun _ => none) 0 0 (fun r hp' => r = r0 /\ hp' = jp L) (fun _ _ => False))
    (hvs:AV.cloL vs=true) (hr:r0.ids (· <1048576)) (hL:∀ p,p∈L->p.1<1048576/\p.2.ids (· <1048576))
    (hK:K ⟨(St.put ⟨fr,hp,nx⟩ d (r0.ren ((nx+1048576*k)+ ·))).fr,uI hp (nx+1048576*k) L,nx⟩):CallB P f vs ⟨fr,hp,nx⟩ k d K Kp:=CallB.new hA hvs hr hL hK
theorem CallB.newRow {fr : Nat -> Option AV} {hp : Nat -> Option AObj} {nx : Nat} {f : FuncId} {vs : List AV} {sz : Nat} {l : List AV} {d : Option Nat} {k : Nat} {K : St -> Prop} {Kp : AV -> St -> Prop} (hA : ACall P f vs (fun _ => none) 0 0 (fun r hp' => r = .rw 0 /\ hp' = jp [(0, .row sz l)]) (fun _ _ => False))
    (hvs:AV.cloL vs=true) (hl:AV.cloL l=true) (hK:K ⟨(St.put ⟨fr,hp,nx⟩ d (.rw (nx+1048576*k))).fr,jb hp (nx+1048576*k) (some (.row sz l)),nx⟩):CallB P f vs ⟨fr,hp,nx⟩ k d K Kp:=by
  refine CallB.new hA hvs (by simp[AV.ids]) (by intro p hp;simp only[List.mem_cons,List.not_mem_nil,or_false] at hp;subst hp;exact⟨by show 0<1048576;decide,by simp only[AObj.ids];exact jt hl⟩) ?_
  simp only[uI,AObj.ren,AV.ren,Nat.add_zero]
  rw[js hl]
  exact hK
theorem CallB.newRows {fr : Nat -> Option AV} {hp : Nat -> Option AObj} {nx : Nat} {f : FuncId} {vs : List AV} {sz sz' : Nat} {l l' : List AV} {d : Option Nat} {k : Nat} {K : St -> Prop} {Kp : AV -> St -> Prop} (hA : ACall P f vs (fun _ => none) 0 0 (fun r hp' => r = .agg [.rw 0, .rw 1] /\ hp' = jp [(0, .row sz l), (1, .row sz' l')]) (fun _ _ => False))
    (hvs:AV.cloL vs=true) (hl:AV.cloL l=true) (hl':AV.cloL l'=true) (hK:K ⟨(St.put ⟨fr,hp,nx⟩ d (.agg [.rw (nx+1048576*k),.rw (nx+1048576*k+1)])).fr,jb (jb hp (nx+1048576*k+1) (some (.row sz' l'))) (nx+1048576*k) (some (.row sz l)),nx⟩):CallB P f vs ⟨fr,hp,nx⟩ k d K Kp:=by
  refine CallB.new hA hvs (by simp[AV.ids,AV.idsL]) (by
    intro p hp;simp only[List.mem_cons,List.not_mem_nil,or_false] at hp
    rcases hp with rfl|rfl
    · exact⟨by show 0<1048576;decide,by simp only[AObj.ids];exact jt hl⟩
    · exact⟨by show 1<1048576;decide,by simp only[AObj.ids];exact jt hl'⟩) ?_
  simp only[uI,AObj.ren,AV.ren,AV.renL,Nat.add_zero]
  rw[js hl,js hl']
  exact hK
theorem AW_snpRow {c : Code} (X : Nat) {sz : Nat} {l : List AV} (l' : List AV) (hX : O.hp X = some (.row sz l)) (hl : l'.length = l.length) (hs : ∀ i, i < l.length -> Snp (fun _ => none) (l.getD i default) (l'.getD i default))
    (h:AW P E c Q ⟨O.fr,jb O.hp X (some (.row sz l')),O.nx⟩):AW P E c Q O:=by
  intro ρ V Z a w h0 hV
  refine h _ _ _ a w (h0.frz (F:=fun _=>none) (fun id o ho=>by cases ho) (fun t x' hx=>⟨x',hx,.inl rfl⟩) (fun id o' ho=>⟨rfl,?_⟩)) hV
  simp only[jb] at ho
  split at ho
  · rename_i e
    subst e
    cases ho
    exact⟨_,hX,rfl,hl,hs⟩
  · exact⟨o',ho,SnpO.refl _⟩
theorem jfw {F:Nat->Option AObj} {x x':AV} (h:Snp F x x') (l:List AV) (n i:Nat) (hi:i<(l.set n x).length):Snp F ((l.set n x).getD i default) ((l.set n x').getD i default):=by
 rw[List.length_set] at hi
 simp only[List.getD_eq_getElem?_getD,List.getElem?_set,hi]
 by_cases e:n=i
 ·subst e
  simpa [hi] using h
 ·simp only[e,if_false]
  exact .inl rfl
theorem Jl {np : Nat} {m : Nat -> Nat} {fr : List (Nat × AV)} {hp' : Nat -> Option AObj} {nx' : Nat} (h1 : ∀ p, p ∈ fr -> O.fr p.1 = some (p.2.ren m) /\ p.2.ids (· < nx')) (h2 : ∀ id o, hp' id = some o -> O.hp (m id) = some (o.ren m) /\ id < nx' /\ o.ids (· < nx'))
    (h3:∀ id id' o o',hp' id=some o->hp' id'=some o'->m id=m id'->id=id') (h4:∀ id,id<np->m id=id/\id<nx'):Ent np m O ⟨jL fr,hp',nx'⟩:=
  ⟨fun t x ht=>h1 (t,x) (YW ht),h2,h3,h4⟩
theorem j6 {np : Nat} {fr : List (Nat × AV)} {hp' : Nat -> Option AObj} {nx' : Nat} (h1 : ∀ p, p ∈ fr -> O.fr p.1 = some p.2 /\ p.2.ids (· < nx')) (h2 : ∀ id o, hp' id = some o -> O.hp id = some o /\ id < nx' /\ o.ids (· < nx'))
    (h4:np<=nx'):Ent np (fun i=>i) O ⟨jL fr,hp',nx'⟩:=
  Jl (fun p hp=>by rw[JH];exact h1 p hp) (fun id o ho=>by rw[jw];exact h2 id o ho) (fun _ _ _ _ _ _ h=>h) (fun id hid=>⟨rfl,by omega⟩)
theorem jf {p q:Nat->Prop} (ob:AObj) (h:∀ i,p i->q i) (hx:ob.ids p):ob.ids q:=by
 cases ob with
 |cells l=>exact Ja h hx
 |row _ l=>exact Ja h hx
 |map es=>exact fun z hz=>⟨Gf h (hx z hz).1,Gf h (hx z hz).2⟩
 |lp _ l=>exact Ja h hx
theorem CallY.use {fr : Nat -> Option AV} {hp0 : Nat -> Option AObj} {n0 : Nat} {f : Nat} {vs : List AV} {hp : Nat -> Option AObj} {nx np : Nat} {R Rp : AV -> (Nat -> Option AObj) -> Prop} (hA : YCall P f vs hp nx np R Rp) (m : Nat -> Nat) {us : List AV} {k : Nat} {d : Option Nat} {K : St -> Prop} {Kp : AV -> St -> Prop}
    (hus:us=AV.renL m vs) (hids:AV.idsL (· <nx) vs) (h1:∀ id o,hp id=some o->hp0 (m id)=some (o.ren m)/\id<nx/\o.ids (· <nx)) (h2:∀ id id' o o',hp id=some o->hp id'=some o'->m id=m id'->id=id')
    (h3:∀ id,id<np->id<nx/\hp id≠none)
    (hR:∀ r hp',R r hp'->r.ids (· <np+1048576)/\∀ id o,hp' id=some o->id<np+1048576/\o.ids (· <np+1048576))
    (hRp:∀ r hp',Rp r hp'->r.ids (· <np+1048576)/\∀ id o,hp' id=some o->id<np+1048576/\o.ids (· <np+1048576))
    (hK:∀ r hp' fr' hpn,R r hp'->fr'=(St.put ⟨fr,hp0,n0⟩ d (r.ren (jn m np (n0+1048576*k)))).fr->(∀ j o,hp' j=some o->hpn (jn m np (n0+1048576*k) j)=some (o.ren (jn m np (n0+1048576*k))))->
      (∀ id o,hp0 id=some o->(∀ j,hp j≠none->m j≠id)->hpn id=some o)->K ⟨fr',hpn,n0⟩)
    (hKp:∀ x hp' hpn,Rp x hp'->(∀ j o,hp' j=some o->hpn (jn m np (n0+1048576*k) j)=some (o.ren (jn m np (n0+1048576*k))))->
      (∀ id o,hp0 id=some o->(∀ j,hp j≠none->m j≠id)->hpn id=some o)->Kp (x.ren (jn m np (n0+1048576*k))) ⟨fr,hpn,n0⟩):CallY P f us ⟨fr,hp0,n0⟩ k d K Kp:=
  CallY.of_Y hA m hus hids h1 h2 h3 hR hRp (fun r hp' O' h hB=>by
    obtain⟨fr',hpn,nx'⟩:=O'
    have:=hB.nx
    simp only at this
    subst this
    exact hK r hp' fr' hpn h hB.fr hB.obj hB.old) (fun x hp' O' h hB=>by
    obtain⟨fr',hpn,nx'⟩:=O'
    have h1:=hB.nx
    have h2:=hB.fr
    simp only at h1 h2
    subst h1 h2
    exact hKp x hp' hpn h hB.obj hB.old)
theorem CallB.use {fr : Nat -> Option AV} {hp0 : Nat -> Option AObj} {n0 : Nat} {f : FuncId} {vs : List AV} {hp : Nat -> Option AObj} {nx np : Nat} {R Rp : AV -> (Nat -> Option AObj) -> Prop} (hA : ACall P f vs hp nx np R Rp) (m : Nat -> Nat) {us : List AV} {k : Nat} {d : Option Nat} {K : St -> Prop} {Kp : AV -> St -> Prop}
    (hus:us=AV.renL m vs) (hids:AV.idsL (· <nx) vs) (h1:∀ id o,hp id=some o->hp0 (m id)=some (o.ren m)/\id<nx/\o.ids (· <nx)) (h2:∀ id id' o o',hp id=some o->hp id'=some o'->m id=m id'->id=id')
    (h3:∀ id,id<np->id<nx/\hp id≠none)
    (hR:∀ r hp',R r hp'->r.ids (· <np+1048576)/\∀ id o,hp' id=some o->id<np+1048576/\o.ids (· <np+1048576))
    (hRp:∀ r hp',Rp r hp'->r.ids (· <np+1048576)/\∀ id o,hp' id=some o->id<np+1048576/\o.ids (· <np+1048576))
    (hK:∀ r hp' fr' hpn,R r hp'->fr'=(St.put ⟨fr,hp0,n0⟩ d (r.ren (jn m np (n0+1048576*k)))).fr->(∀ j o,hp' j=some o->hpn (jn m np (n0+1048576*k) j)=some (o.ren (jn m np (n0+1048576*k))))->
      (∀ id o,hp0 id=some o->(∀ j,hp j≠none->m j≠id)->hpn id=some o)->K ⟨fr',hpn,n0⟩)
    (hKp:∀ x hp' hpn,Rp x hp'->(∀ j o,hp' j=some o->hpn (jn m np (n0+1048576*k) j)=some (o.ren (jn m np (n0+1048576*k))))->
      (∀ id o,hp0 id=some o->(∀ j,hp j≠none->m j≠id)->hpn id=some o)->Kp (x.ren (jn m np (n0+1048576*k))) ⟨fr,hpn,n0⟩):CallB P f us ⟨fr,hp0,n0⟩ k d K Kp:=
  CallB.of_A hA m hus hids h1 h2 h3 hR hRp (fun r hp' O' h hB=>by
    obtain⟨fr',hpn,nx'⟩:=O'
    have:=hB.nx
    simp only at this
    subst this
    exact hK r hp' fr' hpn h hB.fr hB.obj hB.old) (fun x hp' O' h hB=>by
    obtain⟨fr',hpn,nx'⟩:=O'
    have h1:=hB.nx
    have h2:=hB.fr
    simp only at h1 h2
    subst h1 h2
    exact hKp x hp' hpn h hB.obj hB.old)
theorem jQ {np base:Nat} (hb:np<=base) {i j:Nat} (h:jn (fun i=>i) np base i=jn (fun i=>i) np base j):i=j:=by
 have g:∀ i,jn (fun i=>i) np base i=if i<np then i else base+(i - np):=fun i=>rfl
 rw[g,g] at h
 split at h<;>split at h<;>omega
theorem jz {m:Nat->Nat} {np base i:Nat} (h:i<np):jn m np base i=m i:=if_pos h
theorem Jq {m:Nat->Nat} {np base i:Nat} (h:np<=i):jn m np base i=base+(i - np):=if_neg (by omega)
theorem Oi:∀ {l:List AV},AV.cloL l=true->∀ i,i<l.length->(l.getD i default).clo=true
 | [],_,i,hi=>absurd hi (Nat.not_lt_zero _)
 |y::l,h,0,_=>by simp only[AV.cloL,Bool.and_eq_true] at h;simpa using h.1
 |y::l,h,i+1,hi=>by
  simp only[AV.cloL,Bool.and_eq_true] at h
  simpa using Oi h.2 i (by simpa using hi)
theorem PCall.of_A {f:FuncId} {vs:List AV} {r:AV} (hclo:AV.cloL vs=true) (hA:ACall P f vs (fun _=>none) 0 0 (fun r' hp'=>r'.snapOk hp'/\r'.snap hp'=r/\r.clo=true) (fun _ _=>False)):PCall P f vs r:=by
 refine⟨hA.1,fun ρ V Z w args hZ hgl hsz hrel=>?_⟩
 have hno:∀ b,Jx ρ (fun _=>none) b->False:=fun b ⟨id,o,h,_⟩=>by cases h
 refine(hA.2 ρ (fun _=>False) Z w args ⟨fun id o ho=>(by cases ho),fun id id' o o' b ho=>(by cases ho),fun id o b ho=>(by cases ho),hZ,hgl⟩ (fun id hid=>absurd hid (Nat.not_lt_zero _)) (fun id h=>h.elim) hsz (fun i hi=>jR (hrel i hi) (Oi hclo i hi) ρ _)).mono ?_
 rintro e w' ⟨ρ',V',Z',hp',k1,k2,k3,k4,k5,k6,⟨v,r',rfl,h1,h2,h3,h4⟩|⟨_,_,_,_,h⟩⟩
 ·have hv3:=gT (O:=⟨fun _=>none,hp',0⟩) k1 h1 h2
  rw[h3] at hv3
  have hv4:=jR hv3 h4 ρ V
  refine⟨v,_,rfl,hv4,?_,fun b o hz=> .inl (k4 b o hz),?_⟩
  ·exact⟨fun b hb hn=>k2.old b hb (fun h=>hno b h),k2.le,k2.os,k2.out,trivial⟩
  ·rintro b o (hz|⟨id,sz,l,g1,g2⟩)
   ·rcases k5 b o hz with g|g|g
    ·exact .inl g
    ·exact .inr ⟨g,k1.lt b o hz⟩
    ·exact(hno b g).elim
   ·have g3:=(k1.obj id _ g1).2.lt b g2
    refine .inr ⟨?_,g3⟩
    rcases Nat.lt_or_ge b w.heap.size with g4|g4
    ·exact(hno b (k6 id _ b g1 g2 g4)).elim
    ·exact g4
 ·exact h.elim
theorem ACallG.ent {Run : Array Value -> World -> (Ending -> World -> Prop) -> Prop} (hmono : ∀ {args w} {R R' : Ending -> World -> Prop}, Run args w R -> (∀ e w', R e w' -> R' e w') -> Run args w R') {vs : List AV} {hp : Nat -> Option AObj} {nx np : Nat} {R Rp R' Rp' : AV -> (Nat -> Option AObj) -> Prop} (hA : ACallG Run vs hp nx np R' Rp')
    (hR:∀ r hp',R' r hp'->∃ y m hc nc,r=y.ren m/\y.ids (· <nc)/\Ent np m ⟨fun _=>none,hp',0⟩ ⟨fun _=>none,hc,nc⟩/\R y hc)
    (hRp:∀ r hp',Rp' r hp'->∃ y m hc nc,r=y.ren m/\y.ids (· <nc)/\Ent np m ⟨fun _=>none,hp',0⟩ ⟨fun _=>none,hc,nc⟩/\Rp y hc):ACallG Run vs hp nx np R Rp:=by
  intro ρ V Z w args hh hnp hnx hsz hrel
  refine hmono (hA ρ V Z w args hh hnp hnx hsz hrel) ?_
  rintro e w' ⟨ρ',V',Z',hp',k1,k2,k3,k4,k5,k6,k7⟩
  have hS:Sat ⟨0,[],w,Jx ρ hp,Z,np,ρ,none,true,true⟩ ρ' V' Z' ⟨fun _=>none,hp',0⟩ { tmps:= #[],defers:=[] } w':=
    ⟨rfl,⟨[],rfl,⟨by simp,by simp⟩,fun _=>rfl⟩,fun t x h=>(by cases h),k1,k2,k6,k4,k5,k3⟩
  rcases k7 with ⟨v,r,rfl,h1,h2⟩|⟨v,x,rfl,h1,h2⟩
  · obtain⟨y,m,hc,nc,rfl,hid,he,hR⟩:=hR r hp' h2
    have h5:=hS.ent he
    exact⟨_,_,Z',hc,h5.hs,h5.ext,h5.pn,h5.z0,h5.zn,h5.ownd,.inl ⟨v,y,rfl,JW m y v hid h1,hR⟩⟩
  · obtain⟨y,m,hc,nc,rfl,hid,he,hR⟩:=hRp x hp' h2
    have h5:=hS.ent he
    exact⟨_,_,Z',hc,h5.hs,h5.ext,h5.pn,h5.z0,h5.zn,h5.ownd,.inr ⟨v,y,rfl,JW m y v hid h1,hR⟩⟩
theorem YCall.of_roundR {q : Lp} {frv vs : List AV} {hp : Nat -> Option AObj} {nx np : Nat} {R Rp : AV -> (Nat -> Option AObj) -> Prop} (rid : Nat) (hf : P.funcs[q.fn]? ≠ none) (hr : hp rid = some (.lp q frv)) (hrn : rid < np) (hst : q.st = .ready) (hvs : vs.length = q.ps.size) (hps : ∀ p, p ∈ q.ps.toList -> p < q.nt)
    (h:∀ (E:En) (Q:AEx->St->Prop),E.nt=q.nt->E.np=np->E.rd=some q.l->
      (∀ O fr',O.hp rid=some (.lp { q with st:= .busy } fr')->(∃ m hc nc,Ent np m ⟨fun _=>none,jb O.hp rid (some (.lp { q with st:= .ready,pend:=none } fr')),0⟩ ⟨fun _=>none,hc,nc⟩/\R (.bool true) hc)->Q .norm O)->
      (∀ x O,(∃ y m hc nc,x=y.ren m/\y.ids (· <nc)/\Ent np m O ⟨fun _=>none,hc,nc⟩/\Rp y hc)->Q (.pan x) O)->
      AW P E q.assign (fun e O'=>match e with| .norm=>∃ fr',O'.hp rid=some (.lp q fr')/\AW P E q.body Q ⟨O'.fr,jb O'.hp rid (some (.lp { q with st:= .busy } fr')),O'.nx⟩| .pan x=>∃ y m hc nc,x=y.ren m/\y.ids (· <nc)/\Ent np m O' ⟨fun _=>none,hc,nc⟩/\Rp y hc|_=>False) ⟨gn q frv vs,hp,nx⟩):YCall P q.l vs hp nx np R Rp:=by
  refine ACallG.ent (Run:=YRuns P q.l) (fun h hr=>h.mono hr) (R':=fun r hp'=>r= .bool true/\∃ m hc nc,Ent np m ⟨fun _=>none,hp',0⟩ ⟨fun _=>none,hc,nc⟩/\R (.bool true) hc)
    (Rp':=fun x hp'=>∃ y m hc nc,x=y.ren m/\y.ids (· <nc)/\Ent np m ⟨fun _=>none,hp',0⟩ ⟨fun _=>none,hc,nc⟩/\Rp y hc)
    (YCall.of_round rid hf hr hrn hst hvs hps fun E Q h1 h2 h3 h4 h5 h6 h7=>?_) ?_ ?_
  · refine(h E Q h1 h2 h3 (fun O fr' hb hx=>h4 O fr' hb ⟨rfl,hx⟩) (fun x O ⟨y,m,hc,nc,g1,g2,g3,g4⟩=>h7 x O ⟨y,m,hc,nc,g1,g2,⟨(fun t x h=>by cases h),g3.2.1,g3.2.2.1,g3.2.2.2⟩,g4⟩)).mono ?_
    rintro e O hq
    cases e with
    |norm=>exact hq
    |pan x=>obtain⟨y,m,hc,nc,g1,g2,g3,g4⟩:=hq;exact⟨y,m,hc,nc,g1,g2,⟨(fun t x h=>by cases h),g3.2.1,g3.2.2.1,g3.2.2.2⟩,g4⟩
    |ret=>exact hq
    |exit j=>exact hq
  · rintro r hp' ⟨rfl,m,hc,nc,he,hR⟩
    exact⟨.bool true,m,hc,nc,rfl,trivial,he,hR⟩
  · exact fun x hp' h=>h
end Go.Am
