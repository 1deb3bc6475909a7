/- A part of the proof: an abstract machine for the walks, and what the walked functions compute. -/
import Derived.Defers
import Derived.Test.YtfpcjabbcpgbjaaDoorMd
set_option linter.unusedVariables false
set_option linter.unusedSimpArgs false
namespace Go.Am
variable {P:Program} {E:En}
def wpX (P:Program) (r:Option Nat) (ex:Bool) (c:Code) (Q:Exit->Act->World->Prop) (a:Act) (w:World):Prop:=
 ∀ (b:Frame) (k:List Item) (cs:List Frame),b.roundOf=r->(ex=true->P.funcs[b.fn]? ≠none)->
  ∃ e a' w',Q e a' w'/\ArrivesIn (Machine.fenced P Fence.wide) P (lone (b.atR a (.code c::k)) cs w) b k cs e a' w'
section
variable {r:Option Nat} {ex:Bool} {Q:Exit->Act->World->Prop} {a:Act} {w:World}
theorem yC (m:Machine):Machine.fenced P Fence.wide m:=fenced_wide P m
theorem Y6 {n:Nat} {c:Code} (h:c.wpIn (rfn r) n P Q a w):wpX P r ex c Q a w:=fun b k cs hro _=>h b k cs hro trivial (fun _ h=>by cases h)
theorem qY {c:Code} (h:wpX P none false c Q a w):c.wp P Q a w:=(wpIn_wide (n:=0)).1 fun b k cs hro _ _=>h b k cs hro (fun h=>by cases h)
theorem yd {c:Code} {Q':Exit->Act->World->Prop} (hq:∀ e a w,Q e a w->Q' e a w) (h:wpX P r ex c Q a w):wpX P r ex c Q' a w:=
 fun b k cs hro hx=>let ⟨e,a',w',q,h⟩:=h b k cs hro hx;⟨e,a',w',hq _ _ _ q,h⟩
theorem xl (h:Q .normal a w):wpX P r ex .skip Q a w:=Y6 (n:=0) (wpIn_skip h)
theorem jax (h:Q .ret a w):wpX P r ex .ret Q a w:=Y6 (n:=0) (wpIn_ret h)
theorem oS {id:Nat} (h:Q (.exit id) a w):wpX P r ex (.exit id) Q a w:=Y6 (n:=0) (wpIn_exit h)
theorem Gs {x y:Code} (h:wpX P r ex x (Exit.then (wpX P r ex y Q) Q) a w):wpX P r ex (.seq x y) Q a w:=by
 intro b k cs hro hx
 have h0:=yC (P:=P) (lone (b.atR a (.code (.seq x y)::k)) cs w)
 obtain⟨e,a₁,w₁,hq,harr⟩:=h b (.code y::k) cs hro hx
 cases e with
 |normal=>
  obtain⟨e₂,a₂,w₂,hq₂,harr₂⟩:=hq b k cs hro hx
  exact⟨e₂,a₂,w₂,hq₂,.of_steps (.head h0 stepR_seq harr) harr₂⟩
 |exit id=>exact⟨_,a₁,w₁,hq,.of_steps (.one h0 stepR_seq) (.pass (x:= .code y) rfl (fun _ _=> .inl (by simp)) harr)⟩
 |goto l=>exact⟨_,a₁,w₁,hq,.of_steps (.one h0 stepR_seq) (.pass (x:= .code y) rfl (fun _ _=> .inl (by simp)) harr)⟩
 |ret=>exact⟨_,a₁,w₁,hq,.of_steps (.one h0 stepR_seq) (.pass (x:= .code y) rfl (fun _ _=> .inl (by simp)) harr)⟩
 |panic ch=>exact⟨_,a₁,w₁,hq,.of_steps (.one h0 stepR_seq) (.pass (x:= .code y) rfl (fun _ _=> .inl (by simp)) harr)⟩
 |outgrown=>exact⟨_,a₁,w₁,hq,.of_steps (.one h0 stepR_seq) (.pass (x:= .code y) rfl (fun _ _=> .inl (by simp)) harr)⟩
theorem xk {c:Operand} {x y:Code} {t:Bool} (hc:a.eval c= .bool t) (h:wpX P r ex (if t then x else y) Q a w):wpX P r ex (.cond c x y) Q a w:=
 fun b k cs hro hx=>let ⟨e,a',w',q,h⟩:=h b k cs hro hx;⟨e,a',w',q,.of_steps (.one (yC _) (stepR_cond hc)) h⟩
theorem Gy {c:Operand} {x y:Code} (hc:a.eval c= .bool true) (h:wpX P r ex x Q a w):wpX P r ex (.cond c x y) Q a w:=xk hc h
theorem gY {c:Operand} {x y:Code} (hc:a.eval c= .bool false) (h:wpX P r ex y Q a w):wpX P r ex (.cond c x y) Q a w:=xk hc h
theorem qX {id:Nat} {c:Code} (h:wpX P r ex c (Exit.inBlock id Q) a w):wpX P r ex (.block id c) Q a w:=by
 intro b k cs hro hx
 have h0:=yC (P:=P) (lone (b.atR a (.code (.block id c)::k)) cs w)
 obtain⟨e,a₁,w₁,hq,harr⟩:=h b (.inBlock id::k) cs hro hx
 cases e with
 |normal=>exact⟨.normal,a₁,w₁,hq,.head h0 stepR_block (StepsIn.trans harr (.one (yC _) stepR_inBlock))⟩
 |exit id'=>
  by_cases hid:id'=id
  ·simp only[Exit.inBlock,hid,if_true] at hq
   exact⟨.normal,a₁,w₁,hq,.head h0 stepR_block (harr.1 k (by simp[exitTo,hid]))⟩
  ·simp only[Exit.inBlock,hid,if_false] at hq
   have this:(id==id')=false:=by simp;exact fun h=>hid h.symm
   have hx:exitTo id' (.inBlock id::k)=exitTo id' k:=by simp[exitTo,this]
   exact⟨.exit id',a₁,w₁,hq,fun k' hk=> .head h0 stepR_block (harr.1 k' (by rw[hx];exact hk)),
    fun hr' hk=>let ⟨k₁,h1,h2⟩:=harr.2 hr' (by rw[hx];exact hk);⟨k₁,h1,.head h0 stepR_block h2⟩⟩
 |goto l=>
  have hx:gotoIn l (.inBlock id::k)=gotoIn l k:=by simp[gotoIn]
  exact⟨_,a₁,w₁,hq,fun k' hk=> .head h0 stepR_block (harr.1 k' (by rw[hx];exact hk)),
   fun hr' hk=>let ⟨k₁,h1,h2⟩:=harr.2 hr' (by rw[hx];exact hk);⟨k₁,h1,.head h0 stepR_block h2⟩⟩
 |ret=>exact⟨_,a₁,w₁,hq,.of_steps (.one h0 stepR_block) harr⟩
 |panic ch=>exact⟨_,a₁,w₁,hq,.of_steps (.one h0 stepR_block) harr⟩
 |outgrown=>exact⟨_,a₁,w₁,hq,.of_steps (.one h0 stepR_block) harr⟩
theorem YA {id:Nat} {ops:Array Oper} (h:wpOpsIn (rfn r) 0 P ops Q (List.range ops.size) a w):wpX P r ex (.region id ops false) Q a w:=Y6 (wpIn_region h)
theorem gZ {id:Nat} {ops:Array Oper} (hm:P.follows .mixedOrders=true) (h:wpAnyIn (rfn r) 0 P .any ops Q ops.size (Array.replicate ops.size false) a { w with drawn:=w.drawn+1 }):wpX P r ex (.region id ops true) Q a w:=Y6 (wpIn_region_any hm h)
end
inductive AEx where
 |norm
 |exit (id:Nat)
 |ret
 |pan (x:AV)
def ExR (ρ:Nat->Ref) (V:Nat->Prop) (Z:Nat->Nat->Prop) (w:World):Exit->AEx->Prop
 | .normal,.norm=>True
 | .exit i,.exit j=>i=j
 | .ret,.ret=>True
 | .panic l,.pan x=>∃ v,l=[{ v,recovered:=false }]/\Rel ρ V Z w v x
 |_,_=>False
def jbD (E:En) (Q:AEx->St->Prop) (e:Exit) (a:Act) (w:World):Prop:=
 ∃ ρ V Z O x,ExR ρ V Z w e x/\Q x O/\Sat E ρ V Z O a w/\((∀ y,x≠ .pan y)->∀ id,V id->id<O.nx)
def AW (P:Program) (E:En) (c:Code) (Q:AEx->St->Prop) (O:St):Prop:=
 ∀ ρ V Z a w,Sat E ρ V Z O a w->(∀ id,V id->id<O.nx)->wpX P E.rd E.ex c (jbD E Q) a w
theorem AW.mono {c:Code} {Q Q':AEx->St->Prop} {O:St} (h:AW P E c Q O) (hq:∀ e O,Q e O->Q' e O):AW P E c Q' O:=
 fun ρ V Z a w hs hV=>yd (fun e a w ⟨ρ,V,Z,O,x,h1,h2,h3,h4⟩=>⟨ρ,V,Z,O,x,h1,hq _ _ h2,h3,h4⟩) (h ρ V Z a w hs hV)
def Gx (K:St->Prop) (Q:AEx->St->Prop):AEx->St->Prop
 | .norm,O=>K O
 |e,O=>Q e O
def qy (id:Nat) (Q:AEx->St->Prop):AEx->St->Prop
 | .exit j,O=>if j=id then Q .norm O else Q (.exit j) O
 |e,O=>Q e O
theorem jgh {x y:Code} {Q:AEx->St->Prop} {O:St} (h:AW P E x (Gx (AW P E y Q) Q) O):AW P E (.seq x y) Q O:=by
 intro ρ V Z a w hs hV
 refine Gs (yd ?_ (h ρ V Z a w hs hV))
 rintro e a w ⟨ρ,V,Z,O,ex,h1,h2,h3,h4⟩
 cases e<;>cases ex<;>simp only[ExR] at h1
 ·exact h2 ρ V Z a w h3 (h4 (fun y=>by simp))
 ·exact⟨ρ,V,Z,O,.exit _,h1,h2,h3,h4⟩
 ·exact⟨ρ,V,Z,O,.ret,trivial,h2,h3,h4⟩
 ·exact⟨ρ,V,Z,O,.pan _,h1,h2,h3,h4⟩
theorem GO {Q:AEx->St->Prop} {O:St} (h:Q .norm O):AW P E .skip Q O:=
 fun ρ V Z a w hs hV=>xl ⟨ρ,V,Z,O,.norm,trivial,h,hs,fun _=>hV⟩
theorem jgg {Q:AEx->St->Prop} {O:St} (h:Q .ret O):AW P E .ret Q O:=
 fun ρ V Z a w hs hV=>jax ⟨ρ,V,Z,O,.ret,trivial,h,hs,fun _=>hV⟩
theorem jea {id:Nat} {Q:AEx->St->Prop} {O:St} (h:Q (.exit id) O):AW P E (.exit id) Q O:=
 fun ρ V Z a w hs hV=>oS ⟨ρ,V,Z,O,.exit id,rfl,h,hs,fun _=>hV⟩
theorem jby {id:Nat} {c:Code} {Q:AEx->St->Prop} {O:St} (h:AW P E c (qy id Q) O):AW P E (.block id c) Q O:=by
 intro ρ V Z a w hs hV
 refine qX (yd ?_ (h ρ V Z a w hs hV))
 rintro e a w ⟨ρ,V,Z,O,ex,h1,h2,h3,h4⟩
 cases e<;>cases ex<;>simp only[ExR] at h1
 ·exact⟨ρ,V,Z,O,.norm,trivial,h2,h3,fun _=>h4 (by simp)⟩
 ·rename_i i j
  subst h1
  simp only[qy] at h2
  simp only[Exit.inBlock]
  split
  ·rename_i e;rw[if_pos e] at h2;exact⟨ρ,V,Z,O,.norm,trivial,h2,h3,fun _=>h4 (by simp)⟩
  ·rename_i e;rw[if_neg e] at h2;exact⟨ρ,V,Z,O,.exit i,rfl,h2,h3,fun _=>h4 (by simp)⟩
 ·exact⟨ρ,V,Z,O,.ret,trivial,h2,h3,fun _=>h4 (by simp)⟩
 ·exact⟨ρ,V,Z,O,.pan _,h1,h2,h3,h4⟩
theorem jd8 {c:Operand} {x y:Code} {b:Bool} {Q:AEx->St->Prop} {O:St} (hc:evA O c=some (.bool b)) (ht:b=true->AW P E x Q O) (hf:b=false->AW P E y Q O):AW P E (.cond c x y) Q O:=by
 intro ρ V Z a w hs hV
 have hb:=(jh hs hc).bool_inv
 cases b
 ·exact gY hb (hf rfl ρ V Z a w hs hV)
 ·exact Gy hb (ht rfl ρ V Z a w hs hV)
theorem Qp {P : Program} {r : Option Nat} {ex : Bool} {c : Code} {Q : Exit -> Act -> World -> Prop} {a : Act} {w : World} (J : Nat -> Act -> World -> Prop) {n : Nat} (h₀ : J n a w)
    (round:∀ n a w,J n a w->wpX P r ex c (Exit.then (fun a' w'=>∃ m,m<n/\J m a' w') Q) a w):wpX P r ex (.loop c) Q a w:=by
  intro b k cs hro hx
  have key:∀ n a w,J n a w->∃ e a' w',Q e a' w'/\ArrivesIn (Machine.fenced P Fence.wide) P (lone (b.atR a (.code c:: .inLoop c::k)) cs w) b k cs e a' w':=by
    intro n
    induction n using Nat.strongRecOn with
    |_ n ih=>
      intro a w hJ
      obtain⟨e,a₁,w₁,hq,harr⟩:=round n a w hJ b (.inLoop c::k) cs hro hx
      cases e with
      |normal=>
        obtain⟨m,hlt,hJ₁⟩:=hq
        obtain⟨e₂,a₂,w₂,hq₂,harr₂⟩:=ih m hlt a₁ w₁ hJ₁
        exact⟨e₂,a₂,w₂,hq₂,.of_steps (StepsIn.trans harr (.one (yC _) stepR_inLoop)) harr₂⟩
      |exit id=>exact⟨_,a₁,w₁,hq,.pass (x:= .inLoop c) rfl (fun _ _=> .inl (by simp)) harr⟩
      |goto l=>exact⟨_,a₁,w₁,hq,.pass (x:= .inLoop c) rfl (fun _ _=> .inl (by simp)) harr⟩
      |ret=>exact⟨_,a₁,w₁,hq,.pass (x:= .inLoop c) rfl (fun _ _=> .inl (by simp)) harr⟩
      |panic ch=>exact⟨_,a₁,w₁,hq,.pass (x:= .inLoop c) rfl (fun _ _=> .inl (by simp)) harr⟩
      |outgrown=>exact⟨_,a₁,w₁,hq,.pass (x:= .inLoop c) rfl (fun _ _=> .inl (by simp)) harr⟩
  obtain⟨e,a',w',hq,harr⟩:=key _ a w h₀
  exact⟨e,a',w',hq,.of_steps (.one (yC _) stepR_loop) harr⟩
theorem jbA {c:Code} {Q:AEx->St->Prop} (I:Nat->St->Prop) {n:Nat} {O:St} (h0:I n O) (round:∀ n O,I n O->AW P E c (Gx (fun O'=>∃ m,m<n/\I m O') Q) O):AW P E (.loop c) Q O:=by
 intro ρ V Z a w hs hV
 refine Qp (fun n a w=>∃ ρ V Z O,I n O/\Sat E ρ V Z O a w/\∀ id,V id->id<O.nx) ⟨ρ,V,Z,O,h0,hs,hV⟩ ?_
 rintro n a w ⟨ρ,V,Z,O,h1,h2,h3⟩
 refine yd ?_ (round n O h1 ρ V Z a w h2 h3)
 rintro e a w ⟨ρ,V,Z,O,ex,h1,h2,h3,h4⟩
 cases e<;>cases ex<;>simp only[ExR] at h1
 ·obtain⟨m,hm,hI⟩:=h2
  exact⟨m,hm,ρ,V,Z,O,hI,h3,h4 (by simp)⟩
 ·exact⟨ρ,V,Z,O,.exit _,h1,h2,h3,h4⟩
 ·exact⟨ρ,V,Z,O,.ret,trivial,h2,h3,h4⟩
 ·exact⟨ρ,V,Z,O,.pan _,h1,h2,h3,h4⟩
def yB (nt:Nat) (ops:Array Oper):Bool:=ops.toList.all fun o=>match o.dst with|some d=>decide (d<nt)|none=>true
theorem GB {nt:Nat} {ops:Array Oper} (h:yB nt ops=true):∀ (i:Nat) (o:Oper),ops[i]? =some o->∀ n,o.dst=some n->n<nt:=by
 intro i o ho n hn
 unfold yB at h
 rw[List.all_eq_true] at h
 have hm:o∈ops.toList:=by
  rw[<- Array.getElem?_toList] at ho
  exact List.mem_of_getElem? ho
 have:=h o hm
 rw[hn] at this
 simpa using this
theorem Sat.nx {ρ:Nat->Ref} {V:Nat->Prop} {Z:Nat->Nat->Prop} {O:St} {a:Act} {w:World} (h:Sat E ρ V Z O a w) (n:Nat):Sat E ρ V Z { O with nx:=n } a w:=
 ⟨h.nt,h.df,h.fr,h.hs,h.ext,h.ownd,h.z0,h.zn,h.pn⟩
theorem jaA {id : Nat} {ops : Array Oper} {Q : AEx -> St -> Prop} {O : St} (hd : yB E.nt ops = true)
    (h:goR P true none (ops.toList.map (·.dst)) ops.toList.zipIdx O (fun O'=>Q .norm { O' with nx:=O.nx+1048576*ops.size }) (fun x O'=>Q (.pan x) O')):AW P E (.region id ops false) Q O:=by
  intro ρ V Z a w hs hV
  refine YA ?_
  rw[List.range_eq_range']
  refine OZ (E:=E) (nx:=O.nx) (GB hd) ?_ ?_ _ 0 O ρ V Z a w rfl hs rfl (by simpa using hV) (Nat.zero_le _) h
  · intro O' a' w' ρ' V' Z' hK hnx hS hb
    exact⟨ρ',V',Z',_,.norm,trivial,hK,hS.nx _,fun _=>hb⟩
  · intro O1 hnx x v O' ρ' V' Z' a' w' hK _ hr hS
    exact⟨ρ',V',Z',O',.pan x,⟨v,rfl,hr⟩,hK,hS,fun hx=>absurd rfl (hx x)⟩
theorem jd9 {id : Nat} {ops : Array Oper} {Q : AEx -> St -> Prop} {O : St} (bar : Bool) (hm : P.follows .mixedOrders = true) (hd : yB E.nt ops = true) (hok : J3 bar ops = true)
    (h:goR P bar (some (qx ops)) (ops.toList.map (·.dst)) ops.toList.zipIdx O (fun O'=>Q .norm { O' with nx:=O.nx+1048576*ops.size }) (fun x O'=>Q (.pan x) O')):AW P E (.region id ops true) Q O:=by
  intro ρ V Z a w hs hV
  refine gZ hm ?_
  have hs':=hs.drew (w':= { w with drawn:=w.drawn+1 }) rfl rfl rfl
  refine jbw (E:=E) (nx:=O.nx) (K:=fun O'=>Q .norm { O' with nx:=O.nx+1048576*ops.size }) (Kp:=fun x O'=>Q (.pan x) O') hok (GB hd) ?_ ?_ _ _ O ρ V Z a _ (by simp) hs' rfl (fun id hid=>by have:=hV id hid;omega) ?_ ?_ (by rw[oA];exact h) (by rw[oA];simp)
  · intro O' a' w' ρ' V' Z' hK hnx hS hb
    exact⟨ρ',V',Z',_,.norm,trivial,hK,hS.nx _,fun _=>hb⟩
  · intro O1 hnx x v O' ρ' V' Z' a' w' hK _ hr hS
    exact⟨ρ',V',Z',O',.pan x,⟨v,rfl,hr⟩,hK,hS,fun hx=>absurd rfl (hx x)⟩
  · intro o k _ id hid
    have:=hV id hid
    omega
  · intro j o hj hl
    simp[Array.getD] at hl
def jL:List (Nat×AV)->Nat->Option AV
 | []=>fun _=>none
 |(t,x)::l=>upd (jL l) t x
def jp:List (Nat×AObj)->Nat->Option AObj
 | []=>fun _=>none
 |(t,x)::l=>jb (jp l) t (some x)
def jx (fr:List (Nat×AV)) (hp:List (Nat×AObj)) (nx:Nat):St:=⟨jL fr,jp hp,nx⟩
def rvA (P:Program) (O:St):ResultVar->Option AV
 | .tmp t=>O.fr t
 | .cell t ty=>
  match O.fr t,ti P ty with
  |some (.ptr id off),some T=>(match O.hp id with|some (.cells l)=>ldA T l off|_=>none)
  |_,_=>none
def Jy (P:Program) (rs:List ResultVar) (O:St):Option AV:=
 match rs.mapM (rvA P O) with
 |some [x]=>some x
 |some l=>some (.tup l)
 |none=>none
theorem Qc {w:World} {b:Nat} {ds ds':Option (List Deferred)} (hb:w.heap[b]? =some (.deferred ds)) (b' o:Nat):(w.putObj b (.deferred ds')).cell? ⟨b',o,none⟩=w.cell? ⟨b',o,none⟩:=by
 by_cases h:b'=b
 ·subst h
  have hlt:b'<w.heap.size:=by
   rcases Nat.lt_or_ge b' w.heap.size with h1|h1
   ·exact h1
   ·rw[Array.getElem?_eq_none h1] at hb;cases hb
  have e1:w.cell? ⟨b',o,none⟩=none:=by simp[World.cell?,hb]
  have e2:(w.putObj b' (.deferred ds')).cell? ⟨b',o,none⟩=none:=by simp[World.cell?,World.putObj_heap_same hlt]
  rw[e1,e2]
 ·exact cell?_of_heap (World.putObj_heap_other h)
theorem Sat.shut {ρ : Nat -> Ref} {V : Nat -> Prop} {Z : Nat -> Nat -> Prop} {O : St} {a a' : Act} {w : World} (h : Sat E ρ V Z O a w) {b : Nat} (hb : w.heap[b]? = some (.deferred (some []))) (hw : E.w0.heap.size <= b)
    (ha:a'.tmps=a.tmps) (hdf:DfOk E (w.putObj b (.deferred none)) a'):Sat E ρ V Z O a' (w.putObj b (.deferred none)):=by
  have hc:=Qc (ds':=none) hb
  have hrel:∀ {v x},Rel ρ V Z w v x->Rel ρ V Z (w.putObj b (.deferred none)) v x:=fun hr=>hr.mono (fun _ _=>rfl) (fun _ h=>h) (fun _ _ h=>h) (fun b' o _=>hc b' o)
  refine⟨by rw[ha];exact h.nt,hdf,fun t x hx=>by rw[ha];exact hrel (h.fr t x hx),⟨fun id o ho=>?_,h.hs.inj,h.hs.sep,fun b' o hz=>?_,h.hs.gl.mono (fun b' _ ⟨c,t,f,hcc⟩=>World.putObj_heap_other fun e=>by subst e;rw[hb] at hcc;cases hcc) (fun _ _ hz=>hz)⟩,⟨fun b' hb' hno=>?_,?_,h.ext.os,h.ext.out,trivial⟩,h.ownd,h.z0,h.zn,h.pn⟩
  · obtain⟨h1,h2⟩:=h.hs.obj id o ho
    refine⟨h1,h2.mono h1 (fun _ _=>rfl) (fun _ h=>h) (fun _ _ h=>h) (fun b' o _=>hc b' o) (fun b' hb'=>World.putObj_heap_other fun e=>?_)⟩
    subst e
    exact h2.kind hb' _ hb
  · rw[World.putObj_size];exact h.hs.lt b' o hz
  · rw[World.putObj_heap_other (by omega)]
    exact h.ext.old b' hb' hno
  · rw[World.putObj_size];exact h.ext.le
theorem ua {ex : Bool} {f : FuncId} {fn : Func} {c : Code} {args : Array Value} {w : World} {R : Ending -> World -> Prop} (hf : P.funcs[f]? = some fn) (hb : fn.body = some c)
    (h:wpX P none ex c (bodyPostM Fence.wide 0 P fn R) { tmps:=args++Array.replicate (fn.ntmps - args.size) undef,defers:=[] } w):Calls P f args w R:=by
  refine(callsIn_wide (n:=0)).1 ⟨trivial,fun cs hr=>?_⟩
  let b:Frame:= { (default:Frame) with fn:=f,kind:= .normal,roundOf:=none }
  have henter : Frame.enter P f args .normal =
      b.atR { tmps:=args++Array.replicate (fn.ntmps - args.size) undef,defers:=[] } [.code c]:=by
    simp[Frame.enter,Frame.atR,hf,hb,b]
  obtain⟨e,a',w',hq,harr⟩:=h b [] cs rfl (fun _=>by show P.funcs[f]? ≠none;rw[hf];simp)
  rw[<- henter] at harr
  have hF:Fence.wide.fn f:=trivial
  cases e with
  |normal=>
    obtain⟨e',w'',fr',hR,hs,hfn,hl⟩:=leaves_stepsInM a'.defers .returning w' { b.atR a' [] with mode:= .returning } cs rfl rfl rfl hf rfl hF hr hq
    exact⟨e',w'',fr',hR,ComesIn.of_steps (StepsIn.trans harr (.one (yC _) (stepR_end rfl))) hs,hfn,hl⟩
  |ret=>
    obtain⟨todo,hs₀⟩:=harr.1 rfl
    obtain⟨e',w'',fr',hR,hs,hfn,hl⟩:=leaves_stepsInM a'.defers .returning w' { b.atR a' todo with mode:= .returning } cs rfl rfl rfl hf rfl hF hr hq
    exact⟨e',w'',fr',hR,ComesIn.of_steps hs₀ hs,hfn,hl⟩
  |panic chain=>
    obtain⟨todo,hs₀⟩:=harr
    obtain⟨e',w'',fr',hR,hs,hfn,hl⟩:=leaves_stepsInM a'.defers (.panicking chain) w' { b.atR a' todo with mode:= .panicking chain } cs rfl rfl rfl hf rfl hF hr hq
    exact⟨e',w'',fr',hR,ComesIn.of_steps hs₀ hs,hfn,hl⟩
  |exit id=>exact hq.elim
  |goto l=>exact hq.elim
  |outgrown=>exact⟨.outgrown,w',b,hq,harr.resolve_left (by simp[b]),rfl,trivial⟩
theorem Ye {E : En} {Q : AEx -> St -> Prop} {f : FuncId} {fn : Func} {c : Code} {args : Array Value} {w : World} {R : Ending -> World -> Prop} (hf : P.funcs[f]? = some fn) (hb : fn.body = some c) (hD : E.D = []) (hrd : E.rd = none)
    (h:wpX P E.rd E.ex c (jbD E Q) { tmps:=args++Array.replicate (fn.ntmps - args.size) undef,defers:=[] } w)
    (hret:∀ ρ V Z O a w',Sat E ρ V Z O a w'->(Q .ret O\/Q .norm O)->((∀ id,V id->id<O.nx))->∃ v,(results fn a.tmps).run P w'= .ok v w'/\R (.returned v) w')
    (hpan:∀ ρ V Z O a w' v x,Sat E ρ V Z O a w'->Rel ρ V Z w' v x->Q (.pan x) O->R (.panicked [{ v,recovered:=false }]) w')
    (hex:∀ j O,¬ Q (.exit j) O):Calls P f args w R:=by
  rw[hrd] at h
  have key : ∀ (M : List Deferred) (u : FrameMode) (a : Act) (w' : World) (G : World -> Act -> Prop) (T : World -> Prop), (∀ w b, w.heap[b]? = some (.deferred (some [])) -> T w -> T (w.putObj b (.deferred none))) -> T w' -> u ≠ .run -> a.defers = M -> (∃ ρ V Z O, Sat E ρ V Z O a w' /\ (∀ a w', T w' -> Sat E ρ V Z O a w' -> G w' a)) ->
      (∀ w' a',G w' a'->a'.tmps=a.tmps->LeavesInM Fence.wide 0 P fn a.tmps R [] u w')->LeavesInM Fence.wide 0 P fn a.tmps R M u w':=by
    intro M
    induction M with
    |nil=>rintro u a w' G T hT hT0 hu hM ⟨ρ,V,Z,O,hs,hG⟩ hfin;exact hfin w' a (hG _ _ hT0 hs) rfl
    |cons d M ih=>
      rintro u a w' G T hT hT0 hu hM ⟨ρ,V,Z,O,hs,hG⟩ hfin
      obtain⟨M',m1,⟨m2,m3⟩,m4⟩:=hs.df
      rw[hD,List.append_nil,hM] at m1
      subst m1
      obtain⟨b,rfl,hb1,hb2⟩:=m3 d (by simp)
      refine⟨hu,.inl ⟨b,_,rfl,run_takeDeferred hb1,?_⟩⟩
      have hs2:Sat E ρ V Z O { a with defers:=M } (w'.putObj b (.deferred none)):=by
        refine hs.shut hb1 hb2 rfl ⟨M,by rw[hD];simp,⟨(List.nodup_cons.1 m2).2,fun d' hd'=>?_⟩,fun hm=>?_⟩
        · obtain⟨b',rfl,h1,h2⟩:=m3 d' (List.mem_cons_of_mem _ hd')
          refine⟨b',rfl,?_,h2⟩
          rw[World.putObj_heap_other]
          · exact h1
          · rintro rfl
            exact(List.nodup_cons.1 m2).1 hd'
        · have:=m4 hm;cases this
      exact ih u { a with defers:=M } _ G T hT (hT _ _ hb1 hT0) hu rfl ⟨ρ,V,Z,O,hs2,hG⟩ hfin
  refine ua hf hb (yd ?_ h)
  rintro e a w' ⟨ρ,V,Z,O,x,h1,h2,h3,h4⟩
  have hr:(Q .ret O\/Q .norm O)->(∀ id,V id->id<O.nx)->LeavesInM Fence.wide 0 P fn a.tmps R a.defers .returning w':=fun hq hv=>
    key a.defers .returning a w' (fun w' a=>∃ v,(results fn a.tmps).run P w'= .ok v w'/\R (.returned v) w') (fun _=>True) (fun _ _ _ _=>trivial) trivial (by simp) rfl ⟨ρ,V,Z,O,h3,fun a w' _ hs=>hret ρ V Z O a w' hs hq hv⟩
      (fun w' a' ⟨v,h1,h2⟩ ht=>⟨v,by rw[<- ht];exact h1,h2⟩)
  cases e<;>cases x<;>simp only[ExR] at h1
  · exact hr (.inr h2) (h4 (by simp))
  · exact absurd h2 (hex _ _)
  · exact hr (.inl h2) (h4 (by simp))
  · obtain⟨v,rfl,hv⟩:=h1
    rename_i y
    refine key a.defers (.panicking [{ v,recovered:=false }]) a w' (fun w' _=>R (.panicked [{ v,recovered:=false }]) w') (fun w=>Rel ρ V Z w v y) (fun w b hb hr=>hr.mono (fun _ _=>rfl) (fun _ h=>h) (fun _ _ h=>h) (fun b' o _=>Qc hb b' o)) hv (by simp) rfl
      ⟨ρ,V,Z,O,h3,fun a w' hr hs=>hpan ρ V Z O a w' v y hs hr h2⟩ (fun w' a' h _=>h)
end Go.Am

namespace Go.Am
variable {P:Program} {E:En} {ρ:Nat->Ref} {V:Nat->Prop} {Z:Nat->Nat->Prop} {O:St} {a:Act} {w:World}
def AObj.ren (m:Nat->Nat):AObj->AObj
 | .cells l=> .cells (AV.renL m l)
 | .row sz l=> .row sz (AV.renL m l)
 | .map es=> .map (es.map fun p=>(p.1.ren m,p.2.ren m))
 | .lp q l=> .lp q (AV.renL m l)
def AObj.ids (p:Nat->Prop):AObj->Prop
 | .cells l=>AV.idsL p l
 | .row _ l=>AV.idsL p l
 | .map es=>∀ q,q∈es->q.1.ids p/\q.2.ids p
 | .lp _ l=>AV.idsL p l
theorem jO (m:Nat->Nat):∀ l:List AV,(AV.renL m l).length=l.length
 | []=>rfl
 |a::l=>by simp[AV.renL,jO m l]
theorem j1 (m:Nat->Nat):∀ (l:List AV) (i:Nat),i<l.length->(AV.renL m l).getD i default=(l.getD i default).ren m
 | [],i,hi=>absurd hi (Nat.not_lt_zero _)
 |a::l,0,_=>by simp[AV.renL]
 |a::l,i+1,hi=>by simpa [AV.renL] using j1 m l i (by simpa using hi)
theorem Jp {p:Nat->Prop} :∀ (l:List AV) (i:Nat),i<l.length->AV.idsL p l->(l.getD i default).ids p
 | [],i,hi,_=>absurd hi (Nat.not_lt_zero _)
 |a::l,0,_,hl=>by simpa using hl.1
 |a::l,i+1,hi,hl=>by simpa using Jp l i (by simpa using hi) hl.2
theorem Gm (m:Nat->Nat) (x:AV):(x.ren m).one=x.one:=by cases x<;>rfl
theorem Y3 (m:Nat->Nat) (x:AV):(x.ren m).cells=AV.renL m x.cells:=by cases x<;>rfl
theorem OD {p:Nat->Prop} {x:AV} (h:x.ids p):AV.idsL p x.cells:=by cases x<;>first|exact h|exact⟨h,trivial⟩
theorem Yj (m : Nat -> Nat) {n : Nat} {l : List AV} {f : Nat -> Value} (hp : AV.idsL (· < n) l) (ih : ∀ y, y ∈ l -> ∀ v, y.ids (· < n) -> Rel ρ V Z w v (y.ren m) -> Rel (fun i => ρ (m i)) (fun i => i < n /\ V (m i)) Z w v y)
    (h:∀ i,i<(AV.renL m l).length->Rel ρ V Z w (f i) ((AV.renL m l).getD i default)):∀ i,i<l.length->Rel (fun i=>ρ (m i)) (fun i=>i<n/\V (m i)) Z w (f i) (l.getD i default):=by
  intro i hi
  have h1:=h i (by rw[jO];exact hi)
  rw[j1 m l i hi] at h1
  have hm:l.getD i default∈l:=by
    have:l.getD i default=l[i]:=by simp[List.getD_eq_getElem?_getD,hi]
    rw[this];exact List.getElem_mem hi
  exact ih _ hm _ (Jp l i hi hp) h1
theorem Rel.mp_inv {v:Value} {id:Nat} (h:Rel ρ V Z w v (.mp id)):v= .map (some (ρ id).blk)/\V id:=by
 generalize hx:AV.mp id=x at h
 cases h<;>cases hx
 exact⟨rfl, ‹_›⟩
theorem Rel.ptr_inv {v:Value} {id o:Nat} (h:Rel ρ V Z w v (.ptr id o)):v= .pointer (some ⟨(ρ id).blk,o,none⟩)/\V id:=by
 generalize hx:AV.ptr id o=x at h
 cases h<;>cases hx
 exact⟨rfl, ‹_›⟩
theorem Rel.rptr_inv {v:Value} {id sz i o:Nat} (h:Rel ρ V Z w v (.rptr id sz i o)):v= .pointer (some ⟨(ρ id).blk,(ρ id).off+i*sz+o,none⟩)/\V id:=by
 generalize hx:AV.rptr id sz i o=x at h
 cases h<;>cases hx
 exact⟨rfl, ‹_›⟩
mutual
theorem JW (m:Nat->Nat) {n:Nat} :∀ (x:AV) (v:Value),x.ids (· <n)->Rel ρ V Z w v (x.ren m)->Rel (fun i=>ρ (m i)) (fun i=>i<n/\V (m i)) Z w v x
 | .ptr id o,v,hp,h=>by obtain⟨rfl,h2⟩:=h.ptr_inv;exact .ptr (ρ:=fun i=>ρ (m i)) id o ⟨hp,h2⟩
 | .rptr id sz i o,v,hp,h=>by obtain⟨rfl,h2⟩:=h.rptr_inv;exact .rptr (ρ:=fun i=>ρ (m i)) id sz i o ⟨hp,h2⟩
 | .rw id,v,hp,h=>by obtain⟨rfl,h2⟩:=h.rw_inv;exact .rw (ρ:=fun i=>ρ (m i)) id ⟨hp,h2⟩
 | .mp id,v,hp,h=>by obtain⟨rfl,h2⟩:=h.mp_inv;exact .mp (ρ:=fun i=>ρ (m i)) id ⟨hp,h2⟩
 | .fn f a b,v,hp,h=>by
  obtain⟨fs,cs,rfl,h1,h2,h3,h4⟩:=h.fn_inv
  rw[jO] at h1 h2
  exact .fn f fs cs a b h1 h2 (Yj m hp.1 (fun y hy v=>gQ m a y hy v) h3) (Yj m hp.2 (fun y hy v=>gQ m b y hy v) h4)
 | .iface t y,v,hp,h=>by
  obtain⟨u,rfl,h1⟩:=h.iface_inv
  exact .iface t u y (JW m y u hp h1)
 | .agg l,v,hp,h=>by
  obtain⟨cs,rfl,h1,h2,h3⟩:=h.agg_inv
  rw[jO] at h1
  refine .agg cs l h1 (fun i hi=>?_) (Yj m hp (fun y hy v=>gQ m l y hy v) h3)
  have:=h2 i (by rw[jO];exact hi)
  rw[j1 m l i hi,Gm] at this
  exact this
 | .tup l,v,hp,h=>by
  obtain⟨cs,rfl,h1,h3⟩:=h.tup_inv
  rw[jO] at h1
  exact .tup cs l h1 (Yj m hp (fun y hy v=>gQ m l y hy v) h3)
 | .bool b,v,_,h=>jR h rfl _ _
 | .int k i,v,_,h=>jR h rfl _ _
 | .str s,v,_,h=>jR h rfl _ _
 | .nilp,v,_,h=>jR h rfl _ _
 | .eptr e o,v,_,h=>jR h rfl _ _
 | .nilsl,v,_,h=>jR h rfl _ _
 | .sl l,v,_,h=>jR h rfl _ _
 | .nilmap,v,_,h=>jR h rfl _ _
 | .nilfn,v,_,h=>jR h rfl _ _
 | .nilif,v,_,h=>jR h rfl _ _
theorem gQ (m:Nat->Nat) {n:Nat} :∀ (l:List AV) (y:AV),y∈l->∀ (v:Value),y.ids (· <n)->Rel ρ V Z w v (y.ren m)->Rel (fun i=>ρ (m i)) (fun i=>i<n/\V (m i)) Z w v y
 | [],y,hy=>absurd hy (List.not_mem_nil)
 |x::l,y,hy=>fun v hp h=>by
  by_cases e:y=x
  ·rw[e] at hp h ⊢;exact JW m x v hp h
  ·exact gQ m l y ((List.mem_cons.1 hy).resolve_left e) v hp h
end
theorem uz (m:Nat->Nat) {n id:Nat} {o:AObj} (hp:o.ids (· <n)) (h:ObjRel ρ V Z w (m id) (o.ren m)):ObjRel (fun i=>ρ (m i)) (fun i=>i<n/\V (m i)) Z w id o:=by
 cases o with
 |cells l=>
  obtain⟨h0,cs,ty,h1,h2,h3⟩:=h
  rw[jO] at h2 h3
  refine⟨h0,cs,ty,h1,h2,fun i hi=>?_⟩
  have:=h3 i hi
  rw[j1 m l i hi,Gm] at this
  exact⟨this.1,JW m _ _ (Jp l i hi hp) this.2⟩
 |row sz l=>
  rcases h with ⟨h0,h1⟩|⟨h0,cs,ty,h1,h2,h3,h4,h5,h6⟩
  ·exact .inl ⟨h0,by cases l with|nil=>rfl|cons _ _=>simp[AV.renL] at h1⟩
  ·rw[jO] at h2 h3 h5 h6
   refine .inr ⟨h0,cs,ty,h1,h2,h3,h4,fun i hi=>?_,fun i j hi hj=>?_⟩
   ·have:=h5 i hi
    rw[j1 m l i hi,Y3,jO] at this
    exact this
   ·have hlen:=h5 i hi
    rw[j1 m l i hi,Y3,jO] at hlen
    have:=h6 i j hi hj
    rw[j1 m l i hi,Y3,j1 m _ j (by omega),Gm] at this
    exact⟨this.1,JW m _ _ (Jp _ j (by omega) (OD (Jp l i hi hp))) this.2⟩
 |map es=>
  obtain⟨h0,ents,clock,h1,h2,h3⟩:=h
  simp only[List.length_map] at h2 h3
  refine⟨h0,ents,clock,h1,h2,fun i hi=>?_⟩
  have:=h3 i hi
  have e:(es.map fun p=>(p.1.ren m,p.2.ren m)).getD i default=((es.getD i default).1.ren m,(es.getD i default).2.ren m):=by
   simp[List.getD_eq_getElem?_getD,hi]
  rw[e] at this
  have hm:es.getD i default∈es:=by
   have:es.getD i default=es[i]:=by simp[List.getD_eq_getElem?_getD,hi]
   rw[this];exact List.getElem_mem hi
  exact⟨JW m _ _ (hp _ hm).1 this.1,JW m _ _ (hp _ hm).2 this.2⟩
 |lp q l=>
  obtain⟨h0,h1,tmps,ds,h2,h3,h4⟩:=h
  rw[jO] at h4
  refine⟨h0,h1,tmps,ds,h2,h3,fun i hi=>?_⟩
  have:=h4 i hi
  rw[j1 m l i hi] at this
  exact JW m _ _ (Jp l i hi hp) this
def Ent (np:Nat) (m:Nat->Nat) (O O':St):Prop:=
 (∀ t x,O'.fr t=some x->O.fr t=some (x.ren m)/\x.ids (· <O'.nx))/\
 (∀ id o,O'.hp id=some o->O.hp (m id)=some (o.ren m)/\id<O'.nx/\o.ids (· <O'.nx))/\
 (∀ id id' o o',O'.hp id=some o->O'.hp id'=some o'->m id=m id'->id=id')/\
 (∀ id,id<np->m id=id/\id<O'.nx)
theorem Sat.ent {m:Nat->Nat} {O':St} (h:Sat E ρ V Z O a w) (he:Ent E.np m O O'):Sat E (fun i=>ρ (m i)) (fun i=>i<O'.nx/\V (m i)) Z O' a w:=by
 obtain⟨h1,h2,h3,h4⟩:=he
 refine⟨h.nt,h.df,fun t x hx=>JW m x _ (h1 t x hx).2 (h.fr t _ (h1 t x hx).1),⟨?_,?_,?_,h.hs.lt,h.hs.gl⟩,h.ext,?_,h.z0,h.zn,fun id hid=>?_⟩
 ·intro id o ho
  obtain⟨g1,g2,g3⟩:=h2 id o ho
  obtain⟨g4,g5⟩:=h.hs.obj _ _ g1
  exact⟨⟨g2,g4⟩,uz m g3 g5⟩
 ·intro id id' o o' b ho ho' hb hb'
  exact h3 id id' o o' ho ho' (h.hs.inj _ _ _ _ b (h2 id o ho).1 (h2 id' o' ho').1 hb hb')
 ·intro id o b ho hb
  exact h.hs.sep _ _ b (h2 id o ho).1 hb
 ·intro id o b ho hb hlt
  exact h.ownd _ _ b (h2 id o ho).1 hb hlt
 ·have:=h4 id hid
  have h5:=h.pn id hid
  simp only[this.1]
  exact⟨⟨this.2,h5.1⟩,h5.2⟩
theorem AW.ent {c:Code} {Q:AEx->St->Prop} {O':St} (m:Nat->Nat) (he:Ent E.np m O O') (h:AW P E c Q O'):AW P E c Q O:=
 fun ρ V Z a w hs hV=>h _ _ Z a w (hs.ent he) (fun id hid=>hid.1)
theorem jec {c : Code} {Q : AEx -> St -> Prop} {X : Type} (R : X -> Prop) (mk : X -> St) (μ : X -> Nat) (x0 : X) (h0 : R x0) (m0 : Nat -> Nat) (e0 : Ent E.np m0 O (mk x0))
    (round:∀ x,R x->AW P E c (Gx (fun O'=>∃ x',R x'/\μ x'<μ x/\∃ m,Ent E.np m O' (mk x')) Q) (mk x)):AW P E (.loop c) Q O:=by
  refine jbA (fun n O=>∃ x,R x/\μ x=n/\∃ m,Ent E.np m O (mk x)) ⟨x0,h0,rfl,m0,e0⟩ ?_
  rintro n O ⟨x,hR,rfl,m,he⟩
  refine AW.ent m he ((round x hR).mono ?_)
  intro e O' h
  cases e with
  |norm=>obtain⟨x',h1,h2,m',h3⟩:=h;exact⟨μ x',h2,x',h1,rfl,m',h3⟩
  |exit id=>exact h
  |ret=>exact h
  |pan y=>exact h
theorem jc {np : Nat} {m : Nat -> Nat} {fr : List (Nat × AV)} {hp : List (Nat × AObj)} {nx : Nat} (h1 : ∀ p, p ∈ fr -> O.fr p.1 = some (p.2.ren m) /\ p.2.ids (· < nx)) (h2 : ∀ p, p ∈ hp -> O.hp (m p.1) = some (p.2.ren m) /\ p.1 < nx /\ p.2.ids (· < nx))
    (h3:hp.Pairwise fun p q=>m p.1≠m q.1) (h4:∀ id,id<np->m id=id/\id<nx):Ent np m O (jx fr hp nx):=by
  have k1:∀ t x,jL fr t=some x->(t,x)∈fr:=by
    intro t x
    induction fr with
    |nil=>intro h;cases h
    |cons p fr ih=>
      obtain⟨t',x'⟩:=p
      intro h
      simp only[jL,upd] at h
      split at h
      · rename_i e;cases h;simp[e]
      · exact List.mem_cons_of_mem _ (ih (fun p hp=>h1 p (List.mem_cons_of_mem _ hp)) h)
  have k2:∀ t x,jp hp t=some x->(t,x)∈hp:=by
    clear h1 h2 h3 k1
    intro t x
    induction hp with
    |nil=>intro h;cases h
    |cons p fr ih=>
      obtain⟨t',x'⟩:=p
      intro h
      simp only[jp,jb] at h
      split at h
      · rename_i e;cases h;simp[e]
      · exact List.mem_cons_of_mem _ (ih h)
  refine⟨fun t x hx=>h1 _ (k1 t x hx),fun id o ho=>h2 _ (k2 id o ho),?_,h4⟩
  intro id id' o o' ho ho' hm
  by_cases e:id=id'
  · exact e
  · exfalso
    have m1:=k2 _ _ ho
    have m2:=k2 _ _ ho'
    replace ho:jp hp id=some o:=ho
    replace ho':jp hp id'=some o':=ho'
    clear k1 k2 h1 h2
    induction hp with
    |nil=>cases m1
    |cons p hp ih=>
      rw[List.pairwise_cons] at h3
      rcases List.mem_cons.1 m1 with e1|m1'
      · rcases List.mem_cons.1 m2 with e2|m2'
        · rw[<- e1] at e2;exact e (congrArg Prod.fst e2).symm
        · have:=h3.1 _ m2';rw[<- e1] at this;exact this hm
      · rcases List.mem_cons.1 m2 with e2|m2'
        · have:=h3.1 _ m1';rw[<- e2] at this;exact this hm.symm
        · have h4 : jp hp id = some o := by
            simp only[jp,jb] at ho
            split at ho
            · rename_i e5
              exfalso
              exact h3.1 _ m1' (by rw[e5])
            · exact ho
          have h5:jp hp id'=some o':=by
            simp only[jp,jb] at ho'
            split at ho'
            · rename_i e5
              exfalso
              exact h3.1 _ m2' (by rw[e5])
            · exact ho'
          exact ih h3.2 m1' m2' h4 h5
theorem gz {c:Code} {Q:AEx->St->Prop} (t sz:Nat) (ht:t<E.nt) (hx:O.fr t=some .nilsl) (h:AW P E c Q { fr:=upd O.fr t (.rw O.nx),hp:=jb O.hp O.nx (some (.row sz [])),nx:=O.nx+1 }):AW P E c Q O:=by
 intro ρ V Z a w hs hV
 have hnv:¬ V O.nx:=fun hv=>by have:=hV _ hv;omega
 have h1:=hs.newnil (d:=some t) (fun n hn=>by cases hn;exact ht) hnv sz
 have h2:a.put (some t) (.slice none 0 0)=a:=by
  have hr:=(hs.fr t _ hx).nilsl_inv
  have hlt:t<a.tmps.size:=by rw[hs.nt];exact ht
  have he:a.tmps[t]= .slice none 0 0:=by simpa [Array.getD,hlt] using hr
  cases a with
  |mk tmps df=>
   simp only[Act.put]
   congr 1
   apply Array.ext
   ·simp
   ·intro i h1 h2
    by_cases e:t=i
    ·subst e;simp[he]
    ·rw[Array.getElem_setIfInBounds_ne (by simpa using h2) e]
 rw[h2] at h1
 refine h _ _ Z a w (h1.nx _) (fun id hid=>?_)
 rcases hid with hid|hid
 ·have:=hV _ hid;show id<O.nx+1;omega
 ·show id<O.nx+1;omega
def rvS (tmps:Array Value):ResultVar->Sem Value
 | .tmp t=>pure (tmps.getD t undef)
 | .cell u t=>do loadVar t (<- asAddr (tmps.getD u undef))
theorem Xi (fn:Func) (tmps:Array Value):results fn tmps=(do let vs <- fn.results.mapM (rvS tmps);pure (if h:vs.size=1 then vs[0] else .tuple vs)):=rfl
theorem J5 (h:Sat E ρ V Z O a w) {fn:Func} {r:AV} (hr:Jy P fn.results.toList O=some r):∃ v,(results fn a.tmps).run P w= .ok v w/\Rel ρ V Z w v r:=by
  have key : ∀ (l : List ResultVar) (xs : List AV), l.mapM (rvA P O) = some xs -> ∃ vs : List Value, (l.mapM (rvS a.tmps)).run P w = .ok vs w /\
      vs.length=xs.length/\∀ i,i<xs.length->Rel ρ V Z w (vs.getD i undef) (xs.getD i default):=by
    intro l
    induction l with
    |nil=>intro xs hx;simp at hx;subst hx;exact⟨[],rfl,rfl,fun i hi=>absurd hi (Nat.not_lt_zero _)⟩
    |cons x l ih=>
      intro xs hx
      simp only[List.mapM_cons] at hx
      cases h1:rvA P O x with
      |none=>simp[h1] at hx
      |some y=>
        cases h2:l.mapM (rvA P O) with
        |none=>simp[h1,h2] at hx
        |some ys=>
          simp[h1,h2] at hx
          subst hx
          obtain⟨vs,g1,g2,g3⟩:=ih ys h2
          have hv:∃ v,(rvS a.tmps x).run P w= .ok v w/\Rel ρ V Z w v y:=by
            cases x with
            |tmp t=>exact⟨_,rfl,h.fr t y h1⟩
            |cell u ty=>
              simp only[rvA] at h1
              cases hu:O.fr u with
              |none=>simp[hu] at h1
              |some p=>
                cases hT:ti P ty with
                |none=>simp[hu,hT] at h1
                |some T=>
                  simp only[hu,hT] at h1
                  cases p<;>try(simp at h1;done)
                  rename_i id off
                  simp only at h1
                  cases ho:O.hp id with
                  |none=>simp[ho] at h1
                  |some o=>
                    simp only[ho] at h1
                    cases o<;>try(simp at h1;done)
                    rename_i cl
                    simp only at h1
                    obtain⟨e1,_⟩:=(h.fr u _ hu).ptr_inv
                    obtain⟨hV,h0,cs,ty',k1,k2,k3⟩:=h.hs.obj _ _ ho
                    have hc:∀ j,j<cl.length->w.cell? ⟨(ρ id).blk,0+j,none⟩=some (cs.getD j undef):=by
                      intro j hj
                      have:j<cs.size:=by omega
                      simp[World.cell?,k1,Array.getD,this]
                    obtain⟨v',hr,hrel⟩:=uv (P:=P) hT hc (fun j hj=>(k3 j hj).1) (fun j hj=>(k3 j hj).2) h1
                    rw[Nat.zero_add] at hr
                    refine⟨v',?_,hrel⟩
                    simp only[rvS,e1]
                    simpa [asAddr,Instr.loadAt,Instr.sureAddr] using hr
          obtain⟨v,hv1,hv2⟩:=hv
          refine⟨v::vs,?_,by simp[g2],fun i hi=>?_⟩
          · rw[List.mapM_cons]
            simp only[Sem.run_bind,Sem.run_pure]
            rw[hv1]
            simp only[Result.andThen_ok]
            rw[g1]
            rfl
          · cases i with
            |zero=>simpa using hv2
            |succ i=>simpa using g3 i (by simpa using hi)
  unfold Jy at hr
  cases hm:fn.results.toList.mapM (rvA P O) with
  |none=>simp[hm] at hr
  |some xs=>
    obtain⟨vs,g1,g2,g3⟩:=key _ _ hm
    have hrun:(results fn a.tmps).run P w= .ok (if h:vs.toArray.size=1 then vs.toArray[0] else .tuple vs.toArray) w:=by
      rw[Xi]
      have e:=List.mapM_toArray (m:=Sem) (l:=fn.results.toList) (f:=rvS a.tmps)
      simp only[Array.toArray_toList] at e
      rw[e]
      simp only[Sem.run_bind,Sem.run_map]
      rw[g1]
      simp only[Result.andThen_ok,Sem.run_pure]
    rw[hm] at hr
    match xs,hr,g2,g3 with
    | [x],hr,g2,g3=>
      simp only[Option.some.injEq] at hr
      subst hr
      obtain⟨v,rfl⟩:=List.length_eq_one_iff.1 g2
      exact⟨v,by simpa using hrun,by simpa using g3 0 (by simp)⟩
    | [],hr,g2,g3=>
      simp only[Option.some.injEq] at hr
      subst hr
      have:vs=[]:=List.length_eq_zero_iff.1 g2
      subst this
      exact⟨.tuple #[],by simpa using hrun,.tup _ _ rfl (fun i hi=>absurd hi (Nat.not_lt_zero _))⟩
    |x::y::xs,hr,g2,g3=>
      simp only[Option.some.injEq] at hr
      subst hr
      refine⟨.tuple vs.toArray,?_,.tup _ _ (by simpa using g2) (fun i hi=>?_)⟩
      · rw[hrun,dif_neg (by simp at g2 ⊢;omega)]
      · have:=g3 i hi
        simpa [List.getD_eq_getElem?_getD,Array.getD_eq_getD_getElem?] using this
theorem PCall.of_body {f : FuncId} {fn : Func} {c : Code} {vs : List AV} {r : AV} (hf : P.funcs[f]? = some fn) (hb : fn.body = some c) (hfn : jJ P f = true) (hn : vs.length <= fn.ntmps) (hclo : AV.cloL vs = true)
    (h:∀ E:En,E.nt=fn.ntmps->E.np=0->AW P E c (fun e O=>(e= .ret\/e= .norm)/\∃ r',Jy P fn.results.toList O=some r'/\r'.snapOk O.hp/\r'.snap O.hp=r/\r.clo=true) ⟨fun t=>vs[t]?,fun _=>none,0⟩):PCall P f vs r:=by
  refine⟨hfn,fun ρ V Z w args hZ hgl hsz hrel=>?_⟩
  have hlen:args.size<=fn.ntmps:=by omega
  have hs:Sat ⟨fn.ntmps,[],w,fun _=>False,Z,0,ρ,none,true,true⟩ ρ (fun _=>False) Z ⟨fun t=>vs[t]?,fun _=>none,0⟩ { tmps:=args++Array.replicate (fn.ntmps - args.size) undef,defers:=[] } w->Calls P f args w fun e w'=>∃ v Z',e= .returned v/\Rel ρ V Z' w' v r/\Ext w w' (fun _=>False)/\(∀ b o,Z b o->Z' b o)/\(∀ b o,Z' b o->Z b o\/(w.heap.size<=b/\b<w'.heap.size)):=by
    intro hsat
    refine Ye hf hb rfl rfl (h _ rfl rfl ρ _ Z _ w hsat (fun _ h=>h.elim)) ?_ (fun ρ' V' Z' O a w' v x _ _ h=>by rcases h.1 with h|h<;>cases h) (fun j O h=>by rcases h.1 with h|h<;>cases h)
    rintro ρ' V' Z' O a w' h7 hq _
    obtain⟨r',h3,h4,h5,h6⟩:∃ r',Jy P fn.results.toList O=some r'/\r'.snapOk O.hp/\r'.snap O.hp=r/\r.clo=true:=hq.elim (fun h=>h.2) (fun h=>h.2)
    obtain⟨v,hv1,hv2⟩:=J5 h7 h3
    have hv3:=gT h7.hs hv2 h4
    rw[h5] at hv3
    have hv4:=jR hv3 h6 ρ V
    have hz1:∀ b o,ZR ρ' Z' O b o->Z b o\/(w.heap.size<=b/\b<w'.heap.size):=by
      intro b o hz
      rcases hz with hz|⟨id,sz,l,g1,g2⟩
      · rcases h7.zn b o hz with g|g|g
        · exact .inl g
        · exact .inr ⟨g,h7.hs.lt b o hz⟩
        · exact g.elim
      · have g3:=(h7.hs.obj id _ g1).2.lt b g2
        refine .inr ⟨?_,g3⟩
        rcases Nat.lt_or_ge b w.heap.size with g4|g4
        · exact(h7.ownd id _ b g1 g2 g4).elim
        · exact g4
    exact⟨v,hv1,v,ZR ρ' Z' O,rfl,hv4,h7.ext,fun b o hz=> .inl (h7.z0 b o hz),hz1⟩
  refine hs ⟨?_,⟨[],rfl,⟨by simp,by simp⟩,fun _=>rfl⟩,fun t x hx=>?_,⟨fun id o ho=>(by cases ho),fun id id' o o' b ho=>(by cases ho),fun id o b ho=>(by cases ho),hZ,hgl⟩,⟨fun _ _ _=>rfl,Nat.le_refl _,rfl,rfl,?_⟩,fun id o b ho=>(by cases ho),fun _ _ h=>h,fun _ _ h=> .inl h,fun id hid=>absurd hid (Nat.not_lt_zero _)⟩
  · simp;omega
  · have hlt : t < vs.length := by
      rcases Nat.lt_or_ge t vs.length with h'|h'
      · exact h'
      · simp only[List.getElem?_eq_none h'] at hx;cases hx
    have h1:=hrel t hlt
    have e1:vs.getD t default=x:=by simp only at hx;simp[List.getD_eq_getElem?_getD,hx]
    have e2:(args++Array.replicate (fn.ntmps - args.size) undef).getD t undef=args.getD t undef:=by
      simp only[Array.getD_eq_getD_getElem?];rw[Array.getElem?_append_left (by omega)]
    have hc:∀ (l:List AV),AV.cloL l=true->∀ i,i<l.length->(l.getD i default).clo=true:=by
      intro l
      induction l with
      |nil=>intro _ i hi;exact absurd hi (Nat.not_lt_zero _)
      |cons y l ih=>
        intro hl i hi
        simp only[AV.cloL,Bool.and_eq_true] at hl
        cases i with
        |zero=>simpa using hl.1
        |succ i=>simpa using ih hl.2 i (by simpa using hi)
    have h2:=hc vs hclo t hlt
    rw[e1] at h1 h2
    show Rel ρ (fun _=>False) Z w ((args++Array.replicate (fn.ntmps - args.size) undef).getD t undef) x
    rw[e2]
    exact jR h1 h2 _ _
  · trivial
end Go.Am

namespace Go.Am
section
variable {P:Program} {bar:Bool} {bs:Option (List Nat)} {ds:List (Option Nat)} {k:Nat} {O:St} {K:St->Prop} {Kp:AV->St->Prop} {d:Option Nat} {ty:TypeId} {pos:String} {aft:Array Edge} {g:Option (Nat×Bool)}
@[go_sem ↓] theorem jkA {op:Op} :goG P bar none ds k ⟨d,op,ty,pos,aft,none⟩ O K Kp=goX P bar k ⟨d,op,ty,pos,aft,none⟩ O K Kp:=by simp[goG,gdA,jG]
@[go_sem ↓] theorem jiK {op:Op} {bl:List Nat} :goG P bar (some bl) ds k ⟨d,op,ty,pos,aft,none⟩ O K Kp=(jG (some bl) k op O/\goX P bar k ⟨d,op,ty,pos,aft,none⟩ O K Kp):=_root_.id rfl
theorem jcF {op:Op} {j:Nat} {b:Bool} :goG P bar none ds k ⟨d,op,ty,pos,aft,some (j,b)⟩ O K Kp=(match gdA ds (some (j,b)) O.fr with|some true=>goX P bar k ⟨d,op,ty,pos,aft,some (j,b)⟩ O K Kp|some false=>K (O.put d (.tup []))|none=>False):=by
 simp only[goG,jG,true_and]
 rfl
theorem ja3 {op:Op} {j:Nat} {b:Bool} {bl:List Nat} :goG P bar (some bl) ds k ⟨d,op,ty,pos,aft,some (j,b)⟩ O K Kp=(match gdA ds (some (j,b)) O.fr with|some true=>jG (some bl) k op O/\goX P bar k ⟨d,op,ty,pos,aft,some (j,b)⟩ O K Kp|some false=>K (O.put d (.tup []))|none=>False):=_root_.id rfl
theorem jky {j:Nat} {b:Bool} {fr:Nat->Option AV} :gdA ds (some (j,b)) fr=(match ds[j]? with|some (some s)=>(match fr s with|some (.bool c)=>some (c==b)|some (.tup [])=>some false|_=>none)|_=>none):=_root_.id rfl
def on1 (x:Option AV) (f:AV->Prop):Prop:=match x with|some v=>f v|none=>False
def on2 (x y:Option AV) (f:AV->AV->Prop):Prop:=match x,y with|some v,some u=>f v u|_,_=>False
@[go_sem] theorem jlQ {v:AV} {f:AV->Prop} :on1 (some v) f=f v:=_root_.id rfl
@[go_sem] theorem jlR {v u:AV} {f:AV->AV->Prop} :on2 (some v) (some u) f=f v u:=_root_.id rfl
def JM (e:Option (Prop×Ef)) (O:St) (d:Option Nat) (id:Nat) (K:St->Prop):Prop:=match e with|some (ob,e)=>ob/\K (e.app O d id)|none=>False
@[go_sem] theorem jjv {ob:Prop} {e:Ef} {id:Nat} :JM (some (ob,e)) O d id K=(ob/\K (e.app O d id)):=_root_.id rfl
theorem QW {op:Op} {x:Operand} (h:Jr op=[x]):(match eff P O op with|some (ob,e)=>ob/\K (e.app O d (O.nx+1048576*k))|none=>False)=on1 (evA O x) fun v=>JM (ji P op [v] [v.id?.bind O.hp]) O d (O.nx+1048576*k) K:=by
 unfold eff
 rw[h]
 cases hx:evA O x with
 |none=>simp[hx,on1]
 |some v=>simp[hx,on1,JM]
theorem xK {op:Op} {x y:Operand} (h:Jr op=[x,y]):(match eff P O op with|some (ob,e)=>ob/\K (e.app O d (O.nx+1048576*k))|none=>False)=on2 (evA O x) (evA O y) fun v u=>JM (ji P op [v,u] [v.id?.bind O.hp,u.id?.bind O.hp]) O d (O.nx+1048576*k) K:=by
 unfold eff
 rw[h]
 cases hx:evA O x with
 |none=>simp[hx,on2]
 |some v=>
  cases hy:evA O y with
  |none=>simp[hx,hy,on2]
  |some u=>simp[hx,hy,on2,JM]
@[go_sem ↓,go_sem] theorem jkE {fr:Nat->Option AV} {hp:Nat->Option AObj} {nx:Nat} {x:Operand} :goX P bar k ⟨d,.move x,ty,pos,aft,g⟩ ⟨fr,hp,nx⟩ K Kp=on1 (evA ⟨fr,hp,nx⟩ x) fun v=>K (St.put ⟨fr,hp,nx⟩ d v):=by
 show(match eff P ⟨fr,hp,nx⟩ (.move x) with|some (ob,e)=>ob/\K (e.app ⟨fr,hp,nx⟩ d (nx+1048576*k))|none=>False)=_
 rw[QW rfl];simp[ji,JM,Ef.app]
@[go_sem ↓,go_sem] theorem jhy {fr:Nat->Option AV} {hp:Nat->Option AObj} {nx:Nat} {x:Operand} :goX P bar k ⟨d,.assign x,ty,pos,aft,g⟩ ⟨fr,hp,nx⟩ K Kp=on1 (evA ⟨fr,hp,nx⟩ x) fun v=>K (St.put ⟨fr,hp,nx⟩ d v):=by
 show(match eff P ⟨fr,hp,nx⟩ (.assign x) with|some (ob,e)=>ob/\K (e.app ⟨fr,hp,nx⟩ d (nx+1048576*k))|none=>False)=_
 rw[QW rfl];simp[ji,JM,Ef.app]
@[go_sem ↓,go_sem] theorem jmK {fr:Nat->Option AV} {hp:Nat->Option AObj} {nx:Nat} {t:TypeId} {x:Operand} :goX P bar k ⟨d,.box t x,ty,pos,aft,g⟩ ⟨fr,hp,nx⟩ K Kp=on1 (evA ⟨fr,hp,nx⟩ x) fun v=>JM (ji P (.box t x) [v] [v.id?.bind hp]) ⟨fr,hp,nx⟩ d (nx+1048576*k) K:=QW rfl
@[go_sem ↓,go_sem] theorem jkD {fr:Nat->Option AV} {hp:Nat->Option AObj} {nx:Nat} {t:TypeId} {x:Operand} :goX P bar k ⟨d,.load t x,ty,pos,aft,g⟩ ⟨fr,hp,nx⟩ K Kp=on1 (evA ⟨fr,hp,nx⟩ x) fun v=>JM (ji P (.load t x) [v] [v.id?.bind hp]) ⟨fr,hp,nx⟩ d (nx+1048576*k) K:=QW rfl
@[go_sem ↓,go_sem] theorem je7 {fr:Nat->Option AV} {hp:Nat->Option AObj} {nx:Nat} {x:Operand} :goX P bar k ⟨d,.nilCheck x,ty,pos,aft,g⟩ ⟨fr,hp,nx⟩ K Kp=on1 (evA ⟨fr,hp,nx⟩ x) fun v=>JM (ji P (.nilCheck x) [v] [v.id?.bind hp]) ⟨fr,hp,nx⟩ d (nx+1048576*k) K:=QW rfl
@[go_sem ↓,go_sem] theorem jkG {fr:Nat->Option AV} {hp:Nat->Option AObj} {nx:Nat} {op:UnOp} {t:TypeId} {x:Operand} :goX P bar k ⟨d,.unOp op t x,ty,pos,aft,g⟩ ⟨fr,hp,nx⟩ K Kp=on1 (evA ⟨fr,hp,nx⟩ x) fun v=>JM (ji P (.unOp op t x) [v] [v.id?.bind hp]) ⟨fr,hp,nx⟩ d (nx+1048576*k) K:=QW rfl
@[go_sem ↓,go_sem] theorem XY {fr:Nat->Option AV} {hp:Nat->Option AObj} {nx:Nat} {t:TypeId} {x:Operand} :goX P bar k ⟨d,.makeInterface t x,ty,pos,aft,g⟩ ⟨fr,hp,nx⟩ K Kp=on1 (evA ⟨fr,hp,nx⟩ x) fun v=>JM (ji P (.makeInterface t x) [v] [v.id?.bind hp]) ⟨fr,hp,nx⟩ d (nx+1048576*k) K:=QW rfl
@[go_sem ↓,go_sem] theorem jd4 {fr:Nat->Option AV} {hp:Nat->Option AObj} {nx:Nat} {t:TypeId} {x:Operand} {f:Nat} :goX P bar k ⟨d,.fieldAddr t x f,ty,pos,aft,g⟩ ⟨fr,hp,nx⟩ K Kp=on1 (evA ⟨fr,hp,nx⟩ x) fun v=>JM (ji P (.fieldAddr t x f) [v] [v.id?.bind hp]) ⟨fr,hp,nx⟩ d (nx+1048576*k) K:=QW rfl
@[go_sem ↓,go_sem] theorem jfR {fr:Nat->Option AV} {hp:Nat->Option AObj} {nx:Nat} {x:Operand} {f:Nat} :goX P bar k ⟨d,.extract x f,ty,pos,aft,g⟩ ⟨fr,hp,nx⟩ K Kp=on1 (evA ⟨fr,hp,nx⟩ x) fun v=>JM (ji P (.extract x f) [v] [v.id?.bind hp]) ⟨fr,hp,nx⟩ d (nx+1048576*k) K:=QW rfl
@[go_sem ↓,go_sem] theorem jcI {fr:Nat->Option AV} {hp:Nat->Option AObj} {nx:Nat} {x:Operand} {s t:TypeId} {ok:Bool} :goX P bar k ⟨d,.typeAssert x s t ok,ty,pos,aft,g⟩ ⟨fr,hp,nx⟩ K Kp=on1 (evA ⟨fr,hp,nx⟩ x) fun v=>JM (ji P (.typeAssert x s t ok) [v] [v.id?.bind hp]) ⟨fr,hp,nx⟩ d (nx+1048576*k) K:=QW rfl
@[go_sem ↓,go_sem] theorem jiT {fr:Nat->Option AV} {hp:Nat->Option AObj} {nx:Nat} {t:TypeId} {x y:Operand} :goX P bar k ⟨d,.store t x y,ty,pos,aft,g⟩ ⟨fr,hp,nx⟩ K Kp=on2 (evA ⟨fr,hp,nx⟩ x) (evA ⟨fr,hp,nx⟩ y) fun v u=>JM (ji P (.store t x y) [v,u] [v.id?.bind hp,u.id?.bind hp]) ⟨fr,hp,nx⟩ d (nx+1048576*k) K:=xK rfl
@[go_sem ↓,go_sem] theorem jiN {fr:Nat->Option AV} {hp:Nat->Option AObj} {nx:Nat} {op:BinOp} {t u:TypeId} {x y:Operand} :goX P bar k ⟨d,.binOp op t x y u,ty,pos,aft,g⟩ ⟨fr,hp,nx⟩ K Kp=on2 (evA ⟨fr,hp,nx⟩ x) (evA ⟨fr,hp,nx⟩ y) fun v z=>JM (ji P (.binOp op t x y u) [v,z] [v.id?.bind hp,z.id?.bind hp]) ⟨fr,hp,nx⟩ d (nx+1048576*k) K:=xK rfl
@[go_sem ↓,go_sem] theorem jd6 {fr:Nat->Option AV} {hp:Nat->Option AObj} {nx:Nat} {t:TypeId} {x y:Operand} :goX P bar k ⟨d,.makeSlice t x y,ty,pos,aft,g⟩ ⟨fr,hp,nx⟩ K Kp=on2 (evA ⟨fr,hp,nx⟩ x) (evA ⟨fr,hp,nx⟩ y) fun v u=>JM (ji P (.makeSlice t x y) [v,u] [v.id?.bind hp,u.id?.bind hp]) ⟨fr,hp,nx⟩ d (nx+1048576*k) K:=xK rfl
@[go_sem ↓,go_sem] theorem jd5 {fr:Nat->Option AV} {hp:Nat->Option AObj} {nx:Nat} {t:TypeId} {x y:Operand} :goX P bar k ⟨d,.indexAddr t x y,ty,pos,aft,g⟩ ⟨fr,hp,nx⟩ K Kp=on2 (evA ⟨fr,hp,nx⟩ x) (evA ⟨fr,hp,nx⟩ y) fun v u=>JM (ji P (.indexAddr t x y) [v,u] [v.id?.bind hp,u.id?.bind hp]) ⟨fr,hp,nx⟩ d (nx+1048576*k) K:=xK rfl
@[go_sem ↓,go_sem] theorem jiM {fr:Nat->Option AV} {hp:Nat->Option AObj} {nx:Nat} {t:TypeId} :goX P bar k ⟨d,.alloc t,ty,pos,aft,g⟩ ⟨fr,hp,nx⟩ K Kp=JM (ji P (.alloc t) [] []) ⟨fr,hp,nx⟩ d (nx+1048576*k) K:=by
 show(match eff P ⟨fr,hp,nx⟩ (.alloc t) with|some (ob,e)=>ob/\K (e.app ⟨fr,hp,nx⟩ d (nx+1048576*k))|none=>False)=_
 simp[eff,Jr,JM]
@[go_sem ↓,go_sem] theorem jmL {fr:Nat->Option AV} {hp:Nat->Option AObj} {nx:Nat} {x:Operand} {ts:Array TypeId} :goX P bar k ⟨d,.call ⟨.builtin .len, #[x],ts⟩,ty,pos,aft,g⟩ ⟨fr,hp,nx⟩ K Kp=on1 (evA ⟨fr,hp,nx⟩ x) fun v=>JM (ji P (.call ⟨.builtin .len, #[x],ts⟩) [v] [v.id?.bind hp]) ⟨fr,hp,nx⟩ d (nx+1048576*k) K:=QW rfl
@[go_sem ↓,go_sem] theorem jmM {fr:Nat->Option AV} {hp:Nat->Option AObj} {nx:Nat} {x y:Operand} {ts:Array TypeId} :goX P bar k ⟨d,.call ⟨.builtin .max, #[x,y],ts⟩,ty,pos,aft,g⟩ ⟨fr,hp,nx⟩ K Kp=on2 (evA ⟨fr,hp,nx⟩ x) (evA ⟨fr,hp,nx⟩ y) fun v u=>JM (ji P (.call ⟨.builtin .max, #[x,y],ts⟩) [v,u] [v.id?.bind hp,u.id?.bind hp]) ⟨fr,hp,nx⟩ d (nx+1048576*k) K:=xK rfl
@[go_sem ↓,go_sem] theorem jhx {fr:Nat->Option AV} {hp:Nat->Option AObj} {nx:Nat} {x y:Operand} {ts:Array TypeId} :goX P bar k ⟨d,.call ⟨.builtin .append, #[x,y],ts⟩,ty,pos,aft,g⟩ ⟨fr,hp,nx⟩ K Kp=on2 (evA ⟨fr,hp,nx⟩ x) (evA ⟨fr,hp,nx⟩ y) fun v u=>JM (ji P (.call ⟨.builtin .append, #[x,y],ts⟩) [v,u] [v.id?.bind hp,u.id?.bind hp]) ⟨fr,hp,nx⟩ d (nx+1048576*k) K:=xK rfl
@[go_sem ↓,go_sem] theorem jhA {fr:Nat->Option AV} {hp:Nat->Option AObj} {nx:Nat} {t:TypeId} {x y:Operand} {ok:Bool} :goX P bar k ⟨d,.lookup t x y ok,ty,pos,aft,g⟩ ⟨fr,hp,nx⟩ K Kp=on2 (evA ⟨fr,hp,nx⟩ x) (evA ⟨fr,hp,nx⟩ y) fun v u=>JM (ji P (.lookup t x y ok) [v,u] [v.id?.bind hp,u.id?.bind hp]) ⟨fr,hp,nx⟩ d (nx+1048576*k) K:=xK rfl
@[go_sem ↓,go_sem] theorem jfS {fr:Nat->Option AV} {hp:Nat->Option AObj} {nx:Nat} {t:TypeId} :goX P bar k ⟨d,.makeMap t none,ty,pos,aft,g⟩ ⟨fr,hp,nx⟩ K Kp=JM (ji P (.makeMap t none) [] []) ⟨fr,hp,nx⟩ d (nx+1048576*k) K:=by
 show(match eff P ⟨fr,hp,nx⟩ (.makeMap t none) with|some (ob,e)=>ob/\K (e.app ⟨fr,hp,nx⟩ d (nx+1048576*k))|none=>False)=_
 simp[eff,Jr,JM]
def onL (xs:Option (List AV)) (f:List AV->Prop):Prop:=match xs with|some l=>f l|none=>False
@[go_sem] theorem jlU {l:List AV} {f:List AV->Prop} :onL (some l) f=f l:=_root_.id rfl
theorem jaY {op:Op} :(match eff P O op with|some (ob,e)=>ob/\K (e.app O d (O.nx+1048576*k))|none=>False)=onL ((Jr op).mapM (evA O)) fun l=>JM (ji P op l (l.map fun v=>v.id?.bind O.hp)) O d (O.nx+1048576*k) K:=by
 unfold eff
 cases(Jr op).mapM (evA O) with
 |none=>rfl
 |some v=>rfl
@[go_sem ↓,go_sem] theorem jiO {fr:Nat->Option AV} {hp:Nat->Option AObj} {nx:Nat} {t:TypeId} {ps:Array (Nat×Operand)} :goX P bar k ⟨d,.build t ps,ty,pos,aft,g⟩ ⟨fr,hp,nx⟩ K Kp=onL ((ps.toList.map (·.2)).mapM (evA ⟨fr,hp,nx⟩)) fun l=>JM (ji P (.build t ps) l (l.map fun v=>v.id?.bind hp)) ⟨fr,hp,nx⟩ d (nx+1048576*k) K:=jaY
@[go_sem ↓,go_sem] theorem jcH {fr:Nat->Option AV} {hp:Nat->Option AObj} {nx:Nat} {t:TypeId} {n:Nat} {ps:Array (Nat×Operand)} :goX P bar k ⟨d,.buildSlice t n ps,ty,pos,aft,g⟩ ⟨fr,hp,nx⟩ K Kp=onL ((ps.toList.map (·.2)).mapM (evA ⟨fr,hp,nx⟩)) fun l=>JM (ji P (.buildSlice t n ps) l (l.map fun v=>v.id?.bind hp)) ⟨fr,hp,nx⟩ d (nx+1048576*k) K:=jaY
theorem jkf {t:TypeId} {x:Operand} {lo hi m:Option Operand} :(match ((Jr (.slice t x lo hi m)).mapM (evA O)).bind fun vs=>jaX P bar t x lo hi m vs (vs.map fun v=>v.id?.bind O.hp) with|some (ob,e)=>ob/\K (e.app O d (O.nx+1048576*k))|none=>False)=onL ((Jr (.slice t x lo hi m)).mapM (evA O)) fun l=>JM (jaX P bar t x lo hi m l (l.map fun v=>v.id?.bind O.hp)) O d (O.nx+1048576*k) K:=by
 cases(Jr (.slice t x lo hi m)).mapM (evA O) with
 |none=>rfl
 |some v=>rfl
@[go_sem ↓,go_sem] theorem jiS {fr:Nat->Option AV} {hp:Nat->Option AObj} {nx:Nat} {t:TypeId} {x:Operand} {lo hi:Option Operand} :goX P bar k ⟨d,.slice t x lo hi none,ty,pos,aft,g⟩ ⟨fr,hp,nx⟩ K Kp=onL ((x::(lo.toList++hi.toList)).mapM (evA ⟨fr,hp,nx⟩)) fun l=>JM (jaX P bar t x lo hi none l (l.map fun v=>v.id?.bind hp)) ⟨fr,hp,nx⟩ d (nx+1048576*k) K:=jkf
@[go_sem ↓,go_sem] theorem je6 {fr:Nat->Option AV} {hp:Nat->Option AObj} {nx:Nat} {fn:Fn} {f c:Array Operand} :goX P bar k ⟨d,.makeFunc fn f c,ty,pos,aft,g⟩ ⟨fr,hp,nx⟩ K Kp=onL ((f.toList++c.toList).mapM (evA ⟨fr,hp,nx⟩)) fun l=>JM (ji P (.makeFunc fn f c) l (l.map fun v=>v.id?.bind hp)) ⟨fr,hp,nx⟩ d (nx+1048576*k) K:=jaY
@[go_sem ↓,go_sem] theorem jkF {fr:Nat->Option AV} {hp:Nat->Option AObj} {nx:Nat} {x y z:Operand} :goX P bar k ⟨d,.pick x y z,ty,pos,aft,g⟩ ⟨fr,hp,nx⟩ K Kp=onL ([x,y,z].mapM (evA ⟨fr,hp,nx⟩)) fun l=>JM (ji P (.pick x y z) l (l.map fun v=>v.id?.bind hp)) ⟨fr,hp,nx⟩ d (nx+1048576*k) K:=jaY
@[go_sem ↓,go_sem] theorem jd7 {fr:Nat->Option AV} {hp:Nat->Option AObj} {nx:Nat} {t:TypeId} {x y z:Operand} :goX P bar k ⟨d,.mapUpdate t x y z,ty,pos,aft,g⟩ ⟨fr,hp,nx⟩ K Kp=onL ([x,y,z].mapM (evA ⟨fr,hp,nx⟩)) fun l=>JM (ji P (.mapUpdate t x y z) l (l.map fun v=>v.id?.bind hp)) ⟨fr,hp,nx⟩ d (nx+1048576*k) K:=jaY
@[go_sem ↓,go_sem] theorem jhz {fr:Nat->Option AV} {hp:Nat->Option AObj} {nx:Nat} {t:TypeId} {x y z:Operand} :goX P bar k ⟨d,.insert t x y z,ty,pos,aft,g⟩ ⟨fr,hp,nx⟩ K Kp=onL ([x,y,z].mapM (evA ⟨fr,hp,nx⟩)) fun l=>JM (ji P (.insert t x y z) l (l.map fun v=>v.id?.bind hp)) ⟨fr,hp,nx⟩ d (nx+1048576*k) K:=jaY
structure Tg (A:Prop):Type where
def Hold (A:Prop) (_:Tg A):Prop:=A
theorem Hold.mk {A:Prop} {g:Tg A} (h:A):Hold A g:=h
def jA (P:Program) (g:FuncId) (vs:List AV) (O:St) (d:Option Nat) (K:St->Prop):Prop:=
 AV.snapOkL O.hp vs/\∃ r,RCall P g (AV.snapL O.hp vs) (gK (vs.all AV.noRw) O.nx O.hp) r/\(r.flatR=true\/vs.all AV.noRw=true)/\K (O.put d r)
def onF (f:Option AV) (xs:Option (List AV)) (F G:Nat->List AV->Prop):Prop:=
 match f,xs with
 |some (.fn (.func g) first cap),some vs=>F g (first++vs++cap)
 |some (.fn (.yield l) [] []),some vs=>G l vs
 |_,_=>False
@[go_sem] theorem jlS {g:FuncId} {first cap vs:List AV} {F G:Nat->List AV->Prop} :onF (some (.fn (.func g) first cap)) (some vs) F G=F g (first++vs++cap):=_root_.id rfl
@[go_sem] theorem jjl {l:Nat} {vs:List AV} {F G:Nat->List AV->Prop} :onF (some (.fn (.yield l) [] [])) (some vs) F G=G l vs:=_root_.id rfl
@[go_sem ↓,go_sem] theorem jkC {fr:Nat->Option AV} {hp:Nat->Option AObj} {nx:Nat} {f:Operand} {args:Array Operand} {ts:Array TypeId} :goX P false k ⟨d,.call ⟨.value f,args,ts⟩,ty,pos,aft,g⟩ ⟨fr,hp,nx⟩ K Kp=onF (evA ⟨fr,hp,nx⟩ f) (args.toList.mapM (evA ⟨fr,hp,nx⟩)) (fun g vs=>Hold (jA P g vs ⟨fr,hp,nx⟩ d K) ⟨⟩) (fun _ _=>False):=by
 simp only[goX,onF,Bool.false_eq_true,if_false,jA,Hold]
 rfl
@[go_sem ↓,go_sem] theorem jiP {fr:Nat->Option AV} {hp:Nat->Option AObj} {nx:Nat} {f:Operand} {args:Array Operand} {ts:Array TypeId} :goX P true k ⟨d,.call ⟨.value f,args,ts⟩,ty,pos,aft,g⟩ ⟨fr,hp,nx⟩ K Kp=onF (evA ⟨fr,hp,nx⟩ f) (args.toList.mapM (evA ⟨fr,hp,nx⟩)) (fun g vs=>Hold (CallB P g vs ⟨fr,hp,nx⟩ k d K Kp) ⟨⟩) (fun l vs=>Hold (CallY P l vs ⟨fr,hp,nx⟩ k d K Kp) ⟨⟩):=by
 simp only[goX,onF,if_true,Hold]
 rfl
end
@[go_sem] theorem jmG {O:St} {t:Nat} :evA O (.tmp t)=O.fr t:=_root_.id rfl
@[go_sem] theorem jkh {O:St} {f:FuncId} :evA O (.func f)=some (.fn (.func f) [] []):=_root_.id rfl
@[go_sem] theorem jmF {O:St} {k:IntKind} {n:Int} :evA O (.const (.int k n))=some (.int k n):=_root_.id rfl
@[go_sem] theorem jkg {O:St} {b:Bool} :evA O (.const (.bool b))=some (.bool b):=_root_.id rfl
@[go_sem] theorem jgH {O:St} {b:ByteArray} :evA O (.const (.string b))=some (.str b):=_root_.id rfl
@[go_sem] theorem jki {O:St} :evA O (.const (.pointer none))=some .nilp:=_root_.id rfl
@[go_sem] theorem jiI {O:St} :evA O (.const (.slice none 0 0))=some .nilsl:=_root_.id rfl
@[go_sem] theorem jiG {O:St} :evA O (.const .nilFunc)=some .nilfn:=_root_.id rfl
@[go_sem] theorem jiH {O:St} :evA O (.const .nilIface)=some .nilif:=_root_.id rfl
@[go_sem] theorem jlZ {fr:Nat->Option AV} {hp:Nat->Option AObj} {nx d:Nat} {x:AV} :St.put ⟨fr,hp,nx⟩ (some d) x=⟨upd fr d x,hp,nx⟩:=_root_.id rfl
@[go_sem] theorem jlY {O:St} {x:AV} :St.put O none x=O:=_root_.id rfl
@[go_sem] theorem jo3 {f:Nat->Option AV} {d t:Nat} {x:AV} :upd f d x t=if t=d then some x else f t:=_root_.id rfl
@[go_sem] theorem jnr {f:Nat->Option AObj} {d t:Nat} {x:Option AObj} :jb f d x t=if t=d then x else f t:=_root_.id rfl
@[go_sem] theorem jmm {fr:Nat->Option AV} {hp:Nat->Option AObj} {nx:Nat} {d:Option Nat} {id:Nat} {x:AV} :(Ef.val x).app ⟨fr,hp,nx⟩ d id=St.put ⟨fr,hp,nx⟩ d x:=_root_.id rfl
@[go_sem] theorem jml {fr:Nat->Option AV} {hp:Nat->Option AObj} {nx:Nat} {d:Option Nat} {id:Nat} {o:AObj} {x:Nat->AV} :(Ef.new o x).app ⟨fr,hp,nx⟩ d id=St.put ⟨fr,jb hp id (some o),nx⟩ d (x id):=_root_.id rfl
@[go_sem] theorem app_set {fr:Nat->Option AV} {hp:Nat->Option AObj} {nx:Nat} {d:Option Nat} {id i:Nat} {o:AObj} {x:AV} :(Ef.set i o x).app ⟨fr,hp,nx⟩ d id=St.put ⟨fr,jb hp i (some o),nx⟩ d x:=_root_.id rfl
@[go_sem] theorem jjQ {fr:Nat->Option AV} {hp:Nat->Option AObj} {nx:Nat} {d:Option Nat} {id i:Nat} {o:AObj} {x:Nat->AV} :(Ef.swap i o x).app ⟨fr,hp,nx⟩ d id=St.put ⟨fr,jb (jb hp i none) id (some o),nx⟩ d (x id):=_root_.id rfl
@[go_sem] theorem jng {fr:List (Nat×AV)} {hp:List (Nat×AObj)} {nx:Nat} :jx fr hp nx=⟨jL fr,jp hp,nx⟩:=_root_.id rfl
@[go_sem] theorem jjc {t:Nat} {x:AV} {l:List (Nat×AV)} :jL ((t,x)::l)=upd (jL l) t x:=_root_.id rfl
@[go_sem] theorem jjd {t:Nat} {x:AObj} {l:List (Nat×AObj)} :jp ((t,x)::l)=jb (jp l) t (some x):=_root_.id rfl
@[go_sem] theorem jlH {t:Nat} :jL [] t=none:=_root_.id rfl
@[go_sem] theorem jlI {t:Nat} :jp [] t=none:=_root_.id rfl
attribute [go_sem] stA spl yF yO TK.isAgg Gx qy AObj.ren AObj.ids
theorem yR {bl:List Nat} {k:Nat} {op:Op} {fr:Nat->Option AV} {hp:Nat->Option AObj} {nx:Nat} :jG (some bl) k op ⟨fr,hp,nx⟩=onL (op.operands.toList.mapM (evA ⟨fr,hp,nx⟩)) fun vs=>Yg nx (bl.getD k 0) vs=true/\uu bl.length (bl.getD k 0) k op vs:=_root_.id rfl
def goL (P:Program) (bar:Bool) (bs:Option (List Nat)) (ds:List (Option Nat)):List Oper->Nat->St->(St->Prop)->(AV->St->Prop)->Prop
 | [],_,O,K,_=>K O
 |o::r,k,O,K,Kp=>goG P bar bs ds k o O (fun O'=>goL P bar bs ds r (k+1) O' K Kp) Kp
theorem xR {P:Program} {bar:Bool} {bs:Option (List Nat)} {ds:List (Option Nat)} {K:St->Prop} {Kp:AV->St->Prop} :∀ (l:List Oper) (k:Nat) (O:St),goL P bar bs ds l k O K Kp=goR P bar bs ds (l.zipIdx k) O K Kp
 | [],_,_=>rfl
 |o::r,k,O=>by
  simp only[goL,List.zipIdx_cons,goR]
  congr 1
  funext O'
  exact xR r (k+1) O'
@[go_sem ↓] theorem jmJ {P:Program} {bar:Bool} {bs:Option (List Nat)} {ds:List (Option Nat)} {k:Nat} {O:St} {K:St->Prop} {Kp:AV->St->Prop} :goL P bar bs ds [] k O K Kp=K O:=_root_.id rfl
@[go_sem ↓] theorem jkB {P : Program} {bar : Bool} {bs : Option (List Nat)} {ds : List (Option Nat)} {k : Nat} {o : Oper} {r : List Oper} {O : St} {K : St -> Prop} {Kp : AV -> St -> Prop} :
    goL P bar bs ds (o::r) k O K Kp=goG P bar bs ds k o O (fun O'=>goL P bar bs ds r (k+1) O' K Kp) Kp:=rfl
section
variable {P:Program} {E:En} {Q:AEx->St->Prop} {O:St}
theorem jgf {id : Nat} {l : List Oper} (hd : yB E.nt l.toArray = true)
    (h:∀ (K:St->Prop) (Kp:AV->St->Prop),(∀ O',Q .norm O'->K O')->(∀ x O',Q (.pan x) O'->Kp x O')->goL P true none (l.map (·.dst)) l 0 O (fun O'=>K { O' with nx:=O.nx+1048576*l.length }) Kp):AW P E (.region id l.toArray false) Q O:=by
  refine jaA hd ?_
  have:=h (fun O'=>Q .norm O') (fun x O'=>Q (.pan x) O') (fun _ h=>h) (fun _ _ h=>h)
  rw[xR] at this
  simpa using this
theorem jge {id : Nat} {l : List Oper} (bar : Bool) (hm : P.follows .mixedOrders = true) (hd : yB E.nt l.toArray = true) (hok : J3 bar l.toArray = true)
    (h:∀ (K:St->Prop) (Kp:AV->St->Prop),(∀ O',Q .norm O'->K O')->(∀ x O',Q (.pan x) O'->Kp x O')->∀ bl,bl=qx l.toArray->goL P bar (some bl) (l.map (·.dst)) l 0 O (fun O'=>K { O' with nx:=O.nx+1048576*l.length }) Kp):AW P E (.region id l.toArray true) Q O:=by
  refine jd9 bar hm hd hok ?_
  have:=h (fun O'=>Q .norm O') (fun x O'=>Q (.pan x) O') (fun _ h=>h) (fun _ _ h=>h) _ rfl
  rw[xR] at this
  simpa using this
end
def JV:Nat->List AV->Nat->Option AV
 |_,[]=>fun _=>none
 |i,x::l=>upd (JV (i+1) l) i x
@[go_sem] theorem jje {i t:Nat} :JV i [] t=none:=_root_.id rfl
@[go_sem] theorem jhO {i:Nat} {x:AV} {l:List AV} :JV i (x::l)=upd (JV (i+1) l) i x:=_root_.id rfl
theorem oi:∀ (l:List AV) (i t:Nat),JV i l t=if i<=t then l[t - i]? else none
 | [],i,t=>by simp[JV]
 |x::l,i,t=>by
  simp only[JV,upd]
  by_cases h:t=i
  ·subst h;simp
  ·rw[if_neg h,oi l (i+1) t]
   by_cases h2:i<=t
   ·rw[if_pos (by omega),if_pos h2,show t - i=(t - (i+1))+1 by omega]
    simp
   ·rw[if_neg (by omega),if_neg h2]
theorem PCall.intro {P : Program} {f : FuncId} {fn : Func} {c : Code} {vs : List AV} {r : AV} (hf : P.funcs[f]? = some fn) (hb : fn.body = some c) (hfn : jJ P f = true) (hn : vs.length <= fn.ntmps) (hclo : AV.cloL vs = true)
    (h:∀ (E:En) (Q:AEx->St->Prop),E.nt=fn.ntmps->E.np=0->(∀ O,(∃ r',Jy P fn.results.toList O=some r'/\r'.snapOk O.hp/\r'.snap O.hp=r/\r.clo=true)->Q .ret O/\Q .norm O)->AW P E c Q ⟨JV 0 vs,jp [],0⟩):PCall P f vs r:=by
  refine PCall.of_body hf hb hfn hn hclo fun E hE hN=>?_
  have:=h E (fun e O=>(e= .ret\/e= .norm)/\∃ r',Jy P fn.results.toList O=some r'/\r'.snapOk O.hp/\r'.snap O.hp=r/\r.clo=true) hE hN (fun O hO=>⟨⟨.inl rfl,hO⟩,⟨.inr rfl,hO⟩⟩)
  have e:(fun t=>vs[t]?)=JV 0 vs:=by
    funext t
    rw[oi]
    simp
  rw[e]
  exact this
end Go.Am

namespace Go.Am
def OL:AV->Bool
 | .rw _=>false
 |_=>true
def jgd (o:Option AObj) (id:Nat):AV:=match o with|some (.row _ l)=> .sl l|_=> .rw id
def jal (o:Option AObj):Prop:=match o with|some (.row _ l)=>j8 l|_=>True
def idO (nx m:Nat) (l:List Nat):Bool:=l.all fun id=>decide (id<nx)||m.testBit ((id - nx) / 1048576)
def uU:Option AV->Option (Prop×Ef):=Option.map fun x=>(True,.val x)
def ldT (T:Option TI) (l:List AV) (off:Nat):Option AV:=T.bind fun T=>ldA T l off
def ldE (T:Option TI) (e:Option AV) (off:Nat):Option AV:=e.bind fun e=>ldT T e.cells off
def stT (T:Option TI) (l:List AV) (off:Nat) (x:AV):Option (List AV):=T.bind fun T=>stA T l off x
def jic (id:Nat):Option (List AV)->Option (Prop×Ef):=Option.map fun l=>(True,.set id (.cells l) (.tup []))
def jai (id sz i:Nat) (l:List AV) (e:AV):Option (List AV)->Option (Prop×Ef):=Option.map fun c=>(True,.set id (.row sz (l.set i (Ya e c))) (.tup []))
def jid (T:Option TI) (id sz i:Nat) (l:List AV) (e:Option AV) (off:Nat) (x:AV):Option (Prop×Ef):=e.bind fun e=>jai id sz i l e (stT T e.cells off x)
def elT (P:Program) (t:TypeId):Option Nat:=match ti P t with|some ⟨.slice e,_,_,_⟩=>(ti P e).map (·.size)|_=>none
def ja4 (sz:Option Nat) (n:Int) (y:Option AV):Option (Prop×Ef):=sz.bind fun sz=>y.bind fun y=>if y.cells.length=sz then some (0<=n,.val (.eptr y 0)) else none
def ja5 (sz1:Option Nat) (sz id:Nat) (n:Int) (len:Nat):Option (Prop×Ef):=sz1.bind fun sz1=>if sz=sz1 then some (0<=n/\n.toNat<len,.val (.rptr id sz n.toNat 0)) else none
theorem uj {P:Program} {t:TypeId} {x y:Operand} {l:List AV} {k:IntKind} {n:Int} {os:List (Option AObj)} :ji P (.indexAddr t x y) [.sl l,.int k n] os=ja4 (elT P t) n l[n.toNat]? :=by
 rcases h0:ti P t with _|⟨k,s,b,z⟩
 ·simp[ji,UF,h0,elT,ja4]
 ·cases k<;>simp[ji,UF,h0,elT,ja4]
  rename_i e
  rcases h1:ti P e with _|T<;>simp[ja4]
  rcases h2:l[n.toNat]? with _|y<;>simp
  try(split<;>simp)
def jph (id off:Nat) (n:Int) (len:Nat) (T:Option TI):Option (Prop×Ef):=match T with|some T=>some (0<=n/\n<(len:Int),.val (.ptr id (off+n.toNat*T.size)))|none=>none
theorem ui {P:Program} {t:TypeId} {x y:Operand} {id sz:Nat} {l:List AV} {k:IntKind} {n:Int} {o:Option AObj} :ji P (.indexAddr t x y) [.rw id,.int k n] [some (.row sz l),o]=ja5 (elT P t) sz id n l.length:=by
 rcases h0:ti P t with _|⟨k,s,b,z⟩
 ·simp[ji,UF,h0,elT,ja5]
 ·cases k<;>simp[ji,UF,h0,elT,ja5]
  rename_i e
  rcases h1:ti P e with _|T<;>simp[ja5]
  try(split<;>simp)
def flT (P:Program) (t:TypeId) (f:Nat):Option Nat:=
 match ti P t with
 |some ⟨.struct fs,_,_,_⟩=>
  match fs[f]? with
  |some (ft,off)=>match ti P ft with|some T=>if T.size=0 then none else some off|none=>none
  |none=>none
 |_=>none
def xu (off:Option Nat) (v:AV):Option (Prop×Ef):=
 match off,v with
 |some off,.ptr id o=>some (True,.val (.ptr id (o+off)))
 |some off,.eptr e o=>some (True,.val (.eptr e (o+off)))
 |some off,.rptr id sz i o=>some (True,.val (.rptr id sz i (o+off)))
 |_,_=>none
theorem jaS {P:Program} {t:TypeId} {x:Operand} {f:Nat} {v:AV} {os:List (Option AObj)} :ji P (.fieldAddr t x f) [v] os=xu (flT P t f) v:=by
 rcases h0:ti P t with _|⟨k,s,b,z⟩
 ·simp[ji,h0,flT,xu]
 ·cases k<;>simp[ji,h0,flT,xu]
  rename_i fs
  rcases h1:fs[f]? with _|⟨ft,off⟩<;>simp
  rcases h2:ti P ft with _|⟨k,s,b,z⟩<;>simp
  by_cases h3:s=0
  ·simp[h3]
  ·simp only[h3,if_false];cases v<;>rfl
def blO (T:Option TI) (r:Bool):Option (Prop×Ef):=match T with|some ⟨.bool,_,_,_⟩=>some (True,.val (.bool r))|_=>none
def niO (T:Option TI) (r:Bool):Option (Prop×Ef):=match T with|some ⟨.iface,_,_,_⟩=>some (True,.val (.bool r))|_=>none
def nlO (T:Option TI) (x y:AV) (r:Bool):Option (Prop×Ef):=T.bind fun T=>if YX T.k x&&YX T.k y then some (True,.val (.bool r)) else none
def cvI (T U:Option TI) (n:Int):Option (Prop×Ef):=match T,U with|some _,some ⟨.int k,_,_,_⟩=>some (True,.val (.int k (k.wrap n)))|_,_=>none
def cvS (T U:Option TI) (c:ByteArray):Option (Prop×Ef):=match T,U with|some _,some ⟨.str,_,_,_⟩=>some (True,.val (.str c))|_,_=>none
def mkI (T:Option TI) (t:TypeId) (v:AV):Option (Prop×Ef):=match T with|some ⟨.iface,_,_,_⟩=>none|some _=>some (True,.val (.iface t v))|none=>none
def alO (T:Option TI):Option (Prop×Ef):=match T with|some ⟨_,_,_,some zs⟩=>some (True,.new (.cells zs) (.ptr · 0))|_=>none
def agO:Option (List AV)->Option (Prop×Ef):=Option.map fun l=>(True,.val (.agg l))
def bdR (P:Program) (n:Nat) (e:TypeId) (zs:List AV) (q:List (Nat×AV)) (T:Option TI):Option (Prop×Ef):=
 match T with
 |some T=>agO (ym P (arL e T.size n 0) zs q)
 |none=>none
def bdO (P:Program) (T:Option TI) (q:List (Nat×AV)):Option (Prop×Ef):=
 match T with
 |some ⟨.array n e,_,_,some zs⟩=>bdR P n e zs q (ti P e)
 |some ⟨.struct fs,_,_,some zs⟩=>if fs.all (fun f=>(ti P f.1).isSome) then agO (ym P fs zs q) else none
 |_=>none
def fl2 (P:Program) (fs:List (TypeId×Nat)) (c:List AV) (v:AV) (r:List (Nat×AV)) (off:Nat) (T:Option TI):Option (List AV):=
 match T with
 |some T=>if v.cells.length=T.size/\off+T.size<=c.length/\v.isTup=false then ym P fs (spl c off v.cells) r else none
 |none=>none
def fl1 (P:Program) (fs:List (TypeId×Nat)) (c:List AV) (v:AV) (r:List (Nat×AV)) (o:Option (TypeId×Nat)):Option (List AV):=
 match o with
 |some (t,off)=>fl2 P fs c v r off (ti P t)
 |none=>none
def elJ (P:Program) (T:Option TI):Option TI:=match T with|some ⟨.slice e,_,_,_⟩=>ti P e|_=>none
def bsO (T:Option TI) (n:Nat) (q:List Nat) (vs:List AV):Option (Prop×Ef):=
 match T with
 |some ⟨_,s,_,some zs⟩=>if zs.length=s/\n*s<=2 ^ 24/\q=List.range n/\vs.all (fun x=>x.cells.length==s&&!x.isTup) then some (True,.new (.row s vs) .rw) else none
 |_=>none
def msO (T:Option TI) (n c:Int):Option (Prop×Ef):=
 match T with
 |some ⟨k,s,b,some zs⟩=>if zs.length=s/\(k.isAgg=true\/s=1) then some (0<=n/\n<=c/\c<=2 ^ 46/\c*b<=2 ^ 48,.new (.row s (List.replicate n.toNat (yF ⟨k,s,b,some zs⟩ zs))) .rw) else none
 |_=>none
def jpi (T:Option TI) (ob:Prop) (v:AV):Option (Prop×Ef):=match T with|some ⟨.str,_,_,_⟩=>some (ob,.val v)|_=>none
def slO (sz:Option Nat) (l:List AV) (ob:Prop) (v:AV):Option (Prop×Ef):=sz.map fun sz=>(ob/\SzOk l sz,.val v)
def UM (P:Program) (t:TypeId):Option TypeId:=
 match ti P t with
 |some ⟨.map kt et,_,_,_⟩=>match ti P kt with|some ⟨.str,_,_,_⟩=>some et|_=>none
 |_=>none
def jc5 (P:Program) (t:TypeId):Option AV:=(UM P t).bind (zv P)
def jdV (et:Option TypeId) (id:Nat) (n:ByteArray) (v:AV) (es:List (AV×AV)) (r:Option (Option AV)):Option (Prop×Ef):=
 match et,r with
 |some _,some r=>some (True,.set id (.map (putT n v es r)) (.tup []))
 |_,_=>none
theorem xL {P:Program} {t:TypeId} {x y w:Operand} {id:Nat} {n:ByteArray} {v:AV} {es:List (AV×AV)} {o1 o2:Option AObj} :ji P (.mapUpdate t x y w) [.mp id,.str n,v] [some (.map es),o1,o2]=jdV (UM P t) id n v es (jT n es):=by
 rcases h0:ti P t with _|⟨k0,s,b,z⟩
 ·simp[ji,h0,UM,jdV]
 ·cases k0<;>simp[ji,h0,UM,jdV]
  rename_i kt et
  rcases h1:ti P kt with _|⟨k1,s,b,z⟩<;>try simp
  cases k1<;>try simp
  rcases jT n es with _|r<;>simp
def lkO (ok:Bool) (z:Option AV) (r:Option (Option AV)):Option (Prop×Ef):=z.bind fun z=>r.map fun r=>(True,.val (Yc ok z r))
theorem jaU {P:Program} {t:TypeId} {x y:Operand} {ok:Bool} {id:Nat} {n:ByteArray} {es:List (AV×AV)} {o1:Option AObj} :ji P (.lookup t x y ok) [.mp id,.str n] [some (.map es),o1]=lkO ok (jc5 P t) (jT n es):=by
 rcases h0:ti P t with _|⟨k0,s,b,z⟩
 ·simp[ji,h0,jc5,UM,lkO]
 ·cases k0<;>simp[ji,h0,jc5,UM,lkO]
  rename_i kt et
  rcases h1:ti P kt with _|⟨k1,s,b,z⟩<;>try simp
  cases k1<;>try simp
  rcases zv P et with _|z<;>simp
theorem On {P : Program} {t : TypeId} {x : Operand} {lo hi : Option Operand} {l : List AV} {vs : List AV} {os : List (Option AObj)} {ob : Prop} {v : AV}
    (h:(match jV lo hi (.sl l::vs) with|some (.sl l',a,b)=>(gS l' a b).map fun p=>(l',p)|_=>none)=some (l,ob,v)):ji P (.slice t x lo hi none) (.sl l::vs) os=slO (elT P t) l ob v:=by
  rcases h1:jV lo hi (.sl l::vs) with _|⟨y,a,b⟩
  · simp[h1] at h
  · rw[h1] at h
    cases y<;>try(simp at h;done)
    rename_i l'
    simp only[Option.map_eq_some_iff] at h
    obtain⟨p,h2,h3⟩:=h
    cases h3
    rcases h0:ti P t with _|⟨k,s,b',z⟩
    · simp[ji,h0,elT,slO]
    · cases k<;>try(simp[ji,h0,h1,elT,slO];done)
      simp only[ji,h0,h1,elT,slO]
      rename_i e
      rcases h4:ti P e with _|T<;>try simp[h2]
def taO (T:Option TI) (t1 t:TypeId) (v:AV):Option (Prop×Ef):=match T with|some ⟨.struct _,_,_,_⟩=>if t1=t then some (True,.val v) else none|_=>none
def mpT (P:Program) (t:TypeId):Option TypeId:=
 match ti P t with
 |some ⟨.map kt et,_,_,_⟩=>match ti P kt with|some ⟨.int _,_,_,_⟩=>some et|_=>none
 |_=>none
def mpZ (P:Program) (t:TypeId):Option AV:=(mpT P t).bind (zv P)
def inO (et:Option TypeId) (id:Nat) (es:List (AV×AV)) (a v:AV) (r:Option (Option AV)):Option (Prop×Ef):=
 match et,r with
 |some _,some none=>some (True,.set id (.map (es++[(a,v)])) (.tup []))
 |_,_=>none
theorem jaT {P:Program} {t:TypeId} {x y w:Operand} {id:Nat} {k:IntKind} {n:Int} {v:AV} {es:List (AV×AV)} {o1 o2:Option AObj} :ji P (.insert t x y w) [.mp id,.int k n,v] [some (.map es),o1,o2]=inO (mpT P t) id es (.int k n) v (jY k n es):=by
 rcases h0:ti P t with _|⟨k0,s,b,z⟩
 ·simp[ji,h0,mpT,inO]
 ·cases k0<;>simp[ji,h0,mpT,inO]
  rename_i kt et
  rcases h1:ti P kt with _|⟨k1,s,b,z⟩<;>try simp
  cases k1<;>try simp
  rcases jY k n es with _|_|_<;>simp
def upO (et:Option TypeId) (id:Nat) (k:IntKind) (n:Int) (v:AV) (es:List (AV×AV)) (r:Option (Option AV)):Option (Prop×Ef):=
 match et,r with
 |some _,some r=>some (True,.set id (.map (Ob k n v es r)) (.tup []))
 |_,_=>none
theorem jaW {P:Program} {t:TypeId} {x y w:Operand} {id:Nat} {k:IntKind} {n:Int} {v:AV} {es:List (AV×AV)} {o1 o2:Option AObj} :ji P (.mapUpdate t x y w) [.mp id,.int k n,v] [some (.map es),o1,o2]=upO (mpT P t) id k n v es (jY k n es):=by
 rcases h0:ti P t with _|⟨k0,s,b,z⟩
 ·simp[ji,h0,mpT,upO]
 ·cases k0<;>simp[ji,h0,mpT,upO]
  rename_i kt et
  rcases h1:ti P kt with _|⟨k1,s,b,z⟩<;>try simp
  cases k1<;>try simp
  rcases jY k n es with _|r<;>simp
theorem jaV {P:Program} {ars:Array Operand} {ts:Array TypeId} {k k2:IntKind} {x y:Int} {os:List (Option AObj)} :ji P (.call ⟨.builtin .max,ars,ts⟩) [.int k x,.int k2 y] os=some (True,.val (.int k (max x y))):=by
 have:(if y>x then y else x)=max x y:=by split<;>omega
 simp only[ji,this]
theorem jch {P:Program} {t:TypeId} {x y:Operand} {ok:Bool} {id:Nat} {k:IntKind} {n:Int} {es:List (AV×AV)} {o1:Option AObj} :ji P (.lookup t x y ok) [.mp id,.int k n] [some (.map es),o1]=lkO ok (mpZ P t) (jY k n es):=by
 rcases h0:ti P t with _|⟨k0,s,b,z⟩
 ·simp[ji,h0,mpZ,mpT,lkO]
 ·cases k0<;>simp[ji,h0,mpZ,mpT,lkO]
  rename_i kt et
  rcases h1:ti P kt with _|⟨k1,s,b,z⟩<;>try simp
  cases k1<;>try simp
  rcases zv P et with _|z<;>simp
def lnO (T:Option TI) (v:AV):Option (Prop×Ef):=match T with|some ⟨.slice _,_,_,_⟩=>some (True,.val v)|_=>none
def lmO (T:Option TI) (v:AV):Option (Prop×Ef):=match T with|some ⟨.map _ _,_,_,_⟩=>some (True,.val v)|_=>none
def sr0 (T U:Option TI) (w:AV) (o:Option AObj):Option (Prop×List AV):=T.bind fun T=>U.bind fun U=>jfx T U.k w o
def ap0 (T:Option TI) (v:AV) (o:Option AObj) (r:Option (Prop×List AV)):Option (Prop×Ef):=
  match T,r with
  |some ⟨_,s,b,some zs⟩,some (ob,xs)=>
    if zs.length=s then
      (match v,o with
       | .nilsl,_=>some (ob/\Fits xs.length b,.new (.row s xs) .rw)
       | .rw id,some (.row sz l)=>if sz=s then some (ob/\Fits (l.length+xs.length) b,.swap id (.row s (l++xs)) .rw) else none
       |_,_=>none)
    else none
  |_,_=>none
theorem jaR {P:Program} {ars:Array Operand} {t u:TypeId} {v w:AV} {o1 o2:Option AObj} :ji P (.call ⟨.builtin .append,ars, #[t,u]⟩) [v,w] [o1,o2]=ap0 (elJ P (ti P t)) v o1 (sr0 (elJ P (ti P t)) (ti P u) w o2):=by
 show jbF P t u v w o1 o2=_
 unfold jbF
 rcases h0:ti P t with _|⟨k0,s,b,z⟩
 ·simp[elJ,ap0]
 ·cases k0<;>simp[elJ,ap0]
  rename_i e
  rcases h1:ti P e with _|⟨k1,s,b,z⟩<;>simp[Xs,sr0]
  rcases h2:ti P u with _|U<;>simp[sr0]
  rcases jfx ⟨k1,s,b,z⟩ U.k w o2 with _|⟨ob,xs⟩<;>cases z<;>simp<;>rfl
def QT:Option AV->Option (List AV)->Option (List AV)
 |some a,some l=>some (a::l)
 |_,_=>none
@[go_sem] theorem jgv {a:AV} {l:List AV} :QT (some a) (some l)=some (a::l):=_root_.id rfl
@[go_sem] theorem Yh {O:St} :([]:List Operand).mapM (evA O)=some []:=_root_.id rfl
@[go_sem] theorem JQ {O:St} {x:Operand} {l:List Operand} :(x::l).mapM (evA O)=QT (evA O x) (l.mapM (evA O)):=by
 rw[List.mapM_cons]
 cases evA O x<;>cases l.mapM (evA O)<;>rfl
def rsL (P:Program) (O:St):List ResultVar->Option (List AV)
 | []=>some []
 |r::rs=>QT (rvA P O r) (rsL P O rs)
def rs1:Option (List AV)->Option AV
 |some [x]=>some x
 |some l=>some (.tup l)
 |none=>none
theorem jdE (P:Program) (O:St):∀ rs:List ResultVar,rs.mapM (rvA P O)=rsL P O rs
 | []=>rfl
 |r::rs=>by
  rw[List.mapM_cons,jdE P O rs,rsL]
  cases rvA P O r<;>cases rsL P O rs<;>rfl
theorem jdC {P:Program} {rs:List ResultVar} {O:St} :Jy P rs O=rs1 (rsL P O rs):=by
 unfold Jy;rw[jdE];rcases rsL P O rs with _|_|⟨a,_|_⟩<;>rfl
def onG (w:Bool) (c:Option (Option Bool)) (A B:Prop) (_:Tg (A/\B)):Prop:=match c with|some (some b)=>if b=w then A else B|some none=>B|none=>False
@[go_sem] theorem jot {A B:Prop} {g:Tg (A/\B)} :onG true (some (some true)) A B g=A:=_root_.id rfl
@[go_sem] theorem jos {A B:Prop} {g:Tg (A/\B)} :onG true (some (some false)) A B g=B:=_root_.id rfl
@[go_sem] theorem jor {A B:Prop} {g:Tg (A/\B)} :onG false (some (some true)) A B g=B:=_root_.id rfl
@[go_sem] theorem joq {A B:Prop} {g:Tg (A/\B)} :onG false (some (some false)) A B g=A:=_root_.id rfl
def gdV:Option AV->Option (Option Bool)
 |some (.bool b)=>some (some b)
 |some (.tup [])=>some none
 |_=>none
@[go_sem] theorem jo5 {b:Bool} :gdV (some (.bool b))=some (some b):=_root_.id rfl
def gdO (fr:Nat->Option AV):Option (Option Nat)->Option (Option Bool)
 |some (some s)=>gdV (fr s)
 |_=>none
@[go_sem] theorem jo4 {fr:Nat->Option AV} {s:Nat} :gdO fr (some (some s))=gdV (fr s):=_root_.id rfl
theorem XX {ds:List (Option Nat)} {j:Nat} {b:Bool} {fr:Nat->Option AV} :gdA ds (some (j,b)) fr=(gdO fr ds[j]?).map fun x=>match x with|some c=>c==b|none=>false:=by
 show(match ds[j]? with
  |some (some s)=>(match fr s with
   |some (.bool c)=>some (c==b)
   |some (.tup [])=>some false
   |_=>none)
  |_=>none)=_
 generalize ds[j]? =x
 rcases x with _|_|s
 ·rfl
 ·rfl
 ·show(match fr s with
   |some (.bool c)=>some (c==b)
   |some (.tup [])=>some false
   |_=>none)=(gdV (fr s)).map _
  generalize fr s=y
  rcases y with _|v
  ·rfl
  ·cases v<;>try rfl
   rename_i l;cases l<;>rfl
theorem jdf {w:Bool} {c:Option (Option Bool)} {A B:Prop} :(match c.map (fun x=>match x with|some c=>c==w|none=>false) with|some true=>A|some false=>B|none=>False)=onG w c A B ⟨⟩:=by
 rcases c with _|_|c
 ·rfl
 ·rfl
 ·cases c<;>cases w<;>rfl
section
variable {P:Program} {bar:Bool} {bs:Option (List Nat)} {ds:List (Option Nat)} {k:Nat} {K:St->Prop} {Kp:AV->St->Prop} {d:Option Nat} {ty:TypeId} {pos:String} {aft:Array Edge} {fr:Nat->Option AV} {hp:Nat->Option AObj} {nx:Nat}
theorem jkz {O:St} {op:Op} {j:Nat} {b:Bool} :goG P bar none ds k ⟨d,op,ty,pos,aft,some (j,b)⟩ O K Kp=onG b (gdO O.fr ds[j]?) (goX P bar k ⟨d,op,ty,pos,aft,some (j,b)⟩ O K Kp) (K (St.put O d (.tup []))) ⟨⟩:=by
 rw[jcF,XX];exact jdf
theorem jhw {O:St} {op:Op} {j:Nat} {b:Bool} {bl:List Nat} :goG P bar (some bl) ds k ⟨d,op,ty,pos,aft,some (j,b)⟩ O K Kp=onG b (gdO O.fr ds[j]?) (jG (some bl) k op O/\goX P bar k ⟨d,op,ty,pos,aft,some (j,b)⟩ O K Kp) (K (St.put O d (.tup []))) ⟨⟩:=by
 rw[ja3,XX];exact jdf
attribute [go_sem ↓] jkz jhw
end
section
variable {bl:List Nat} {k:Nat} {fr:Nat->Option AV} {hp:Nat->Option AObj} {nx:Nat}
theorem Yu {op:Op} {x:Operand} (h:op.operands= #[x]) (hn:∀ n m vs,uu n m k op vs=True):jG (some bl) k op ⟨fr,hp,nx⟩=on1 (evA ⟨fr,hp,nx⟩ x) fun v=>idO nx (bl.getD k 0) v.idl=true:=by
 rw[yR,h]
 simp only[hn,and_true]
 show onL ([x].mapM (evA ⟨fr,hp,nx⟩)) _=_
 rw[JQ,Yh]
 cases evA ⟨fr,hp,nx⟩ x with
 |none=>rfl
 |some v=>simp[QT,onL,on1,Yg,idO]
theorem qc {op:Op} {x y:Operand} (h:op.operands= #[x,y]) (hn:∀ n m vs,uu n m k op vs=True):jG (some bl) k op ⟨fr,hp,nx⟩=on2 (evA ⟨fr,hp,nx⟩ x) (evA ⟨fr,hp,nx⟩ y) fun v u=>idO nx (bl.getD k 0) v.idl=true/\idO nx (bl.getD k 0) u.idl=true:=by
 rw[yR,h]
 simp only[hn,and_true]
 show onL ([x,y].mapM (evA ⟨fr,hp,nx⟩)) _=_
 rw[JQ,JQ,Yh]
 cases evA ⟨fr,hp,nx⟩ x with
 |none=>rfl
 |some v=>
  cases evA ⟨fr,hp,nx⟩ y with
  |none=>rfl
  |some u=>simp[QT,onL,on2,Yg,idO]
theorem yQ {op:Op} {l:List Operand} (h:op.operands.toList=l) (hn:∀ n m vs,uu n m k op vs=True):jG (some bl) k op ⟨fr,hp,nx⟩=onL (l.mapM (evA ⟨fr,hp,nx⟩)) fun vs=>Yg nx (bl.getD k 0) vs=true:=by
 rw[yR,h]
 simp only[hn,and_true]
variable {t u:TypeId} {x y z:Operand} {f i:Nat} {ok:Bool}
@[go_sem] theorem jmP:jG (some bl) k (.move x) ⟨fr,hp,nx⟩=on1 (evA ⟨fr,hp,nx⟩ x) fun v=>idO nx (bl.getD k 0) v.idl=true:=Yu rfl (fun _ _ _=>rfl)
@[go_sem] theorem jiU:jG (some bl) k (.assign x) ⟨fr,hp,nx⟩=on1 (evA ⟨fr,hp,nx⟩ x) fun v=>idO nx (bl.getD k 0) v.idl=true:=Yu rfl (fun _ _ _=>rfl)
@[go_sem] theorem jnS:jG (some bl) k (.box t x) ⟨fr,hp,nx⟩=on1 (evA ⟨fr,hp,nx⟩ x) fun v=>idO nx (bl.getD k 0) v.idl=true:=Yu rfl (fun _ _ _=>rfl)
@[go_sem] theorem jl4 {b:Bool} {i o:Nat} :Xl b (.ptr i o)=True:=_root_.id rfl
@[go_sem] theorem jjt {b:Bool} {e:AV} {o:Nat} :Xl b (.eptr e o)=True:=_root_.id rfl
@[go_sem] theorem jju {b:Bool} {i s j o:Nat} :Xl b (.rptr i s j o)=(b=false):=_root_.id rfl
@[go_sem] theorem jmO:jG (some bl) k (.load t x) ⟨fr,hp,nx⟩=on1 (evA ⟨fr,hp,nx⟩ x) fun v=>idO nx (bl.getD k 0) v.idl=true/\Xl ((bl.getD k 0).testBit k) v/\Qn ((bl.getD k 0).testBit (bl.length+k)) v:=by
 rw[yR]
 show onL ([x].mapM (evA ⟨fr,hp,nx⟩)) _=_
 rw[JQ,Yh]
 cases evA ⟨fr,hp,nx⟩ x with
 |none=>rfl
 |some v=>simp[QT,onL,on1,Yg,idO,uu]
@[go_sem] theorem jpe:jG (some bl) k (.nilCheck x) ⟨fr,hp,nx⟩=on1 (evA ⟨fr,hp,nx⟩ x) fun v=>idO nx (bl.getD k 0) v.idl=true:=Yu rfl (fun _ _ _=>rfl)
@[go_sem] theorem jpg {op:UnOp} :jG (some bl) k (.unOp op t x) ⟨fr,hp,nx⟩=on1 (evA ⟨fr,hp,nx⟩ x) fun v=>idO nx (bl.getD k 0) v.idl=true:=Yu rfl (fun _ _ _=>rfl)
@[go_sem] theorem jo9:jG (some bl) k (.fieldAddr t x f) ⟨fr,hp,nx⟩=on1 (evA ⟨fr,hp,nx⟩ x) fun v=>idO nx (bl.getD k 0) v.idl=true:=Yu rfl (fun _ _ _=>rfl)
@[go_sem] theorem jnT:jG (some bl) k (.extract x i) ⟨fr,hp,nx⟩=on1 (evA ⟨fr,hp,nx⟩ x) fun v=>idO nx (bl.getD k 0) v.idl=true:=Yu rfl (fun _ _ _=>rfl)
@[go_sem] theorem jjq {b:Bool} {i o:Nat} :Qn b (.ptr i o)=(jdk b i=true):=_root_.id rfl
@[go_sem] theorem jh2 {b:Bool} {e:AV} {o:Nat} :Qn b (.eptr e o)=True:=_root_.id rfl
@[go_sem] theorem jh3 {b:Bool} {i s j o:Nat} :Qn b (.rptr i s j o)=(b=false):=_root_.id rfl
@[go_sem] theorem ji5 {b:Bool} {i o:Nat} :OE b (.ptr i o)=(jcO b i=true):=_root_.id rfl
@[go_sem] theorem jhF {b:Bool} {i s j o:Nat} :OE b (.rptr i s j o)=(b=false):=_root_.id rfl
theorem jfk {b:Bool} {i:Nat} (h:i % 2=0):jdk b i=true:=by simp[jdk,h]
theorem je9 {b:Bool} {i:Nat} (h:i % 2=1):jcO b i=true:=by simp[jcO,h]
attribute [go_sem] jfk je9 Nat.reduceMod
@[go_sem] theorem jpf:jG (some bl) k (.store t x y) ⟨fr,hp,nx⟩=on2 (evA ⟨fr,hp,nx⟩ x) (evA ⟨fr,hp,nx⟩ y) fun v u=>idO nx (bl.getD k 0) v.idl=true/\idO nx (bl.getD k 0) u.idl=true/\OE ((bl.getD k 0).testBit (bl.length+k)) v:=by
 rw[yR]
 show onL ([x,y].mapM (evA ⟨fr,hp,nx⟩)) _=_
 rw[JQ,JQ,Yh]
 cases evA ⟨fr,hp,nx⟩ x with
 |none=>rfl
 |some v=>
  cases evA ⟨fr,hp,nx⟩ y with
  |none=>rfl
  |some u=>simp[QT,onL,on2,Yg,idO,uu,and_assoc]
@[go_sem] theorem jnQ {op:BinOp} :jG (some bl) k (.binOp op t x y u) ⟨fr,hp,nx⟩=on2 (evA ⟨fr,hp,nx⟩ x) (evA ⟨fr,hp,nx⟩ y) fun v u=>idO nx (bl.getD k 0) v.idl=true/\idO nx (bl.getD k 0) u.idl=true:=qc rfl (fun _ _ _=>rfl)
@[go_sem] theorem jpc:jG (some bl) k (.makeSlice t x y) ⟨fr,hp,nx⟩=on2 (evA ⟨fr,hp,nx⟩ x) (evA ⟨fr,hp,nx⟩ y) fun v u=>idO nx (bl.getD k 0) v.idl=true/\idO nx (bl.getD k 0) u.idl=true:=qc rfl (fun _ _ _=>rfl)
@[go_sem] theorem jpa:jG (some bl) k (.indexAddr t x y) ⟨fr,hp,nx⟩=on2 (evA ⟨fr,hp,nx⟩ x) (evA ⟨fr,hp,nx⟩ y) fun v u=>idO nx (bl.getD k 0) v.idl=true/\idO nx (bl.getD k 0) u.idl=true:=qc rfl (fun _ _ _=>rfl)
@[go_sem] theorem jpb:jG (some bl) k (.lookup t x y ok) ⟨fr,hp,nx⟩=on2 (evA ⟨fr,hp,nx⟩ x) (evA ⟨fr,hp,nx⟩ y) fun v u=>idO nx (bl.getD k 0) v.idl=true/\idO nx (bl.getD k 0) u.idl=true:=qc rfl (fun _ _ _=>rfl)
@[go_sem] theorem jo6:jG (some bl) k (.alloc t) ⟨fr,hp,nx⟩=True:=by rw[yQ (l:=[]) rfl (fun _ _ _=>rfl)];simp[onL,Yg]
@[go_sem] theorem jmQ:jG (some bl) k (.pick x y z) ⟨fr,hp,nx⟩=onL ([x,y,z].mapM (evA ⟨fr,hp,nx⟩)) fun vs=>Yg nx (bl.getD k 0) vs=true:=yQ rfl (fun _ _ _=>rfl)
@[go_sem] theorem jpd:jG (some bl) k (.mapUpdate t x y z) ⟨fr,hp,nx⟩=onL ([x,y,z].mapM (evA ⟨fr,hp,nx⟩)) fun vs=>Yg nx (bl.getD k 0) vs=true:=yQ rfl (fun _ _ _=>rfl)
@[go_sem] theorem jo7 {ps:Array (Nat×Operand)} :jG (some bl) k (.build t ps) ⟨fr,hp,nx⟩=onL ((ps.toList.map (·.2)).mapM (evA ⟨fr,hp,nx⟩)) fun vs=>Yg nx (bl.getD k 0) vs=true:=yQ (by simp[Op.operands]) (fun _ _ _=>rfl)
@[go_sem] theorem jo8 {n:Nat} {ps:Array (Nat×Operand)} :jG (some bl) k (.buildSlice t n ps) ⟨fr,hp,nx⟩=onL ((ps.toList.map (·.2)).mapM (evA ⟨fr,hp,nx⟩)) fun vs=>Yg nx (bl.getD k 0) vs=true:=yQ (by simp[Op.operands]) (fun _ _ _=>rfl)
@[go_sem] theorem jmN {ars:Array Operand} {ts:Array TypeId} :jG (some bl) k (.call ⟨.value x,ars,ts⟩) ⟨fr,hp,nx⟩=onL ((x::ars.toList).mapM (evA ⟨fr,hp,nx⟩)) fun vs=>Yg nx (bl.getD k 0) vs=true:=yQ (by simp[Op.operands,Call.operands]) (fun _ _ _=>rfl)
@[go_sem] theorem jnR {b:Builtin} {ars:Array Operand} {ts:Array TypeId} :jG (some bl) k (.call ⟨.builtin b,ars,ts⟩) ⟨fr,hp,nx⟩=onL (ars.toList.mapM (evA ⟨fr,hp,nx⟩)) fun vs=>Yg nx (bl.getD k 0) vs=true:=yQ (by simp[Op.operands,Call.operands]) (fun _ _ _=>rfl)
@[go_sem] theorem jnU {lo hi m:Option Operand} :jG (some bl) k (.slice t x lo hi m) ⟨fr,hp,nx⟩=onL ((x::(lo.toList++hi.toList++m.toList)).mapM (evA ⟨fr,hp,nx⟩)) fun vs=>Yg nx (bl.getD k 0) vs=true:=yQ (by simp[Op.operands]) (fun _ _ _=>rfl)
end
@[go_sem] theorem jgs {b:Bool} :AV.cells (AV.bool b)=[(AV.bool b)]:=_root_.id rfl
@[go_sem] theorem jhG {b:Bool} :AV.isTup (AV.bool b)=false:=_root_.id rfl
@[go_sem] theorem jkN {b:Bool} :AV.id? (AV.bool b)=none:=_root_.id rfl
@[go_sem] theorem jl1 {b:Bool} {m:Nat->Nat} :AV.ren m (AV.bool b)=(AV.bool b):=by rw[AV.ren]
@[go_sem] theorem jkR {b:Bool} {p:Nat->Prop} :AV.ids p (AV.bool b)=True:=by rw[AV.ids]<;>simp
@[go_sem] theorem jkK {b:Bool} :AV.idl (AV.bool b)=[]:=by rw[AV.idl]<;>simp
@[go_sem] theorem jhR {b:Bool} :OL (AV.bool b)=true:=_root_.id rfl
@[go_sem] theorem jjC {b:Bool} {h:Nat->Option AObj} :AV.snap h (AV.bool b)=(AV.bool b):=by rw[AV.snap]<;>simp
@[go_sem] theorem jgc {b:Bool} {h:Nat->Option AObj} :AV.snapOk h (AV.bool b)=True:=by rw[AV.snapOk]<;>simp
@[go_sem] theorem jf9 {b:Bool} {c:List AV} :Ya (AV.bool b) c=c.getD 0 default:=_root_.id rfl
@[go_sem] theorem jiq {k:IntKind} {n:Int} :AV.cells (AV.int k n)=[(AV.int k n)]:=_root_.id rfl
@[go_sem] theorem ji7 {k:IntKind} {n:Int} :AV.isTup (AV.int k n)=false:=_root_.id rfl
@[go_sem] theorem jmr {k:IntKind} {n:Int} :AV.clo (AV.int k n)=true:=by rw[AV.clo]<;>simp
@[go_sem] theorem jmY {k:IntKind} {n:Int} :AV.id? (AV.int k n)=none:=_root_.id rfl
@[go_sem] theorem jnj {k:IntKind} {n:Int} {m:Nat->Nat} :AV.ren m (AV.int k n)=(AV.int k n):=by rw[AV.ren]
@[go_sem] theorem jm3 {k:IntKind} {n:Int} {p:Nat->Prop} :AV.ids p (AV.int k n)=True:=by rw[AV.ids]<;>simp
@[go_sem] theorem jmT {k:IntKind} {n:Int} :AV.idl (AV.int k n)=[]:=by rw[AV.idl]<;>simp
@[go_sem] theorem jjg {k:IntKind} {n:Int} :OL (AV.int k n)=true:=_root_.id rfl
@[go_sem] theorem jlL {k:IntKind} {n:Int} :AV.noRw (AV.int k n)=true:=_root_.id rfl
@[go_sem] theorem jl8 {k:IntKind} {n:Int} {h:Nat->Option AObj} :AV.snap h (AV.int k n)=(AV.int k n):=by rw[AV.snap]<;>simp
@[go_sem] theorem jih {k:IntKind} {n:Int} {h:Nat->Option AObj} :AV.snapOk h (AV.int k n)=True:=by rw[AV.snapOk]<;>simp
@[go_sem] theorem jh8 {k:IntKind} {n:Int} {c:List AV} :Ya (AV.int k n) c=c.getD 0 default:=_root_.id rfl
@[go_sem] theorem jis {s:ByteArray} :AV.cells (AV.str s)=[(AV.str s)]:=_root_.id rfl
@[go_sem] theorem ji9 {s:ByteArray} :AV.isTup (AV.str s)=false:=_root_.id rfl
@[go_sem] theorem jm0 {s:ByteArray} :AV.id? (AV.str s)=none:=_root_.id rfl
@[go_sem] theorem jnl {s:ByteArray} {m:Nat->Nat} :AV.ren m (AV.str s)=(AV.str s):=by rw[AV.ren]
@[go_sem] theorem jm5 {s:ByteArray} {p:Nat->Prop} :AV.ids p (AV.str s)=True:=by rw[AV.ids]<;>simp
@[go_sem] theorem jmV {s:ByteArray} :AV.idl (AV.str s)=[]:=by rw[AV.idl]<;>simp
@[go_sem] theorem jjh {s:ByteArray} :OL (AV.str s)=true:=_root_.id rfl
@[go_sem] theorem jl9 {s:ByteArray} {h:Nat->Option AObj} :AV.snap h (AV.str s)=(AV.str s):=by rw[AV.snap]<;>simp
@[go_sem] theorem jii {s:ByteArray} {h:Nat->Option AObj} :AV.snapOk h (AV.str s)=True:=by rw[AV.snapOk]<;>simp
@[go_sem] theorem jl2 {m:Nat->Nat} :AV.ren m (AV.nilp)=(AV.nilp):=by rw[AV.ren]
@[go_sem] theorem jkS {p:Nat->Prop} :AV.ids p (AV.nilp)=True:=by rw[AV.ids]<;>simp
@[go_sem] theorem jir {id o:Nat} :AV.cells (AV.ptr id o)=[(AV.ptr id o)]:=_root_.id rfl
@[go_sem] theorem ji8 {id o:Nat} :AV.isTup (AV.ptr id o)=false:=_root_.id rfl
@[go_sem] theorem jmZ {id o:Nat} :AV.id? (AV.ptr id o)=some id:=_root_.id rfl
@[go_sem] theorem jnk {id o:Nat} {m:Nat->Nat} :AV.ren m (AV.ptr id o)= .ptr (m id) o:=by rw[AV.ren]
@[go_sem] theorem jm4 {id o:Nat} {p:Nat->Prop} :AV.ids p (AV.ptr id o)=p id:=by rw[AV.ids]
@[go_sem] theorem jmU {id o:Nat} :AV.idl (AV.ptr id o)=[id]:=by rw[AV.idl]
@[go_sem] theorem jkO {e:AV} {o:Nat} :AV.id? (AV.eptr e o)=none:=_root_.id rfl
@[go_sem] theorem jkL {e:AV} {o:Nat} :AV.idl (AV.eptr e o)=[]:=by rw[AV.idl]<;>simp
@[go_sem] theorem jkP {id sz i o:Nat} :AV.id? (AV.rptr id sz i o)=some id:=_root_.id rfl
@[go_sem] theorem jkM {id sz i o:Nat} :AV.idl (AV.rptr id sz i o)=[id]:=by rw[AV.idl]
@[go_sem] theorem ji0:AV.id? (AV.nilsl)=none:=_root_.id rfl
@[go_sem] theorem jjs {m:Nat->Nat} :AV.ren m (AV.nilsl)=(AV.nilsl):=by rw[AV.ren]
@[go_sem] theorem ji2 {p:Nat->Prop} :AV.ids p (AV.nilsl)=True:=by rw[AV.ids]<;>simp
@[go_sem] theorem jiX:AV.idl (AV.nilsl)=[]:=by rw[AV.idl]<;>simp
@[go_sem] theorem jf6:OL (AV.nilsl)=true:=_root_.id rfl
@[go_sem] theorem jij {h:Nat->Option AObj} :AV.snap h (AV.nilsl)= .sl []:=by rw[AV.snap]
@[go_sem] theorem jfu {h:Nat->Option AObj} :AV.snapOk h (AV.nilsl)=True:=by rw[AV.snapOk]<;>simp
@[go_sem] theorem jjX {l:List AV} :AV.cells (AV.sl l)=[(AV.sl l)]:=_root_.id rfl
@[go_sem] theorem jkY {l:List AV} :AV.isTup (AV.sl l)=false:=_root_.id rfl
@[go_sem] theorem jnA {l:List AV} :AV.clo (AV.sl l)=true:=by rw[AV.clo]<;>simp
@[go_sem] theorem jn2 {l:List AV} :AV.id? (AV.sl l)=none:=_root_.id rfl
@[go_sem] theorem jox {l:List AV} {m:Nat->Nat} :AV.ren m (AV.sl l)=(AV.sl l):=by rw[AV.ren]
@[go_sem] theorem jn6 {l:List AV} {p:Nat->Prop} :AV.ids p (AV.sl l)=True:=by rw[AV.ids]<;>simp
@[go_sem] theorem jnY {l:List AV} :AV.idl (AV.sl l)=[]:=by rw[AV.idl]<;>simp
@[go_sem] theorem jlN {l:List AV} :OL (AV.sl l)=true:=_root_.id rfl
@[go_sem] theorem jnh {l:List AV} :AV.noRw (AV.sl l)=true:=_root_.id rfl
@[go_sem] theorem jnp {l:List AV} {h:Nat->Option AObj} :AV.snap h (AV.sl l)=(AV.sl l):=by rw[AV.snap]<;>simp
@[go_sem] theorem jjA {l:List AV} {h:Nat->Option AObj} :AV.snapOk h (AV.sl l)=True:=by rw[AV.snapOk]<;>simp
@[go_sem] theorem jjW {id:Nat} :AV.cells (AV.rw id)=[(AV.rw id)]:=_root_.id rfl
@[go_sem] theorem jkX {id:Nat} :AV.isTup (AV.rw id)=false:=_root_.id rfl
@[go_sem] theorem jn1 {id:Nat} :AV.id? (AV.rw id)=some id:=_root_.id rfl
@[go_sem] theorem jow {id:Nat} {m:Nat->Nat} :AV.ren m (AV.rw id)= .rw (m id):=by rw[AV.ren]
@[go_sem] theorem jn5 {id:Nat} {p:Nat->Prop} :AV.ids p (AV.rw id)=p id:=by rw[AV.ids]
@[go_sem] theorem jnX {id:Nat} :AV.idl (AV.rw id)=[id]:=by rw[AV.idl]
@[go_sem] theorem jno {id:Nat} {h:Nat->Option AObj} :AV.snap h (AV.rw id)=jgd (h id) id:=by rw[AV.snap];rfl
@[go_sem] theorem jjz {id:Nat} {h:Nat->Option AObj} :AV.snapOk h (AV.rw id)=jal (h id):=by rw[AV.snapOk];rfl
@[go_sem] theorem jh9 {m:Nat->Nat} :AV.ren m (AV.nilmap)=(AV.nilmap):=by rw[AV.ren]
@[go_sem] theorem jjV {id:Nat} :AV.cells (AV.mp id)=[(AV.mp id)]:=_root_.id rfl
@[go_sem] theorem jkW {id:Nat} :AV.isTup (AV.mp id)=false:=_root_.id rfl
@[go_sem] theorem jn0 {id:Nat} :AV.id? (AV.mp id)=some id:=_root_.id rfl
@[go_sem] theorem jov {id:Nat} {m:Nat->Nat} :AV.ren m (AV.mp id)= .mp (m id):=by rw[AV.ren]
@[go_sem] theorem jn4 {id:Nat} {p:Nat->Prop} :AV.ids p (AV.mp id)=p id:=by rw[AV.ids]
@[go_sem] theorem jnW {id:Nat} :AV.idl (AV.mp id)=[id]:=by rw[AV.idl]
@[go_sem] theorem jjU {f:Fn} {a b:List AV} :AV.cells (AV.fn f a b)=[(AV.fn f a b)]:=_root_.id rfl
@[go_sem] theorem jkV {f:Fn} {a b:List AV} :AV.isTup (AV.fn f a b)=false:=_root_.id rfl
@[go_sem] theorem jnZ {f:Fn} {a b:List AV} :AV.id? (AV.fn f a b)=none:=_root_.id rfl
@[go_sem] theorem jou {f:Fn} {a b:List AV} {m:Nat->Nat} :AV.ren m (AV.fn f a b)= .fn f (AV.renL m a) (AV.renL m b):=by rw[AV.ren]
@[go_sem] theorem jn3 {f:Fn} {a b:List AV} {p:Nat->Prop} :AV.ids p (AV.fn f a b)=(AV.idsL p a/\AV.idsL p b):=by rw[AV.ids]
@[go_sem] theorem jnV {f:Fn} {a b:List AV} :AV.idl (AV.fn f a b)=AV.idlL a++AV.idlL b:=by rw[AV.idl]
@[go_sem] theorem jiZ:AV.id? (AV.nilif)=none:=_root_.id rfl
@[go_sem] theorem jiY {t:TypeId} {v:AV} :AV.id? (AV.iface t v)=none:=_root_.id rfl
@[go_sem] theorem jip {l:List AV} :AV.cells (AV.agg l)=l:=_root_.id rfl
@[go_sem] theorem ji6 {l:List AV} :AV.isTup (AV.agg l)=false:=_root_.id rfl
@[go_sem] theorem jmX {l:List AV} :AV.id? (AV.agg l)=none:=_root_.id rfl
@[go_sem] theorem jni {l:List AV} {m:Nat->Nat} :AV.ren m (AV.agg l)= .agg (AV.renL m l):=by rw[AV.ren]
@[go_sem] theorem jm2 {l:List AV} {p:Nat->Prop} :AV.ids p (AV.agg l)=AV.idsL p l:=by rw[AV.ids]
@[go_sem] theorem jmS {l:List AV} :AV.idl (AV.agg l)=AV.idlL l:=by rw[AV.idl]
@[go_sem] theorem jlK {l:List AV} :AV.noRw (AV.agg l)=l.all OL:=_root_.id rfl
@[go_sem] theorem jl7 {l:List AV} {h:Nat->Option AObj} :AV.snap h (AV.agg l)= .agg (AV.snapL h l):=by rw[AV.snap]
@[go_sem] theorem jig {l:List AV} {h:Nat->Option AObj} :AV.snapOk h (AV.agg l)=AV.snapOkL h l:=by rw[AV.snapOk]
@[go_sem] theorem jm1 {l:List AV} :AV.id? (AV.tup l)=none:=_root_.id rfl
@[go_sem] theorem jnm {l:List AV} {m:Nat->Nat} :AV.ren m (AV.tup l)= .tup (AV.renL m l):=by rw[AV.ren]
@[go_sem] theorem jmW {l:List AV} :AV.idl (AV.tup l)=AV.idlL l:=by rw[AV.idl]
@[go_sem] theorem jh7 {l c:List AV} :Ya (AV.agg l) c=AV.agg c:=_root_.id rfl
@[go_sem] theorem jkJ:AV.idlL []=[]:=by rw[AV.idlL]
@[go_sem] theorem jiW {a:AV} {l:List AV} :AV.idlL (a::l)=AV.idl a++AV.idlL l:=by rw[AV.idlL]
@[go_sem] theorem jl0 {m:Nat->Nat} :AV.renL m []=[]:=by rw[AV.renL]
@[go_sem] theorem jjr {m:Nat->Nat} {a:AV} {l:List AV} :AV.renL m (a::l)=AV.ren m a::AV.renL m l:=by rw[AV.renL]
@[go_sem] theorem jkQ {p:Nat->Prop} :AV.idsL p []=True:=by rw[AV.idsL]
@[go_sem] theorem ji1 {p:Nat->Prop} {a:AV} {l:List AV} :AV.idsL p (a::l)=(AV.ids p a/\AV.idsL p l):=by rw[AV.idsL]
@[go_sem] theorem jjy {h:Nat->Option AObj} :AV.snapL h []=[]:=by rw[AV.snapL]
@[go_sem] theorem jif {h:Nat->Option AObj} {a:AV} {l:List AV} :AV.snapL h (a::l)=AV.snap h a::AV.snapL h l:=by rw[AV.snapL]
@[go_sem] theorem jga {h:Nat->Option AObj} :AV.snapOkL h []=True:=by rw[AV.snapOkL]
@[go_sem] theorem jft {h:Nat->Option AObj} {a:AV} {l:List AV} :AV.snapOkL h (a::l)=(AV.snapOk h a/\AV.snapOkL h l):=by rw[AV.snapOkL]
@[go_sem] theorem jjB {sz id:Nat} {l:List AV} :jgd (some (.row sz l)) id= .sl l:=_root_.id rfl
@[go_sem] theorem jgb {sz:Nat} {l:List AV} :jal (some (.row sz l))=j8 l:=_root_.id rfl
@[go_sem] theorem jkI {nx m:Nat} :Yg nx m []=true:=_root_.id rfl
@[go_sem] theorem jiV {nx m:Nat} {v:AV} {vs:List AV} :Yg nx m (v::vs)=(idO nx m (AV.idl v)&&Yg nx m vs):=_root_.id rfl
@[go_sem] theorem jmR {nx m:Nat} :idO nx m []=true:=_root_.id rfl
@[go_sem] theorem jkH {nx m i:Nat} {l:List Nat} :idO nx m (i::l)=((decide (i<nx)||m.testBit ((i - nx) / 1048576))&&idO nx m l):=_root_.id rfl
@[go_sem] theorem jm9 {k:IntKind} {s b:Nat} {z:Option (List AV)} {l:List AV} {off:Nat} :ldT (some ⟨.int k,s,b,z⟩) l off=l[off]? :=_root_.id rfl
@[go_sem] theorem jlC {s b:Nat} {z:Option (List AV)} {l:List AV} {off:Nat} :ldT (some ⟨.bool,s,b,z⟩) l off=l[off]? :=_root_.id rfl
@[go_sem] theorem jnc {s b:Nat} {z:Option (List AV)} {l:List AV} {off:Nat} :ldT (some ⟨.str,s,b,z⟩) l off=l[off]? :=_root_.id rfl
@[go_sem] theorem jnb {s b:Nat} {z:Option (List AV)} {l:List AV} {off:Nat} :ldT (some ⟨.ptr,s,b,z⟩) l off=l[off]? :=_root_.id rfl
@[go_sem] theorem jja {e:TypeId} {s b:Nat} {z:Option (List AV)} {l:List AV} {off:Nat} :ldT (some ⟨.slice e,s,b,z⟩) l off=l[off]? :=_root_.id rfl
@[go_sem] theorem jna {k e:TypeId} {s b:Nat} {z:Option (List AV)} {l:List AV} {off:Nat} :ldT (some ⟨.map k e,s,b,z⟩) l off=l[off]? :=_root_.id rfl
@[go_sem] theorem jlD {s b:Nat} {z:Option (List AV)} {l:List AV} {off:Nat} :ldT (some ⟨.func,s,b,z⟩) l off=l[off]? :=_root_.id rfl
@[go_sem] theorem jhK {fs:List (TypeId×Nat)} {s b:Nat} {z:Option (List AV)} {l:List AV} {off:Nat} :ldT (some ⟨.struct fs,s,b,z⟩) l off=if off+s<=l.length then some (.agg ((l.drop off).take s)) else none:=_root_.id rfl
@[go_sem] theorem jjE {x:AV} :uU (some x)=some (True,.val x):=_root_.id rfl
@[go_sem] theorem jlB {T:Option TI} {e:AV} {off:Nat} :ldE T (some e) off=ldT T e.cells off:=_root_.id rfl
@[go_sem] theorem jd2 {P:Program} {t:TypeId} {x:Operand} {id off:Nat} {l:List AV} :ji P (.load t x) [.ptr id off] [some (.cells l)]=uU (ldT (ti P t) l off):=by cases h0:ti P t<;>simp[ji,h0,uU,ldT]
@[go_sem] theorem jci {P:Program} {t:TypeId} {x:Operand} {e:AV} {off:Nat} {os:List (Option AObj)} :ji P (.load t x) [.eptr e off] os=uU (ldT (ti P t) e.cells off):=by cases h0:ti P t<;>simp[ji,h0,uU,ldT]
@[go_sem] theorem jcj {P:Program} {t:TypeId} {x:Operand} {id sz i off:Nat} {l:List AV} :ji P (.load t x) [.rptr id sz i off] [some (.row sz l)]=uU (ldE (ti P t) l[i]? off):=by cases h0:ti P t<;>cases h1:l[i]? <;>simp[ji,h0,h1,uU,ldT,ldE]
@[go_sem] theorem jjw {id:Nat} {l:List AV} :jic id (some l)=some (True,.set id (.cells l) (.tup [])):=_root_.id rfl
@[go_sem] theorem jma {T:TI} {l:List AV} {off:Nat} {x:AV} :stT (some T) l off x=stA T l off x:=_root_.id rfl
@[go_sem] theorem jjx {T:Option TI} {id sz i off:Nat} {l:List AV} {e x:AV} :jid T id sz i l (some e) off x=jai id sz i l e (stT T e.cells off x):=_root_.id rfl
@[go_sem] theorem jie {id sz i:Nat} {l c:List AV} {e:AV} :jai id sz i l e (some c)=some (True,.set id (.row sz (l.set i (Ya e c))) (.tup [])):=_root_.id rfl
@[go_sem] theorem jcm {P:Program} {t:TypeId} {x y:Operand} {id off:Nat} {v:AV} {l:List AV} {o:Option AObj} :ji P (.store t x y) [.ptr id off,v] [some (.cells l),o]=jic id (stT (ti P t) l off v):=by cases h0:ti P t<;>simp[ji,h0,jic,stT]
@[go_sem] theorem jbx {P:Program} {t:TypeId} {x y:Operand} {id sz i off:Nat} {v:AV} {l:List AV} {o:Option AObj} :ji P (.store t x y) [.rptr id sz i off,v] [some (.row sz l),o]=jid (ti P t) id sz i l l[i]? off v:=by cases h0:ti P t<;>cases h1:l[i]? <;>simp[ji,h0,h1,jid,jai,stT]
@[go_sem] theorem ji3 {sz:Nat} {n:Int} {y:AV} :ja4 (some sz) n (some y)=if y.cells.length=sz then some (0<=n,.val (.eptr y 0)) else none:=_root_.id rfl
@[go_sem] theorem ji4 {sz sz1 id len:Nat} {n:Int} :ja5 (some sz1) sz id n len=if sz=sz1 then some (0<=n/\n.toNat<len,.val (.rptr id sz n.toNat 0)) else none:=_root_.id rfl
@[go_sem] theorem jfM {P:Program} {t:TypeId} {x y:Operand} {l:List AV} {k:IntKind} {n:Int} {os:List (Option AObj)} :ji P (.indexAddr t x y) [.sl l,.int k n] os=ja4 (elT P t) n l[n.toNat]? :=uj
@[go_sem] theorem jfL {P:Program} {t:TypeId} {x y:Operand} {id sz:Nat} {l:List AV} {k:IntKind} {n:Int} {o:Option AObj} :ji P (.indexAddr t x y) [.rw id,.int k n] [some (.row sz l),o]=ja5 (elT P t) sz id n l.length:=ui
@[go_sem] theorem jjM {off:Nat} {id o:Nat} :xu (some off) (.ptr id o)=some (True,.val (.ptr id (o+off))):=_root_.id rfl
@[go_sem] theorem jin {off:Nat} {e:AV} {o:Nat} :xu (some off) (.eptr e o)=some (True,.val (.eptr e (o+off))):=_root_.id rfl
@[go_sem] theorem jio {off:Nat} {id sz i o:Nat} :xu (some off) (.rptr id sz i o)=some (True,.val (.rptr id sz i (o+off))):=_root_.id rfl
@[go_sem] theorem jj8 {P:Program} {t:TypeId} {x:Operand} {f:Nat} {v:AV} {os:List (Option AObj)} :ji P (.fieldAddr t x f) [v] os=xu (flT P t f) v:=jaS
@[go_sem] theorem jeM {P:Program} {t u:TypeId} {x y:Operand} {k:IntKind} {a c:Int} {os:List (Option AObj)} :ji P (.binOp .add t x y u) [.int k a,.int k c] os=some (True,.val (.int k (k.wrap (a+c)))):=by simp[ji,Y9,shA,Yr]
@[go_sem] theorem jeV {P:Program} {t u:TypeId} {x y:Operand} {k:IntKind} {a c:Int} {os:List (Option AObj)} :ji P (.binOp .sub t x y u) [.int k a,.int k c] os=some (True,.val (.int k (k.wrap (a - c)))):=by simp[ji,Y9,shA,Yr]
@[go_sem] theorem jeO {P:Program} {t u:TypeId} {x y:Operand} {k:IntKind} {a c:Int} {os:List (Option AObj)} :ji P (.binOp .eql t x y u) [.int k a,.int k c] os=some (True,.val (.bool (a==c))):=by simp[ji,Y9,shA,Yr]
@[go_sem] theorem jeT {P:Program} {t u:TypeId} {x y:Operand} {k:IntKind} {a c:Int} {os:List (Option AObj)} :ji P (.binOp .neq t x y u) [.int k a,.int k c] os=some (True,.val (.bool (a !=c))):=by simp[ji,Y9,shA,Yr]
@[go_sem] theorem jeS {P:Program} {t u:TypeId} {x y:Operand} {k:IntKind} {a c:Int} {os:List (Option AObj)} :ji P (.binOp .lss t x y u) [.int k a,.int k c] os=some (True,.val (.bool (decide (a<c)))):=by simp[ji,Y9,shA,Yr]
@[go_sem] theorem jeR {P:Program} {t u:TypeId} {x y:Operand} {k:IntKind} {a c:Int} {os:List (Option AObj)} :ji P (.binOp .leq t x y u) [.int k a,.int k c] os=some (True,.val (.bool (decide (a<=c)))):=by simp[ji,Y9,shA,Yr]
@[go_sem] theorem jeQ {P:Program} {t u:TypeId} {x y:Operand} {k:IntKind} {a c:Int} {os:List (Option AObj)} :ji P (.binOp .gtr t x y u) [.int k a,.int k c] os=some (True,.val (.bool (decide (a>c)))):=by simp[ji,Y9,shA,Yr]
@[go_sem] theorem jeP {P:Program} {t u:TypeId} {x y:Operand} {k:IntKind} {a c:Int} {os:List (Option AObj)} :ji P (.binOp .geq t x y u) [.int k a,.int k c] os=some (True,.val (.bool (decide (a>=c)))):=by simp[ji,Y9,shA,Yr]
@[go_sem] theorem jd1 {P:Program} {t u:TypeId} {x y:Operand} {a c:Bool} {os:List (Option AObj)} :ji P (.binOp .eql t x y u) [.bool a,.bool c] os=blO (ti P t) (a==c):=by rcases h0:ti P t with _|⟨k,s,b,z⟩<;>simp[ji,Y9,h0,blO,YJ]<;>cases k<;>simp[blO]
@[go_sem] theorem jd3 {P:Program} {t u:TypeId} {x y:Operand} {a c:Bool} {os:List (Option AObj)} :ji P (.binOp .neq t x y u) [.bool a,.bool c] os=blO (ti P t) (!(a==c)):=by rcases h0:ti P t with _|⟨k,s,b,z⟩<;>simp[ji,Y9,h0,blO,YJ]<;>cases k<;>simp[blO]
@[go_sem] theorem jjS {s b:Nat} {z:Option (List AV)} {r:Bool} :blO (some ⟨.bool,s,b,z⟩) r=some (True,.val (.bool r)):=_root_.id rfl
@[go_sem] theorem jeN {P:Program} {t u:TypeId} {x y:Operand} {a c:ByteArray} {os:List (Option AObj)} :ji P (.binOp .add t x y u) [.str a,.str c] os=some ((a.size+c.size:Nat)<=2 ^ 62,.val (.str (a++c))):=by simp[ji,Y9]
@[go_sem] theorem jcf {P:Program} {t u:TypeId} {x y:Operand} {c:AV} {l:List AV} {os:List (Option AObj)} :ji P (.binOp .eql t x y u) [.sl (c::l),.nilsl] os=nlO (ti P t) (.sl (c::l)) (.nilsl) false:=by rcases h0:ti P t with _|⟨k,s,b,z⟩<;>simp[ji,Y9,h0,nlO,Gw,YJ]<;>try(cases k<;>simp[YX])
@[go_sem] theorem jom {e1:TypeId} {s b:Nat} {z:Option (List AV)} {c:AV} {l:List AV} {r:Bool} :nlO (some ⟨.slice e1,s,b,z⟩) (.sl (c::l)) (.nilsl) r=some (True,.val (.bool r)):=by simp[nlO,YX]
@[go_sem] theorem jck {P:Program} {t u:TypeId} {x y:Operand} {u1:TypeId} {v:AV} {os:List (Option AObj)} :ji P (.binOp .neq t x y u) [.iface u1 v,.nilif] os=nlO (ti P t) (.iface u1 v) (.nilif) true:=by rcases h0:ti P t with _|⟨k,s,b,z⟩<;>simp[ji,Y9,h0,nlO,Gw,YJ]<;>try(cases k<;>simp[YX])
@[go_sem] theorem jon {s b:Nat} {z:Option (List AV)} {u1:TypeId} {v:AV} {r:Bool} :nlO (some ⟨.iface,s,b,z⟩) (.iface u1 v) (.nilif) r=some (True,.val (.bool r)):=by simp[nlO,YX]
@[go_sem] theorem jeU {P:Program} {t u:TypeId} {x:Operand} {v:Value} {os:List (Option AObj)} :ji P (.binOp .neq t x (.const v) u) [.nilif,.nilif] os=niO (ti P t) false:=by rcases h0:ti P t with _|⟨k,s,b,z⟩<;>simp[ji,Y9,h0,Gw,YJ,isC,niO]<;>cases k<;>simp[YX,niO]
@[go_sem] theorem jjf {s b:Nat} {z:Option (List AV)} {r:Bool} :niO (some ⟨.iface,s,b,z⟩) r=some (True,.val (.bool r)):=by rfl
@[go_sem] theorem jkd {P:Program} {t:TypeId} {x:Operand} {c:Bool} {os:List (Option AObj)} :ji P (.unOp .not t x) [.bool c] os=some (True,.val (.bool !c)):=by simp[ji,unA]
@[go_sem] theorem jiE {P:Program} {t:TypeId} {x y w:Operand} {id:Nat} {n:ByteArray} {v:AV} {es:List (AV×AV)} {o1 o2:Option AObj} :ji P (.mapUpdate t x y w) [.mp id,.str n,v] [some (.map es),o1,o2]=jdV (UM P t) id n v es (jT n es):=xL
@[go_sem] theorem jjD {et:TypeId} {id:Nat} {n:ByteArray} {v:AV} {es:List (AV×AV)} {r:Option AV} :jdV (some et) id n v es (some r)=some (True,.set id (.map (putT n v es r)) (.tup [])):=_root_.id rfl
@[go_sem] theorem jka {P:Program} {t:TypeId} {x y:Operand} {ok:Bool} {id:Nat} {n:ByteArray} {es:List (AV×AV)} {o1:Option AObj} :ji P (.lookup t x y ok) [.mp id,.str n] [some (.map es),o1]=lkO ok (jc5 P t) (jT n es):=jaU
@[go_sem] theorem jkc {P:Program} {t:TypeId} {x:Operand} {v:AV} {os:List (Option AObj)} :ji P (.makeInterface t x) [v] os=mkI (ti P t) t v:=by rcases h0:ti P t with _|⟨k,s,b,z⟩<;>simp[ji,h0,mkI]<;>cases k<;>simp[mkI]
@[go_sem] theorem jhN {fs:List (TypeId×Nat)} {s b:Nat} {z:Option (List AV)} {t:TypeId} {v:AV} :mkI (some ⟨.struct fs,s,b,z⟩) t v=some (True,.val (.iface t v)):=_root_.id rfl
@[go_sem] theorem jiw {P:Program} {fn:Fn} {c0:Operand} {v0:AV} {os:List (Option AObj)} :ji P (.makeFunc fn #[] #[c0]) [v0] os=some (True,.val (.fn fn [] [v0])):=_root_.id rfl
@[go_sem] theorem jix {P:Program} {fn:Fn} {c0 c1:Operand} {v0 v1:AV} {os:List (Option AObj)} :ji P (.makeFunc fn #[] #[c0,c1]) [v0,v1] os=some (True,.val (.fn fn [] [v0,v1])):=_root_.id rfl
@[go_sem] theorem jiy {P:Program} {fn:Fn} {c0 c1 c2:Operand} {v0 v1 v2:AV} {os:List (Option AObj)} :ji P (.makeFunc fn #[] #[c0,c1,c2]) [v0,v1,v2] os=some (True,.val (.fn fn [] [v0,v1,v2])):=_root_.id rfl
@[go_sem] theorem jiz {P:Program} {fn:Fn} {c0 c1 c2 c3:Operand} {v0 v1 v2 v3:AV} {os:List (Option AObj)} :ji P (.makeFunc fn #[] #[c0,c1,c2,c3]) [v0,v1,v2,v3] os=some (True,.val (.fn fn [] [v0,v1,v2,v3])):=_root_.id rfl
@[go_sem] theorem jiA {P:Program} {fn:Fn} {c0 c1 c2 c3 c4 c5:Operand} {v0 v1 v2 v3 v4 v5:AV} {os:List (Option AObj)} :ji P (.makeFunc fn #[] #[c0,c1,c2,c3,c4,c5]) [v0,v1,v2,v3,v4,v5] os=some (True,.val (.fn fn [] [v0,v1,v2,v3,v4,v5])):=_root_.id rfl
@[go_sem] theorem jiB {P:Program} {x y w:Operand} {c:Bool} {v u:AV} {os:List (Option AObj)} :ji P (.pick x y w) [.bool c,v,u] os=some (True,.val (if c then v else u)):=_root_.id rfl
@[go_sem] theorem jgC {P:Program} {t:TypeId} {os:List (Option AObj)} :ji P (.alloc t) [] os=alO (ti P t):=by rcases h0:ti P t with _|⟨k,s,b,_|z⟩<;>simp[ji,h0,alO]
@[go_sem] theorem jjP {k:TK} {s b:Nat} {zs:List AV} :alO (some ⟨k,s,b,some zs⟩)=some (True,.new (.cells zs) (.ptr · 0)):=_root_.id rfl
@[go_sem] theorem jj6 {P:Program} {t:TypeId} {x:Operand} {v:AV} {os:List (Option AObj)} :ji P (.box t x) [v] os=if v.isTup=true then none else some (True,.new (.cells v.cells) (.ptr · 0)):=by simp[ji]
@[go_sem] theorem jgD {P:Program} {t:TypeId} {ps:Array (Nat×Operand)} {vs:List AV} {os:List (Option AObj)} :ji P (.build t ps) vs os=bdO P (ti P t) ((ps.toList.map (·.1)).zip vs):=by rcases h0:ti P t with _|⟨k,s,b,_|z⟩<;>simp[ji,h0,bdO]<;>cases k<;>simp[bdO,agO];rename_i n e;rcases h1:ti P e with _|T<;>simp[bdR,agO]
@[go_sem] theorem jgp {P:Program} {fs:List (TypeId×Nat)} {s b:Nat} {zs:List AV} {q:List (Nat×AV)} :bdO P (some ⟨.struct fs,s,b,some zs⟩) q=if fs.all (fun f=>(ti P f.1).isSome) then agO (ym P fs zs q) else none:=_root_.id rfl
@[go_sem] theorem jjO {l:List AV} :agO (some l)=some (True,.val (.agg l)):=_root_.id rfl
@[go_sem] theorem jiJ {P:Program} {fs:List (TypeId×Nat)} {c:List AV} :ym P fs c []=some c:=by rw[ym]
@[go_sem] theorem jgQ {P:Program} {fs:List (TypeId×Nat)} {c:List AV} {i:Nat} {v:AV} {r:List (Nat×AV)} :ym P fs c ((i,v)::r)=fl1 P fs c v r fs[i]? :=by rw[ym];rcases fs[i]? with _|⟨t,off⟩<;>simp[fl1];rcases ti P t with _|T<;>simp[fl2]
@[go_sem] theorem jkv {P:Program} {fs:List (TypeId×Nat)} {c:List AV} {v:AV} {r:List (Nat×AV)} {t:TypeId} {off:Nat} :fl1 P fs c v r (some (t,off))=fl2 P fs c v r off (ti P t):=_root_.id rfl
@[go_sem] theorem jkw {P:Program} {fs:List (TypeId×Nat)} {c:List AV} {v:AV} {r:List (Nat×AV)} {off:Nat} {k:TK} {s b:Nat} {z:Option (List AV)} :fl2 P fs c v r off (some ⟨k,s,b,z⟩)=if v.cells.length=s/\off+s<=c.length/\v.isTup=false then ym P fs (spl c off v.cells) r else none:=_root_.id rfl
@[go_sem] theorem jiF {P:Program} {e:TypeId} {s b:Nat} {z:Option (List AV)} :elJ P (some ⟨.slice e,s,b,z⟩)=ti P e:=_root_.id rfl
@[go_sem] theorem jmz {P:Program} {t:TypeId} {n:Nat} {ps:Array (Nat×Operand)} {vs:List AV} {os:List (Option AObj)} :ji P (.buildSlice t n ps) vs os=bsO (elJ P (ti P t)) n (ps.toList.map (·.1)) vs:=by rcases h0:ti P t with _|⟨k,s,b,z⟩<;>simp[ji,h0,elJ,bsO]<;>cases k<;>simp[elJ,bsO];rename_i e;rcases h1:ti P e with _|⟨k,s,b,_|z⟩<;>simp[bsO]
@[go_sem] theorem jjT {k:TK} {s b n:Nat} {zs:List AV} {q:List Nat} {vs:List AV} :bsO (some ⟨k,s,b,some zs⟩) n q vs=if zs.length=s/\n*s<=2 ^ 24/\q=List.range n/\vs.all (fun x=>x.cells.length==s&&!x.isTup) then some (True,.new (.row s vs) .rw) else none:=_root_.id rfl
@[go_sem] theorem jmC {P:Program} {t:TypeId} {x y:Operand} {k k1:IntKind} {n c:Int} {os:List (Option AObj)} :ji P (.makeSlice t x y) [.int k n,.int k1 c] os=msO (elJ P (ti P t)) n c:=by rcases h0:ti P t with _|⟨k,s,b,z⟩<;>simp[ji,h0,elJ,msO]<;>cases k<;>simp[elJ,msO];rename_i e;rcases h1:ti P e with _|⟨k,s,b,_|z⟩<;>simp[msO]
@[go_sem] theorem jlJ {k:TK} {s b:Nat} {zs:List AV} {n c:Int} :msO (some ⟨k,s,b,some zs⟩) n c=if zs.length=s/\(k.isAgg=true\/s=1) then some (0<=n/\n<=c/\c<=2 ^ 46/\c*b<=2 ^ 48,.new (.row s (List.replicate n.toNat (yF ⟨k,s,b,some zs⟩ zs))) .rw) else none:=_root_.id rfl
@[go_sem] theorem jiC {P:Program} {t:TypeId} {x:Operand} {u:Operand} {l:List AV} {k:IntKind} {a:Int} {os:List (Option AObj)} :ji P (.slice t x (some u) (none) none) [.sl l,.int k a] os=slO (elT P t) l (0<=a/\a.toNat<=l.length) (.sl (l.drop a.toNat)):=On rfl
@[go_sem] theorem jiD {P:Program} {t:TypeId} {x:Operand} {u:Operand} {l:List AV} {k:IntKind} {a:Int} {os:List (Option AObj)} :ji P (.slice t x (none) (some u) none) [.sl l,.int k a] os=slO (elT P t) l (0<=a/\a.toNat<=l.length) (.sl (l.take a.toNat)):=On rfl
@[go_sem] theorem jl6 {sz:Nat} {l:List AV} {ob:Prop} {v:AV} :slO (some sz) l ob v=some (ob/\SzOk l sz,.val v):=_root_.id rfl
@[go_sem] theorem jj7 {P:Program} {x:Operand} {i:Nat} {l:List AV} {os:List (Option AObj)} :ji P (.extract x i) [.tup l] os=uU l[i]? :=by cases h0:l[i]? <;>simp[ji,h0,uU]
@[go_sem] theorem jmD {P:Program} {x:Operand} {u:TypeId} {t t1:TypeId} {v:AV} {os:List (Option AObj)} :ji P (.typeAssert x u t true) [.iface t1 v] os=taO (ti P t) t1 t (.tup [v,.bool true]):=by rcases h0:ti P t with _|⟨k,s,b,z⟩<;>simp[ji,h0,taO]<;>cases k<;>simp[taO]
@[go_sem] theorem jil {fs:List (TypeId×Nat)} {s b:Nat} {z:Option (List AV)} {t1 t:TypeId} {v:AV} :taO (some ⟨.struct fs,s,b,z⟩) t1 t v=if t1=t then some (True,.val v) else none:=_root_.id rfl
@[go_sem] theorem jmB {P:Program} {t:TypeId} {os:List (Option AObj)} :ji P (.makeMap t none) [] os=some (True,.new (.map []) .mp):=_root_.id rfl
@[go_sem] theorem jfQ {P:Program} {x:Operand} {id o:Nat} {os:List (Option AObj)} :ji P (.nilCheck x) [.ptr id o] os=some (True,.val (.ptr id o)):=_root_.id rfl
@[go_sem] theorem jne {z x:AV} :Yc true z (some x)= .tup [x,.bool true]:=_root_.id rfl
@[go_sem] theorem jlF {z:AV} :Yc true z none= .tup [z,.bool false]:=_root_.id rfl
@[go_sem] theorem jnd {z x:AV} :Yc false z (some x)=x:=_root_.id rfl
@[go_sem] theorem jj9 {P:Program} {t:TypeId} {x y w:Operand} {id:Nat} {k:IntKind} {n:Int} {v:AV} {es:List (AV×AV)} {o1 o2:Option AObj} :ji P (.insert t x y w) [.mp id,.int k n,v] [some (.map es),o1,o2]=inO (mpT P t) id es (.int k n) v (jY k n es):=jaT
@[go_sem] theorem jkT {et:TypeId} {id:Nat} {es:List (AV×AV)} {a v:AV} :inO (some et) id es a v (some none)=some (True,.set id (.map (es++[(a,v)])) (.tup [])):=_root_.id rfl
@[go_sem] theorem jmE {P:Program} {bar:Bool} {t:TypeId} {x:Operand} {lo hi m:Option Operand} {l vs:List AV} {os:List (Option AObj)} :jaX P bar t x lo hi m (.sl l::vs) os=ji P (.slice t x lo hi m) (.sl l::vs) os:=by cases bar<;>cases m<;>rfl
@[go_sem] theorem jke {P:Program} {t:TypeId} {x y w:Operand} {id:Nat} {k:IntKind} {n:Int} {v:AV} {es:List (AV×AV)} {o1 o2:Option AObj} :ji P (.mapUpdate t x y w) [.mp id,.int k n,v] [some (.map es),o1,o2]=upO (mpT P t) id k n v es (jY k n es):=jaW
@[go_sem] theorem jmi {et:TypeId} {id:Nat} {k:IntKind} {n:Int} {v:AV} {es:List (AV×AV)} {r:Option AV} :upO (some et) id k n v es (some r)=some (True,.set id (.map (Ob k n v es r)) (.tup [])):=_root_.id rfl
@[go_sem] theorem jkb {P:Program} {ars:Array Operand} {ts:Array TypeId} {k k2:IntKind} {x y:Int} {os:List (Option AObj)} :ji P (.call ⟨.builtin .max,ars,ts⟩) [.int k x,.int k2 y] os=some (True,.val (.int k (max x y))):=jaV
@[go_sem] theorem jmA {P:Program} {t:TypeId} {x y:Operand} {ok:Bool} {id:Nat} {k:IntKind} {n:Int} {es:List (AV×AV)} {o1:Option AObj} :ji P (.lookup t x y ok) [.mp id,.int k n] [some (.map es),o1]=lkO ok (mpZ P t) (jY k n es):=jch
@[go_sem] theorem jlE {ok:Bool} {z:AV} {r:Option AV} :lkO ok (some z) (some r)=some (True,.val (Yc ok z r)):=_root_.id rfl
@[go_sem] theorem jfP {P:Program} {ars:Array Operand} {t:TypeId} {l:List AV} {os:List (Option AObj)} :ji P (.call ⟨.builtin .len,ars, #[t]⟩) [.sl l] os=lnO (ti P t) (.i l.length):=by rcases h0:ti P t with _|⟨k,s,b,z⟩<;>simp[ji,jbc,xW,h0,lnO]<;>cases k<;>simp[lnO]
@[go_sem] theorem jcg {P:Program} {ars:Array Operand} {t:TypeId} {os:List (Option AObj)} :ji P (.call ⟨.builtin .len,ars, #[t]⟩) [.nilsl] os=lnO (ti P t) (.i 0):=by rcases h0:ti P t with _|⟨k,s,b,z⟩<;>simp[ji,jbc,xW,h0,lnO]<;>cases k<;>simp[lnO]
@[go_sem] theorem jfO {P:Program} {ars:Array Operand} {t:TypeId} {id sz:Nat} {l:List AV} :ji P (.call ⟨.builtin .len,ars, #[t]⟩) [.rw id] [some (.row sz l)]=lnO (ti P t) (.i l.length):=by rcases h0:ti P t with _|⟨k,s,b,z⟩<;>simp[ji,jbc,xW,h0,lnO]<;>cases k<;>simp[lnO]
@[go_sem] theorem jfN {P:Program} {ars:Array Operand} {t:TypeId} {id:Nat} {es:List (AV×AV)} :ji P (.call ⟨.builtin .len,ars, #[t]⟩) [.mp id] [some (.map es)]=lmO (ti P t) (.i es.length):=by rcases h0:ti P t with _|⟨k,s,b,z⟩<;>simp[ji,jbc,xW,h0,lmO]<;>cases k<;>simp[lmO]
@[go_sem] theorem jnf {kt et:TypeId} {s b:Nat} {z:Option (List AV)} {v:AV} :lmO (some ⟨.map kt et,s,b,z⟩) v=some (True,.val v):=_root_.id rfl
@[go_sem] theorem jjb {e:TypeId} {s b:Nat} {z:Option (List AV)} {v:AV} :lnO (some ⟨.slice e,s,b,z⟩) v=some (True,.val v):=_root_.id rfl
@[go_sem] theorem jj5 {P:Program} {ars:Array Operand} {t u:TypeId} {v w:AV} {o1 o2:Option AObj} :ji P (.call ⟨.builtin .append,ars, #[t,u]⟩) [v,w] [o1,o2]=ap0 (elJ P (ti P t)) v o1 (sr0 (elJ P (ti P t)) (ti P u) w o2):=jaR
@[go_sem] theorem jns {k:TK} {s b id sz:Nat} {zs xs l:List AV} {ob:Prop} :ap0 (some ⟨k,s,b,some zs⟩) (.rw id) (some (.row sz l)) (some (ob,xs))=if zs.length=s then(if sz=s then some (ob/\Fits (l.length+xs.length) b,.swap id (.row s (l++xs)) .rw) else none) else none:=_root_.id rfl
@[go_sem] theorem joz {T:TI} {e:TypeId} {s b:Nat} {z:Option (List AV)} {o:Option AObj} {xs:List AV} :sr0 (some T) (some ⟨.slice e,s,b,z⟩) (.sl xs) o=some (SzOk xs T.size,xs):=_root_.id rfl
@[go_sem] theorem joy {T:TI} {e:TypeId} {s b:Nat} {z:Option (List AV)} {id sz:Nat} {xs:List AV} :sr0 (some T) (some ⟨.slice e,s,b,z⟩) (.rw id) (some (.row sz xs))=if sz=T.size then some (True,xs) else none:=_root_.id rfl
@[go_sem] theorem jnn {P:Program} {rs:List ResultVar} {O:St} :Jy P rs O=rs1 (rsL P O rs):=jdC
end Go.Am

namespace Go.Am
attribute [go_sem] List.all_cons List.all_nil decide_true decide_false Bool.true_or Bool.or_true Bool.false_or List.range_zero Array.toList_append beq_self_eq_true Option.isSome_some Option.isSome_none List.zip_cons_cons List.zip_nil_left List.zip_nil_right true_or or_true false_or or_false List.length_replicate List.length_append List.take_zero List.take_succ_cons List.drop_zero List.drop_succ_cons List.take_nil List.drop_nil List.set_cons_zero List.set_cons_succ List.getElem?_cons_zero List.getElem?_cons_succ List.getElem?_nil Int.toNat_natCast List.getElem?_map Option.map_some Option.map_none Option.bind_some Option.bind_none Option.some.injEq List.length_cons List.length_nil List.length_map List.getD_cons_zero List.getD_cons_succ List.getD_nil List.map_cons List.map_nil
 List.cons_append List.nil_append and_true true_and Bool.false_eq_true Bool.and_true Bool.true_and Bool.and_false Bool.false_and Bool.not_true Bool.not_false and_false false_and ne_eq not_true_eq_false not_false_eq_true
variable {P:Program} {E:En} {Q:AEx->St->Prop} {O:St}
@[congr] theorem jji {x y:Option AV} {f:AV->Prop} (h:x=y):on1 x f=on1 y f:=by rw[h]
@[congr] theorem jjj {x y z u:Option AV} {f:AV->AV->Prop} (h:x=y) (h2:z=u):on2 x z f=on2 y u f:=by rw[h,h2]
@[congr] theorem jjo {x y:Option (List AV)} {f:List AV->Prop} (h:x=y):onL x f=onL y f:=by rw[h]
@[congr] theorem jjk {x y:Option AV} {z u:Option (List AV)} {f g:Nat->List AV->Prop} (h:x=y) (h2:z=u):onF x z f g=onF y u f g:=by rw[h,h2]
@[congr] theorem jib {x y:Option (Prop×Ef)} {O:St} {d:Option Nat} {id:Nat} {K:St->Prop} (h:x=y):JM x O d id K=JM y O d id K:=by rw[h]
@[congr] theorem jjm {w:Bool} {c c':Option (Option Bool)} {A B:Prop} {g:Tg (A/\B)} (h:c=c'):onG w c A B g=onG w c' A B g:=by rw[h]
@[congr] theorem jiQ {bar:Bool} {o:Oper} {k:Nat} {O τ:St} {K:St->Prop} {Kp:AV->St->Prop} (h:O=τ):goX P bar k o O K Kp=goX P bar k o τ K Kp:=by rw[h]
theorem UX {c:Bool} {A B:Prop} {g:Tg (A/\B)} (h1:c=true->A) (h2:c=false->B):onG true (some (some c)) A B g:=by
 cases c
 ·exact h2 rfl
 ·exact h1 rfl
theorem UW {c:Bool} {A B:Prop} {g:Tg (A/\B)} (h1:c=true->B) (h2:c=false->A):onG false (some (some c)) A B g:=by
 cases c
 ·exact h2 rfl
 ·exact h1 rfl
inductive Fm where
 |code (c:Code)
 |blk (id:Nat)
 |lp (I:St->Prop)
def Kq (P:Program) (E:En):List Fm->(AEx->St->Prop)->AEx->St->Prop
 | [],Q=>Q
 | .code c::fs,Q=>Gx (AW P E c (Kq P E fs Q)) (Kq P E fs Q)
 | .blk id::fs,Q=>qy id (Kq P E fs Q)
 | .lp I::fs,Q=>Gx I (Kq P E fs Q)
theorem jl (h:Q .norm O):Kq P E [] Q .norm O:=h
theorem jk {c:Code} {fs:List Fm} (h:AW P E c (Kq P E fs Q) O):Kq P E (.code c::fs) Q .norm O:=h
theorem jj {id:Nat} {fs:List Fm} (h:Kq P E fs Q .norm O):Kq P E (.blk id::fs) Q .norm O:=h
theorem jK {I:St->Prop} {fs:List Fm} (h:I O):Kq P E (.lp I::fs) Q .norm O:=h
theorem u6 {f:Fm} {fs:List Fm} (h:Kq P E fs Q .ret O):Kq P E (f::fs) Q .ret O:=by cases f<;>exact h
theorem O0 {c:Code} {fs:List Fm} {j:Nat} (h:Kq P E fs Q (.exit j) O):Kq P E (.code c::fs) Q (.exit j) O:=h
theorem xn {I:St->Prop} {fs:List Fm} {j:Nat} (h:Kq P E fs Q (.exit j) O):Kq P E (.lp I::fs) Q (.exit j) O:=h
theorem u4 {id:Nat} {fs:List Fm} (h:Kq P E fs Q .norm O):Kq P E (.blk id::fs) Q (.exit id) O:=by
 simp only[Kq,qy,if_true];exact h
theorem xp {id j:Nat} {fs:List Fm} (hj:j≠id) (h:Kq P E fs Q (.exit j) O):Kq P E (.blk id::fs) Q (.exit j) O:=by
 simp only[Kq,qy];rw[if_neg hj];exact h
theorem u5 {x:AV} {f:Fm} {fs:List Fm} (h:Kq P E fs Q (.pan x) O):Kq P E (f::fs) Q (.pan x) O:=by cases f<;>exact h
theorem Qa {x y:Code} {fs:List Fm} (h:AW P E x (Kq P E (.code y::fs) Q) O):AW P E (.seq x y) (Kq P E fs Q) O:=jgh h
theorem uY {id:Nat} {x:Code} {fs:List Fm} (h:AW P E x (Kq P E (.blk id::fs) Q) O):AW P E (.block id x) (Kq P E fs Q) O:=jby h
theorem jg {x:Code} (h:AW P E x (Kq P E [] Q) O):AW P E x Q O:=h
theorem je {fs:List Fm} (h:Q .ret O):AW P E .ret (Kq P E fs Q) O:=by
 refine jgg ?_
 induction fs with
 |nil=>exact h
 |cons f fs ih=>exact u6 ih
theorem qu {x:AV} :∀ {fs:List Fm},Q (.pan x) O->Kq P E fs Q (.pan x) O
 | [],h=>h
 |_::_,h=>u5 (qu h)
theorem jjK {id : Nat} {l : List Oper} {fs : List Fm} {n : Nat} {ds : List (Option Nat)} {fr : Nat -> Option AV} {hp : Nat -> Option AObj} {nx : Nat} (hd : yB E.nt l.toArray = true) (hn : l.length = n) (hds : l.map (·.dst) = ds)
    (h:∀ (K:St->Prop) (Kp:AV->St->Prop),(∀ O',Kq P E fs Q .norm O'->K O')->(∀ x O',Q (.pan x) O'->Kp x O')->goL P true none ds l 0 ⟨fr,hp,nx⟩ (fun O'=>K { O' with nx:=nx+1048576*n }) Kp):AW P E (.region id l.toArray false) (Kq P E fs Q) ⟨fr,hp,nx⟩:=by
  subst hn
  subst hds
  exact jgf hd fun K Kp hK hKp=>h K Kp hK fun x O' h=>hKp x O' (qu h)
theorem jjJ {id : Nat} {l : List Oper} {fs : List Fm} {n : Nat} {ds : List (Option Nat)} {fr : Nat -> Option AV} {hp : Nat -> Option AObj} {nx : Nat} (bar : Bool) (hm : P.follows .mixedOrders = true) (hd : yB E.nt l.toArray = true) (hok : J3 bar l.toArray = true) (hn : l.length = n) (hds : l.map (·.dst) = ds)
    (h:∀ (K:St->Prop) (Kp:AV->St->Prop),(∀ O',Kq P E fs Q .norm O'->K O')->(∀ x O',Q (.pan x) O'->Kp x O')->∀ bl,bl=qx l.toArray->goL P bar (some bl) ds l 0 ⟨fr,hp,nx⟩ (fun O'=>K { O' with nx:=nx+1048576*n }) Kp):AW P E (.region id l.toArray true) (Kq P E fs Q) ⟨fr,hp,nx⟩:=by
  subst hn
  subst hds
  exact jge bar hm hd hok fun K Kp hK hKp=>h K Kp hK fun x O' h=>hKp x O' (qu h)
theorem jB {c : Code} {fs : List Fm} {X : Type} (R : X -> Prop) (mk : X -> St) (μ : X -> Nat) (x0 : X) (h0 : R x0) (m0 : Nat -> Nat) (e0 : Ent E.np m0 O (mk x0))
    (round:∀ x,R x->AW P E c (Kq P E (.lp (fun O'=>∃ x',R x'/\μ x'<μ x/\∃ m,Ent E.np m O' (mk x'))::fs) Q) (mk x)):AW P E (.loop c) (Kq P E fs Q) O:=jec R mk μ x0 h0 m0 e0 round
theorem zr {N : Nat} {id : Nat} {l : List Oper} {fs : List Fm} {n : Nat} {ds : List (Option Nat)} {fr : Nat -> Option AV} {hp : Nat -> Option AObj} {nx : Nat} (hE : E.nt = N)
    (h:∀ (K:St->Prop) (Kp:AV->St->Prop),(∀ O',Kq P E fs Q .norm O'->K O')->(∀ x O',Q (.pan x) O'->Kp x O')->goL P true none ds l 0 ⟨fr,hp,nx⟩ (fun O'=>K { O' with nx:=nx+1048576*n }) Kp)
    (hd:yB N l.toArray=true:=by rfl) (hn:l.length=n:=by(simp only[List.length_cons,List.length_nil,Nat.reduceAdd];rfl)) (hds:l.map (·.dst)=ds:=by(simp only[List.map_cons,List.map_nil];rfl)):AW P E (.region id l.toArray false) (Kq P E fs Q) ⟨fr,hp,nx⟩:=
  jjK (by rw[hE];exact hd) hn hds h
theorem zd {N : Nat} {id : Nat} {l : List Oper} {fs : List Fm} {n : Nat} {ds : List (Option Nat)} {fr : Nat -> Option AV} {hp : Nat -> Option AObj} {nx : Nat} (bar : Bool) (hm : P.follows .mixedOrders = true) (hE : E.nt = N)
    (h:∀ (K:St->Prop) (Kp:AV->St->Prop),(∀ O',Kq P E fs Q .norm O'->K O')->(∀ x O',Q (.pan x) O'->Kp x O')->∀ bl,bl=qx l.toArray->goL P bar (some bl) ds l 0 ⟨fr,hp,nx⟩ (fun O'=>K { O' with nx:=nx+1048576*n }) Kp)
    (hd:yB N l.toArray=true:=by rfl) (hok:J3 bar l.toArray=true:=by rfl) (hn:l.length=n:=by(simp only[List.length_cons,List.length_nil,Nat.reduceAdd];rfl)) (hds:l.map (·.dst)=ds:=by(simp only[List.map_cons,List.map_nil];rfl)):AW P E (.region id l.toArray true) (Kq P E fs Q) ⟨fr,hp,nx⟩:=
  jjJ bar hm (by rw[hE];exact hd) hok hn hds h
def zQ:Bool:=true
class Kh (K:St->Prop) (B:outParam (St->Prop)):Prop where
 h:∀ O,B O->K O
class Kj (K:AV->St->Prop) (B:outParam (AV->St->Prop)):Prop where
 h:∀ x O,B x O->K x O
class Ad (A:Prop) (p q:outParam Prop):Prop where
 h:p->q->A
instance {p q:Prop} :Ad (p/\q) p q:=⟨And.intro⟩
theorem zA {A p q:Prop} [h:Ad A p q] (hp:p) (hq:q):A:=h.h hp hq
theorem zk {K B:St->Prop} {O:St} [h:Kh K B] (g:B O):K O:=h.h O g
theorem zp {K B:AV->St->Prop} {x:AV} {O:St} [h:Kj K B] (g:B x O):K x O:=h.h x O g
theorem zR {N : Nat} {id : Nat} {l : List Oper} {fs : List Fm} {n : Nat} {ds : List (Option Nat)} {fr : Nat -> Option AV} {hp : Nat -> Option AObj} {nx : Nat} (hE : E.nt = N)
    (h:∀ {K:St->Prop} {Kp:AV->St->Prop} [Kh K (Kq P E fs Q .norm)] [Kj Kp (fun x=>Q (.pan x))],zQ=true->goL P true none ds l 0 ⟨fr,hp,nx⟩ (fun O'=>K { O' with nx:=nx+1048576*n }) Kp)
    (hd:yB N l.toArray=true:=by rfl) (hn:l.length=n:=by(simp only[List.length_cons,List.length_nil,Nat.reduceAdd];rfl)) (hds:l.map (·.dst)=ds:=by(simp only[List.map_cons,List.map_nil];rfl)):AW P E (.region id l.toArray false) (Kq P E fs Q) ⟨fr,hp,nx⟩:=
  zr hE (fun K Kp a b=>@h K Kp ⟨a⟩ ⟨b⟩ rfl) hd hn hds
theorem zD {N : Nat} {id : Nat} {l : List Oper} {fs : List Fm} {n : Nat} {ds : List (Option Nat)} {fr : Nat -> Option AV} {hp : Nat -> Option AObj} {nx : Nat} (bar : Bool) (hm : P.follows .mixedOrders = true) (hE : E.nt = N)
    (h:∀ {K:St->Prop} {Kp:AV->St->Prop} [Kh K (Kq P E fs Q .norm)] [Kj Kp (fun x=>Q (.pan x))],∀ {bl},bl=qx l.toArray->zQ=true->goL P bar (some bl) ds l 0 ⟨fr,hp,nx⟩ (fun O'=>K { O' with nx:=nx+1048576*n }) Kp)
    (hd:yB N l.toArray=true:=by rfl) (hok:J3 bar l.toArray=true:=by rfl) (hn:l.length=n:=by(simp only[List.length_cons,List.length_nil,Nat.reduceAdd];rfl)) (hds:l.map (·.dst)=ds:=by(simp only[List.map_cons,List.map_nil];rfl)):AW P E (.region id l.toArray true) (Kq P E fs Q) ⟨fr,hp,nx⟩:=
  zd bar hm hE (fun K Kp a b bl e=>@h K Kp ⟨a⟩ ⟨b⟩ bl e rfl) hd hok hn hds
theorem zc {c : Operand} {x y : Code} {b : Bool} {fs : List Fm} (ht : b = true -> AW P E x (Kq P E fs Q) O) (hf : b = false -> AW P E y (Kq P E fs Q) O)
    (hc:evA O c=some (.bool b):=by(simp only[go_sem, ↓reduceIte,Nat.reduceEqDiff];rfl)):AW P E (.cond c x y) (Kq P E fs Q) O:=jd8 hc ht hf
attribute [irreducible] Kq
theorem Ju {P:Program} {O:St} {t:Nat} {r:AV} (h:O.fr t=some r):Jy P [.tmp t] O=some r:=by
 simp[Jy,rvA,h]
theorem wrap64 {n:Int} (h1: -9223372036854775808<=n) (h2:n<9223372036854775808):IntKind.i64.wrap n=n:=by
 rw[IntKind.wrap_i64];omega
@[go_sem] theorem p24:(2:Nat) ^ 24=16777216:=by decide
@[go_sem] theorem p62:(2:Nat) ^ 62=4611686018427387904:=by decide
theorem w1 {x y:Code} {fs:List Fm} (h:AW P E x (Kq P E (.code y::fs) Q) O):AW P E (.seq x y) (Kq P E fs Q) O:=Qa h
theorem w2 {id:Nat} {x:Code} {fs:List Fm} (h:AW P E x (Kq P E (.blk id::fs) Q) O):AW P E (.block id x) (Kq P E fs Q) O:=uY h
theorem w3 {Q:AEx->St->Prop} {O:St} (h:Q .norm O):AW P E .skip Q O:=GO h
theorem w4 {id:Nat} {Q:AEx->St->Prop} {O:St} (h:Q (.exit id) O):AW P E (.exit id) Q O:=jea h
theorem w5 {c:Code} {fs:List Fm} {j:Nat} (h:Kq P E fs Q (.exit j) O):Kq P E (.code c::fs) Q (.exit j) O:=O0 h
theorem w6 {I:St->Prop} {fs:List Fm} {j:Nat} (h:Kq P E fs Q (.exit j) O):Kq P E (.lp I::fs) Q (.exit j) O:=xn h
theorem w7 {id:Nat} {fs:List Fm} (h:Kq P E fs Q .norm O):Kq P E (.blk id::fs) Q (.exit id) O:=u4 h
theorem w8 {c:Code} {fs:List Fm} (h:AW P E c (Kq P E fs Q) O):Kq P E (.code c::fs) Q .norm O:=jk h
theorem w9 {id:Nat} {fs:List Fm} (h:Kq P E fs Q .norm O):Kq P E (.blk id::fs) Q .norm O:=jj h
theorem w0 {I:St->Prop} {fs:List Fm} (h:I O):Kq P E (.lp I::fs) Q .norm O:=jK h
class Nx (p:Prop) (q:outParam Prop):Prop where
 stp:q->p
theorem nx {p q:Prop} [h:Nx p q] (x:q):p:=h.stp x
section
variable {x y:Code} {fs:List Fm} {Q:AEx->St->Prop} {O:St} {id j:Nat} {I:St->Prop}
instance:Nx (AW P E (.seq x y) (Kq P E fs Q) O) (AW P E x (Kq P E (.code y::fs) Q) O):=⟨w1⟩
instance:Nx (AW P E (.block id x) (Kq P E fs Q) O) (AW P E x (Kq P E (.blk id::fs) Q) O):=⟨w2⟩
instance:Nx (AW P E .skip Q O) (Q .norm O):=⟨w3⟩
instance:Nx (AW P E (.exit id) Q O) (Q (.exit id) O):=⟨w4⟩
instance:Nx (Kq P E (.code x::fs) Q (.exit j) O) (Kq P E fs Q (.exit j) O):=⟨w5⟩
instance:Nx (Kq P E (.lp I::fs) Q (.exit j) O) (Kq P E fs Q (.exit j) O):=⟨w6⟩
instance:Nx (Kq P E (.blk id::fs) Q (.exit id) O) (Kq P E fs Q .norm O):=⟨w7⟩
instance:Nx (Kq P E (.code x::fs) Q .norm O) (AW P E x (Kq P E fs Q) O):=⟨w8⟩
instance:Nx (Kq P E (.blk id::fs) Q .norm O) (Kq P E fs Q .norm O):=⟨w9⟩
instance:Nx (Kq P E (.lp I::fs) Q .norm O) (I O):=⟨w0⟩
end
theorem zx {id j:Nat} {fs:List Fm} (h:Kq P E fs Q (.exit j) O) (hj:j≠id:=by decide):Kq P E (.blk id::fs) Q (.exit j) O:=xp hj h
theorem zb {a:Prop} (h:a:=by first|trivial|omega|(simp only[Fits];omega)|assumption|(rw[hanc];first|rfl|exact⟨rfl,rfl⟩)):a:=h
theorem zw {n:Int} (h1: -9223372036854775808<=n:=by omega) (h2:n<9223372036854775808:=by omega):IntKind.i64.wrap n=n:=wrap64 h1 h2
theorem zh {p q:Prop} (h:p) (n:¬p:=by decide):q:=absurd h n
class Bn (a:Bool) (b:outParam Bool):Prop where
 e:b= !a
instance:Bn true false:=⟨rfl⟩
instance:Bn false true:=⟨rfl⟩
theorem zg {w w' c:Bool} {A B:Prop} {g:Tg (A/\B)} [h:Bn w w'] (h1:c=w->A) (h2:c=w'->B):onG w (some (some c)) A B g:=by
 have e:=h.e
 subst e
 cases w
 ·exact UW h2 h1
 ·exact UX h1 h2
theorem zl {a b:Prop} (h:a\/b:=by first|exact .inl rfl|(right;simp[go_sem])):a\/b:=h
theorem zt {R : List ResultVar} {r r' : AV} (hQ : ∀ O, (∃ r', Jy P R O = some r' /\ r'.snapOk O.hp /\ r'.snap O.hp = r /\ r.clo = true) -> Q .ret O /\ Q .norm O) (h3 : r'.snap O.hp = r)
    (h1:Jy P R O=some r':=by((try simp only[go_sem, ↓reduceIte,Nat.reduceEqDiff]);rfl)) (h2:r'.snapOk O.hp:=by simp[go_sem]) (h4:r.clo=true:=by first|rfl|assumption):Q .ret O:=
  (hQ _ ⟨r',h1,h2,h3,h4⟩).1
class Cm (A:Prop) (P:outParam Program) (g:outParam FuncId) (vs:outParam (List AV)) (O:outParam St) (d:outParam (Option Nat)) (K:outParam (St->Prop)):Prop where
 of:jA P g vs O d K->A
instance {g:FuncId} {vs:List AV} {d:Option Nat} {K:St->Prop} :Cm (jA P g vs O d K) P g vs O d K:=⟨fun h=>h⟩
theorem zm {A:Prop} {g:FuncId} {vs us:List AV} {r:AV} {d:Option Nat} {K:St->Prop} [h:Cm A P g vs O d K] {tg:Tg A} (hu:AV.snapL O.hp vs=us) (hc:PCall P g us r) (hs:AV.snapOkL O.hp vs) (hf:r.flatR=true\/vs.all AV.noRw=true) (hk:K (O.put d r)):Hold A tg:=
 h.of ⟨hs,r,RCall.of_P (by rw[hu];exact hc) _,hf,hk⟩
theorem zM {A:Prop} {g:FuncId} {vs us:List AV} {r:AV} {d:Option Nat} {K:St->Prop} [h:Cm A P g vs O d K] {tg:Tg A} (hu:AV.snapL O.hp vs=us) (hc:PCall P g us r) (hs:AV.snapOkL O.hp vs) (hf:r.flatR=true\/vs.all AV.noRw=true) (hk:zQ=true->K (O.put d r)):Hold A tg:=
 zm hu hc hs hf (hk rfl)
theorem pI {P : Program} {f : FuncId} {fn : Func} {c : Code} {vs : List AV} {r : AV} (hf : P.funcs[f]? = some fn) (hfn : jJ P f = true)
    (h:∀ (E:En) (Q:AEx->St->Prop),E.nt=fn.ntmps->E.np=0->(∀ O,(∃ r',Jy P fn.results.toList O=some r'/\r'.snapOk O.hp/\r'.snap O.hp=r/\r.clo=true)->Q .ret O/\Q .norm O)->AW P E c (Kq P E [] Q) ⟨JV 0 vs,jp [],0⟩)
    (hb:fn.body=some c:=by rfl) (hn:vs.length<=fn.ntmps:=by exact Nat.le_of_ble_eq_true rfl) (hclo:AV.cloL vs=true:=by simp[AV.cloL,AV.clo]):PCall P f vs r:=
  PCall.intro hf hb hfn hn hclo fun E Q x y z=>jg (h E Q x y z)
theorem zu {vs us:List AV} (hu:AV.snapL O.hp vs=us:=by(simp only[go_sem]<;>rfl)):AV.snapL O.hp vs=us:=hu
theorem zs {vs:List AV} (hs:AV.snapOkL O.hp vs:=by first|(simp[go_sem];done)|(simp[go_sem,j8,AV.cells,AV.clo];done)):AV.snapOkL O.hp vs:=hs
end Go.Am
