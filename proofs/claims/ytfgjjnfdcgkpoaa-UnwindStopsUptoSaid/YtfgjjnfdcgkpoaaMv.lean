/- A part of the proof: an abstract machine for the walks, and what the walked functions compute. -/
import Derived.Test.YtfgjjnfdcgkpoaaMj
set_option linter.unusedVariables false
set_option linter.unusedSimpArgs false
namespace Go.Am
open Go
variable {P:Program} {E:En} {ρ:Nat→Ref} {V:Nat→Prop} {Z:Nat→Nat→Prop} {σ:St} {a:Act} {w:World}
theorem part_run {t e tx : TypeId} {T Te Tx : TI} (hT : ti P t = some T) (hk : T.k = .slice e) (hTe : ti P e = some Te) (hTx : ti P tx = some Tx) (hkx : Tx.k = .slice e) {rid : Nat} {l : List AV} (hobj : ObjRel ρ V Z w rid (.row Te.size l))
    {lo hi:Nat} (h1:lo≤hi) (h2:hi≤l.length) {vlo vhi:Option Value} (hsb:∀ cap,l.length≤cap→(Instr.sliceBounds true l.length cap vlo vhi none).run P w= .ok (lo,hi,cap) w):
    ∃ v,(Instr.sliceAt t (ρ rid).slice vlo vhi none).run P w= .ok v w∧∀ w':World,w'.heap=w.heap→∃ nc,NewCells P w' e tx Te.size (cutA l lo hi).length v nc∧Cells ρ V Z w' nc 0 Te.size (cutA l lo hi):=by
  have hus:=run_underlying_slice (w:=w) hT hk
  have hlen:(cutA l lo hi).length=hi - lo:=by simp[cutA];omega
  have key:∀ (a':Option Addr) (cap:Nat),(ρ rid).slice= .slice a' l.length cap→l.length≤cap→(Instr.sliceAt t (.slice a' l.length cap) vlo vhi none).run P w= .ok (.slice (if cap=lo then a' else a'.map (·.add (lo*Te.size))) (hi - lo) (cap - lo)) w:=by
    intro a' cap hsl hcap
    unfold Instr.sliceAt Instr.slice
    simp only[Sem.run_bind,hus,Result.andThen_ok,hsb cap hcap,run_sizeOf hTe,Sem.run_pure]
  have fin:∀ (b:Option Addr) (c:Nat) (nc:Array Value) (w':World),(Builtin.firstCells Te.size (hi - lo) (.slice b (hi - lo) c)).run P w'= .ok nc w'→nc.size=(hi - lo)*Te.size→NewCells P w' e tx Te.size (hi - lo) (.slice b (hi - lo) c) nc:=by
    intro b c nc w' h3 h4
    obtain⟨u,hu1,hu2⟩:=run_underlying (w:=w') hTx
    rw[hkx] at hu2
    obtain rfl:=tk_slice hu2
    exact⟨_,hu1,.inr ⟨rfl,by simp[Builtin.lenOf],h3⟩,h4⟩
  rw[hlen]
  rcases hobj.row_cells' with ⟨h0,rfl⟩|⟨h0,cs,ty,g1,g2,g3,g4,g5⟩
  · have e0:(ρ rid).slice= .slice none 0 0:=by simp[Ref.slice,h0]
    simp only[List.length_nil,Nat.le_zero_eq] at h2
    subst h2
    obtain rfl:lo=0:=by omega
    rw[e0]
    refine⟨_,key none 0 (by simpa using e0) (Nat.le_refl _),fun w' hw=>⟨#[],fin _ _ _ _ (by simp[Builtin.firstCells]) (by simp),?_⟩⟩
    exact⟨fun i hi=>by simp[cutA] at hi,fun i j hi=>by simp[cutA] at hi⟩
  · have e0:(ρ rid).slice= .slice (some ⟨(ρ rid).blk,(ρ rid).off,none⟩) l.length (ρ rid).cap:=by simp[Ref.slice,h0,g2]
    rw[e0]
    refine⟨_,key _ _ e0 g3,fun w' hw=>?_⟩
    have hmono:∀ v x,Rel ρ V Z w v x→Rel ρ V Z w' v x:=fun v x hr=>hr.mono (fun _ _=>rfl) (fun _ h=>h) (fun _ _ h=>h) (fun b o _=>cell?_of_heap (by rw[hw]))
    by_cases hz:hi - lo=0
    · rw[hz]
      rw[hz] at fin
      have hfc:∀ (b:Option Addr) (c:Nat),(Builtin.firstCells Te.size 0 (.slice b 0 c)).run P w'= .ok #[] w':=by
        intro b c
        cases b<;>simp[Builtin.firstCells,loadCells,loadCellsFrom]
      refine⟨#[],fin _ _ _ _ (hfc _ _) (by simp),⟨fun i hq=>?_,fun i j hq=>?_⟩⟩
      · rw[hlen] at hq;omega
      · rw[hlen] at hq;omega
    have hcap:(ρ rid).cap≠lo:=by omega
    rw[if_neg hcap]
    have hcl:Cells ρ V Z w' cs ((ρ rid).off+lo*Te.size) Te.size (cutA l lo hi):=by
      refine⟨fun i hq=>?_,fun i j hq hj=>?_⟩
      · rw[hlen] at hq
        have e1:(cutA l lo hi).getD i default=l.getD (lo+i) default:=by
          simp only[cutA,List.getD_eq_getElem?_getD,List.getElem?_drop,List.getElem?_take];rw[if_pos (by omega)]
        rw[e1];exact g5.1 _ (by omega)
      · rw[hlen] at hq
        have e1:(cutA l lo hi).getD i default=l.getD (lo+i) default:=by
          simp only[cutA,List.getD_eq_getElem?_getD,List.getElem?_drop,List.getElem?_take];rw[if_pos (by omega)]
        have h6:=g5.2 (lo+i) j (by omega) hj
        rw[e1]
        refine⟨h6.1,hmono _ _ ?_⟩
        rw[show(ρ rid).off+lo*Te.size+i*Te.size+j=(ρ rid).off+(lo+i)*Te.size+j by rw[Nat.add_mul];omega]
        exact h6.2
    have hsz:(ρ rid).off+lo*Te.size+(cutA l lo hi).length*Te.size≤cs.size:=by
      rw[hlen]
      have e2:lo*Te.size+(hi - lo)*Te.size=hi*Te.size:=by rw[← Nat.add_mul];congr 1;omega
      have e3:hi*Te.size≤(ρ rid).cap*Te.size:=Nat.mul_le_mul_right _ (by omega)
      omega
    obtain⟨nc,k1,k2,k3⟩:=row_cells (P:=P) (w:=w') (by rw[hw];exact g1) hsz hcl
    rw[hlen] at k1 k2
    exact⟨nc,fin _ _ _ _ (by simpa [Builtin.firstCells,addr_add] using k1) k2,k3⟩
theorem bounds_run {lo hi : Option AV} {vlo vhi : Option Value} (hlo : ∀ x, lo = some x → ∃ u, vlo = some u ∧ Rel ρ V Z w u x) (hlo' : lo = none → vlo = none) (hhi : ∀ x, hi = some x → ∃ u, vhi = some u ∧ Rel ρ V Z w u x) (hhi' : hi = none → vhi = none)
    {l l':List AV} {ob:Prop} (hs:sliceA l lo hi=some (ob,.sl l')) (hob:ob):
    ∃ i j:Nat,i≤j∧j≤l.length∧l'=cutA l i j∧∀ cap,l.length≤cap→(Instr.sliceBounds true l.length cap vlo vhi none).run P w= .ok (i,j,cap) w:=by
  have hb:∀ (k:IntKind) (n:Int) (m:Nat) (code:BoundsCode),0≤n→n≤m→(Instr.sliceBound (.int k n) m code).run P w= .ok n.toNat w:=by
    intro k n m code h1 h2
    unfold Instr.sliceBound
    simp only[asIntOf,Sem.run_bind,Sem.run_pure,Result.andThen_ok]
    rw[if_pos ⟨h1,h2⟩]
    rfl
  unfold sliceA at hs
  split at hs
  · cases hs
    rw[hlo' rfl,hhi' rfl]
    exact⟨0,l.length,by omega,by omega,by simp[cutA],fun cap _=>by simp[Instr.sliceBounds]⟩
  · rename_i k n
    cases hs
    obtain⟨h1,h2⟩:=hob
    obtain⟨u,hu1,hu2⟩:=hlo _ rfl
    rw[hu1,hhi' rfl,hu2.int_inv]
    exact⟨n.toNat,l.length,by omega,by omega,by simp[cutA],fun cap _=>by simp[Instr.sliceBounds,hb k n l.length .sliceB h1 (by omega)]⟩
  · rename_i k n
    cases hs
    obtain⟨h1,h2⟩:=hob
    obtain⟨u,hu1,hu2⟩:=hhi _ rfl
    rw[hu1,hlo' rfl,hu2.int_inv]
    exact⟨0,n.toNat,by omega,by omega,by simp[cutA],fun cap hc=>by simp[Instr.sliceBounds,hb k n cap .sliceAcap h1 (by omega)]⟩
  · rename_i k n k' m
    cases hs
    obtain⟨h1,h2,h3⟩:=hob
    obtain⟨u,hu1,hu2⟩:=hlo _ rfl
    obtain⟨u',hu1',hu2'⟩:=hhi _ rfl
    rw[hu1,hu1',hu2.int_inv,hu2'.int_inv]
    exact⟨n.toNat,m.toNat,by omega,by omega,rfl,fun cap hc=>by
      have e1:=hb k' m cap .sliceAcap (by omega) (by omega)
      have e2:=hb k n m.toNat .sliceB h1 (by omega)
      simp[Instr.sliceBounds,e1,e2]⟩
  · cases hs
theorem Sat.forget (h:Sat E ρ V Z σ a w) {d:Nat} (hd:d<E.nt) (v:Value):Sat E ρ V Z { σ with fr:=fun t=>if t=d then none else σ.fr t } (a.put (some d) v) w:=by
 have h1:=h.val (d:=some d) (v:= .bool true) (x:= .bool true) (w':=w) (fun n e=>by cases e;exact hd) rfl rfl rfl (.bool _)
 refine⟨?_,h.df,fun t x hx=>?_,h.hs,h.ext,h.ownd,h.z0,h.zn,h.pn⟩
 ·simpa [Act.put] using h.nt
 ·simp only at hx
  split at hx
  ·cases hx
  ·rename_i hne
   have:=h.fr t x hx
   have e:(a.put (some d) v).tmps.getD t undef=a.tmps.getD t undef:=by simp[Act.put,Array.getD_eq_getD_getElem?,Array.getElem?_setIfInBounds,Ne.symm hne]
   rw[e];exact this
def PGo (P:Program) (E:En) (o1 o2:Oper) (j:Nat) (σ:St) (K:St→Prop):Prop:=
 ∀ ρ V Z a w,Sat E ρ V Z σ a w→(∀ id,V id→id<σ.nx+1048576*j)→∀ (ops:Array Oper) (Q:Exit→Act→World→Prop) (r:List Nat),ops[j]? =some o1→ops[j+1]? =some o2→
  (∀ σ' a' w' ρ' V' Z',K σ'→σ'.nx=σ.nx→Sat E ρ' V' Z' σ' a' w'→(∀ id,V' id→id<σ.nx+1048576*(j+2))→wpOpsIn (rfn E.rd) 0 P ops Q r a' w')→wpOpsIn (rfn E.rd) 0 P ops Q (j::(j+1)::r) a w
theorem PGo.mk {t e ts tx ty1 ty2 : TypeId} {pos1 pos2 : String} {af1 af2 : Array Edge} {d1 d2 x y : Nat} {olo ohi : Option Operand} {j : Nat} {K : St → Prop} {fr : Nat → Option AV} {hp : Nat → Option AObj} {nx X Y : Nat} {l m l' : List AV} {lo hi : Option AV} {ob : Prop}
    {T Te Ts Tx:TI} {zs:List AV} (hT:ti P t=some T) (hk:T.k= .slice e) (hTe:ti P e=some Te) (hTs:ti P ts=some Ts) (hks:Ts.k= .slice e) (hTx:ti P tx=some Tx) (hkx:Tx.k= .slice e) (hz:Te.zero=some zs) (hzl:zs.length=Te.size)
    (hd1:d1<E.nt) (hd2:d2<E.nt) (hyd:y≠d1) (hx:fr x=some (.rw X)) (hX:hp X=some (.row Te.size l)) (hy:fr y=some (.rw Y)) (hY:hp Y=some (.row Te.size m))
    (hlo:∀ o,olo=some o→∃ v,lo=some v∧evA ⟨fr,hp,nx⟩ o=some v) (hlo':olo=none→lo=none) (hhi:∀ o,ohi=some o→∃ v,hi=some v∧evA ⟨fr,hp,nx⟩ o=some v) (hhi':ohi=none→hi=none)
    (hs:sliceA l lo hi=some (ob,.sl l')) (hob:ob) (hn:Fits (m.length+l'.length) Te.bytes)
    (hK:K ⟨upd (fun t=>if t=d1 then none else fr t) d2 (.rw (nx+1048576*(j+1))),updo (updo hp Y none) (nx+1048576*(j+1)) (some (.row Te.size (m++l'))),nx⟩):
    PGo P E ⟨some d1,.slice t (.tmp x) olo ohi none,ty1,pos1,af1,none⟩ ⟨some d2,.call ⟨.builtin .append,⟨[.tmp y,.tmp d1]⟩,⟨[ts,tx]⟩⟩,ty2,pos2,af2,none⟩ j ⟨fr,hp,nx⟩ K:=by
  intro ρ V Z a w h hV ops Q r ho1 ho2 hnext
  obtain⟨hVX,hobj⟩:=h.hs.obj X _ hX
  have hvx:=h.fr x _ hx
  obtain⟨i,k,g1,g2,rfl,g3⟩:=bounds_run (P:=P) (ρ:=ρ) (V:=V) (Z:=Z) (w:=w) (lo:=lo) (hi:=hi) (vlo:=olo.map a.eval) (vhi:=ohi.map a.eval)
    (fun v hv=>by
      cases olo with
      |none=>rw[hlo' rfl] at hv;cases hv
      |some o=>obtain⟨v',h1,h2⟩:=hlo o rfl;rw[h1] at hv;cases hv;exact⟨_,rfl,ev_rel h h2⟩)
    (fun e=>by cases olo with|none=>rfl|some o=>obtain⟨v',h1,_⟩:=hlo o rfl;rw[h1] at e;cases e)
    (fun v hv=>by
      cases ohi with
      |none=>rw[hhi' rfl] at hv;cases hv
      |some o=>obtain⟨v',h1,h2⟩:=hhi o rfl;rw[h1] at hv;cases hv;exact⟨_,rfl,ev_rel h h2⟩)
    (fun e=>by cases ohi with|none=>rfl|some o=>obtain⟨v',h1,_⟩:=hhi o rfl;rw[h1] at e;cases e) hs hob
  obtain⟨v1,r1,r2⟩:=part_run (P:=P) (w:=w) hT hk hTe hTx hkx hobj g1 g2 g3
  have hf:=h.forget hd1 v1
  have hid:¬ V (nx+1048576*(j+1)):=fun hv=>by have:=hV _ hv;simp only at this;omega
  rw[wpOpsIn_cons]
  unfold wpOpIn
  rw[ho1]
  simp only
  rw[if_pos (by rfl)]
  refine wpIn_intro (fun c=>by simp) (res:= .ok (.value v1) w) ?_ ?_
  · rw[show execOp a.eval ⟨some d1,.slice t (.tmp x) olo ohi none,ty1,pos1,af1,none⟩=(do pure (Next.value (← Instr.sliceAt t (a.eval (.tmp x)) (olo.map a.eval) (ohi.map a.eval) none))) from rfl]
    refine run_value ?_
    have:=hvx.rw_inv.1
    show(Instr.sliceAt t (a.tmps.getD x undef) _ _ none).run P w=_
    rw[this];exact r1
  rw[Oper.uponIn_value,wpOpsIn_cons]
  unfold wpOpIn
  rw[ho2]
  simp only
  rw[if_pos (by rfl)]
  have e1:(a.put (some d1) v1).eval (.tmp d1)=v1:=by
    show(a.put (some d1) v1).tmps.getD d1 undef=v1
    have:d1<a.tmps.size:=by rw[h.nt];exact hd1
    simp[Act.put,Array.getD_eq_getD_getElem?,Array.getElem?_setIfInBounds,this]
  have hrun:execOp (a.put (some d1) v1).eval ⟨some d2,.call ⟨.builtin .append,⟨[.tmp y,.tmp d1]⟩,⟨[ts,tx]⟩⟩,ty2,pos2,af2,none⟩=(do pure (Next.value (← Builtin.append_ #[ts,tx] ty2 #[(a.put (some d1) v1).eval (.tmp y),v1]))):=by
    have:=exec_append (a:=a.put (some d1) v1) (some d2) (.tmp y) (.tmp d1) ts tx ty2 pos2 af2 none
    rw[e1] at this
    exact this
  have hyf:(fun t=>if t=d1 then none else fr t) y=some (.rw Y):=by simp only;rw[if_neg hyd];exact hy
  obtain⟨nn,w',v',ρ',V',q1,q2,q3,q4,q5⟩:=ok_append_src (id:=nx+1048576*(j+1)) hf (fun n hn=>by cases hn;exact hd2) hid hTs hks hTe hz hzl (fun w' hw=>r2 w' (by rcases hw with rfl|rfl<;>rfl)) (hf.fr y _ hyf) hY hn.1 hn.2 hrun
  refine wpIn_intro (fun c=>by simp) q1 ?_
  have hfin:=hnext _ _ _ _ _ _ hK rfl q5 (fun id hi=>by
    rcases q4 id hi with h|h
    · have:=hV id h;simp only at this ⊢;omega
    · rw[h];simp only;omega)
  rcases q2 with rfl|⟨rfl,rfl⟩
  · exact hfin
  · exact hfin
theorem wpOps_pre {bar : Bool} {ops : Array Oper} (hdst : ∀ (i : Nat) (o : Oper), ops[i]? = some o → ∀ n, o.dst = some n → n < E.nt) {nx : Nat} {K : St → Prop} {Kp : AV → St → Prop} {Q : Exit → Act → World → Prop} {p : Nat} (hp : p ≤ ops.size) {r : List Nat}
    (hfin:∀ σ' a' w' ρ' V' Z',K σ'→σ'.nx=nx→Sat E ρ' V' Z' σ' a' w'→(∀ id,V' id→id<nx+1048576*p)→wpOpsIn (rfn E.rd) 0 P ops Q r a' w')
    (hP:∀ σ,σ.nx=nx→Panic' E σ Kp Q):∀ (l:List (Oper×Nat)) (j:Nat) (σ:St) (ρ:Nat→Ref) (V:Nat→Prop) (Z:Nat→Nat→Prop) (a:Act) (w:World),l=(ops.toList.zipIdx.take p).drop j→Sat E ρ V Z σ a w→σ.nx=nx→
      (∀ id,V id→id<nx+1048576*j)→j≤p→goR P bar none (ops.toList.map (·.dst)) l σ K Kp→wpOpsIn (rfn E.rd) 0 P ops Q (List.range' j (p - j)++r) a w
  | [],j,σ,ρ,V,Z,a,w,hr,h,hnx,hVb,hj,hgo=>by
    have:p≤j:=by
      have:=congrArg List.length hr
      simp at this
      omega
    have e:p - j=0:=by omega
    rw[e]
    exact hfin _ _ _ _ _ _ hgo hnx h (fun id hid=>by have:=hVb id hid;omega)
  |(o,k)::l,j,σ,ρ,V,Z,a,w,hr,h,hnx,hVb,hj,hgo=>by
    have hjl:j<p:=by
      have:=congrArg List.length hr
      simp at this
      omega
    have h0:((ops.toList.zipIdx.take p).drop j)[0]? =some (o,k):=by rw[← hr];rfl
    rw[List.getElem?_drop,List.getElem?_take,if_pos (by omega),List.getElem?_zipIdx] at h0
    simp only[Nat.add_zero,Nat.zero_add] at h0
    have hoj:ops[j]? =some o∧k=j:=by
      cases hoj:ops.toList[j]? with
      |none=>simp[hoj] at h0
      |some o'=>
        simp only[hoj,Option.map_some,Option.some.injEq,Prod.mk.injEq] at h0
        rw[← Array.getElem?_toList,hoj,h0.1]
        exact⟨rfl,h0.2.symm⟩
    obtain⟨ho,rfl⟩:=hoj
    have hr':l=(ops.toList.zipIdx.take p).drop (k+1):=by
      rw[← List.drop_drop, ← hr];rfl
    rw[show p - k=(p - (k+1))+1 by omega,List.range'_succ,List.cons_append,wpOpsIn_cons]
    simp only[goR] at hgo
    refine goG_wp h ho (fun id hid=>by have:=hVb id hid;omega) (hdst k o ho) hgo ?_ (hP σ hnx)
    intro σ' a' w' ρ' V' Z' hgo' hnx' hS' hV1 hV2
    rw[hnx] at hV1 hnx'
    refine wpOps_pre hdst hp hfin hP l (k+1) σ' ρ' V' Z' a' w' hr' hS' hnx' (fun id hid=>?_) (by omega) hgo'
    rcases hV1 id hid with h5|h5
    · have:=hVb id h5;omega
    · omega
@[congr] theorem PGo_congr {o1 o2:Oper} {j:Nat} {σ τ:St} {K:St→Prop} (h:σ=τ):PGo P E o1 o2 j σ K=PGo P E o1 o2 j τ K:=by rw[h]
theorem K_part {Q : AEx → St → Prop} {id : Nat} {l pre post : List Oper} {o1 o2 : Oper} (p : Nat) {n N : Nat} {ds : List (Option Nat)} {fs : List Fm} {fr : Nat → Option AV} {hp : Nat → Option AObj} {nx : Nat} (hE : E.nt = N) (h1 : l.take p = pre) (h2 : l.drop p = o1 :: o2 :: post)
    (hd:dstOk N l.toArray=true) (hn:l.length=n) (hds:l.map (·.dst)=ds)
    (h:∀ (K:St→Prop) (Kp:AV→St→Prop),(∀ σ',Kq P E fs Q .norm σ'→K σ')→(∀ x σ',Q (.pan x) σ'→Kp x σ')→goL P true none ds pre 0 ⟨fr,hp,nx⟩ (fun σ1=>PGo P E o1 o2 p σ1 (fun σ2=>goL P true none ds post (p+2) σ2 (fun σ'=>K { σ' with nx:=nx+1048576*n }) Kp)) Kp):AW P E (.region id l.toArray false) (Kq P E fs Q) ⟨fr,hp,nx⟩:=by
  intro ρ V Z a w hs hV
  subst hE
  subst hn
  subst hds
  refine wpX_region ?_
  have hlen:p+2≤l.length:=by
    have:=congrArg List.length h2
    simp at this
    omega
  have h:=h (fun σ'=>Kq P E fs Q .norm σ') (fun x σ'=>Q (.pan x) σ') (fun _ h=>h) (fun _ _ h=>h)
  have hsz:l.toArray.size=l.length:=by simp
  have hr:List.range l.toArray.size=List.range' 0 (p - 0)++(p::(p+1)::List.range' (p+2) (l.toArray.size - (p+2))):=by
    rw[List.range_eq_range',hsz,Nat.sub_zero]
    have e1:p::(p+1)::List.range' (p+2) (l.length - (p+2))=List.range' p (l.length - (p+2)+1+1):=by rw[List.range'_succ,List.range'_succ]
    have:=List.range'_append (s:=0) (m:=p) (n:=l.length - (p+2)+1+1) (step:=1)
    simp only[Nat.zero_add,Nat.one_mul] at this
    rw[e1,this]
    congr 1
    omega
  rw[hr]
  have hP:∀ σ:St,σ.nx=nx→Panic' E σ (fun x σ'=>Q (.pan x) σ') (Post E (Kq P E fs Q)):=by
    intro σ1 hnx x v σ' ρ' V' Z' a' w' hK _ hr hS
    exact⟨ρ',V',Z',σ',.pan x,⟨v,rfl,hr⟩,Kq_pan hK,hS,fun hx=>absurd rfl (hx x)⟩
  refine wpOps_pre (E:=E) (bar:=true) (nx:=nx) (K:=fun σ1=>PGo P E o1 o2 p σ1 (fun σ2=>goL P true none (l.map (·.dst)) post (p+2) σ2 (fun σ'=>Kq P E fs Q .norm { σ' with nx:=nx+1048576*l.length }) (fun x σ'=>Q (.pan x) σ')))
    (dstOk_spec hd) (p:=p) (by simp;omega) ?_ hP (pre.zipIdx 0) 0 _ ρ V Z a w ?_ hs rfl (by simpa using hV) (Nat.zero_le _) ?_
  · intro σ' a' w' ρ' V' Z' hK hnx hS hb
    have ho1:l.toArray[p]? =some o1:=by
      have:=congrArg (·[0]?) h2
      simpa using this
    have ho2:l.toArray[p+1]? =some o2:=by
      have:=congrArg (·[1]?) h2
      simpa using this
    refine hK ρ' V' Z' a' w' hS (by rw[hnx];exact hb) l.toArray _ _ ho1 ho2 ?_
    intro σ2 a2 w2 ρ2 V2 Z2 hg hnx2 hS2 hb2
    rw[goL_eq] at hg
    refine wpOps_goR (E:=E) (bar:=true) (nx:=nx) (K:=fun σ'=>Kq P E fs Q .norm { σ' with nx:=nx+1048576*l.length }) (Kp:=fun x σ'=>Q (.pan x) σ') (dstOk_spec hd) ?_ hP (post.zipIdx (p+2)) (p+2) σ2 ρ2 V2 Z2 a2 w2 ?_ hS2 (hnx2.trans hnx) (by rw[hnx] at hb2;exact hb2) (by simp;omega) ?_
    · intro σ' a' w' ρ' V' Z' hK hnx hS hb
      exact⟨ρ',V',Z',_,.norm,trivial,hK,hS.nx _,fun _=>by simpa using hb⟩
    · have hpo:post=l.drop (p+2):=by rw[← List.drop_drop,h2];rfl
      rw[hpo]
      apply List.ext_getElem?
      intro i
      simp[List.getElem?_drop,List.getElem?_zipIdx]
    · simpa using hg
  · rw[← h1,List.drop_zero]
    apply List.ext_getElem?
    intro i
    simp only[List.getElem?_take,List.getElem?_zipIdx]
    by_cases hi:i<p<;>simp[hi]
  · rw[goL_eq] at h
    simpa using h
def frN (d:Nat) (f:Nat→Option AV):Nat→Option AV:=fun t=>if t=d then none else f t
@[go_sem] theorem frN_at (d:Nat) (f:Nat→Option AV) (t:Nat):frN d f t=if t=d then none else f t:=rfl
theorem PGo.mk' {t e ts tx ty1 ty2 : TypeId} {pos1 pos2 : String} {af1 af2 : Array Edge} {d1 d2 x y : Nat} {olo ohi : Option Operand} {j : Nat} {K : St → Prop} {fr : Nat → Option AV} {hp : Nat → Option AObj} {nx : Nat} {l m l' : List AV} {ob : Prop}
    {T Te Ts Tx:TI} {zs:List AV} (X:Nat) (Y:Nat) (lo hi:Option AV) (id sz:Nat) (hT:ti P t=some T) (hTe:ti P e=some Te) (hTs:ti P ts=some Ts) (hTx:ti P tx=some Tx)
    (hd1:d1<E.nt) (hd2:d2<E.nt) (hx:fr x=some (.rw X)) (hX:hp X=some (.row sz l)) (hy:fr y=some (.rw Y)) (hY:hp Y=some (.row sz m))
    (hlo:∀ o,olo=some o→∃ v,lo=some v∧evA ⟨fr,hp,nx⟩ o=some v) (hhi:∀ o,ohi=some o→∃ v,hi=some v∧evA ⟨fr,hp,nx⟩ o=some v)
    (hs:sliceA l lo hi=some (ob,.sl l')) (hob:ob) (hn:Fits (m.length+l'.length) Te.bytes)
    (hK:K ⟨upd (frN d1 fr) d2 (.rw id),updo (updo hp Y none) id (some (.row sz (m++l'))),nx⟩)
    (hk:T.k= .slice e:=by rfl) (hks:Ts.k= .slice e:=by rfl) (hkx:Tx.k= .slice e:=by rfl) (hz:Te.zero=some zs:=by rfl) (hzl:zs.length=Te.size:=by rfl) (hyd:y≠d1:=by decide) (hlo':olo=none→lo=none:=by first|exact fun _=>rfl|exact fun h=>by cases h) (hhi':ohi=none→hi=none:=by first|exact fun _=>rfl|exact fun h=>by cases h) (hid:nx+1048576*(j+1)=id:=by rfl) (hsz:Te.size=sz:=by rfl):
    PGo P E ⟨some d1,.slice t (.tmp x) olo ohi none,ty1,pos1,af1,none⟩ ⟨some d2,.call ⟨.builtin .append,⟨[.tmp y,.tmp d1]⟩,⟨[ts,tx]⟩⟩,ty2,pos2,af2,none⟩ j ⟨fr,hp,nx⟩ K:=by
  subst hid
  subst hsz
  exact PGo.mk hT hk hTe hTs hks hTx hkx hz hzl hd1 hd2 hyd hx hX hy hY hlo hlo' hhi hhi' hs hob hn hK
end Go.Am
