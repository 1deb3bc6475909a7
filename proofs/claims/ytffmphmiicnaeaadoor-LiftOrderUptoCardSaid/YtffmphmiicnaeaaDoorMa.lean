/- A part of the proof: an abstract machine for the walks, and what the walked functions compute. -/
import Derived.WalkKit
import Derived.Lib.ItoaNum
set_option linter.unusedVariables false
set_option linter.unusedSimpArgs false
namespace Go.Am
def tabs:List (Nat×List Value):=[(0,Lib.pow10Tab.map fun z=>Value.int .u64 z)]
def Gl (w:World) (Z:Nat→Nat→Prop):Prop:=∀ p,p∈tabs→(∃ cs ty fz,w.heap[p.1]? =some (.cells cs ty fz)∧cs.toList=p.2)∧∀ o,o≤p.2.length→Z p.1 o
theorem Gl.mono {w w':World} {Z Z':Nat→Nat→Prop} (h:Gl w Z) (hh:∀ b,(∃ o,Z b o)→(∃ c t f,w.heap[b]? =some (.cells c t f))→w'.heap[b]? =w.heap[b]?) (hZ:∀ b o,Z b o→Z' b o):Gl w' Z':=by
 intro p hp
 obtain⟨⟨cs,ty,fz,h1,h2⟩,h3⟩:=h p hp
 exact⟨⟨cs,ty,fz,by rw[hh p.1 ⟨0,h3 0 (Nat.zero_le _)⟩ ⟨_,_,_,h1⟩];exact h1,h2⟩,fun o ho=>hZ _ _ (h3 o ho)⟩
theorem Gl.no {w:World} {Z:Nat→Nat→Prop} (h:tabs=[]):Gl w Z:=by rw[Gl,h];intro p hp;cases hp

structure Ref where
 blk:Nat
 len:Nat:=0
 cap:Nat:=0
 nil:Bool:=false
 off:Nat:=0
def Ref.at (r:Ref) (b:Nat):Prop:=r.nil=false∧r.blk=b
def Ref.slice (r:Ref):Value:=if r.nil then .slice none 0 0 else .slice (some ⟨r.blk,r.off,none⟩) r.len r.cap
inductive AV where
 |bool (b:Bool)
 |int (k:IntKind) (n:Int)
 |str (s:ByteArray)
 |nilp
 |ptr (id off:Nat)
 |eptr (e:AV) (off:Nat)
 |rptr (id sz i off:Nat)
 |nilsl
 |sl (l:List AV)
 |rw(id:Nat)
 |nilmap
 |mp (id:Nat)
 |nilfn
 |fn (f:Fn) (first cap:List AV)
 |nilif
 |iface (t:TypeId) (v:AV)
 |agg (l:List AV)
 |tup (l:List AV)
 deriving Inhabited
abbrev AV.i (n:Int):AV:= .int .i64 n
def AV.cells:AV→List AV
 | .agg l=>l
 |a=>[a]
def AV.one:AV→Bool
 | .agg _| .tup _=>false
 |_=>true
mutual
def AV.clo:AV→Bool
 | .ptr _ _| .rptr _ _ _ _| .rw _| .mp _=>false
 | .fn _ a b=>AV.cloL a&&AV.cloL b
 | .iface _ v=>AV.clo v
 | .agg l=>AV.cloL l
 | .tup l=>AV.cloL l
 |_=>true
def AV.cloL:List AV→Bool
 | []=>true
 |a::l=>AV.clo a&&AV.cloL l
end
mutual
def AV.ren (m:Nat→Nat):AV→AV
 | .ptr id o=> .ptr (m id) o
 | .rptr id sz i o=> .rptr (m id) sz i o
 | .rw id=> .rw (m id)
 | .mp id=> .mp (m id)
 | .fn f a b=> .fn f (AV.renL m a) (AV.renL m b)
 | .iface t v=> .iface t (AV.ren m v)
 | .agg l=> .agg (AV.renL m l)
 | .tup l=> .tup (AV.renL m l)
 | .bool b=> .bool b
 | .int k n=> .int k n
 | .str s=> .str s
 | .nilp=> .nilp
 | .eptr e o=> .eptr e o
 | .nilsl=> .nilsl
 | .sl l=> .sl l
 | .nilmap=> .nilmap
 | .nilfn=> .nilfn
 | .nilif=> .nilif
def AV.renL (m:Nat→Nat):List AV→List AV
 | []=>[]
 |a::l=>AV.ren m a::AV.renL m l
end
mutual
def AV.ids (p:Nat→Prop):AV→Prop
 | .ptr id _| .rptr id _ _ _| .rw id| .mp id=>p id
 | .fn _ a b=>AV.idsL p a∧AV.idsL p b
 | .iface _ v=>AV.ids p v
 | .agg l=>AV.idsL p l
 | .tup l=>AV.idsL p l
 |_=>True
def AV.idsL (p:Nat→Prop):List AV→Prop
 | []=>True
 |a::l=>AV.ids p a∧AV.idsL p l
end
structure Lp where
 l:Nat
 fn:FuncId
 ps:Array Tmp
 assign:Code
 body:Code
 nt:Nat
 ts:List Nat
 st:LoopState
 pend:Option Code
inductive AObj where
 |cells (l:List AV)
 |row (sz:Nat) (l:List AV)
 |map (es:List (AV×AV))
 |lp (q:Lp) (l:List AV)
inductive Rel (ρ:Nat→Ref) (V:Nat→Prop) (Z:Nat→Nat→Prop) (w:World):Value→AV→Prop
  |bool (b:Bool):Rel ρ V Z w (.bool b) (.bool b)
  |int (k:IntKind) (n:Int):Rel ρ V Z w (.int k n) (.int k n)
  |str (s:ByteArray):Rel ρ V Z w (.string s) (.str s)
  |nilp:Rel ρ V Z w (.pointer none) .nilp
  |ptr (id off:Nat):V id→Rel ρ V Z w (.pointer (some ⟨(ρ id).blk,off,none⟩)) (.ptr id off)
  | eptr (b o : Nat) (e : AV) (off : Nat) (cs : Nat → Value) :
      (∀ j,j<e.cells.length→w.cell? ⟨b,o+j,none⟩=some (cs j)∧Z b (o+j)∧(e.cells.getD j default).one=true∧(e.cells.getD j default).clo=true)→
      (∀ j,j<e.cells.length→Rel ρ V Z w (cs j) (e.cells.getD j default))→
      Rel ρ V Z w (.pointer (some ⟨b,o+off,none⟩)) (.eptr e off)
  |rptr (id sz i off:Nat):V id→Rel ρ V Z w (.pointer (some ⟨(ρ id).blk,(ρ id).off+i*sz+off,none⟩)) (.rptr id sz i off)
  |nilsl:Rel ρ V Z w (.slice none 0 0) .nilsl
  |sl0 (a:Option Addr) (cap:Nat):Rel ρ V Z w (.slice a 0 cap) (.sl [])
  | sl (b o cap sz : Nat) (l : List AV) (cs : Nat → Nat → Value) : l.length ≤ cap →
      (∀ i,i<l.length→(l.getD i default).cells.length=sz)→
      (∀ i j,i<l.length→j<sz→w.cell? ⟨b,o+i*sz+j,none⟩=some (cs i j)∧Z b (o+i*sz+j)∧((l.getD i default).cells.getD j default).one=true∧((l.getD i default).cells.getD j default).clo=true)→
      (∀ i j,i<l.length→j<sz→Rel ρ V Z w (cs i j) ((l.getD i default).cells.getD j default))→
      Rel ρ V Z w (.slice (some ⟨b,o,none⟩) l.length cap) (.sl l)
  |rw(id:Nat):V id→Rel ρ V Z w (ρ id).slice (.rw id)
  |nilmap:Rel ρ V Z w (.map none) .nilmap
  |mp (id:Nat):V id→Rel ρ V Z w (.map (some (ρ id).blk)) (.mp id)
  |nilfn:Rel ρ V Z w .nilFunc .nilfn
  | fn (f : Fn) (fs cs : Array Value) (fa ca : List AV) : fs.size = fa.length → cs.size = ca.length →
      (∀ i,i<fa.length→Rel ρ V Z w (fs.getD i undef) (fa.getD i default))→
      (∀ i,i<ca.length→Rel ρ V Z w (cs.getD i undef) (ca.getD i default))→
      Rel ρ V Z w (.func f fs cs) (.fn f fa ca)
  |nilif:Rel ρ V Z w .nilIface .nilif
  |iface (t:TypeId) (v:Value) (a:AV):Rel ρ V Z w v a→Rel ρ V Z w (.iface t v) (.iface t a)
  | agg (cs : Array Value) (l : List AV) : cs.size = l.length → (∀ i, i < l.length → (l.getD i default).one = true) →
      (∀ i,i<l.length→Rel ρ V Z w (cs.getD i undef) (l.getD i default))→Rel ρ V Z w (.agg cs) (.agg l)
  | tup (cs : Array Value) (l : List AV) : cs.size = l.length →
      (∀ i,i<l.length→Rel ρ V Z w (cs.getD i undef) (l.getD i default))→Rel ρ V Z w (.tuple cs) (.tup l)
theorem Rel.mono {ρ ρ' : Nat → Ref} {V V' : Nat → Prop} {Z Z' : Nat → Nat → Prop} {w w' : World} {v : Value} {a : AV}
    (h:Rel ρ V Z w v a) (hρ:∀ id,V id→ρ' id=ρ id) (hV:∀ id,V id→V' id) (hZ:∀ b o,Z b o→Z' b o)
    (hw:∀ b o,Z b o→w'.cell? ⟨b,o,none⟩=w.cell? ⟨b,o,none⟩):Rel ρ' V' Z' w' v a:=by
  induction h with
  |bool b=>exact .bool b
  |int k n=>exact .int k n
  |str s=>exact .str s
  |nilp=>exact .nilp
  |ptr id off hv=>rw[← hρ id hv];exact .ptr id off (hV _ hv)
  |eptr b o e off cs h1 h2 ih=>exact .eptr b o e off cs (fun j hj=>⟨by rw[hw _ _ (h1 j hj).2.1];exact(h1 j hj).1,hZ _ _ (h1 j hj).2.1,(h1 j hj).2.2⟩) ih
  |rptr id sz i off hv=>rw[← hρ id hv];exact .rptr id sz i off (hV _ hv)
  |nilsl=>exact .nilsl
  |sl0 a cap=>exact .sl0 a cap
  |sl b o cap sz l cs h0 h1 h2 h3 ih=>
    exact .sl b o cap sz l cs h0 h1 (fun i j hi hj=>⟨by rw[hw _ _ (h2 i j hi hj).2.1];exact(h2 i j hi hj).1,hZ _ _ (h2 i j hi hj).2.1,(h2 i j hi hj).2.2⟩) ih
  |rw id hv=>rw[← hρ id hv];exact .rw id (hV _ hv)
  |nilmap=>exact .nilmap
  |mp id hv=>rw[← hρ id hv];exact .mp id (hV _ hv)
  |nilfn=>exact .nilfn
  |fn f fs cs fa ca h1 h2 _ _ ih1 ih2=>exact .fn f fs cs fa ca h1 h2 ih1 ih2
  |nilif=>exact .nilif
  |iface t v a _ ih=>exact .iface t v a ih
  |agg cs l h1 h2 _ ih=>exact .agg cs l h1 h2 ih
  |tup cs l h1 _ ih=>exact .tup cs l h1 ih
def Stmp (ents:Array MapEntry) (clock:Nat):Prop:=(ents.toList.map (·.born)).Nodup∧∀ e,e∈ents.toList→e.born<clock
theorem Stmp.nil:Stmp #[] 0:=⟨List.nodup_nil,fun e he=>by cases he⟩
theorem Stmp.push {ents:Array MapEntry} {clock:Nat} (h:Stmp ents clock) (k x:Value):Stmp (ents.push { key:=k,val:=x,born:=clock }) (clock+1):=by
 refine⟨?_,fun e he=>?_⟩
 ·rw[Array.toList_push,List.map_append,List.nodup_append]
  refine⟨h.1,by simp,fun a ha b hb=>?_⟩
  obtain⟨e,he,rfl⟩:=List.mem_map.1 ha
  simp only[List.map_cons,List.map_nil,List.mem_singleton] at hb
  have:=h.2 e he
  omega
 ·rw[Array.toList_push,List.mem_append,List.mem_singleton] at he
  rcases he with he|rfl
  ·have:=h.2 e he;omega
  ·simp only;omega
theorem Stmp.modify {ents:Array MapEntry} {clock:Nat} (h:Stmp ents clock) (j:Nat) (k x:Value):Stmp (ents.modify j fun e=> { e with key:=k,val:=x }) clock:=by
 have e1:(ents.modify j fun e=> { e with key:=k,val:=x }).toList.map (·.born)=ents.toList.map (·.born):=by
  apply List.ext_getElem?
  intro i
  simp only[List.getElem?_map,Array.getElem?_toList,Array.getElem?_modify]
  split
  ·rename_i e;subst e;cases ents[j]? <;>rfl
  ·rfl
 refine⟨by rw[e1];exact h.1,fun e he=>?_⟩
 have:e.born∈ents.toList.map (·.born):=by rw[← e1];exact List.mem_map_of_mem he
 obtain⟨e',he',hb⟩:=List.mem_map.1 this
 rw[← hb]
 exact h.2 e' he'
def ObjRel (ρ:Nat→Ref) (V:Nat→Prop) (Z:Nat→Nat→Prop) (w:World) (id:Nat):AObj→Prop
  | .cells l => (ρ id).nil = false ∧ ∃ cs ty, w.heap[(ρ id).blk]? = some (.cells cs ty (0, 0)) ∧ cs.size = l.length ∧
      ∀ i,i<l.length→(l.getD i default).one=true∧Rel ρ V Z w (cs.getD i undef) (l.getD i default)
  | .row sz l => ((ρ id).nil = true ∧ l = []) ∨ ((ρ id).nil = false ∧ ∃ cs ty, w.heap[(ρ id).blk]? = some (.cells cs ty (0, 0)) ∧ (ρ id).len = l.length ∧ l.length ≤ (ρ id).cap ∧ (ρ id).off + (ρ id).cap * sz ≤ cs.size ∧
      (∀ i,i<l.length→(l.getD i default).cells.length=sz)∧
      ∀ i j,i<l.length→j<sz→((l.getD i default).cells.getD j default).one=true∧Rel ρ V Z w (cs.getD ((ρ id).off+i*sz+j) undef) ((l.getD i default).cells.getD j default))
  | .map es => (ρ id).nil = false ∧ ∃ ents clock, w.heap[(ρ id).blk]? = some (.map ents clock) ∧ (ents.size = es.length ∧ Stmp ents clock) ∧
      ∀ i,i<es.length→Rel ρ V Z w ((ents.map (·.key)).getD i undef) (es.getD i default).1∧Rel ρ V Z w ((ents.map (·.val)).getD i undef) (es.getD i default).2
  | .lp q l => (ρ id).nil = false ∧ (ρ id).blk = q.l ∧ ∃ tmps ds, w.heap[(ρ id).blk]? = some (.loop ⟨q.st, q.pend, q.fn, tmps, q.ps, q.assign, q.body, ds⟩) ∧ tmps.size = q.nt ∧
      ∀ i,i<l.length→Rel ρ V Z w (tmps.getD (q.ts.getD i 0) undef) (l.getD i default)
theorem ObjRel.mono {ρ ρ' : Nat → Ref} {V V' : Nat → Prop} {Z Z' : Nat → Nat → Prop} {w w' : World} {id : Nat} {o : AObj}
    (h:ObjRel ρ V Z w id o) (hid:V id) (hρ:∀ id,V id→ρ' id=ρ id) (hV:∀ id,V id→V' id) (hZ:∀ b o,Z b o→Z' b o)
    (hw:∀ b o,Z b o→w'.cell? ⟨b,o,none⟩=w.cell? ⟨b,o,none⟩) (hb:∀ b,(ρ id).at b→w'.heap[b]? =w.heap[b]?):ObjRel ρ' V' Z' w' id o:=by
  cases o with
  |cells l=>
    obtain⟨h0,cs,ty,h1,h2,h3⟩:=h
    exact⟨by rw[hρ id hid];exact h0,cs,ty,by rw[hρ id hid,hb _ ⟨h0,rfl⟩];exact h1,h2,fun i hi=>⟨(h3 i hi).1,(h3 i hi).2.mono hρ hV hZ hw⟩⟩
  |row sz l=>
    rcases h with ⟨h0,hl⟩|⟨h0,cs,ty,h1,h2,h3,h4,h5,h6⟩
    · exact .inl ⟨by rw[hρ id hid];exact h0,hl⟩
    · exact .inr ⟨by rw[hρ id hid];exact h0,cs,ty,by rw[hρ id hid,hb _ ⟨h0,rfl⟩];exact h1,by rw[hρ id hid];exact h2,by rw[hρ id hid];exact h3,by rw[hρ id hid];exact h4,h5,fun i j hi hj=>⟨(h6 i j hi hj).1,by rw[hρ id hid];exact(h6 i j hi hj).2.mono hρ hV hZ hw⟩⟩
  |map es=>
    obtain⟨h0,ents,clock,h1,h2,h3⟩:=h
    exact⟨by rw[hρ id hid];exact h0,ents,clock,by rw[hρ id hid,hb _ ⟨h0,rfl⟩];exact h1,h2,fun i hi=>⟨(h3 i hi).1.mono hρ hV hZ hw,(h3 i hi).2.mono hρ hV hZ hw⟩⟩
  |lp q l=>
    obtain⟨h0,h1,tmps,ds,h2,h3,h4⟩:=h
    exact⟨by rw[hρ id hid];exact h0,by rw[hρ id hid];exact h1,tmps,ds,by rw[hρ id hid,hb _ ⟨h0,rfl⟩];exact h2,h3,fun i hi=>(h4 i hi).mono hρ hV hZ hw⟩
theorem ObjRel.lt {ρ:Nat→Ref} {V:Nat→Prop} {Z:Nat→Nat→Prop} {w:World} {id:Nat} {o:AObj} (h:ObjRel ρ V Z w id o):∀ b,(ρ id).at b→b<w.heap.size:=by
 intro b hb
 have key:∀ x,w.heap[(ρ id).blk]? =some x→b<w.heap.size:=by
  intro x hx
  rw[hb.2] at hx
  rcases Nat.lt_or_ge b w.heap.size with h|h
  ·exact h
  ·rw[Array.getElem?_eq_none h] at hx;cases hx
 cases o with
 |cells l=>obtain⟨_,cs,ty,h1,_⟩:=h;exact key _ h1
 |row sz l=>
  rcases h with ⟨h0,_⟩|⟨_,cs,ty,h1,_⟩
  ·rw[hb.1] at h0;cases h0
  ·exact key _ h1
 |map es=>obtain⟨_,cs,ty,h1,_⟩:=h;exact key _ h1
 |lp q l=>obtain⟨_,_,tmps,ds,h1,_⟩:=h;exact key _ h1
theorem ObjRel.kind {ρ:Nat→Ref} {V:Nat→Prop} {Z:Nat→Nat→Prop} {w:World} {id:Nat} {o:AObj} (h:ObjRel ρ V Z w id o) {b:Nat} (hb:(ρ id).at b) (ds:Option (List Deferred)):w.heap[b]? ≠some (.deferred ds):=by
 obtain⟨hn,rfl⟩:=hb
 cases o with
 |cells l=>obtain⟨_,cs,ty,h1,_⟩:=h;rw[h1];simp
 |row sz l=>
  rcases h with ⟨h0,_⟩|⟨_,cs,ty,h1,_⟩
  ·rw[hn] at h0;cases h0
  ·rw[h1];simp
 |map es=>obtain⟨_,cs,ty,h1,_⟩:=h;rw[h1];simp
 |lp q l=>obtain⟨_,_,tmps,ds,h1,_⟩:=h;rw[h1];simp
structure St where
 fr:Nat→Option AV
 hp:Nat→Option AObj
 nx:Nat
structure En where
 nt:Nat
 D:List Deferred
 w0:World
 own:Nat→Prop
 Z0:Nat→Nat→Prop
 np:Nat
 r0:Nat→Ref
 rd:Option Nat
 mks:Bool
 ex:Bool
def Marks (w0 w:World) (M:List Deferred):Prop:=M.Nodup∧∀ d,d∈M→∃ b,d=⟨.collected b, #[]⟩∧w.heap[b]? =some (.deferred (some []))∧w0.heap.size≤b
def DfOk (E:En) (w:World) (a:Act):Prop:=∃ M,a.defers=M++E.D∧Marks E.w0 w M∧(E.mks=false→M=[])
structure HSat (ρ:Nat→Ref) (V:Nat→Prop) (Z:Nat→Nat→Prop) (w:World) (hp:Nat→Option AObj):Prop where
 obj:∀ id o,hp id=some o→V id∧ObjRel ρ V Z w id o
 inj:∀ id id' o o' b,hp id=some o→hp id'=some o'→(ρ id).at b→(ρ id').at b→id=id'
 sep:∀ id o b,hp id=some o→(ρ id).at b→∀ off,¬ Z b off
 lt:∀ b off,Z b off→b<w.heap.size
 gl:Gl w Z
def Fresh (w0 w:World) (own:Nat→Prop):Prop:=True
structure Ext (w0 w:World) (own:Nat→Prop):Prop where
 old:∀ b,b<w0.heap.size→¬ own b→w.heap[b]? =w0.heap[b]?
 le:w0.heap.size≤w.heap.size
 os:w.os=w0.os
 out:w.output=w0.output
 fresh:Fresh w0 w own
structure Sat (E:En) (ρ:Nat→Ref) (V:Nat→Prop) (Z:Nat→Nat→Prop) (σ:St) (a:Act) (w:World):Prop where
 nt:a.tmps.size=E.nt
 df:DfOk E w a
 fr:∀ t x,σ.fr t=some x→Rel ρ V Z w (a.tmps.getD t undef) x
 hs:HSat ρ V Z w σ.hp
 ext:Ext E.w0 w E.own
 ownd:∀ id o b,σ.hp id=some o→(ρ id).at b→b<E.w0.heap.size→E.own b
 z0:∀ b o,E.Z0 b o→Z b o
 zn:∀ b o,Z b o→E.Z0 b o∨E.w0.heap.size≤b∨E.own b
 pn:∀ id,id<E.np→V id∧ρ id=E.r0 id
def upd (f:Nat→Option AV) (d:Nat) (x:AV):Nat→Option AV:=fun t=>if t=d then some x else f t
def updo (f:Nat→Option AObj) (d:Nat) (x:Option AObj):Nat→Option AObj:=fun t=>if t=d then x else f t
theorem upd_comm (f:Nat→Option AV) {a b:Nat} (x y:AV) (h:a≠b):upd (upd f a x) b y=upd (upd f b y) a x:=by
 funext t
 by_cases h1:t=a
 ·subst h1;simp[upd,h]
 ·by_cases h2:t=b
  ·subst h2;simp[upd,h1]
  ·simp[upd,h1,h2]
def St.put (σ:St) (d:Option Nat) (x:AV):St:=
 match d with
 |some d=> { σ with fr:=upd σ.fr d x }
 |none=>σ
theorem St.put_hp (σ:St) (d:Option Nat) (x:AV):(σ.put d x).hp=σ.hp:=by cases d<;>rfl
theorem St.put_nx (σ:St) (d:Option Nat) (x:AV):(σ.put d x).nx=σ.nx:=by cases d<;>rfl

theorem cell?_of_heap {w w':World} {b o:Nat} (h:w'.heap[b]? =w.heap[b]?):w'.cell? ⟨b,o,none⟩=w.cell? ⟨b,o,none⟩:=by
 simp only[World.cell?,h]
theorem putD (a:Act) (d:Option Tmp) (v:Value):(a.put d v).defers=a.defers:=by cases d<;>rfl
theorem putS (a:Act) (d:Option Tmp) (v:Value):(a.put d v).tmps.size=a.tmps.size:=by cases d<;>simp[Act.put]
theorem put_fr {σ : St} {a : Act} {R : Value → AV → Prop} (h : ∀ t x, σ.fr t = some x → R (a.tmps.getD t undef) x)
    {d:Option Tmp} {v:Value} {x:AV} (hv:R v x) (hd:∀ n,d=some n→n<a.tmps.size):
    ∀ t y,(σ.put d x).fr t=some y→R ((a.put d v).tmps.getD t undef) y:=by
  intro t y hy
  cases d with
  |none=>exact h t y hy
  |some n=>
    simp only[St.put,upd] at hy
    by_cases e:t=n
    · subst e
      simp at hy
      subst hy
      have:=hd t rfl
      simpa [Act.put,Array.getD,this] using hv
    · simp only[if_neg e] at hy
      have:=h t y hy
      have e2:(a.put (some n) v).tmps.getD t undef=a.tmps.getD t undef:=by
        simp[Act.put,Array.getD_eq_getD_getElem?,Array.getElem?_setIfInBounds_ne (Ne.symm e)]
      rw[e2];exact this
theorem Sat.step0 {E : En} {ρ ρ' : Nat → Ref} {V V' : Nat → Prop} {Z Z' : Nat → Nat → Prop} {σ : St} {a : Act} {w w' : World} {hp' : Nat → Option AObj}
    (h:Sat E ρ V Z σ a w) {d:Option Tmp} {v:Value} {x:AV} (B:Nat→Prop)
    (hd:∀ n,d=some n→n<E.nt)
    (hρ:∀ id,V id→ρ' id=ρ id) (hV:∀ id,V id→V' id) (hZ:∀ b o,Z b o→Z' b o)
    (hB:∀ b,B b→∃ id o,σ.hp id=some o∧(ρ id).at b)
    (hc:∀ b,b<w.heap.size→¬ B b→w'.heap[b]? =w.heap[b]?) (hle:w.heap.size≤w'.heap.size) (hos:w'.os=w.os) (hout:w'.output=w.output)
    (hsub:∀ id o,hp' id=some o→(σ.hp id=some o∧∀ b,(ρ id).at b→¬ B b)∨
      (V' id∧ObjRel ρ' V' Z' w' id o∧(∀ b,(ρ' id).at b→(B b∨w.heap.size≤b)∧∀ off,¬ Z' b off)))
    (hinj:∀ id id' o o' b,hp' id=some o→hp' id'=some o'→(ρ' id).at b→(ρ' id').at b→(B b∨w.heap.size≤b)→id=id')
    (hZn:∀ b o,Z' b o→Z b o∨((B b∨w.heap.size≤b)∧b<w'.heap.size))
    (hval:Rel ρ' V' Z' w' v x):Sat E ρ' V' Z' (({ σ with hp:=hp' } :St).put d x) (a.put d v) w':=by
  have hBsep:∀ b,B b→∀ off,¬ Z b off:=by
    intro b hb off hz
    obtain⟨id,o,h1,h2⟩:=hB b hb
    exact h.hs.sep id o b h1 h2 off hz
  have hcell:∀ b o,Z b o→w'.cell? ⟨b,o,none⟩=w.cell? ⟨b,o,none⟩:=by
    intro b o hz
    exact cell?_of_heap (hc b (h.hs.lt b o hz) (fun hb=>hBsep b hb o hz))
  have hBown:∀ b,B b→b<E.w0.heap.size→E.own b:=by
    intro b hb hlt
    obtain⟨id,o,h1,h2⟩:=hB b hb
    exact h.ownd id o b h1 h2 hlt
  have hkept:∀ id o,σ.hp id=some o→(∀ b,(ρ id).at b→¬ B b)→ObjRel ρ' V' Z' w' id o∧∀ b,(ρ id).at b→b<w.heap.size:=by
    intro id o h1 h2
    have h3:=h.hs.obj id o h1
    have h4:=h3.2.lt
    exact⟨h3.2.mono h3.1 hρ hV hZ hcell (fun b hb=>hc _ (h4 b hb) (h2 b hb)),h4⟩
  refine⟨?_,?_,?_,⟨?_,?_,?_,?_,h.hs.gl.mono (fun b ⟨o,hz⟩ _=>hc b (h.hs.lt b o hz) (fun hb=>hBsep b hb o hz)) hZ⟩,⟨?_,?_,?_,?_,?_⟩,?_,?_,?_,?_⟩
  · rw[putS];exact h.nt
  · obtain⟨M,m1,⟨m2,m3⟩,m4⟩:=h.df
    refine⟨M,by rw[putD];exact m1,⟨m2,fun dd hdd=>?_⟩,m4⟩
    obtain⟨b,rfl,hb,hbw⟩:=m3 dd hdd
    refine⟨b,rfl,?_,hbw⟩
    have hlt:b<w.heap.size:=by
      rcases Nat.lt_or_ge b w.heap.size with h1|h1
      · exact h1
      · rw[Array.getElem?_eq_none h1] at hb;cases hb
    rw[hc b hlt fun hB'=>?_]
    · exact hb
    · obtain⟨id,o,h1,h2⟩:=hB b hB'
      exact(h.hs.obj id o h1).2.kind h2 _ hb
  · exact put_fr (σ:= { σ with hp:=hp' }) (fun t y hy=>(h.fr t y hy).mono hρ hV hZ hcell) hval (fun n hn=>by rw[h.nt];exact hd n hn)
  · intro id o ho
    rw[St.put_hp] at ho
    rcases hsub id o ho with ⟨h1,h2⟩|⟨h1,h2,_⟩
    · exact⟨hV _ (h.hs.obj id o h1).1,(hkept id o h1 h2).1⟩
    · exact⟨h1,h2⟩
  · intro id id' o o' b ho ho' hb hb'
    rw[St.put_hp] at ho ho'
    rcases hsub id o ho with ⟨h1,h2⟩|⟨h1,h2,h3⟩
    · rcases hsub id' o' ho' with ⟨h1',h2'⟩|⟨h1',h2',h3'⟩
      · rw[hρ _ (h.hs.obj id o h1).1] at hb
        rw[hρ _ (h.hs.obj id' o' h1').1] at hb'
        exact h.hs.inj id id' o o' b h1 h1' hb hb'
      · exact hinj id id' o o' b ho ho' hb hb' (h3' b hb').1
    · exact hinj id id' o o' b ho ho' hb hb' (h3 b hb).1
  · intro id o b ho hb off hz
    rw[St.put_hp] at ho
    rcases hsub id o ho with ⟨h1,h2⟩|⟨h1,h2,h3⟩
    · rw[hρ _ (h.hs.obj id o h1).1] at hb
      rcases hZn _ _ hz with h5|⟨h5|h5,_⟩
      · exact h.hs.sep id o b h1 hb off h5
      · exact h2 b hb h5
      · exact absurd ((hkept id o h1 h2).2 b hb) (Nat.not_lt.2 h5)
    · exact(h3 b hb).2 off hz
  · intro b o hz
    rcases hZn b o hz with h5|⟨_,h5⟩
    · exact Nat.lt_of_lt_of_le (h.hs.lt b o h5) hle
    · exact h5
  · intro b hb hno
    have hb':b<w.heap.size:=Nat.lt_of_lt_of_le hb h.ext.le
    rw[hc b hb' (fun hB'=>hno (hBown b hB' hb))]
    exact h.ext.old b hb hno
  · exact Nat.le_trans h.ext.le hle
  · exact hos.trans h.ext.os
  · exact hout.trans h.ext.out
  · trivial
  · intro id o b ho hb hlt
    rw[St.put_hp] at ho
    rcases hsub id o ho with ⟨h1,h2⟩|⟨h1,h2,h3⟩
    · rw[hρ _ (h.hs.obj id o h1).1] at hb
      exact h.ownd id o b h1 hb hlt
    · rcases(h3 b hb).1 with h4|h4
      · exact hBown _ h4 hlt
      · exact absurd hlt (Nat.not_lt.2 (Nat.le_trans h.ext.le h4))
  · intro b o hz;exact hZ _ _ (h.z0 b o hz)
  · intro b o hz
    rcases hZn b o hz with h5|⟨h5|h5,_⟩
    · exact h.zn b o h5
    · rcases Nat.lt_or_ge b E.w0.heap.size with h6|h6
      · exact .inr (.inr (hBown b h5 h6))
      · exact .inr (.inl h6)
    · exact .inr (.inl (Nat.le_trans h.ext.le h5))
  · intro id hid
    exact⟨hV _ (h.pn id hid).1,(hρ _ (h.pn id hid).1).trans (h.pn id hid).2⟩
theorem Sat.step {E : En} {ρ ρ' : Nat → Ref} {V V' : Nat → Prop} {Z Z' : Nat → Nat → Prop} {σ : St} {a : Act} {w w' : World} {hp' : Nat → Option AObj}
    (h:Sat E ρ V Z σ a w) {d:Option Tmp} {v:Value} {x:AV} (B:Nat→Prop)
    (hd:∀ n,d=some n→n<E.nt)
    (hρ:∀ id,V id→ρ' id=ρ id) (hV:∀ id,V id→V' id) (hZ:∀ b o,Z b o→Z' b o)
    (hB:∀ b,B b→∃ id o,σ.hp id=some o∧(ρ id).at b)
    (hc:∀ b,b<w.heap.size→¬ B b→w'.heap[b]? =w.heap[b]?) (hle:w.heap.size≤w'.heap.size) (hos:w'.os=w.os) (hout:w'.output=w.output)
    (hfz:∀ b,w.heap.size≤b∨B b→∀ c t f,w'.heap[b]? =some (.cells c t f)→f=(0,0))
    (hsub:∀ id o,hp' id=some o→(σ.hp id=some o∧∀ b,(ρ id).at b→¬ B b)∨
      (V' id∧ObjRel ρ' V' Z' w' id o∧(∀ b,(ρ' id).at b→(B b∨w.heap.size≤b)∧∀ off,¬ Z' b off)))
    (hinj:∀ id id' o o' b,hp' id=some o→hp' id'=some o'→(ρ' id).at b→(ρ' id').at b→(B b∨w.heap.size≤b)→id=id')
    (hZn:∀ b o,Z' b o→Z b o∨((B b∨w.heap.size≤b)∧b<w'.heap.size))
    (hval:Rel ρ' V' Z' w' v x):Sat E ρ' V' Z' (({ σ with hp:=hp' } :St).put d x) (a.put d v) w':=
  h.step0 B hd hρ hV hZ hB hc hle hos hout hsub hinj hZn hval
theorem Sat.val {E : En} {ρ : Nat → Ref} {V : Nat → Prop} {Z : Nat → Nat → Prop} {σ : St} {a : Act} {w w' : World} (h : Sat E ρ V Z σ a w)
    {d:Option Tmp} {v:Value} {x:AV} (hd:∀ n,d=some n→n<E.nt) (hh:w'.heap=w.heap) (hos:w'.os=w.os) (hout:w'.output=w.output)
    (hval:Rel ρ V Z w v x):Sat E ρ V Z (σ.put d x) (a.put d v) w':=by
  refine h.step (hp':=σ.hp) (fun _=>False) hd (fun _ _=>rfl) (fun _ h=>h) (fun _ _ h=>h) (fun _ h=>h.elim) (fun b _ _=>by rw[hh]) (by rw[hh];exact Nat.le_refl _) hos hout ?_ ?_ ?_ ?_ ?_
  · intro b hb c t f hcf
    rcases hb with hb|hb
    · rw[hh,Array.getElem?_eq_none hb] at hcf;cases hcf
    · exact hb.elim
  · intro id o ho;exact .inl ⟨ho,fun _ _ h=>h⟩
  · intro id id' o o' b ho ho' hb hb' _
    exact h.hs.inj id id' o o' b ho ho' hb hb'
  · intro b o hz;exact .inl hz
  · exact hval.mono (fun _ _=>rfl) (fun _ h=>h) (fun _ _ h=>h) (fun b o _=>cell?_of_heap (by rw[hh]))
theorem Sat.drew {E : En} {ρ : Nat → Ref} {V : Nat → Prop} {Z : Nat → Nat → Prop} {σ : St} {a : Act} {w w' : World} (h : Sat E ρ V Z σ a w)
    (hh:w'.heap=w.heap) (hos:w'.os=w.os) (hout:w'.output=w.output):Sat E ρ V Z σ a w':=by
  have:=h.val (d:=none) (v:= .bool true) (x:= .bool true) (fun _ h=>by cases h) hh hos hout (.bool _)
  exact this
theorem Sat.alloc {E : En} {ρ : Nat → Ref} {V : Nat → Prop} {Z : Nat → Nat → Prop} {σ : St} {a : Act} {w : World} (h : Sat E ρ V Z σ a w)
    {d:Option Tmp} {v:Value} {x:AV} (hd:∀ n,d=some n→n<E.nt) {id:Nat} {ob:Obj} {o:AObj} (r:Ref) (hr:r.blk=w.heap.size) (hid:¬ V id)
    (hob:∀ c t f,ob= .cells c t f→f=(0,0))
    (hobj:ObjRel (fun i=>if i=id then r else ρ i) (fun i=>V i∨i=id) Z { w with heap:=w.heap.push ob } id o)
    (hval:Rel (fun i=>if i=id then r else ρ i) (fun i=>V i∨i=id) Z { w with heap:=w.heap.push ob } v x):
    Sat E (fun i=>if i=id then r else ρ i) (fun i=>V i∨i=id) Z (({ σ with hp:=updo σ.hp id (some o) } :St).put d x) (a.put d v) { w with heap:=w.heap.push ob } :=by
  have hne:∀ i,V i→i≠id:=fun i hi e=>hid (e▸hi)
  refine h.step (fun _=>False) hd (fun i hi=>if_neg (hne i hi)) (fun _ h=> .inl h) (fun _ _ h=>h) (fun _ h=>h.elim) ?_ (by simp) rfl rfl ?_ ?_ ?_ ?_ hval
  · intro b hb _
    show(w.heap.push ob)[b]? =_
    rw[Array.getElem?_push,if_neg (by omega)]
  · intro b hb c t f hcf
    rcases hb with hb|hb
    · change (w.heap.push ob)[b]? =_ at hcf
      rw[Array.getElem?_push] at hcf
      split at hcf
      · exact hob c t f (Option.some.inj hcf)
      · rw[Array.getElem?_eq_none hb] at hcf;cases hcf
    · exact hb.elim
  · intro i o' ho
    by_cases e:i=id
    · subst e
      simp only[updo,if_true] at ho
      cases ho
      refine .inr ⟨.inr rfl,hobj,?_⟩
      intro b hb
      simp only[if_true] at hb
      have hb2:b=w.heap.size:=hb.2.symm.trans hr
      exact⟨.inr (by omega),fun off hz=>absurd (h.hs.lt _ _ hz) (by omega)⟩
    · simp only[updo,if_neg e] at ho
      exact .inl ⟨ho,fun _ _ h=>h⟩
  · have key : ∀ j oj b, updo σ.hp id (some o) j = some oj → (if j = id then r else ρ j).at b → w.heap.size ≤ b → j = id := by
      intro j oj b hj hb hb2
      by_cases e:j=id
      · exact e
      · simp only[updo,if_neg e] at hj
        simp only[if_neg e] at hb
        exact absurd ((h.hs.obj j oj hj).2.lt b hb) (Nat.not_lt.2 hb2)
    intro i i' o1 o2 b ho ho' hb hb' hb2
    rcases hb2 with hb2|hb2
    · exact hb2.elim
    · rw[key i o1 b ho hb hb2,key i' o2 b ho' hb' hb2]
  · intro b o' hz;exact .inl hz
theorem Sat.set {E : En} {ρ : Nat → Ref} {V : Nat → Prop} {Z : Nat → Nat → Prop} {σ : St} {a : Act} {w w' : World} (h : Sat E ρ V Z σ a w)
    {d:Option Tmp} {v:Value} {x:AV} (hd:∀ n,d=some n→n<E.nt) {id:Nat} {o0 o:AObj} (hid:σ.hp id=some o0) (hnil:(ρ id).nil=false)
    (hc:∀ b,b≠(ρ id).blk→w'.heap[b]? =w.heap[b]?) (hsz:w'.heap.size=w.heap.size) (hos:w'.os=w.os) (hout:w'.output=w.output)
    (hfz:∀ c t f,w'.heap[(ρ id).blk]? =some (.cells c t f)→f=(0,0))
    (hobj:ObjRel ρ V Z w' id o) (hval:Rel ρ V Z w' v x):
    Sat E ρ V Z (({ σ with hp:=updo σ.hp id (some o) } :St).put d x) (a.put d v) w':=by
  have hat:(ρ id).at (ρ id).blk:=⟨hnil,rfl⟩
  refine h.step (fun b=>b=(ρ id).blk) hd (fun _ _=>rfl) (fun _ h=>h) (fun _ _ h=>h) (fun b hb=>⟨id,o0,hid,hb▸hat⟩) (fun b _ hb=>hc b hb) (by omega) hos hout ?_ ?_ ?_ (fun b o hz=> .inl hz) hval
  · intro b hb c t f hcf
    rcases hb with hb|hb
    · rw[Array.getElem?_eq_none (by omega)] at hcf;cases hcf
    · exact hfz c t f (hb▸hcf)
  · intro i o' ho
    by_cases e:i=id
    · subst e
      simp only[updo,if_true] at ho
      cases ho
      exact .inr ⟨(h.hs.obj _ _ hid).1,hobj,fun b hb=>⟨.inl hb.2.symm,h.hs.sep _ _ b hid hb⟩⟩
    · simp only[updo,if_neg e] at ho
      exact .inl ⟨ho,fun b hb hb2=>e (h.hs.inj i id o' o0 b ho hid hb (hb2▸hat))⟩
  · have key : ∀ j oj b, (updo σ.hp id (some o)) j = some oj → (ρ j).at b → (b = (ρ id).blk ∨ w.heap.size ≤ b) → j = id := by
      intro j oj b hj hbj hb2
      by_cases e:j=id
      · exact e
      · simp only[updo,if_neg e] at hj
        rcases hb2 with hb2|hb2
        · exact absurd (h.hs.inj j id oj o0 b hj hid hbj (hb2▸hat)) e
        · exact absurd ((h.hs.obj _ _ hj).2.lt b hbj) (Nat.not_lt.2 hb2)
    intro i i' o1 o2 b ho ho' hb hb' hb2
    rw[key i o1 b ho hb hb2,key i' o2 b ho' hb' hb2]
theorem Sat.swap {E : En} {ρ : Nat → Ref} {V : Nat → Prop} {Z : Nat → Nat → Prop} {σ : St} {a : Act} {w w' : World} (h : Sat E ρ V Z σ a w)
    {d:Option Tmp} {v:Value} {x:AV} (hd:∀ n,d=some n→n<E.nt) {old id:Nat} {o0 o:AObj} (hold:σ.hp old=some o0) (r:Ref) (hid:¬ V id)
    (hr:∀ b,r.at b→(ρ old).at b∨w.heap.size≤b)
    (hc:∀ b,b<w.heap.size→¬ (ρ old).at b→w'.heap[b]? =w.heap[b]?) (hsz:w.heap.size≤w'.heap.size) (hos:w'.os=w.os) (hout:w'.output=w.output)
    (hfz:∀ b,w.heap.size≤b∨(ρ old).at b→∀ c t f,w'.heap[b]? =some (.cells c t f)→f=(0,0))
    (hobj:ObjRel (fun i=>if i=id then r else ρ i) (fun i=>V i∨i=id) Z w' id o)
    (hval:Rel (fun i=>if i=id then r else ρ i) (fun i=>V i∨i=id) Z w' v x):
    Sat E (fun i=>if i=id then r else ρ i) (fun i=>V i∨i=id) Z (({ σ with hp:=updo (updo σ.hp old none) id (some o) } :St).put d x) (a.put d v) w':=by
  have hne:∀ i,V i→i≠id:=fun i hi e=>hid (e▸hi)
  refine h.step (fun b=>(ρ old).at b) hd (fun i hi=>if_neg (hne i hi)) (fun _ h=> .inl h) (fun _ _ h=>h) (fun b hb=>⟨old,o0,hold,hb⟩) hc hsz hos hout hfz ?_ ?_ (fun b o hz=> .inl hz) hval
  · intro i o' ho
    by_cases e:i=id
    · subst e
      simp only[updo,if_true] at ho
      cases ho
      refine .inr ⟨.inr rfl,hobj,?_⟩
      intro b hb
      simp only[if_true] at hb
      refine⟨hr b hb,fun off hz=>?_⟩
      rcases hr b hb with h1|h1
      · exact h.hs.sep _ _ b hold h1 off hz
      · exact absurd (h.hs.lt _ _ hz) (Nat.not_lt.2 h1)
    · simp only[updo,if_neg e] at ho
      by_cases e2:i=old
      · simp[e2] at ho
      · simp only[if_neg e2] at ho
        exact .inl ⟨ho,fun b hb hb2=>e2 (h.hs.inj i old o' o0 b ho hold hb hb2)⟩
  · have key : ∀ j oj b, (updo (updo σ.hp old none) id (some o)) j = some oj → (if j = id then r else ρ j).at b → ((ρ old).at b ∨ w.heap.size ≤ b) → j = id := by
      intro j oj b hj hbj hb2
      by_cases e:j=id
      · exact e
      · simp only[updo,if_neg e] at hj
        by_cases e2:j=old
        · simp[e2] at hj
        · simp only[if_neg e2] at hj
          simp only[if_neg e] at hbj
          rcases hb2 with hb2|hb2
          · exact absurd (h.hs.inj j old oj o0 b hj hold hbj hb2) e2
          · exact absurd ((h.hs.obj _ _ hj).2.lt b hbj) (Nat.not_lt.2 hb2)
    intro i i' o1 o2 b ho ho' hb hb' hb2
    rw[key i o1 b ho hb hb2,key i' o2 b ho' hb' hb2]

inductive TK where
 |int (k:IntKind)|bool|str|ptr|slice (e:TypeId)|struct (fs:List (TypeId×Nat))|array (n:Nat) (e:TypeId)|map (k e:TypeId)|iface|func|other
def TK.of:TypeDesc→TK
 | .int k=> .int k
 | .bool=> .bool
 | .string=> .str
 | .pointer _=> .ptr
 | .slice e=> .slice e
 | .struct fs=> .struct (fs.toList.map fun f=>(f.type,f.offset))
 | .array n e=> .array n e
 | .map k e=> .map k e
 | .interface _=> .iface
 | .func _ _ _=> .func
 |_=> .other
def TK.isAgg:TK→Bool
 | .struct _| .array _ _=>true
 |_=>false
structure TI where
 k:TK
 size:Nat
 bytes:Nat
 zero:Option (List AV)
def avOf1:Value→Option AV
 | .bool b=>some (.bool b)
 | .int k n=>some (.int k n)
 | .string s=>some (.str s)
 | .pointer none=>some .nilp
 | .slice none 0 0=>some .nilsl
 | .map none=>some .nilmap
 | .nilFunc=>some .nilfn
 | .nilIface=>some .nilif
 |_=>none
def avOf:Value→Option AV
 | .agg cs=>(cs.toList.mapM avOf1).map .agg
 | .tuple vs=>if vs.size=0 then some (.tup []) else none
 | .func f xs ys=>if xs.size=0∧ys.size=0 then some (.fn f [] []) else none
 |v=>avOf1 v
def ti (P:Program) (t:TypeId):Option TI:=
 match P.info? t,P.underlying t with
 |some i,some u=>some ⟨TK.of u,i.size,i.bytes,i.zero.bind fun z=>z.cells.toList.mapM avOf1⟩
 |_,_=>none
theorem ti_spec {P : Program} {t : TypeId} {T : TI} (h : ti P t = some T) : ∃ i u, P.info? t = some i ∧ P.underlying t = some u ∧ TK.of u = T.k ∧ i.size = T.size ∧ i.bytes = T.bytes ∧
    (i.zero.bind fun z=>z.cells.toList.mapM avOf1)=T.zero:=by
  unfold ti at h
  split at h
  · rename_i i u h1 h2
    cases h
    exact⟨i,u,h1,h2,rfl,rfl,rfl,rfl⟩
  · cases h
theorem tk_slice {u:TypeDesc} {e:TypeId} (h:TK.of u= .slice e):u= .slice e:=by cases u<;>simp_all[TK.of]
theorem tk_int {u:TypeDesc} {k:IntKind} (h:TK.of u= .int k):u= .int k:=by cases u<;>simp_all[TK.of]
theorem tk_struct {u:TypeDesc} {fs:List (TypeId×Nat)} (h:TK.of u= .struct fs):∃ gs,u= .struct gs∧fs=gs.toList.map fun f=>(f.type,f.offset):=by
 cases u<;>simp_all[TK.of]
theorem tk_array {u:TypeDesc} {n:Nat} {e:TypeId} (h:TK.of u= .array n e):u= .array n e:=by cases u<;>simp_all[TK.of]
theorem tk_map {u:TypeDesc} {k e:TypeId} (h:TK.of u= .map k e):u= .map k e:=by cases u<;>simp_all[TK.of]
theorem avOf1_one {v:Value} {x:AV} (h:avOf1 v=some x):x.one=true:=by
 unfold avOf1 at h
 split at h<;>(first|(cases h;rfl)|cases h)
variable {ρ:Nat→Ref} {V:Nat→Prop} {Z:Nat→Nat→Prop} {w:World}
theorem avOf1_rel {v:Value} {x:AV} (h:avOf1 v=some x):Rel ρ V Z w v x:=by
 unfold avOf1 at h
 split at h<;>cases h
 ·exact .bool _
 ·exact .int _ _
 ·exact .str _
 ·exact .nilp
 ·exact .nilsl
 ·exact .nilmap
 ·exact .nilfn
 ·exact .nilif
theorem mapM_avOf1:∀ (l:List Value) (xs:List AV),l.mapM avOf1=some xs→l.length=xs.length∧∀ i,i<xs.length→avOf1 (l.getD i undef)=some (xs.getD i default)
 | [],xs,h=>by cases h;exact⟨rfl,fun i hi=>absurd hi (Nat.not_lt_zero _)⟩
 |v::l,xs,h=>by
  simp only[List.mapM_cons] at h
  cases hv:avOf1 v with
  |none=>simp[hv] at h
  |some x=>
   cases hl:l.mapM avOf1 with
   |none=>simp[hv,hl] at h
   |some ys=>
    simp[hv,hl] at h
    subst h
    obtain⟨h1,h2⟩:=mapM_avOf1 l ys hl
    refine⟨by simp[h1],fun i hi=>?_⟩
    cases i with
    |zero=>simpa using hv
    |succ i=>simpa using h2 i (by simpa using hi)
theorem cells_avOf1 {cs : Array Value} {xs : List AV} (h : cs.toList.mapM avOf1 = some xs) :
    cs.size=xs.length∧∀ i,i<xs.length→(xs.getD i default).one=true∧Rel ρ V Z w (cs.getD i undef) (xs.getD i default):=by
  obtain⟨h1,h2⟩:=mapM_avOf1 _ _ h
  refine⟨by simpa using h1,fun i hi=>?_⟩
  have h3:=h2 i hi
  have h4:cs.toList.getD i undef=cs.getD i undef:=by simp[List.getD_eq_getElem?_getD,Array.getD_eq_getD_getElem?]
  rw[h4] at h3
  exact⟨avOf1_one h3,avOf1_rel h3⟩
theorem avOf_rel {v:Value} {x:AV} (h:avOf v=some x):Rel ρ V Z w v x:=by
 unfold avOf at h
 split at h
 ·rename_i cs
  simp only[Option.map_eq_some_iff] at h
  obtain⟨xs,h1,rfl⟩:=h
  obtain⟨h2,h3⟩:=cells_avOf1 (ρ:=ρ) (V:=V) (Z:=Z) (w:=w) h1
  exact .agg cs xs h2 (fun i hi=>(h3 i hi).1) (fun i hi=>(h3 i hi).2)
 ·split at h
  ·rename_i h0
   cases h;exact .tup _ _ h0 (fun i hi=>absurd hi (Nat.not_lt_zero _))
  ·cases h
 ·split at h
  ·rename_i h0
   cases h;exact .fn _ _ _ _ _ h0.1 h0.2 (fun i hi=>absurd hi (Nat.not_lt_zero _)) (fun i hi=>absurd hi (Nat.not_lt_zero _))
  ·cases h
 ·exact avOf1_rel h
theorem Value.cells_one {v:Value} (h:∀ cs,v≠ .agg cs):v.cells= #[v]:=by cases v<;>first|rfl|exact absurd rfl (h _)
theorem AV.cells_one {x:AV} (h:∀ l,x≠ .agg l):x.cells=[x]:=by cases x<;>first|rfl|exact absurd rfl (h _)
theorem Rel.agg_inv {v:Value} {l:List AV} (h:Rel ρ V Z w v (.agg l)):∃ cs,v= .agg cs∧cs.size=l.length∧(∀ i,i<l.length→(l.getD i default).one=true)∧(∀ i,i<l.length→Rel ρ V Z w (cs.getD i undef) (l.getD i default)):=by
 generalize hx:AV.agg l=x at h
 cases h<;>cases hx
 exact⟨_,rfl, ‹_›, ‹_›, ‹_›⟩
theorem Rel.not_agg {v:Value} {x:AV} (h:Rel ρ V Z w v x) (hx:∀ l,x≠ .agg l):∀ cs,v≠ .agg cs:=by
 intro cs hc
 cases h<;>first|(exact absurd rfl (hx _))|(cases hc;done)|(unfold Ref.slice at hc;split at hc<;>cases hc)
theorem Rel.cells {v:Value} {x:AV} (h:Rel ρ V Z w v x):v.cells.size=x.cells.length∧(∀ i,i<x.cells.length→Rel ρ V Z w (v.cells.getD i undef) (x.cells.getD i default)):=by
 by_cases hx:∃ l,x= .agg l
 ·obtain⟨l,rfl⟩:=hx
  obtain⟨cs,rfl,h1,h2,h3⟩:=h.agg_inv
  exact⟨h1,h3⟩
 ·have hx':∀ l,x≠ .agg l:=fun l hl=>hx ⟨l,hl⟩
  rw[Value.cells_one (h.not_agg hx'),AV.cells_one hx']
  refine⟨rfl,fun i hi=>?_⟩
  obtain rfl:i=0:=by simp only[List.length_cons,List.length_nil] at hi;omega
  exact h
theorem Rel.oneCell {v:Value} {x:AV} (h:Rel ρ V Z w v x) (hx:x.one=true):v.oneCell'=true:=by
 cases h<;>(first|rfl|(unfold Ref.slice;split<;>rfl)|(simp[AV.one] at hx))
theorem addr_add (b o n:Nat):(⟨b,o,none⟩:Addr).add n=⟨b,o+n,none⟩:=by
 unfold Addr.add;split
 ·rename_i h;subst h;rfl
 ·rfl
theorem run_isAgg {P:Program} {t:TypeId} {T:TI} (h:ti P t=some T):(isAgg t).run P w= .ok T.k.isAgg w:=by
 obtain⟨i,u,h1,h2,h3,_⟩:=ti_spec h
 unfold isAgg underlying
 simp only[Sem.run_bind,run_program,Result.andThen_ok,h2,Sem.run_pure]
 rw[← h3]
 cases u<;>simp[TK.of,TK.isAgg]
theorem run_sizeOf {P:Program} {t:TypeId} {T:TI} (h:ti P t=some T):(sizeOf t).run P w= .ok T.size w:=by
 obtain⟨i,u,h1,h2,h3,h4,_⟩:=ti_spec h
 unfold sizeOf typeInfo
 simp[h1,h4]
theorem run_typeInfo {P:Program} {t:TypeId} {T:TI} (h:ti P t=some T):∃ i,(typeInfo t).run P w= .ok i w∧i.size=T.size∧i.bytes=T.bytes∧(i.zero.bind fun z=>z.cells.toList.mapM avOf1)=T.zero:=by
 obtain⟨i,u,h1,h2,h3,h4,h5,h6⟩:=ti_spec h
 exact⟨i,by unfold typeInfo;simp[h1],h4,h5,h6⟩
theorem run_underlying {P:Program} {t:TypeId} {T:TI} (h:ti P t=some T):∃ u,(underlying t).run P w= .ok u w∧TK.of u=T.k:=by
 obtain⟨i,u,h1,h2,h3,h4,h5,h6⟩:=ti_spec h
 exact⟨u,by unfold underlying;simp[h2],h3⟩
theorem run_underlying_slice {P:Program} {t e:TypeId} {T:TI} (h:ti P t=some T) (hk:T.k= .slice e):(underlying t).run P w= .ok (.slice e) w:=by
 obtain⟨u,h1,h2⟩:=run_underlying (w:=w) h
 rw[hk] at h2
 rw[h1,tk_slice h2]
theorem run_zero {P:Program} {t:TypeId} {T:TI} {zs:List AV} (h:ti P t=some T) (hz:T.zero=some zs):∃ z,(zeroValue t).run P w= .ok z w∧z.cells.toList.mapM avOf1=some zs:=by
 obtain⟨i,h1,h2,h3,h4⟩:=run_typeInfo (w:=w) h
 rw[hz] at h4
 cases hz':i.zero with
 |none=>rw[hz'] at h4;cases h4
 |some z=>rw[hz'] at h4;exact⟨z,by unfold zeroValue;simp[h1,hz'],h4⟩
theorem loadCellsFrom_run {P : Program} {b o : Nat} : ∀ (n i : Nat) (acc : Array Value) (f : Nat → Value), (∀ j, j < n → w.cell? ⟨b, o + (i + j), none⟩ = some (f (i + j))) →
    (loadCellsFrom ⟨b,o,none⟩ i n acc).run P w= .ok (acc++((List.range n).map fun j=>f (i+j)).toArray) w
  |0,i,acc,f,h=>by simp[loadCellsFrom]
  |n+1,i,acc,f,h=>by
    have h0:=h 0 (by omega)
    simp only[loadCellsFrom,Sem.run_bind,addr_add]
    have hl:(load ⟨b,o+i,none⟩).run P w= .ok (f i) w:=by simp[load,Sem.run,show w.cell? ⟨b,o+i,none⟩=some (f i) from h0]
    rw[hl]
    simp only[Result.andThen_ok]
    rw[loadCellsFrom_run n (i+1) _ f (fun j hj=>by have:=h (j+1) (by omega);rw[show i+1+j=i+(j+1) by omega];exact this)]
    congr 1
    simp only[List.range_succ_eq_map,List.map_cons,List.map_map]
    rw[← Array.toList_inj]
    simp[Nat.add_assoc,Nat.add_comm 1,Function.comp_def]
theorem loadCells_run {P : Program} {b o n : Nat} (f : Nat → Value) (h : ∀ j, j < n → w.cell? ⟨b, o + j, none⟩ = some (f j)) :
    (loadCells ⟨b,o,none⟩ n).run P w= .ok ((List.range n).map f).toArray w:=by
  unfold loadCells
  rw[loadCellsFrom_run n 0 #[] f (fun j hj=>by simpa using h j hj)]
  simp
theorem getD_range_map {n:Nat} (f:Nat→Value) {i:Nat} (hi:i<n):((List.range n).map f).toArray.getD i undef=f i:=by
 simp[Array.getD,hi]
theorem storeCells_run {P : Program} {b : Nat} : ∀ (vs : List Value) (i o : Nat) (w : World) (cs : Array Value) (ty : TypeId), w.heap[b]? = some (.cells cs ty (0, 0)) → o + i + vs.length ≤ cs.size →
    (∀ v∈vs,v.oneCell'=true)→
    ∃ w' cs',(storeCells ⟨b,o,none⟩ vs i).run P w= .ok () w'∧w'.heap[b]? =some (.cells cs' ty (0,0))∧cs'.size=cs.size∧
      (∀ k,cs'.getD k undef=if o+i≤k∧k<o+i+vs.length then vs.getD (k - (o+i)) undef else cs.getD k undef)∧
      (∀ b',b'≠b→w'.heap[b']? =w.heap[b']?)∧w'.heap.size=w.heap.size∧w'.os=w.os∧w'.output=w.output
  | [],i,o,w,cs,ty,h,hs,hv=>⟨w,cs,rfl,h,rfl,fun k=>by rw[if_neg (by simp)],fun _ _=>rfl,rfl,rfl,rfl⟩
  |v::vs,i,o,w,cs,ty,h,hs,hv=>by
    simp only[List.length_cons] at hs
    have hb:b<w.heap.size:=by
      rcases Nat.lt_or_ge b w.heap.size with h'|h'
      · exact h'
      · rw[Array.getElem?_eq_none h'] at h;cases h
    have hcell:w.cell? ⟨b,o+i,none⟩=some cs[o+i]:=by
      simp only[World.cell?,h,Option.isSome_none,Bool.false_eq_true,if_false]
      exact Array.getElem?_eq_getElem (by omega)
    have hfz:w.frozen? ⟨b,o+i,none⟩=false:=by simp[World.frozen?,h]
    have hw1:(w.setCell ⟨b,o+i,none⟩ v).heap[b]? =some (.cells (cs.setIfInBounds (o+i) v) ty (0,0)):=by
      simp only[World.setCell,Array.getElem?_modify,h]
      simp
    obtain⟨w',cs',h1,h2,h3,h4,h5,h6,h7,h8⟩:=storeCells_run (P:=P) vs (i+1) o (w.setCell ⟨b,o+i,none⟩ v) (cs.setIfInBounds (o+i) v) ty hw1 (by simp;omega) (fun x hx=>hv x (List.mem_cons_of_mem _ hx))
    refine⟨w',cs',?_,h2,by simpa using h3,?_,?_,by simpa [World.setCell] using h6,by simpa [World.setCell] using h7,by simpa [World.setCell] using h8⟩
    · simp only[storeCells,Sem.run_bind,addr_add]
      have hst:(store ⟨b,o+i,none⟩ v).run P w= .ok () (w.setCell ⟨b,o+i,none⟩ v):=by
        have:=run_store P w ⟨b,o+i,none⟩ v .plain (hv v (by simp))
        rw[this,hcell]
        simp[hfz]
      rw[hst]
      simpa using h1
    · intro k
      rw[h4 k]
      by_cases hk:k=o+i
      · subst hk
        rw[if_neg (by omega),if_pos (by simp)]
        have:o+i<cs.size:=by omega
        simp[Array.getD,this]
      · have e1 : (cs.setIfInBounds (o + i) v).getD k undef = cs.getD k undef := by
          simp[Array.getD_eq_getD_getElem?,Array.getElem?_setIfInBounds_ne (Ne.symm hk)]
        rw[e1]
        by_cases hk2:o+i+1≤k∧k<o+i+1+vs.length
        · rw[if_pos (by omega),if_pos (by simp;omega)]
          rw[show k - (o+i)=(k - (o+(i+1)))+1 by omega]
          simp
        · rw[if_neg (by omega),if_neg (by simp;omega)]
    · intro b' hb'
      rw[h5 b' hb']
      simp[World.setCell,Array.getElem?_modify,Ne.symm hb']
end Go.Am

namespace Go.Am
inductive Ef where
 |val (x:AV)
 |new (o:AObj) (x:Nat→AV)
 |set (id:Nat) (o:AObj) (x:AV)
 |swap (old:Nat) (o:AObj) (x:Nat→AV)
def Ef.app (e:Ef) (σ:St) (d:Option Nat) (id:Nat):St:=
 match e with
 | .val x=>σ.put d x
 | .new o x=>({ σ with hp:=updo σ.hp id (some o) } :St).put d (x id)
 | .set i o x=>({ σ with hp:=updo σ.hp i (some o) } :St).put d x
 | .swap old o x=>({ σ with hp:=updo (updo σ.hp old none) id (some o) } :St).put d (x id)
def AV.id? :AV→Option Nat
 | .ptr id _| .rptr id _ _ _| .rw id| .mp id=>some id
 |_=>none
def AV.isTup:AV→Bool
 | .tup _=>true
 |_=>false
def evA (σ:St):Operand→Option AV
 | .tmp t=>σ.fr t
 | .const v=>avOf v
 | .func f=>some (.fn (.func f) [] [])
 | .global _=>none
def opnds:Op→List Operand
 | .move x| .assign x| .box _ x| .load _ x| .nilCheck x| .unOp _ _ x| .convert _ _ x| .makeInterface _ x| .fieldAddr _ x _| .field _ x _| .typeAssert x _ _ _| .extract x _=>[x]
 | .pick c a b=>[c,a,b]
 | .build _ ps| .buildSlice _ _ ps=>ps.toList.map (·.2)
 | .store _ a v| .binOp _ _ a v _| .makeSlice _ a v| .indexAddr _ a v| .index _ a v| .lookup _ a v _=>[a,v]
 | .makeFunc _ f c=>f.toList++c.toList
 | .slice _ x l h none=>x::(l.toList++h.toList)
 | .mapUpdate _ m k v| .insert _ m k v=>[m,k,v]
 | .call ⟨.builtin _,args,_⟩=>args.toList
 |_=>[]
def spl (l:List AV) (off:Nat) (xs:List AV):List AV:=l.take off++xs++l.drop (off+xs.length)
def ldA (T:TI) (l:List AV) (off:Nat):Option AV:=
 if T.k.isAgg then(if off+T.size≤l.length then some (.agg ((l.drop off).take T.size)) else none) else l[off]?
def stA (T:TI) (l:List AV) (off:Nat) (x:AV):Option (List AV):=
 if x.cells.length=T.size∧off+T.size≤l.length∧x.isTup=false then some (spl l off x.cells) else none
def reElem (e:AV) (c:List AV):AV:=
 match e with
 | .agg _=> .agg c
 |_=>c.getD 0 default
def fillA (P:Program) (fs:List (TypeId×Nat)) (cells:List AV):List (Nat×AV)→Option (List AV)
 | []=>some cells
 |(i,x)::r=>
  match fs[i]? with
  |some (t,off)=>
   match ti P t with
   |some T=>if x.cells.length=T.size∧off+T.size≤cells.length∧x.isTup=false then fillA P fs (spl cells off x.cells) r else none
   |none=>none
  |none=>none
def arL (e:TypeId) (s:Nat):Nat→Nat→List (TypeId×Nat)
 |0,_=>[]
 |n+1,off=>(e,off)::arL e s n (off+s)
theorem arL_get {e:TypeId} {s:Nat} :∀ {n off i:Nat} {t:TypeId} {o:Nat},(arL e s n off)[i]? =some (t,o)→t=e∧o=off+i*s
 |0,off,i,t,o,h=>by simp[arL] at h
 |n+1,off,0,t,o,h=>by simp[arL] at h;exact⟨h.1.symm,by simp[h.2]⟩
 |n+1,off,i+1,t,o,h=>by
  rw[arL,List.getElem?_cons_succ] at h
  have:=arL_get h
  exact⟨this.1,by rw[this.2,Nat.add_mul];omega⟩
def mkElem (T:TI) (zs:List AV):AV:=if T.k.isAgg then .agg zs else zs.getD 0 default
def SzOk (l:List AV) (n:Nat):Prop:=∀ x,x∈l→x.cells.length=n
def binInt (op:BinOp) (k:IntKind) (a b:Int):Option AV:=
 match op with
 | .add=>some (.int k (k.wrap (a+b)))
 | .sub=>some (.int k (k.wrap (a - b)))
 | .mul=>some (.int k (k.wrap (a*b)))
 | .eql=>some (.bool (a==b))
 | .neq=>some (.bool (a !=b))
 | .lss=>some (.bool (decide (a<b)))
 | .leq=>some (.bool (decide (a≤b)))
 | .gtr=>some (.bool (decide (a>b)))
 | .geq=>some (.bool (decide (a≥b)))
 | .and=>some (.int k (k.wrap (BitVec.ofInt k.bits a &&& BitVec.ofInt k.bits b).toNat))
 | .or=>some (.int k (k.wrap (BitVec.ofInt k.bits a ||| BitVec.ofInt k.bits b).toNat))
 | .xor=>some (.int k (k.wrap (BitVec.ofInt k.bits a ^^^ BitVec.ofInt k.bits b).toNat))
 | .andNot=>some (.int k (k.wrap (BitVec.ofInt k.bits a &&& ~~~BitVec.ofInt k.bits b).toNat))
 |_=>none
def binDiv (op:BinOp) (k:IntKind) (a b:Int):Option AV:=
 match op with
 | .quo=>some (.int k (k.wrap (a.tdiv b)))
 | .rem=>some (.int k (a.tmod b))
 |_=>none
def nilEq:AV→AV→Option Bool
 | .nilp,.nilp| .nilmap,.nilmap| .nilfn,.nilfn| .nilsl,.nilsl=>some true
 | .nilp,.ptr _ _| .nilp,.eptr _ _| .nilp,.rptr _ _ _ _| .ptr _ _,.nilp| .eptr _ _,.nilp| .rptr _ _ _ _,.nilp=>some false
 | .nilmap,.mp _| .mp _,.nilmap=>some false
 | .nilfn,.fn _ _ _| .fn _ _ _,.nilfn=>some false
 | .nilsl,.sl (_::_)| .sl (_::_),.nilsl=>some false
 | .nilif,.iface _ _| .iface _ _,.nilif=>some false
 |_,_=>none
def nilTK:TK→AV→Bool
 | .ptr,.nilp| .ptr,.ptr _ _| .ptr,.eptr _ _| .ptr,.rptr _ _ _ _=>true
 | .map _ _,.nilmap| .map _ _,.mp _=>true
 | .func,.nilfn| .func,.fn _ _ _=>true
 | .slice _,.nilsl| .slice _,.sl _=>true
 | .iface,.nilif| .iface,.iface _ _=>true
 |_,_=>false
def shA (op:BinOp) (k:IntKind) (a b:Int):Option (Prop×AV):=
 match op with
 | .shl=>some (0≤b,.int k (k.wrap (a*2 ^ min b.toNat k.bits)))
 | .shr=>some (0≤b,.int k (a.fdiv (2 ^ min b.toNat k.bits)))
 |_=>none
def binA (P:Program) (op:BinOp) (t:TypeId) (x y:AV):Option (Prop×AV):=
  match x,y with
  | .int k a,.int k' b=>
    match shA op k a b with
    |some r=>some r
    |none=>
    if k=k' then
      (match binInt op k a b with
       |some v=>some (True,v)
       |none=>(binDiv op k a b).map fun v=>(b≠0,v))
    else none
  | .bool a,.bool b=>
    match ti P t,op with
    |some ⟨.bool,_,_,_⟩,.eql=>some (True,.bool (a==b))
    |some ⟨.bool,_,_,_⟩,.neq=>some (True,.bool (!(a==b)))
    |_,_=>none
  | .str a,.str b=>
    match op with
    | .add=>some ((a.size+b.size:Nat)≤2 ^ 62,.str (a++b))
    | .eql=>some (True,.bool (a.toList==b.toList))
    | .neq=>some (True,.bool (!(a.toList==b.toList)))
    | .lss=>some (True,.bool (Op.bytesLess a.toList b.toList))
    |_=>none
  |x,y=>
    match ti P t with
    |some T=>
      if nilTK T.k x&&nilTK T.k y then
        (match nilEq x y,op with
         |some r,.eql=>some (True,.bool r)
         |some r,.neq=>some (True,.bool (!r))
         |_,_=>none)
      else none
    |none=>none
def isC:Operand→Bool
 | .const _=>true
 |_=>false
def nilifA (P:Program) (op:BinOp) (t:TypeId) (c:Bool):AV→AV→Option (Prop×AV)
  | .nilif,.nilif=>
    if c then
      (match ti P t,op with
       |some ⟨.iface,_,_,_⟩,.eql=>some (True,.bool true)
       |some ⟨.iface,_,_,_⟩,.neq=>some (True,.bool false)
       |_,_=>none)
    else none
  |_,_=>none
def eqF (P:Program):List Field→Nat→List AV→List AV→Option Bool
 | [],_,[],[]=>some true
 |f::fs,i,.int k a::l,.int k' b::m=>if f.name≠ "_" ∧f.offset=i∧k=k' then(match P.underlying f.type with|some (.int _)=>(eqF P fs (i+1) l m).map fun r=>(a==b)&&r|_=>none) else none
 |f::fs,i,.str a::l,.str b::m=>if f.name≠ "_" ∧f.offset=i then(match P.underlying f.type with|some .string=>(eqF P fs (i+1) l m).map fun r=>(a.toList==b.toList)&&r|_=>none) else none
 |f::fs,i,.bool a::l,.bool b::m=>if f.name≠ "_" ∧f.offset=i then(match P.underlying f.type with|some .bool=>(eqF P fs (i+1) l m).map fun r=>(a==b)&&r|_=>none) else none
 |_,_,_,_=>none
def eqTy (P:Program) (t:TypeId):Option (List Field):=
 match P.underlying t with
 |some (.struct fs)=>if P.stoodInHeld t=false∧P.eqGuardType P.depth t=false then some fs.toList else none
 |_=>none
def aggE (P:Program) (op:BinOp) (t:TypeId) (l m:List AV):Option (Prop×AV):=
 match (eqTy P t).bind fun fs=>eqF P fs 0 l m with
 |some r=>(match op with| .eql=>some (True,.bool r)| .neq=>some (True,.bool (!r))|_=>none)
 |none=>none
def unA (op:UnOp):AV→Option AV
 | .bool b=>match op with| .not=>some (.bool !b)|_=>none
 | .int k n=>match op with| .neg=>some (.int k (k.wrap (0 - n)))|_=>none
 |_=>none
def AV.byte:AV→UInt8
 | .int _ n=>UInt8.ofNat n.toNat
 |_=>0
def strOf (l:List AV):ByteArray:=⟨(l.map AV.byte).toArray⟩
def U8s (l:List AV):Prop:=∀ x,x∈l→∃ n,x= .int .u8 n
def bytesA (x:AV) (o:Option AObj):Option (List AV):=
 match x,o with
 | .nilsl,_=>some []
 | .sl l,_=>some l
 | .rw _,some (.row 1 l)=>some l
 |_,_=>none
def convA (P:Program) (src dst:TypeId) (x:AV) (o:Option AObj):Option (Prop×AV):=
 match ti P src,ti P dst,x with
 |some _,some ⟨.int k,_,_,_⟩,.int _ n=>some (True,.int k (k.wrap n))
 |some _,some ⟨.str,_,_,_⟩,.str s=>some (True,.str s)
 |some ⟨.slice e,_,_,_⟩,some ⟨.str,_,_,_⟩,x=>
  match ti P e,bytesA x o with
  |some ⟨.int .u8,_,_,_⟩,some l=>some (U8s l,.str (strOf l))
  |_,_=>none
 |_,_,_=>none
def srcB (Te:TI) (k:TK) (x:AV) (o:Option AObj):Option (Prop×List AV):=
 match k,x,o with
 | .int _,.int _ n,_=>
  match Te.zero with
  |some zs=>if zs.length=Te.size∧(Te.k.isAgg=true∨Te.size=1) then some (0≤n∧n≤2 ^ 46,List.replicate n.toNat (mkElem Te zs)) else none
  |none=>none
 | .slice _,.nilsl,_=>some (True,[])
 | .slice _,.sl xs,_=>some (SzOk xs Te.size,xs)
 | .slice _,.rw _,some (.row sz xs)=>if sz=Te.size then some (True,xs) else none
 |_,_,_=>none
def srcA (P:Program) (Te:TI) (tx:TypeId) (x:AV) (o:Option AObj):Option (Prop×List AV):=
 match ti P tx with
 |some Tx=>srcB Te Tx.k x o
 |none=>none
def Fits (n bytes:Nat):Prop:=n≤2 ^ 46∧(2*n+1024)*bytes≤2 ^ 48
def appA (P:Program) (ts tx:TypeId) (s x:AV) (os ox:Option AObj):Option (Prop×Ef):=
  match ti P ts with
  |some ⟨.slice e,_,_,_⟩=>
    match ti P e with
    |some Te=>
      match srcA P Te tx x ox,Te.zero with
      |some (ob,xs),some zs=>
        if zs.length=Te.size then
          (match s,os with
           | .nilsl,_=>some (ob∧Fits xs.length Te.bytes,.new (.row Te.size xs) .rw)
           | .rw id,some (.row sz l)=>
             if sz=Te.size then some (ob∧Fits (l.length+xs.length) Te.bytes,.swap id (.row Te.size (l++xs)) .rw) else none
           |_,_=>none)
        else none
      |_,_=>none
    |none=>none
  |_=>none
def lenA:AV→Option AObj→Option AV
 | .nilsl,_=>some (.i 0)
 | .sl l,_=>some (.i l.length)
 | .rw _,some (.row _ l)=>some (.i l.length)
 |_,_=>none
def lenE (P:Program) (t:TypeId) (x:AV) (o:Option AObj):Option AV:=
 match ti P t with
 |none=>none
 |some T=>
  match T.k with
  | .str=>(match x with| .str s=>some (.i s.size)|_=>none)
  | .slice _=>lenA x o
  | .map _ _=>(match x,o with| .mp _,some (.map es)=>some (.i es.length)|_,_=>none)
  |_=>none
def idxA (P:Program) (t:TypeId) (x i:AV) (o:Option AObj):Option (Prop×AV):=
 match ti P t with
 |some ⟨.slice e,_,_,_⟩=>
  match ti P e with
  |some Te=>
   match x,i,o with
   | .sl l,.int _ n,_=>
    match l[n.toNat]? with
    |some y=>if y.cells.length=Te.size then some (0≤n,.eptr y 0) else none
    |none=>none
   | .rw id,.int _ n,some (.row sz l)=>if sz=Te.size then some (0≤n∧n.toNat<l.length,.rptr id sz n.toNat 0) else none
   |_,_,_=>none
  |none=>none
 |some ⟨.array len e,_,_,_⟩=>
  match ti P e with
  |some Te=>
   match x,i with
   | .ptr id off,.int _ n=>some (0≤n∧n<(len:Int),.ptr id (off+n.toNat*Te.size))
   |_,_=>none
  |none=>none
 |_=>none
def cutA (l:List AV) (lo hi:Nat):List AV:=(l.take hi).drop lo
def sliceA (l:List AV):Option AV→Option AV→Option (Prop×AV)
 |none,none=>some (True,.sl l)
 |some (.int _ a),none=>some (0≤a∧a.toNat≤l.length,.sl (l.drop a.toNat))
 |none,some (.int _ b)=>some (0≤b∧b.toNat≤l.length,.sl (l.take b.toNat))
 |some (.int _ a),some (.int _ b)=>some (0≤a∧a≤b∧b.toNat≤l.length,.sl (cutA l a.toNat b.toNat))
 |_,_=>none
def sliceS (s:ByteArray):Option AV→Option AV→Option (Prop×AV)
 |none,none=>some (True,.str (s.extract 0 s.size))
 |some (.int _ a),none=>some (0≤a∧a.toNat≤s.size,.str (s.extract a.toNat s.size))
 |none,some (.int _ b)=>some (0≤b∧b.toNat≤s.size,.str (s.extract 0 b.toNat))
 |some (.int _ a),some (.int _ b)=>some (0≤a∧a≤b∧b.toNat≤s.size,.str (s.extract a.toNat b.toNat))
 |_,_=>none
def sliceArgs:Option Operand→Option Operand→List AV→Option (AV×Option AV×Option AV)
 |none,none,[x]=>some (x,none,none)
 |some _,none,[x,a]=>some (x,some a,none)
 |none,some _,[x,b]=>some (x,none,some b)
 |some _,some _,[x,a,b]=>some (x,some a,some b)
 |_,_,_=>none
def findE (k:IntKind) (n:Int):List (AV×AV)→Option (Option AV)
 | []=>some none
 |(.int k' n',x)::es=>if k=k' then(if n=n' then some (some x) else findE k n es) else none
 |_=>none
def updE (k:IntKind) (n:Int) (x:AV):List (AV×AV)→List (AV×AV)
 | []=>[]
 |(.int k' n',y)::es=>if n=n' then(.int k n,x)::es else(.int k' n',y)::updE k n x es
 |p::es=>p::updE k n x es
def putE (k:IntKind) (n:Int) (x:AV) (es:List (AV×AV)):Option AV→List (AV×AV)
 |none=>es++[(.int k n,x)]
 |some _=>updE k n x es
def findS (s:ByteArray):List (AV×AV)→Option (Option AV)
 | []=>some none
 |(.str s',x)::es=>if s=s' then some (some x) else findS s es
 |_=>none
def updS (s:ByteArray) (x:AV):List (AV×AV)→List (AV×AV)
 | []=>[]
 |(.str s',y)::es=>if s=s' then(.str s,x)::es else(.str s',y)::updS s x es
 |p::es=>p::updS s x es
def putT (s:ByteArray) (x:AV) (es:List (AV×AV)):Option AV→List (AV×AV)
 |none=>es++[(.str s,x)]
 |some _=>updS s x es
def lkRes (ok:Bool) (z:AV):Option AV→AV
 |some x=>if ok then .tup [x,.bool true] else x
 |none=>if ok then .tup [z,.bool false] else z
def zv (P:Program) (t:TypeId):Option AV:=(P.info? t).bind fun i=>i.zero.bind avOf
def effA (P:Program) (op:Op) (vs:List AV) (os:List (Option AObj)):Option (Prop×Ef):=
  match op with
  | .move _| .assign _=>match vs with| [x]=>some (True,.val x)|_=>none
  | .pick _ _ _=>match vs with| [.bool c,x,y]=>some (True,.val (if c then x else y))|_=>none
  | .box _ _=>match vs with| [x]=>if x.isTup then none else some (True,.new (.cells x.cells) (.ptr · 0))|_=>none
  | .alloc t=>match ti P t with|some ⟨_,_,_,some zs⟩=>some (True,.new (.cells zs) (.ptr · 0))|_=>none
  | .build t ps=>
    match ti P t with
    |some ⟨.struct fs,_,_,some zs⟩=>
      if fs.all (fun f=>(ti P f.1).isSome) then(fillA P fs zs ((ps.toList.map (·.1)).zip vs)).map fun l=>(True,.val (.agg l)) else none
    |some ⟨.array n e,_,_,some zs⟩=>
      match ti P e with
      |some T=>(fillA P (arL e T.size n 0) zs ((ps.toList.map (·.1)).zip vs)).map fun l=>(True,.val (.agg l))
      |none=>none
    |_=>none
  | .buildSlice t n ps=>
    match ti P t with
    |some ⟨.slice e,_,_,_⟩=>
      match ti P e with
      |some ⟨k,size,bytes,some zs⟩=>
        if zs.length=size∧n*size≤2 ^ 24∧ps.toList.map (·.1)=List.range n∧vs.all (fun x=>x.cells.length==size&&!x.isTup) then
          some (True,.new (.row size vs) .rw) else none
      |_=>none
    |_=>none
  | .load t _=>
    match ti P t with
    |some T=>
      match vs,os with
      | [.ptr _ off],[some (.cells l)]=>(ldA T l off).map fun x=>(True,.val x)
      | [.eptr e off],_=>(ldA T e.cells off).map fun x=>(True,.val x)
      | [.rptr _ sz i off],[some (.row sz' l)]=>
        match l[i]? with
        |some e=>if sz=sz' then(ldA T e.cells off).map fun x=>(True,.val x) else none
        |none=>none
      |_,_=>none
    |none=>none
  | .store t _ _=>
    match ti P t with
    |some T=>
      match vs,os with
      | [.ptr id off,x],[some (.cells l),_]=>(stA T l off x).map fun l'=>(True,.set id (.cells l') (.tup []))
      | [.rptr id sz i off,x],[some (.row sz' l),_]=>
        match l[i]? with
        |some e=>if sz=sz' then(stA T e.cells off x).map fun c=>(True,.set id (.row sz' (l.set i (reElem e c))) (.tup [])) else none
        |none=>none
      |_,_=>none
    |none=>none
  | .nilCheck _=>match vs with| [x]=>(match x with| .ptr _ _| .eptr _ _| .rptr _ _ _ _=>some (True,.val x)| .fn (.func _) _ _=>some (True,.val x)|_=>none)|_=>none
  | .binOp op t xo yo _=>match vs with| [.agg l,.agg m]=>(aggE P op t l m).map fun(ob,v)=>(ob,.val v)| [x,y]=>((binA P op t x y).or (nilifA P op t (isC xo||isC yo) x y)).map fun(ob,v)=>(ob,.val v)|_=>none
  | .unOp op _ _=>match vs with| [x]=>(unA op x).map fun v=>(True,.val v)|_=>none
  | .convert src dst _=>match vs with| [x]=>(convA P src dst x (os.getD 0 none)).map fun(ob,v)=>(ob,.val v)|_=>none
  | .makeInterface t _=>match vs,ti P t with| [_],some ⟨.iface,_,_,_⟩=>none| [x],some _=>some (True,.val (.iface t x))|_,_=>none
  | .makeFunc fn f c=>if vs.length=f.size+c.size then some (True,.val (.fn fn (vs.take f.size) (vs.drop f.size))) else none
  | .makeSlice t _ _=>
    match ti P t,vs with
    |some ⟨.slice e,_,_,_⟩,[.int _ n,.int _ c]=>
      match ti P e with
      |some ⟨k,size,bytes,some zs⟩=>
        if zs.length=size∧(k.isAgg=true∨size=1) then some (0≤n∧n≤c∧c≤2 ^ 46∧c*bytes≤2 ^ 48,.new (.row size (List.replicate n.toNat (mkElem ⟨k,size,bytes,some zs⟩ zs))) .rw) else none
      |_=>none
    |_,_=>none
  | .slice t _ lo hi none=>
    match ti P t,sliceArgs lo hi vs with
    |some ⟨.slice e,_,_,_⟩,some (.sl l,a,b)=>
      match ti P e with
      |some Te=>(sliceA l a b).map fun(ob,v)=>(ob∧SzOk l Te.size,.val v)
      |none=>none
    |some ⟨.slice e,_,_,_⟩,some (.nilsl,none,some (.int _ n))=>match ti P e with|some _=>some (n=0,.val .nilsl)|none=>none
    |some ⟨.str,_,_,_⟩,some (.str s,a,b)=>(sliceS s a b).map fun(ob,v)=>(ob,.val v)
    |_,_=>none
  | .index t _ _=>
    match ti P t,vs with
    |some ⟨.str,_,_,_⟩,[.str s,.int _ n]=>(match s.data.toList[n.toNat]? with|some b=>some (0≤n,.val (.int .u8 (b.toNat:Int)))|none=>none)
    |_,_=>none
  | .fieldAddr t _ f=>
    match ti P t with
    |some ⟨.struct fs,_,_,_⟩=>
      match fs[f]? with
      |some (ft,off)=>
        match ti P ft with
        |some ⟨_,size,_,_⟩=>
          if size=0 then none else
          (match vs with
           | [.ptr id o]=>some (True,.val (.ptr id (o+off)))
           | [.eptr e o]=>some (True,.val (.eptr e (o+off)))
           | [.rptr id sz i o]=>some (True,.val (.rptr id sz i (o+off)))
           |_=>none)
        |none=>none
      |none=>none
    |_=>none
  | .field t _ f=>
    match ti P t,vs with
    |some ⟨.struct fs,_,_,_⟩,[.agg l]=>
      match fs[f]? with
      |some (ft,off)=>match ti P ft with|some T=>(ldA T l off).map fun x=>(True,.val x)|none=>none
      |none=>none
    |_,_=>none
  | .indexAddr t _ _=>match vs with| [x,i]=>(idxA P t x i (os.getD 0 none)).map fun(ob,v)=>(ob,.val v)|_=>none
  | .extract _ i=>match vs with| [.tup l]=>(l[i]?).map fun x=>(True,.val x)|_=>none
  | .typeAssert _ _ t ok=>
    match vs,ti P t with
    | [.iface u x],some ⟨.struct _,_,_,_⟩=>
      if u=t then(if ok then some (True,.val (.tup [x,.bool true])) else some (True,.val x)) else none
    |_,_=>none
  | .makeMap _ none=>match vs with| []=>some (True,.new (.map []) .mp)|_=>none
  | .insert t _ _ _=>
    match ti P t,vs,os with
    |some ⟨.map kt _,_,_,_⟩,[.mp id,.int k n,x],[some (.map es),_,_]=>
      match ti P kt with
      |some ⟨.int _,_,_,_⟩=>(match findE k n es with|some none=>some (True,.set id (.map (es++[(.int k n,x)])) (.tup []))|_=>none)
      |_=>none
    |_,_,_=>none
  | .mapUpdate t _ _ _=>
    match ti P t,vs,os with
    |some ⟨.map kt _,_,_,_⟩,[.mp id,.int k n,x],[some (.map es),_,_]=>
      match ti P kt with
      |some ⟨.int _,_,_,_⟩=>(match findE k n es with|some r=>some (True,.set id (.map (putE k n x es r)) (.tup []))|none=>none)
      |_=>none
    |some ⟨.map kt _,_,_,_⟩,[.mp id,.str s,x],[some (.map es),_,_]=>
      match ti P kt with
      |some ⟨.str,_,_,_⟩=>(match findS s es with|some r=>some (True,.set id (.map (putT s x es r)) (.tup []))|none=>none)
      |_=>none
    |_,_,_=>none
  | .lookup t _ _ ok=>
    match ti P t,vs,os with
    |some ⟨.map kt et,_,_,_⟩,[.mp _,.int k n],[some (.map es),_]=>
      match ti P kt,zv P et with
      |some ⟨.int _,_,_,_⟩,some z=>(findE k n es).map fun r=>(True,.val (lkRes ok z r))
      |_,_=>none
    |some ⟨.map kt et,_,_,_⟩,[.mp _,.str s],[some (.map es),_]=>
      match ti P kt,zv P et with
      |some ⟨.str,_,_,_⟩,some z=>(findS s es).map fun r=>(True,.val (lkRes ok z r))
      |_,_=>none
    |_,_,_=>none
  | .call ⟨.builtin .len,_,ts⟩=>
    match vs,ts with
    | [x],⟨[t]⟩=>(lenE P t x (os.getD 0 none)).map fun v=>(True,.val v)
    |_,_=>none
  | .call ⟨.builtin .cap,_,ts⟩=>
    match vs,ts with
    | [.nilsl],⟨[t]⟩=>(match ti P t with|some ⟨.slice _,_,_,_⟩=>some (True,.val (.i 0))|_=>none)
    |_,_=>none
  | .call ⟨.builtin .max,_,_⟩=>match vs with| [.int k x,.int _ y]=>some (True,.val (.int k (if y>x then y else x)))|_=>none
  | .call ⟨.builtin .min,_,_⟩=>match vs with| [.int k x,.int _ y]=>some (True,.val (.int k (if y<x then y else x)))|_=>none
  | .call ⟨.builtin .append,_,ts⟩=>
    match vs,ts with
    | [s,x],⟨[t,u]⟩=>appA P t u s x (os.getD 0 none) (os.getD 1 none)
    |_,_=>none
  |_=>none
def cutE (P:Program) (t:TypeId) (lo hi:Option Operand) (vs:List AV) (o:Option AObj):Option (Prop×Ef):=
 match ti P t,sliceArgs lo hi vs,o with
 |some ⟨.slice e,_,_,_⟩,some (.rw id,a,b),some (.row sz l)=>
  match ti P e,sliceA l a b with
  |some Te,some (ob,.sl l')=>if sz=Te.size then some (ob,.swap id (.row sz l') .rw) else none
  |_,_=>none
 |_,_,_=>none
def effB (P:Program) (bar:Bool) (t:TypeId) (x:Operand) (lo hi m:Option Operand) (vs:List AV) (os:List (Option AObj)):Option (Prop×Ef):=
 match bar,m,vs with
 |true,none,.rw _::_=>cutE P t lo hi vs (os.getD 0 none)
 |_,_,_=>effA P (.slice t x lo hi m) vs os
def eff (P:Program) (σ:St) (op:Op):Option (Prop×Ef):=
 match (opnds op).mapM (evA σ) with
 |some vs=>effA P op vs (vs.map fun v=>v.id?.bind σ.hp)
 |none=>none
end Go.Am
