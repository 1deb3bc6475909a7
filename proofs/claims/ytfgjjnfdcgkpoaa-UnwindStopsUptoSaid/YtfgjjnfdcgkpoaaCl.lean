/- A part of the proof: an abstract machine for the walks, and what the walked functions compute. -/
import Derived.Test.YtfgjjnfdcgkpoaaCf
set_option linter.unusedVariables false
set_option linter.unusedSimpArgs false
namespace Go.Hv
open Go Go.Am Go.Proofs.Ytfgjjnfdcgkpoaa
structure Af where
 num:Int
 rt:Int
 blk:Int
 idx:Int
 dst:Int
 sl:List Vl
 si:List Int
namespace Af
def cs (a:Af):List AV:=[.i a.num,.i a.rt,.i a.blk,.i a.idx,.i a.dst,.sl (Vl.avL a.sl),.sl (il a.si)]
def av (a:Af):AV:= .agg a.cs
theorem av_eq (a:Af):a.av= .agg [.i a.num,.i a.rt,.i a.blk,.i a.idx,.i a.dst,.sl (Vl.avL a.sl),.sl (il a.si)]:=rfl
theorem av_clo (a:Af):a.av.clo=true:=rfl
@[go_sem] theorem cs_ren (m:Nat→Nat) (a:Af):AV.renL m a.cs=a.cs:=cloL_renL rfl
@[go_sem] theorem cs_ids (p:Nat→Prop) (a:Af):AV.idsL p a.cs=True:=eq_true (cloL_idsL rfl)
@[go_sem] theorem av_ren (m:Nat→Nat) (a:Af):a.av.ren m=a.av:=clo_ren a.av_clo
@[go_sem] theorem av_ids (p:Nat→Prop) (a:Af):a.av.ids p=True:=eq_true (clo_ids a.av_clo)
end Af
structure Ln where
 fr:Int
 slot:Int
 excl:Bool
 re:Bool
 over:Bool
 deriving DecidableEq
def Ln.av (x:Ln):AV:= .agg [.i x.fr,.i x.slot,.bool x.excl,.bool x.re,.bool x.over]
structure Tsk where
 st:Int
 fs:List Af
 ls:List Ln
 al:Int
 ck:Int
 nx:Int
 ce:List Int
def acl (l:List Af):List AV:=l.map Af.av
def lnl (l:List Ln):List AV:=l.map Ln.av
namespace Tsk
def cs (t:Tsk):List AV:=[.i t.st,.sl (acl t.fs),.sl (lnl t.ls),.i t.al,.i t.ck,.i t.nx,.sl (il t.ce)]
def av (t:Tsk):AV:= .agg t.cs
theorem av_eq (t:Tsk):t.av= .agg [.i t.st,.sl (acl t.fs),.sl (lnl t.ls),.i t.al,.i t.ck,.i t.nx,.sl (il t.ce)]:=rfl
theorem av_clo (t:Tsk):t.av.clo=true:=rfl
@[go_sem] theorem cs_ren (m:Nat→Nat) (a:Tsk):AV.renL m a.cs=a.cs:=cloL_renL rfl
@[go_sem] theorem cs_ids (p:Nat→Prop) (a:Tsk):AV.idsL p a.cs=True:=eq_true (cloL_idsL rfl)
@[go_sem] theorem av_ren (m:Nat→Nat) (a:Tsk):a.av.ren m=a.av:=clo_ren a.av_clo
@[go_sem] theorem av_ids (p:Nat→Prop) (a:Tsk):a.av.ids p=True:=eq_true (clo_ids a.av_clo)
end Tsk
def tsl (l:List Tsk):List AV:=l.map Tsk.av
def ouv (x:Int×Int):AV:= .agg [.i x.1,.i x.2]
def oul (l:List (Int×Int)):List AV:=l.map ouv
def chv (l:List Vl):AV:= .sl (Vl.avL l)
def chl (l:List (List Vl)):List AV:=l.map chv
@[go_sem] theorem acl_len (l:List Af):(acl l).length=l.length:=List.length_map ..
@[go_sem] theorem acl_get (l:List Af) (i:Nat):(acl l)[i]? =(l[i]?).map Af.av:=List.getElem?_map ..
@[go_sem] theorem acl_nil:acl []=[]:=rfl
theorem acl_clo (l:List Af):AV.cloL (acl l)=true:=cloLeq _ fun x hx=>by obtain⟨p,_,rfl⟩:=List.mem_map.1 hx;rfl
@[go_sem] theorem acl_ren (m:Nat→Nat) (l:List Af):AV.renL m (acl l)=acl l:=cloL_renL (acl_clo l)
theorem clo_acl (l:List Af):CloRow (acl l):=by
 intro x hx c hc
 obtain⟨p,_,rfl⟩:=List.mem_map.1 hx
 simp only[AV.cells,Af.av_eq,List.mem_cons,List.not_mem_nil,or_false] at hc
 rcases hc with rfl|rfl|rfl|rfl|rfl|rfl|rfl<;>rfl
@[go_sem] theorem lnl_len (l:List Ln):(lnl l).length=l.length:=List.length_map ..
@[go_sem] theorem lnl_nil:lnl []=[]:=rfl
@[go_sem] theorem tsl_len (l:List Tsk):(tsl l).length=l.length:=List.length_map ..
@[go_sem] theorem tsl_get (l:List Tsk) (i:Nat):(tsl l)[i]? =(l[i]?).map Tsk.av:=List.getElem?_map ..
@[go_sem] theorem tsl_set (l:List Tsk) (i:Nat) (b:Tsk):(tsl l).set i b.av=tsl (l.set i b):=(List.map_set ..).symm
@[go_sem] theorem tsl_nil:tsl []=[]:=rfl
theorem tsl_clo (l:List Tsk):AV.cloL (tsl l)=true:=cloLeq _ fun x hx=>by obtain⟨p,_,rfl⟩:=List.mem_map.1 hx;rfl
@[go_sem] theorem tsl_ren (m:Nat→Nat) (l:List Tsk):AV.renL m (tsl l)=tsl l:=cloL_renL (tsl_clo l)
@[go_sem] theorem tsl_ids (p:Nat→Prop) (l:List Tsk):AV.idsL p (tsl l)=True:=eq_true (cloL_idsL (tsl_clo l))
theorem clo_tsl (l:List Tsk):CloRow (tsl l):=by
 intro x hx c hc
 obtain⟨p,_,rfl⟩:=List.mem_map.1 hx
 simp only[AV.cells,Tsk.av_eq,List.mem_cons,List.not_mem_nil,or_false] at hc
 rcases hc with rfl|rfl|rfl|rfl|rfl|rfl|rfl<;>rfl
@[go_sem] theorem szok_tsl (l:List Tsk):SzOk (tsl l) 7=True:=eq_true fun x hx=>by obtain⟨p,_,rfl⟩:=List.mem_map.1 hx;rfl
@[go_sem] theorem oul_len (l:List (Int×Int)):(oul l).length=l.length:=List.length_map ..
@[go_sem] theorem oul_get (l:List (Int×Int)) (i:Nat):(oul l)[i]? =(l[i]?).map ouv:=List.getElem?_map ..
@[go_sem] theorem oul_nil:oul []=[]:=rfl
@[go_sem] theorem oul_app (l m:List (Int×Int)):oul l++oul m=oul (l++m):=by simp[oul]
@[go_sem] theorem oul_app1 (l:List (Int×Int)) (x y:Int):oul l++[.agg [.int .i64 x,.int .i64 y]]=oul (l++[(x,y)]):=by simp[oul,ouv]
theorem oul_clo (l:List (Int×Int)):AV.cloL (oul l)=true:=cloLeq _ fun x hx=>by obtain⟨p,_,rfl⟩:=List.mem_map.1 hx;rfl
@[go_sem] theorem oul_ren (m:Nat→Nat) (l:List (Int×Int)):AV.renL m (oul l)=oul l:=cloL_renL (oul_clo l)
@[go_sem] theorem oul_ids (p:Nat→Prop) (l:List (Int×Int)):AV.idsL p (oul l)=True:=eq_true (cloL_idsL (oul_clo l))
theorem clo_oul (l:List (Int×Int)):CloRow (oul l):=by
 intro x hx c hc
 obtain⟨p,_,rfl⟩:=List.mem_map.1 hx
 simp only[AV.cells,ouv,List.mem_cons,List.not_mem_nil,or_false] at hc
 rcases hc with rfl|rfl<;>rfl
@[go_sem] theorem szok_oul (l:List (Int×Int)):SzOk (oul l) 2=True:=eq_true fun x hx=>by obtain⟨p,_,rfl⟩:=List.mem_map.1 hx;rfl
@[go_sem] theorem chl_len (l:List (List Vl)):(chl l).length=l.length:=List.length_map ..
@[go_sem] theorem chl_get (l:List (List Vl)) (i:Nat):(chl l)[i]? =(l[i]?).map chv:=List.getElem?_map ..
theorem chl_clo (l:List (List Vl)):AV.cloL (chl l)=true:=cloLeq _ fun x hx=>by obtain⟨p,_,rfl⟩:=List.mem_map.1 hx;rfl
@[go_sem] theorem chl_ren (m:Nat→Nat) (l:List (List Vl)):AV.renL m (chl l)=chl l:=cloL_renL (chl_clo l)
structure Wd where
 D:List Dt
 R:List AV
 mn:Int
 h:Hp
 ts:List Tsk
 cn:List (List Vl)
 ou:List (Int×Int)
 md:Int
 dp:Int
 cd:Int
namespace Wd
def cs (w:Wd):List AV:=[.sl (dl w.D),.sl w.R,.i w.mn,.sl (cl w.h.cells),.sl (bl w.h.arenas),.sl (tsl w.ts),.sl (chl w.cn),.sl (oul w.ou),.i w.md,.i w.dp,.i w.cd]
def av (w:Wd):AV:= .agg w.cs
theorem av_eq (w:Wd):w.av= .agg [.sl (dl w.D),.sl w.R,.i w.mn,.sl (cl w.h.cells),.sl (bl w.h.arenas),.sl (tsl w.ts),.sl (chl w.cn),.sl (oul w.ou),.i w.md,.i w.dp,.i w.cd]:=rfl
theorem av_clo (w:Wd):w.av.clo=true:=rfl
end Wd
def ownB (v:Vl):Bool:=v.kind==2||v.kind==3||v.kind==5
def since (a:Af) (i:Nat):Int:=a.si.getD i 0
def insO (s:Nat→Int) (x:Nat):List Nat→List Nat
 | []=>[x]
 |y::l=>if s x<s y then y::insO s x l else x::y::l
def owns (a:Af):List Nat:=(List.range a.sl.length).filter fun i=>match a.sl[i]? with|some v=>ownB v|none=>false
def sortO (s:Nat→Int) (l:List Nat):List Nat:=l.foldl (fun o x=>insO s x o) []
def orderL (a:Af):List Nat:=sortO (since a) (owns a)
def ni (l:List Nat):List Int:=l.map fun i=>Int.ofNat i
def valsA (a:Af):List Vl:=(orderL a).filterMap fun i=>a.sl[i]?
def valsT (t:Tsk):List Vl:=t.fs.reverse.flatMap valsA
end Go.Hv

namespace Go.Hv
open Go Go.Am
def Sd (s:Nat→Int) (l:List Nat):Prop:=l.Pairwise fun a b=>s b≤s a
theorem insO_mem {s:Nat→Int} {x y:Nat} :∀ {l:List Nat},y∈insO s x l↔y=x∨y∈l
 | []=>by simp[insO]
 |z::l=>by
  rw[insO]
  split
  ·rw[List.mem_cons,insO_mem,List.mem_cons];exact⟨fun h=>by rcases h with h|h|h<;>simp[h],fun h=>by rcases h with h|h|h<;>simp[h]⟩
  ·rw[List.mem_cons]
theorem insO_perm (s:Nat→Int) (x:Nat):∀ l:List Nat,(insO s x l).Perm (x::l)
 | []=> .refl _
 |z::l=>by
  rw[insO]
  split
  ·exact((insO_perm s x l).cons z).trans (.swap x z l)
  ·exact .refl _
theorem insO_sd {s:Nat→Int} {x:Nat} :∀ {l:List Nat},Sd s l→Sd s (insO s x l)
 | [],_=>List.pairwise_singleton ..
 |z::l,h=>by
  obtain⟨h1,h2⟩:=List.pairwise_cons.1 h
  rw[insO]
  split
  ·rename_i hz
   refine List.pairwise_cons.2 ⟨fun y hy=>?_,insO_sd h2⟩
   rcases insO_mem.1 hy with rfl|hy
   ·omega
   ·exact h1 y hy
  ·rename_i hz
   refine List.pairwise_cons.2 ⟨fun y hy=>?_,h⟩
   rcases List.mem_cons.1 hy with rfl|hy
   ·omega
   ·have:=h1 y hy;omega
theorem insO_split {s:Nat→Int} {x:Nat} :∀ {P:List Nat} {j:Nat},(∀ y,y∈P.take j→s x<s y)→(∀ y,y∈P.drop j→s y≤s x)→insO s x P=P.take j++x::P.drop j
 | [],j,_,_=>by simp[insO]
 |z::P,0,_,h=>by
  have:=h z (by simp)
  rw[insO,if_neg (by omega)];rfl
 |z::P,j+1,h1,h2=>by
  have:=h1 z (by simp)
  rw[insO,if_pos this,insO_split (P:=P) (j:=j) (fun y hy=>h1 y (by simp[hy])) (fun y hy=>h2 y (by simpa using hy))]
  simp
theorem sortO_snoc (s:Nat→Int) (l:List Nat) (x:Nat):sortO s (l++[x])=insO s x (sortO s l):=by simp[sortO]
theorem sortO_step {s:Nat→Int} {l:List Nat} {i x:Nat} (h:l[i]? =some x):sortO s (l.take (i+1))=insO s x (sortO s (l.take i)):=by
 rw[List.take_add_one,h];exact sortO_snoc s _ x
theorem sortO_go (s:Nat→Int):∀ (l o:List Nat),Sd s o→Sd s (l.foldl (fun o x=>insO s x o) o)∧(l.foldl (fun o x=>insO s x o) o).Perm (l++o)
 | [],o,h=>⟨h,.refl _⟩
 |x::l,o,h=>by
  obtain⟨g1,g2⟩:=sortO_go s l (insO s x o) (insO_sd h)
  exact⟨g1,g2.trans (((insO_perm s x o).append_left l).trans (List.perm_middle))⟩
theorem sortO_sd (s:Nat→Int) (l:List Nat):Sd s (sortO s l):=(sortO_go s l [] List.Pairwise.nil).1
theorem sortO_perm (s:Nat→Int) (l:List Nat):(sortO s l).Perm l:=by have:=(sortO_go s l [] List.Pairwise.nil).2;rwa [List.append_nil] at this
theorem sortO_len (s:Nat→Int) (l:List Nat):(sortO s l).length=l.length:=(sortO_perm s l).length_eq
theorem Sd.take {s:Nat→Int} {P:List Nat} (h:Sd s P) {j x y:Nat} {c:Int} (hj:P[j]? =some y) (hc:c<s y):∀ z,z∈P.take (j+1)→c<s z:=by
 intro z hz
 rw[List.take_add_one,hj] at hz
 rcases List.mem_append.1 hz with hz|hz
 ·obtain⟨i,hi,hz⟩:=List.mem_take_iff_getElem.1 hz
  have hjl:=(List.getElem?_eq_some_iff.1 hj).1
  have:=List.pairwise_iff_getElem.1 h i j (by omega) hjl (by omega)
  rw[hz,(List.getElem?_eq_some_iff.1 hj).2] at this
  omega
 ·simp at hz;subst hz;exact hc
theorem ni_len (l:List Nat):(ni l).length=l.length:=by simp[ni]
theorem ni_get (l:List Nat) (i:Nat):(ni l)[i]? =(l[i]?).map fun(i:Nat)=>(i:Int):=by simp[ni]
theorem ni_set (l:List Nat) (i x:Nat):(ni l).set i (x:Nat)=ni (l.set i x):=by simp[ni,List.map_set]
def mid (P:List Nat) (j x:Nat) (r:List Nat):List Nat:=P.take j++x::P.drop j++r
theorem mid_len {P r:List Nat} {j x:Nat} (h:j≤P.length):(mid P j x r).length=P.length+1+r.length:=by
 simp[mid];omega
theorem mid_at {P r:List Nat} {j x:Nat} (h:j≤P.length):(mid P j x r)[j]? =some x:=by
 unfold mid
 rw[List.append_assoc,List.getElem?_append_right (by simp;omega)]
 simp[Nat.min_eq_left h]
theorem mid_pre {P r:List Nat} {j x:Nat} (h:j+1≤P.length):(mid P (j+1) x r)[j]? =P[j]? :=by
 unfold mid
 rw[List.append_assoc,List.getElem?_append_left (by simp;omega),List.getElem?_take_of_lt (by omega)]
theorem mid_step {P r:List Nat} {j x y:Nat} (h:P[j]? =some y):((mid P (j+1) x r).set (j+1) y).set j x=mid P j x r:=by
 have hl:=(List.getElem?_eq_some_iff.1 h).1
 have e1:P.take (j+1)=P.take j++[y]:=by rw[List.take_add_one,h];rfl
 have e2:P.drop j=y::P.drop (j+1):=by rw[List.drop_eq_getElem_cons hl,(List.getElem?_eq_some_iff.1 h).2]
 have hk:(P.take j).length=j:=by simp;omega
 unfold mid
 rw[e1,e2]
 generalize P.take j=A at*
 generalize P.drop (j+1)=B at*
 subst hk
 simp[List.set_append]
end Go.Hv
