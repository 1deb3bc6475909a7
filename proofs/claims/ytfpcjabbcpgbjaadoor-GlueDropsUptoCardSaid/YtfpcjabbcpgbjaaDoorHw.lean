/- A part of the proof: an abstract machine for the walks, and what the walked functions compute. -/
import Derived.Test.YtfpcjabbcpgbjaaDoorHv
set_option linter.unusedVariables false
set_option linter.unusedSimpArgs false
namespace Go.Hv
open Go Go.Am
structure Ow where
 cs:List Nat
 ags:List Nat
 ids:List Int
def Ow.nil:Ow:=⟨[],[],[]⟩
def yg (h:Hp) (n:Int):Bool:=decide (0<=n)&&(match h.cells[n.toNat]? with|some c=>c.live&&(c.arena== -1)|none=>false)
def JG (h:Hp) (n:Int):Bool:=decide (0<=n)&&(h.arenas[n.toNat]? ==some true)
def Js (l:List Cl) (n:Int):List Nat:=(List.range l.length).filter fun i=>match l[i]? with|some c=>c.live&&(c.arena==n)|none=>false
def enL (en:Nat->Ow->Option Ow):List Nat->Ow->Option Ow
 | [],o=>some o
 |i::l,o=>(en i o).bind (enL en l)
mutual
def jP (h:Hp) (en:Nat->Ow->Option Ow):Vl->Ow->Option Ow
 | .mk k id _ n fs _ _ _,o=>
  if k=2 then Jk h en fs { o with ids:=o.ids++[id] }
  else if k=3 then(if yg h n then en n.toNat o else none)
  else if k=5 then(if JG h n&&!decide (n.toNat∈o.ags) then enL en (Js h.cells n) { o with ags:=o.ags++[n.toNat] } else none)
  else some o
def Jk (h:Hp) (en:Nat->Ow->Option Ow):List Vl->Ow->Option Ow
 | [],o=>some o
 |x::l,o=>(jP h en x o).bind (Jk h en l)
end
def jy (h:Hp):Nat->Nat->Ow->Option Ow
 |0,_,_=>none
 |k+1,n,o=>if n∈o.cs then none else match h.cells[n]? with
  |some c=>jP h (jy h k) c.v { o with cs:=o.cs++[n] }
  |none=>none
def yc (h:Hp) (v:Vl):Option Ow:=jP h (jy h h.cells.length) v Ow.nil
structure Ow.Ok (h:Hp) (o:Ow):Prop where
 nd:o.cs.Nodup
 lt:∀ n,n∈o.cs->∃ c,h.cells[n]? =some c/\c.live=true
 and:o.ags.Nodup
 alt:∀ n,n∈o.ags->h.arenas[n]? =some true
theorem Ow.nil_ok (h:Hp):Ow.nil.Ok h:=⟨List.nodup_nil,(fun _ h=>by cases h),List.nodup_nil,(fun _ h=>by cases h)⟩
structure Ow.Le (o o':Ow):Prop where
 cs:∃ l,o'.cs=o.cs++l
 ags:∃ l,o'.ags=o.ags++l
 ids:∃ l,o'.ids=o.ids++l
theorem Ow.Le.refl (o:Ow):o.Le o:=⟨⟨[],by simp⟩,⟨[],by simp⟩,⟨[],by simp⟩⟩
theorem Ow.Le.trans {a b c:Ow} (h1:a.Le b) (h2:b.Le c):a.Le c:=by
 obtain⟨⟨l1,e1⟩,⟨l2,e2⟩,⟨l3,e3⟩⟩:=h1
 obtain⟨⟨m1,f1⟩,⟨m2,f2⟩,⟨m3,f3⟩⟩:=h2
 exact⟨⟨l1++m1,by rw[f1,e1,List.append_assoc]⟩,⟨l2++m2,by rw[f2,e2,List.append_assoc]⟩,⟨l3++m3,by rw[f3,e3,List.append_assoc]⟩⟩
def gu (h:Hp) (en:Nat->Ow->Option Ow):Prop:=∀ n o o',o.Ok h->(∃ c,h.cells[n]? =some c/\c.live=true)->en n o=some o'->o'.Ok h/\o.Le o'
theorem Yp {h:Hp} {en:Nat->Ow->Option Ow} (hen:gu h en):∀ (l:List Nat) (o o':Ow),o.Ok h->(∀ n,n∈l->∃ c,h.cells[n]? =some c/\c.live=true)->enL en l o=some o'->o'.Ok h/\o.Le o'
 | [],o,o',ho,_,he=>by rw[enL] at he;cases he;exact⟨ho,Ow.Le.refl _⟩
 |i::l,o,o',ho,hl,he=>by
  rw[enL] at he
  obtain⟨o1,h1,h2⟩:=Option.bind_eq_some_iff.1 he
  obtain⟨g1,g2⟩:=hen i o o1 ho (hl i (by simp)) h1
  obtain⟨g3,g4⟩:=Yp hen l o1 o' g1 (fun n hn=>hl n (List.mem_cons_of_mem _ hn)) h2
  exact⟨g3,g2.trans g4⟩
theorem yS {l:List Cl} {n:Int} {i:Nat} (h:i∈Js l n):∃ c,l[i]? =some c/\c.live=true/\c.arena=n:=by
 unfold Js at h
 obtain⟨_,h2⟩:=List.mem_filter.1 h
 split at h2
 ·rename_i c hc
  simp only[Bool.and_eq_true,beq_iff_eq] at h2
  exact⟨c,hc,h2.1,h2.2⟩
 ·cases h2
theorem JX {h:Hp} {n:Int} (hb:yg h n=true):∃ m c,n=(m:Nat)/\h.cells[m]? =some c/\c.live=true/\c.arena= -1:=by
 unfold yg at hb
 simp only[Bool.and_eq_true,decide_eq_true_eq] at hb
 obtain⟨h1,h2⟩:=hb
 split at h2
 ·rename_i c hc
  simp only[Bool.and_eq_true,beq_iff_eq] at h2
  exact⟨n.toNat,c,by omega,hc,h2.1,h2.2⟩
 ·cases h2
theorem J6 {h:Hp} {n:Int} (hb:JG h n=true):∃ m:Nat,n=m/\h.arenas[m]? =some true:=by
 unfold JG at hb
 simp only[Bool.and_eq_true,decide_eq_true_eq,beq_iff_eq] at hb
 exact⟨n.toNat,by omega,hb.2⟩
mutual
theorem jD {h:Hp} {en:Nat->Ow->Option Ow} (hen:gu h en):∀ (v:Vl) (o o':Ow),o.Ok h->jP h en v o=some o'->o'.Ok h/\o.Le o'
 | .mk k id x n fs a b c,o,o',ho,he=>by
  rw[jP] at he
  split at he
  ·obtain⟨g1,g2⟩:=yf hen fs _ o' (⟨ho.nd,ho.lt,ho.and,ho.alt⟩:Ow.Ok h { o with ids:=o.ids++[id] }) he
   exact⟨g1,Ow.Le.trans ⟨⟨[],by simp⟩,⟨[],by simp⟩,⟨[id],rfl⟩⟩ g2⟩
  ·split at he
   ·split at he
    ·rename_i hb
     obtain⟨m,c,rfl,hc,hl,_⟩:=JX hb
     exact hen m o o' ho ⟨c,hc,hl⟩ he
    ·cases he
   ·split at he
    ·split at he
     ·rename_i hb
      simp only[Bool.and_eq_true,Bool.not_eq_true',decide_eq_false_iff_not] at hb
      obtain⟨m,rfl,hm⟩:=J6 hb.1
      have hm2:m∉o.ags:=hb.2
      have ho2:Ow.Ok h { o with ags:=o.ags++[m] } :=by
       refine⟨ho.nd,ho.lt,?_,?_⟩
       ·show(o.ags++[m]).Nodup
        rw[List.nodup_append]
        refine⟨ho.and,by simp,?_⟩
        intro a ha b hb
        simp at hb
        subst hb
        rintro rfl
        exact hm2 ha
       ·intro a ha
        rcases List.mem_append.1 ha with ha|ha
        ·exact ho.alt a ha
        ·simp at ha;subst ha;exact hm
      obtain⟨g1,g2⟩:=Yp hen _ _ o' ho2 (fun i hi=>by obtain⟨c,h1,h2,_⟩:=yS hi;exact⟨c,h1,h2⟩) he
      exact⟨g1,Ow.Le.trans ⟨⟨[],by simp⟩,⟨[m],rfl⟩,⟨[],by simp⟩⟩ g2⟩
     ·cases he
    ·cases he;exact⟨ho,Ow.Le.refl _⟩
theorem yf {h:Hp} {en:Nat->Ow->Option Ow} (hen:gu h en):∀ (l:List Vl) (o o':Ow),o.Ok h->Jk h en l o=some o'->o'.Ok h/\o.Le o'
 | [],o,o',ho,he=>by rw[Jk] at he;cases he;exact⟨ho,Ow.Le.refl _⟩
 |x::l,o,o',ho,he=>by
  rw[Jk] at he
  obtain⟨o1,h1,h2⟩:=Option.bind_eq_some_iff.1 he
  obtain⟨g1,g2⟩:=jD hen x o o1 ho h1
  obtain⟨g3,g4⟩:=yf hen l o1 o' g1 h2
  exact⟨g3,g2.trans g4⟩
end
theorem jo (h:Hp):∀ k,gu h (jy h k)
 |0=>fun n o o' _ _ he=>by rw[jy] at he;cases he
 |k+1=>fun n o o' ho hn he=>by
  rw[jy] at he
  split at he
  ·cases he
  ·rename_i hnm
   obtain⟨c,hc,hl⟩:=hn
   rw[hc] at he
   simp only at he
   have ho2:Ow.Ok h { o with cs:=o.cs++[n] } :=by
    refine⟨?_,?_,ho.and,ho.alt⟩
    ·show(o.cs++[n]).Nodup
     rw[List.nodup_append]
     refine⟨ho.nd,by simp,?_⟩
     intro a ha b hb
     simp at hb
     subst hb
     rintro rfl
     exact hnm ha
    ·intro a ha
     rcases List.mem_append.1 ha with ha|ha
     ·exact ho.lt a ha
     ·simp at ha;subst ha;exact⟨c,hc,hl⟩
   obtain⟨g1,g2⟩:=jD (jo h k) c.v _ o' ho2 he
   exact⟨g1,Ow.Le.trans ⟨⟨[n],rfl⟩,⟨[],by simp⟩,⟨[],by simp⟩⟩ g2⟩

theorem qf:∀ (n:Nat) (l:List Nat),l.Nodup->(∀ x,x∈l->x<n)->l.length<=n
 |0,l,_,h=>by
  cases l with
  |nil=>exact Nat.le_refl _
  |cons x l=>exact absurd (h x (by simp)) (Nat.not_lt_zero _)
 |n+1,l,hn,h=>by
  by_cases hm:n∈l
  ·have h1:=qf n (l.erase n) (hn.erase n) (fun x hx=>by
    have hx2:=(hn.mem_erase_iff).1 hx
    have:=h x hx2.2
    have:=hx2.1
    omega)
   have h2:=List.length_erase_of_mem hm
   omega
  ·have h1:=qf n l hn (fun x hx=>by
    have:=h x hx
    have:x≠n:=fun e=>hm (e▸hx)
    omega)
   omega
theorem Ow.Ok.len {h:Hp} {o:Ow} (ho:o.Ok h):o.cs.length<=h.cells.length:=
 qf _ _ ho.nd fun x hx=>by obtain⟨c,hc,_⟩:=ho.lt x hx;exact(List.getElem?_eq_some_iff.1 hc).1
theorem Ow.Ok.len_lt {h:Hp} {o:Ow} (ho:o.Ok h) {n:Nat} (hn:n∉o.cs) (hl:n<h.cells.length):o.cs.length<h.cells.length:=by
 have:=qf h.cells.length (n::o.cs) (List.nodup_cons.2 ⟨hn,ho.nd⟩) (fun x hx=>by
  rcases List.mem_cons.1 hx with rfl|hx
  ·exact hl
  ·obtain⟨c,hc,_⟩:=ho.lt x hx;exact(List.getElem?_eq_some_iff.1 hc).1)
 simp only[List.length_cons] at this
 omega
theorem Ow.Ok.enter {h:Hp} {o:Ow} (ho:o.Ok h) {n:Nat} {c:Cl} (hn:n∉o.cs) (hc:h.cells[n]? =some c) (hl:c.live=true):Ow.Ok h { o with cs:=o.cs++[n] } :=by
 refine⟨?_,?_,ho.and,ho.alt⟩
 ·show(o.cs++[n]).Nodup
  rw[List.nodup_append]
  refine⟨ho.nd,by simp,?_⟩
  intro a ha b hb
  simp at hb
  subst hb
  rintro rfl
  exact hn ha
 ·intro a ha
  rcases List.mem_append.1 ha with ha|ha
  ·exact ho.lt a ha
  ·simp at ha;subst ha;exact⟨c,hc,hl⟩
theorem Ow.Ok.arena {h:Hp} {o:Ow} (ho:o.Ok h) {m:Nat} (hm2:m∉o.ags) (hm:h.arenas[m]? =some true):Ow.Ok h { o with ags:=o.ags++[m] } :=by
 refine⟨ho.nd,ho.lt,?_,?_⟩
 ·show(o.ags++[m]).Nodup
  rw[List.nodup_append]
  refine⟨ho.and,by simp,?_⟩
  intro a ha b hb
  simp at hb
  subst hb
  rintro rfl
  exact hm2 ha
 ·intro a ha
  rcases List.mem_append.1 ha with ha|ha
  ·exact ho.alt a ha
  ·simp at ha;subst ha;exact hm
def bud (M:Nat) (h:Hp) (o:Ow):Nat:=o.ids.length+(h.cells.length - o.cs.length)*M
def jed (M:Nat) (h:Hp) (en:Nat->Ow->Option Ow):Prop:=∀ n o o',o.Ok h->(∃ c,h.cells[n]? =some c/\c.live=true)->en n o=some o'->bud M h o'<=bud M h o
theorem XL {M:Nat} {h:Hp} {en:Nat->Ow->Option Ow} (hk:gu h en) (hb:jed M h en):∀ (l:List Nat) (o o':Ow),o.Ok h->(∀ n,n∈l->∃ c,h.cells[n]? =some c/\c.live=true)->enL en l o=some o'->bud M h o'<=bud M h o
 | [],o,o',ho,_,he=>by rw[enL] at he;cases he;exact Nat.le_refl _
 |i::l,o,o',ho,hl,he=>by
  rw[enL] at he
  obtain⟨o1,h1,h2⟩:=Option.bind_eq_some_iff.1 he
  have g1:=hk i o o1 ho (hl i (by simp)) h1
  have g2:=hb i o o1 ho (hl i (by simp)) h1
  have g3:=XL hk hb l o1 o' g1.1 (fun n hn=>hl n (List.mem_cons_of_mem _ hn)) h2
  omega
mutual
theorem yY {M:Nat} {h:Hp} {en:Nat->Ow->Option Ow} (hk:gu h en) (hb:jed M h en):∀ (v:Vl) (o o':Ow),o.Ok h->jP h en v o=some o'->bud M h o'<=bud M h o+v.sz
 | .mk k id x n fs a b c,o,o',ho,he=>by
  have hsz:(Vl.mk k id x n fs a b c).sz=1+b.length+c.length+Vl.szL fs:=Vl.sz_eq _
  rw[jP] at he
  split at he
  ·have g:=xg hk hb fs _ o' (⟨ho.nd,ho.lt,ho.and,ho.alt⟩:Ow.Ok h { o with ids:=o.ids++[id] }) he
   have e:bud M h { o with ids:=o.ids++[id] } =bud M h o+1:=by simp[bud];omega
   omega
  ·split at he
   ·split at he
    ·rename_i hb1
     obtain⟨m,c,rfl,hc,hl,_⟩:=JX hb1
     have:=hb m o o' ho ⟨c,hc,hl⟩ he
     omega
    ·cases he
   ·split at he
    ·split at he
     ·rename_i hb1
      simp only[Bool.and_eq_true,Bool.not_eq_true',decide_eq_false_iff_not] at hb1
      obtain⟨m,rfl,hm⟩:=J6 hb1.1
      have g:=XL hk hb _ _ o' (ho.arena hb1.2 hm) (fun i hi=>by obtain⟨c,h1,h2,_⟩:=yS hi;exact⟨c,h1,h2⟩) he
      have e:bud M h { o with ags:=o.ags++[((m:Int)).toNat] } =bud M h o:=rfl
      omega
     ·cases he
    ·cases he;omega
theorem xg {M:Nat} {h:Hp} {en:Nat->Ow->Option Ow} (hk:gu h en) (hb:jed M h en):∀ (l:List Vl) (o o':Ow),o.Ok h->Jk h en l o=some o'->bud M h o'<=bud M h o+Vl.szL l
 | [],o,o',ho,he=>by rw[Jk] at he;cases he;omega
 |x::l,o,o',ho,he=>by
  rw[Jk] at he
  obtain⟨o1,h1,h2⟩:=Option.bind_eq_some_iff.1 he
  have g1:=jD hk x o o1 ho h1
  have g2:=yY hk hb x o o1 ho h1
  have g3:=xg hk hb l o1 o' g1.1 h2
  rw[Vl.szL]
  omega
end
theorem yb {M:Nat} {h:Hp} (hM:∀ c,c∈h.cells->c.v.sz<=M):∀ k,jed M h (jy h k)
 |0=>fun n o o' _ _ he=>by rw[jy] at he;cases he
 |k+1=>fun n o o' ho hn he=>by
  rw[jy] at he
  split at he
  ·cases he
  ·rename_i hnm
   obtain⟨c,hc,hl⟩:=hn
   rw[hc] at he
   simp only at he
   have g:=yY (jo h k) (yb hM k) c.v _ o' (ho.enter hnm hc hl) he
   have g1:=ho.len_lt hnm (List.getElem?_eq_some_iff.1 hc).1
   have g2:=hM c (List.mem_of_getElem? hc)
   have e:bud M h { o with cs:=o.cs++[n] } +M=bud M h o:=by
    unfold bud
    simp only[List.length_append,List.length_singleton]
    have:h.cells.length - o.cs.length=(h.cells.length - (o.cs.length+1))+1:=by omega
    rw[this,Nat.add_mul]
    omega
   omega

structure Fa where
 out:List Int
 cnt:Nat
 pan:Bool
def Fa.nil:Fa:=⟨[],0,false⟩
def Fa.add (f:Fa) (n:Int):Fa:=⟨if 0<n then f.out++[n] else f.out,f.cnt+1,decide (n<0)⟩
def gI (en:Nat->Fa->Fa):List Nat->Fa->Fa
 | [],f=>f
 |i::l,f=>gI en l (en i f)
mutual
def JK (d:List Int) (h:Hp) (en:Nat->Fa->Fa):Vl->Fa->Fa
 | .mk k id _ n fs _ _ _,f=>
  if f.pan then f
  else if k=2 then YP d h en fs (f.add (d.getD id.toNat 0))
  else if k=3 then en n.toNat f
  else if k=5 then gI en (Js h.cells n) f
  else f
def YP (d:List Int) (h:Hp) (en:Nat->Fa->Fa):List Vl->Fa->Fa
 | [],f=>f
 |x::l,f=>YP d h en l (JK d h en x f)
end
def JU (d:List Int) (h:Hp):Nat->Nat->Fa->Fa
 |0,_,f=>f
 |k+1,n,f=>match h.cells[n]? with
  |some c=>JK d h (JU d h k) c.v f
  |none=>f
def Gb (d:List Int) (h:Hp) (v:Vl):Fa:=JK d h (JU d h h.cells.length) v Fa.nil
theorem Yo {d:List Int} {h:Hp} {en:Nat->Fa->Fa} (v:Vl) (f:Fa) (hp:f.pan=true):JK d h en v f=f:=by cases v;rw[JK,if_pos hp]
def YB (l:List Cl):List Nat->List Cl
 | []=>l
 |n::m=>YB (l.set n Cl.zero) m
def ge (l:List Bool):List Nat->List Bool
 | []=>l
 |n::m=>ge (l.set n false) m
def j0 (h:Hp) (o:Ow):Hp:=⟨YB h.cells o.cs,ge h.arenas o.ags⟩
theorem gF:∀ (m:List Nat) (l:List Cl),(YB l m).length=l.length
 | [],l=>rfl
 |n::m,l=>by rw[YB,gF m,List.length_set]
theorem QR:∀ (m:List Nat) (l:List Bool),(ge l m).length=l.length
 | [],l=>rfl
 |n::m,l=>by rw[ge,QR m,List.length_set]
theorem gE:∀ (m:List Nat) (l:List Cl) (i:Nat),(YB l m)[i]? =if i∈m/\i<l.length then some Cl.zero else l[i]?
 | [],l,i=>by simp[YB]
 |n::m,l,i=>by
  rw[YB,gE m,List.length_set,List.getElem?_set]
  by_cases h1:i∈m
  ·by_cases h2:i<l.length
   ·simp[h1,h2]
   ·simp[h1,h2]
    intro e;omega
  ·by_cases h3:n=i
   ·subst h3
    by_cases h2:n<l.length
    ·simp[h1,h2]
    ·simp[h1,h2,List.getElem?_eq_none (show l.length<=n by omega)]
   ·have:¬ i=n:=fun e=>h3 e.symm
    simp[h1,h3,this]
theorem Um:∀ (m:List Nat) (l:List Bool) (i:Nat),(ge l m)[i]? =if i∈m/\i<l.length then some false else l[i]?
 | [],l,i=>by simp[ge]
 |n::m,l,i=>by
  rw[ge,Um m,List.length_set,List.getElem?_set]
  by_cases h1:i∈m
  ·by_cases h2:i<l.length
   ·simp[h1,h2]
   ·simp[h1,h2]
    intro e;omega
  ·by_cases h3:n=i
   ·subst h3
    by_cases h2:n<l.length
    ·simp[h1,h2]
    ·simp[h1,h2,List.getElem?_eq_none (show l.length<=n by omega)]
   ·have:¬ i=n:=fun e=>h3 e.symm
    simp[h1,h3,this]

theorem Qf {d:List Int} {h:Hp} {en:Nat->Fa->Fa} :∀ (l:List Vl) (f:Fa),YP d h en l f=l.foldl (fun f x=>JK d h en x f) f
 | [],f=>by rw[YP];rfl
 |x::l,f=>by rw[YP,Qf l,List.foldl_cons]
structure Fle (f:Fa) (o:Ow):Prop where
 out:f.out.length<=f.cnt
 cnt:f.cnt<=o.ids.length
theorem Fle.nil (o:Ow):Fle Fa.nil o:=⟨Nat.le_refl _,Nat.zero_le _⟩
theorem Fle.mono {f:Fa} {o o':Ow} (h:Fle f o) (hl:o.Le o'):Fle f o':=by
 obtain⟨l,e⟩:=hl.ids
 exact⟨h.out,by rw[e,List.length_append];have:=h.cnt;omega⟩
theorem Fle.add {f:Fa} {o:Ow} (h:Fle f o) (n id:Int):Fle (f.add n) { o with ids:=o.ids++[id] } :=by
 have h1:=h.out
 have h2:=h.cnt
 refine⟨?_,?_⟩
 ·show(if 0<n then f.out++[n] else f.out).length<=f.cnt+1
  split
  ·rw[List.length_append,List.length_singleton];omega
  ·omega
 ·show f.cnt+1<=(o.ids++[id]).length
  rw[List.length_append,List.length_singleton];omega
def EL (h:Hp) (en:Nat->Ow->Option Ow) (dn:Nat->Fa->Fa):Prop:=∀ n o o' f,o.Ok h->(∃ c,h.cells[n]? =some c/\c.live=true)->en n o=some o'->Fle f o->Fle (dn n f) o'
theorem jcp {h:Hp} {en:Nat->Ow->Option Ow} {dn:Nat->Fa->Fa} (hk:gu h en) (he:EL h en dn):∀ (l:List Nat) (o o':Ow) (f:Fa),o.Ok h->(∀ n,n∈l->∃ c,h.cells[n]? =some c/\c.live=true)->enL en l o=some o'->Fle f o->Fle (gI dn l f) o'
 | [],o,o',f,ho,_,hx,hf=>by rw[enL] at hx;cases hx;exact hf
 |i::l,o,o',f,ho,hl,hx,hf=>by
  rw[enL] at hx
  obtain⟨o1,h1,h2⟩:=Option.bind_eq_some_iff.1 hx
  exact jcp hk he l o1 o' _ (hk i o o1 ho (hl i (by simp)) h1).1 (fun n hn=>hl n (List.mem_cons_of_mem _ hn)) h2 (he i o o1 f ho (hl i (by simp)) h1 hf)
mutual
theorem G5 {d:List Int} {h:Hp} {en:Nat->Ow->Option Ow} {dn:Nat->Fa->Fa} (hk:gu h en) (he:EL h en dn):∀ (v:Vl) (o o':Ow) (f:Fa),o.Ok h->jP h en v o=some o'->Fle f o->Fle (JK d h dn v f) o'
 | .mk k id x n fs a b c,o,o',f,ho,hx,hf=>by
  by_cases hp:f.pan=true
  ·rw[Yo _ f hp]
   exact hf.mono (jD hk _ o o' ho hx).2
  rw[JK,if_neg hp]
  rw[jP] at hx
  split at hx
  ·rename_i h2
   rw[if_pos h2]
   exact Uq hk he fs { o with ids:=o.ids++[id] } o' _ ⟨ho.nd,ho.lt,ho.and,ho.alt⟩ hx (hf.add _ id)
  ·rename_i h2
   rw[if_neg h2]
   split at hx
   ·rename_i h3
    rw[if_pos h3]
    split at hx
    ·rename_i hb
     obtain⟨m,c,rfl,hc,hl,_⟩:=JX hb
     exact he m o o' f ho ⟨c,hc,hl⟩ hx hf
    ·cases hx
   ·rename_i h3
    rw[if_neg h3]
    split at hx
    ·rename_i h5
     rw[if_pos h5]
     split at hx
     ·rename_i hb
      simp only[Bool.and_eq_true,Bool.not_eq_true',decide_eq_false_iff_not] at hb
      obtain⟨m,rfl,hm⟩:=J6 hb.1
      have hm2:m∉o.ags:=hb.2
      exact jcp hk he _ _ o' f (ho.arena hm2 hm) (fun i hi=>by obtain⟨c,h1,h2,_⟩:=yS hi;exact⟨c,h1,h2⟩) hx ⟨hf.out,hf.cnt⟩
     ·cases hx
    ·rename_i h5
     rw[if_neg h5]
     cases hx
     exact hf
theorem Uq {d:List Int} {h:Hp} {en:Nat->Ow->Option Ow} {dn:Nat->Fa->Fa} (hk:gu h en) (he:EL h en dn):∀ (l:List Vl) (o o':Ow) (f:Fa),o.Ok h->Jk h en l o=some o'->Fle f o->Fle (YP d h dn l f) o'
 | [],o,o',f,ho,hx,hf=>by rw[Jk] at hx;cases hx;rw[YP];exact hf
 |v::l,o,o',f,ho,hx,hf=>by
  rw[Jk] at hx
  obtain⟨o1,h1,h2⟩:=Option.bind_eq_some_iff.1 hx
  rw[YP]
  exact Uq hk he l o1 o' _ (jD hk v o o1 ho h1).1 h2 (G5 hk he v o o1 f ho h1 hf)
end
theorem G4 {d:List Int} {h:Hp} :∀ k,EL h (jy h k) (JU d h k)
 |0,n,o,o',f,ho,hc,hx,hf=>by rw[jy] at hx;cases hx
 |k+1,n,o,o',f,ho,⟨c,hc,hl⟩,hx,hf=>by
  rw[jy] at hx
  split at hx
  ·cases hx
  ·rename_i hn
   rw[hc] at hx
   rw[JU,hc]
   exact G5 (jo h k) (G4 k) c.v _ o' f (ho.enter hn hc hl) hx ⟨hf.out,hf.cnt⟩
end Go.Hv
