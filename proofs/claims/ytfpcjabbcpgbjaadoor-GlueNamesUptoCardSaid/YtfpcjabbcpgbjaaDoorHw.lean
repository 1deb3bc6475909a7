/- A part of the proof: an abstract machine for the walks, and what the walked functions compute. -/
import Derived.Test.YtfpcjabbcpgbjaaDoorHv
set_option linter.unusedVariables false
set_option linter.unusedSimpArgs false
namespace Go.Hv
open Go Go.Am
structure Ow where
 cs:List Nat
 ags:List Nat
 ids:List Int
def Ow.nil:Ow:=⟨[],[],[]⟩
def boxOk (h:Hp) (n:Int):Bool:=decide (0≤n)&&(match h.cells[n.toNat]? with|some c=>c.live&&(c.arena== -1)|none=>false)
def arenaOk (h:Hp) (n:Int):Bool:=decide (0≤n)&&(h.arenas[n.toNat]? ==some true)
def inArena (l:List Cl) (n:Int):List Nat:=(List.range l.length).filter fun i=>match l[i]? with|some c=>c.live&&(c.arena==n)|none=>false
def enL (en:Nat→Ow→Option Ow):List Nat→Ow→Option Ow
 | [],o=>some o
 |i::l,o=>(en i o).bind (enL en l)
mutual
def visV (h:Hp) (en:Nat→Ow→Option Ow):Vl→Ow→Option Ow
 | .mk k id _ n fs _ _ _,o=>
  if k=2 then visL h en fs { o with ids:=o.ids++[id] }
  else if k=3 then(if boxOk h n then en n.toNat o else none)
  else if k=5 then(if arenaOk h n&&!decide (n.toNat∈o.ags) then enL en (inArena h.cells n) { o with ags:=o.ags++[n.toNat] } else none)
  else some o
def visL (h:Hp) (en:Nat→Ow→Option Ow):List Vl→Ow→Option Ow
 | [],o=>some o
 |x::l,o=>(visV h en x o).bind (visL h en l)
end
def visE (h:Hp):Nat→Nat→Ow→Option Ow
 |0,_,_=>none
 |k+1,n,o=>if n∈o.cs then none else match h.cells[n]? with
  |some c=>visV h (visE h k) c.v { o with cs:=o.cs++[n] }
  |none=>none
def walkS (h:Hp) (v:Vl):Option Ow:=visV h (visE h h.cells.length) v Ow.nil
structure Ow.Ok (h:Hp) (o:Ow):Prop where
 nd:o.cs.Nodup
 lt:∀ n,n∈o.cs→∃ c,h.cells[n]? =some c∧c.live=true
 and:o.ags.Nodup
 alt:∀ n,n∈o.ags→h.arenas[n]? =some true
theorem Ow.nil_ok (h:Hp):Ow.nil.Ok h:=⟨List.nodup_nil,(fun _ h=>by cases h),List.nodup_nil,(fun _ h=>by cases h)⟩
structure Ow.Le (o o':Ow):Prop where
 cs:∃ l,o'.cs=o.cs++l
 ags:∃ l,o'.ags=o.ags++l
 ids:∃ l,o'.ids=o.ids++l
theorem Ow.Le.refl (o:Ow):o.Le o:=⟨⟨[],by simp⟩,⟨[],by simp⟩,⟨[],by simp⟩⟩
theorem Ow.Le.trans {a b c:Ow} (h1:a.Le b) (h2:b.Le c):a.Le c:=by
 obtain⟨⟨l1,e1⟩,⟨l2,e2⟩,⟨l3,e3⟩⟩:=h1
 obtain⟨⟨m1,f1⟩,⟨m2,f2⟩,⟨m3,f3⟩⟩:=h2
 exact⟨⟨l1++m1,by rw[f1,e1,List.append_assoc]⟩,⟨l2++m2,by rw[f2,e2,List.append_assoc]⟩,⟨l3++m3,by rw[f3,e3,List.append_assoc]⟩⟩
def Keeps (h:Hp) (en:Nat→Ow→Option Ow):Prop:=∀ n o o',o.Ok h→(∃ c,h.cells[n]? =some c∧c.live=true)→en n o=some o'→o'.Ok h∧o.Le o'
theorem enL_keeps {h:Hp} {en:Nat→Ow→Option Ow} (hen:Keeps h en):∀ (l:List Nat) (o o':Ow),o.Ok h→(∀ n,n∈l→∃ c,h.cells[n]? =some c∧c.live=true)→enL en l o=some o'→o'.Ok h∧o.Le o'
 | [],o,o',ho,_,he=>by rw[enL] at he;cases he;exact⟨ho,Ow.Le.refl _⟩
 |i::l,o,o',ho,hl,he=>by
  rw[enL] at he
  obtain⟨o1,h1,h2⟩:=Option.bind_eq_some_iff.1 he
  obtain⟨g1,g2⟩:=hen i o o1 ho (hl i (by simp)) h1
  obtain⟨g3,g4⟩:=enL_keeps hen l o1 o' g1 (fun n hn=>hl n (List.mem_cons_of_mem _ hn)) h2
  exact⟨g3,g2.trans g4⟩
theorem inArena_mem {l:List Cl} {n:Int} {i:Nat} (h:i∈inArena l n):∃ c,l[i]? =some c∧c.live=true∧c.arena=n:=by
 unfold inArena at h
 obtain⟨_,h2⟩:=List.mem_filter.1 h
 split at h2
 ·rename_i c hc
  simp only[Bool.and_eq_true,beq_iff_eq] at h2
  exact⟨c,hc,h2.1,h2.2⟩
 ·cases h2
theorem boxOk_spec {h:Hp} {n:Int} (hb:boxOk h n=true):∃ m c,n=(m:Nat)∧h.cells[m]? =some c∧c.live=true∧c.arena= -1:=by
 unfold boxOk at hb
 simp only[Bool.and_eq_true,decide_eq_true_eq] at hb
 obtain⟨h1,h2⟩:=hb
 split at h2
 ·rename_i c hc
  simp only[Bool.and_eq_true,beq_iff_eq] at h2
  exact⟨n.toNat,c,by omega,hc,h2.1,h2.2⟩
 ·cases h2
theorem arenaOk_spec {h:Hp} {n:Int} (hb:arenaOk h n=true):∃ m:Nat,n=m∧h.arenas[m]? =some true:=by
 unfold arenaOk at hb
 simp only[Bool.and_eq_true,decide_eq_true_eq,beq_iff_eq] at hb
 exact⟨n.toNat,by omega,hb.2⟩
mutual
theorem visV_keeps {h:Hp} {en:Nat→Ow→Option Ow} (hen:Keeps h en):∀ (v:Vl) (o o':Ow),o.Ok h→visV h en v o=some o'→o'.Ok h∧o.Le o'
 | .mk k id x n fs a b c,o,o',ho,he=>by
  rw[visV] at he
  split at he
  ·obtain⟨g1,g2⟩:=visL_keeps hen fs _ o' (⟨ho.nd,ho.lt,ho.and,ho.alt⟩:Ow.Ok h { o with ids:=o.ids++[id] }) he
   exact⟨g1,Ow.Le.trans ⟨⟨[],by simp⟩,⟨[],by simp⟩,⟨[id],rfl⟩⟩ g2⟩
  ·split at he
   ·split at he
    ·rename_i hb
     obtain⟨m,c,rfl,hc,hl,_⟩:=boxOk_spec hb
     exact hen m o o' ho ⟨c,hc,hl⟩ he
    ·cases he
   ·split at he
    ·split at he
     ·rename_i hb
      simp only[Bool.and_eq_true,Bool.not_eq_true',decide_eq_false_iff_not] at hb
      obtain⟨m,rfl,hm⟩:=arenaOk_spec hb.1
      have hm2:m∉o.ags:=hb.2
      have ho2:Ow.Ok h { o with ags:=o.ags++[m] } :=by
       refine⟨ho.nd,ho.lt,?_,?_⟩
       ·show(o.ags++[m]).Nodup
        rw[List.nodup_append]
        refine⟨ho.and,by simp,?_⟩
        intro a ha b hb
        simp at hb
        subst hb
        rintro rfl
        exact hm2 ha
       ·intro a ha
        rcases List.mem_append.1 ha with ha|ha
        ·exact ho.alt a ha
        ·simp at ha;subst ha;exact hm
      obtain⟨g1,g2⟩:=enL_keeps hen _ _ o' ho2 (fun i hi=>by obtain⟨c,h1,h2,_⟩:=inArena_mem hi;exact⟨c,h1,h2⟩) he
      exact⟨g1,Ow.Le.trans ⟨⟨[],by simp⟩,⟨[m],rfl⟩,⟨[],by simp⟩⟩ g2⟩
     ·cases he
    ·cases he;exact⟨ho,Ow.Le.refl _⟩
theorem visL_keeps {h:Hp} {en:Nat→Ow→Option Ow} (hen:Keeps h en):∀ (l:List Vl) (o o':Ow),o.Ok h→visL h en l o=some o'→o'.Ok h∧o.Le o'
 | [],o,o',ho,he=>by rw[visL] at he;cases he;exact⟨ho,Ow.Le.refl _⟩
 |x::l,o,o',ho,he=>by
  rw[visL] at he
  obtain⟨o1,h1,h2⟩:=Option.bind_eq_some_iff.1 he
  obtain⟨g1,g2⟩:=visV_keeps hen x o o1 ho h1
  obtain⟨g3,g4⟩:=visL_keeps hen l o1 o' g1 h2
  exact⟨g3,g2.trans g4⟩
end
theorem visE_keeps (h:Hp):∀ k,Keeps h (visE h k)
 |0=>fun n o o' _ _ he=>by rw[visE] at he;cases he
 |k+1=>fun n o o' ho hn he=>by
  rw[visE] at he
  split at he
  ·cases he
  ·rename_i hnm
   obtain⟨c,hc,hl⟩:=hn
   rw[hc] at he
   simp only at he
   have ho2:Ow.Ok h { o with cs:=o.cs++[n] } :=by
    refine⟨?_,?_,ho.and,ho.alt⟩
    ·show(o.cs++[n]).Nodup
     rw[List.nodup_append]
     refine⟨ho.nd,by simp,?_⟩
     intro a ha b hb
     simp at hb
     subst hb
     rintro rfl
     exact hnm ha
    ·intro a ha
     rcases List.mem_append.1 ha with ha|ha
     ·exact ho.lt a ha
     ·simp at ha;subst ha;exact⟨c,hc,hl⟩
   obtain⟨g1,g2⟩:=visV_keeps (visE_keeps h k) c.v _ o' ho2 he
   exact⟨g1,Ow.Le.trans ⟨⟨[n],rfl⟩,⟨[],by simp⟩,⟨[],by simp⟩⟩ g2⟩

theorem nodup_lt:∀ (n:Nat) (l:List Nat),l.Nodup→(∀ x,x∈l→x<n)→l.length≤n
 |0,l,_,h=>by
  cases l with
  |nil=>exact Nat.le_refl _
  |cons x l=>exact absurd (h x (by simp)) (Nat.not_lt_zero _)
 |n+1,l,hn,h=>by
  by_cases hm:n∈l
  ·have h1:=nodup_lt n (l.erase n) (hn.erase n) (fun x hx=>by
    have hx2:=(hn.mem_erase_iff).1 hx
    have:=h x hx2.2
    have:=hx2.1
    omega)
   have h2:=List.length_erase_of_mem hm
   omega
  ·have h1:=nodup_lt n l hn (fun x hx=>by
    have:=h x hx
    have:x≠n:=fun e=>hm (e▸hx)
    omega)
   omega
theorem Ow.Ok.len {h:Hp} {o:Ow} (ho:o.Ok h):o.cs.length≤h.cells.length:=
 nodup_lt _ _ ho.nd fun x hx=>by obtain⟨c,hc,_⟩:=ho.lt x hx;exact(List.getElem?_eq_some_iff.1 hc).1
theorem Ow.Ok.len_lt {h:Hp} {o:Ow} (ho:o.Ok h) {n:Nat} (hn:n∉o.cs) (hl:n<h.cells.length):o.cs.length<h.cells.length:=by
 have:=nodup_lt h.cells.length (n::o.cs) (List.nodup_cons.2 ⟨hn,ho.nd⟩) (fun x hx=>by
  rcases List.mem_cons.1 hx with rfl|hx
  ·exact hl
  ·obtain⟨c,hc,_⟩:=ho.lt x hx;exact(List.getElem?_eq_some_iff.1 hc).1)
 simp only[List.length_cons] at this
 omega
theorem Ow.Ok.enter {h:Hp} {o:Ow} (ho:o.Ok h) {n:Nat} {c:Cl} (hn:n∉o.cs) (hc:h.cells[n]? =some c) (hl:c.live=true):Ow.Ok h { o with cs:=o.cs++[n] } :=by
 refine⟨?_,?_,ho.and,ho.alt⟩
 ·show(o.cs++[n]).Nodup
  rw[List.nodup_append]
  refine⟨ho.nd,by simp,?_⟩
  intro a ha b hb
  simp at hb
  subst hb
  rintro rfl
  exact hn ha
 ·intro a ha
  rcases List.mem_append.1 ha with ha|ha
  ·exact ho.lt a ha
  ·simp at ha;subst ha;exact⟨c,hc,hl⟩
theorem Ow.Ok.arena {h:Hp} {o:Ow} (ho:o.Ok h) {m:Nat} (hm2:m∉o.ags) (hm:h.arenas[m]? =some true):Ow.Ok h { o with ags:=o.ags++[m] } :=by
 refine⟨ho.nd,ho.lt,?_,?_⟩
 ·show(o.ags++[m]).Nodup
  rw[List.nodup_append]
  refine⟨ho.and,by simp,?_⟩
  intro a ha b hb
  simp at hb
  subst hb
  rintro rfl
  exact hm2 ha
 ·intro a ha
  rcases List.mem_append.1 ha with ha|ha
  ·exact ho.alt a ha
  ·simp at ha;subst ha;exact hm
def bud (M:Nat) (h:Hp) (o:Ow):Nat:=o.ids.length+(h.cells.length - o.cs.length)*M
def BudE (M:Nat) (h:Hp) (en:Nat→Ow→Option Ow):Prop:=∀ n o o',o.Ok h→(∃ c,h.cells[n]? =some c∧c.live=true)→en n o=some o'→bud M h o'≤bud M h o
theorem enL_bud {M:Nat} {h:Hp} {en:Nat→Ow→Option Ow} (hk:Keeps h en) (hb:BudE M h en):∀ (l:List Nat) (o o':Ow),o.Ok h→(∀ n,n∈l→∃ c,h.cells[n]? =some c∧c.live=true)→enL en l o=some o'→bud M h o'≤bud M h o
 | [],o,o',ho,_,he=>by rw[enL] at he;cases he;exact Nat.le_refl _
 |i::l,o,o',ho,hl,he=>by
  rw[enL] at he
  obtain⟨o1,h1,h2⟩:=Option.bind_eq_some_iff.1 he
  have g1:=hk i o o1 ho (hl i (by simp)) h1
  have g2:=hb i o o1 ho (hl i (by simp)) h1
  have g3:=enL_bud hk hb l o1 o' g1.1 (fun n hn=>hl n (List.mem_cons_of_mem _ hn)) h2
  omega
mutual
theorem visV_bud {M:Nat} {h:Hp} {en:Nat→Ow→Option Ow} (hk:Keeps h en) (hb:BudE M h en):∀ (v:Vl) (o o':Ow),o.Ok h→visV h en v o=some o'→bud M h o'≤bud M h o+v.sz
 | .mk k id x n fs a b c,o,o',ho,he=>by
  have hsz:(Vl.mk k id x n fs a b c).sz=1+b.length+c.length+Vl.szL fs:=Vl.sz_eq _
  rw[visV] at he
  split at he
  ·have g:=visL_bud hk hb fs _ o' (⟨ho.nd,ho.lt,ho.and,ho.alt⟩:Ow.Ok h { o with ids:=o.ids++[id] }) he
   have e:bud M h { o with ids:=o.ids++[id] } =bud M h o+1:=by simp[bud];omega
   omega
  ·split at he
   ·split at he
    ·rename_i hb1
     obtain⟨m,c,rfl,hc,hl,_⟩:=boxOk_spec hb1
     have:=hb m o o' ho ⟨c,hc,hl⟩ he
     omega
    ·cases he
   ·split at he
    ·split at he
     ·rename_i hb1
      simp only[Bool.and_eq_true,Bool.not_eq_true',decide_eq_false_iff_not] at hb1
      obtain⟨m,rfl,hm⟩:=arenaOk_spec hb1.1
      have g:=enL_bud hk hb _ _ o' (ho.arena hb1.2 hm) (fun i hi=>by obtain⟨c,h1,h2,_⟩:=inArena_mem hi;exact⟨c,h1,h2⟩) he
      have e:bud M h { o with ags:=o.ags++[((m:Int)).toNat] } =bud M h o:=rfl
      omega
     ·cases he
    ·cases he;omega
theorem visL_bud {M:Nat} {h:Hp} {en:Nat→Ow→Option Ow} (hk:Keeps h en) (hb:BudE M h en):∀ (l:List Vl) (o o':Ow),o.Ok h→visL h en l o=some o'→bud M h o'≤bud M h o+Vl.szL l
 | [],o,o',ho,he=>by rw[visL] at he;cases he;omega
 |x::l,o,o',ho,he=>by
  rw[visL] at he
  obtain⟨o1,h1,h2⟩:=Option.bind_eq_some_iff.1 he
  have g1:=visV_keeps hk x o o1 ho h1
  have g2:=visV_bud hk hb x o o1 ho h1
  have g3:=visL_bud hk hb l o1 o' g1.1 h2
  rw[Vl.szL]
  omega
end
theorem visE_bud {M:Nat} {h:Hp} (hM:∀ c,c∈h.cells→c.v.sz≤M):∀ k,BudE M h (visE h k)
 |0=>fun n o o' _ _ he=>by rw[visE] at he;cases he
 |k+1=>fun n o o' ho hn he=>by
  rw[visE] at he
  split at he
  ·cases he
  ·rename_i hnm
   obtain⟨c,hc,hl⟩:=hn
   rw[hc] at he
   simp only at he
   have g:=visV_bud (visE_keeps h k) (visE_bud hM k) c.v _ o' (ho.enter hnm hc hl) he
   have g1:=ho.len_lt hnm (List.getElem?_eq_some_iff.1 hc).1
   have g2:=hM c (List.mem_of_getElem? hc)
   have e:bud M h { o with cs:=o.cs++[n] } +M=bud M h o:=by
    unfold bud
    simp only[List.length_append,List.length_singleton]
    have:h.cells.length - o.cs.length=(h.cells.length - (o.cs.length+1))+1:=by omega
    rw[this,Nat.add_mul]
    omega
   omega

structure Fa where
 out:List Int
 cnt:Nat
 pan:Bool
def Fa.nil:Fa:=⟨[],0,false⟩
def Fa.add (f:Fa) (n:Int):Fa:=⟨if 0<n then f.out++[n] else f.out,f.cnt+1,decide (n<0)⟩
end Go.Hv
