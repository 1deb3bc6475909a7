/- A part of the proof: an abstract machine for the walks, and what the walked functions compute. -/
import Derived.Test.YtffmphmiicnaeaaDoorMf
set_option linter.unusedVariables false
set_option linter.unusedSimpArgs false
namespace Go.Am
open Go
variable {P:Program} {E:En} {σ:St} {Q:AEx→St→Prop}
def stepsI (P:Program) (ds:List (Option Nat)) (I:(Nat→Bool)→St→Prop) (Kp:AV→St→Prop):Nat→List Oper→Prop
 |_,[]=>True
 |k,o::r=>(∀ D σ,D k=false→(o.after.toList.all fun e=>!Region.binds .any e||D e.on)=true→I D σ→goG P true none ds k o σ (fun σ'=>I (fun j=>D j||j==k) σ') Kp)∧stepsI P ds I Kp (k+1) r
theorem stepsI_get {ds : List (Option Nat)} {I : (Nat → Bool) → St → Prop} {Kp : AV → St → Prop} (l : List Oper) : ∀ (k i : Nat) (o : Oper), stepsI P ds I Kp k l → l[i]? = some o →
    ∀ D σ,D (k+i)=false→(o.after.toList.all fun e=>!Region.binds .any e||D e.on)=true→I D σ→goG P true none ds (k+i) o σ (fun σ'=>I (fun j=>D j||j==(k+i)) σ') Kp:=by
  induction l with
  |nil=>intro k i o h ho;cases ho
  |cons x l ih=>
    intro k i o h ho
    cases i with
    |zero=>
      simp only[List.getElem?_cons_zero,Option.some.injEq] at ho
      subst ho
      exact h.1
    |succ i=>
      simp only[List.getElem?_cons_succ] at ho
      have:=ih (k+1) i o h.2 ho
      have e:k+1+i=k+(i+1):=by omega
      rw[e] at this
      exact this
theorem any_filter {r:List (Oper×Nat)} {i j:Nat} :(r.filter fun q=>q.2 !=i).any (fun q=>q.2==j)=(!(j==i)&&r.any fun q=>q.2==j):=by
 induction r with
 |nil=>simp
 |cons p r ih=>
  by_cases h:p.2=i
  ·rw[List.filter_cons_of_neg (by simp[h]),ih,List.any_cons]
   by_cases h2:p.2=j
   ·have:j=i:=h2.symm.trans h
    simp[this]
   ·have e1:(p.2==j)=false:=by simpa using h2
    rw[e1,Bool.false_or]
  ·rw[List.filter_cons_of_pos (by simp[h]),List.any_cons,List.any_cons,ih]
   by_cases h2:p.2=j
   ·have e1:(j==i)=false:=by simpa [h2] using fun e=>h (h2.trans e)
    simp[e1]
   ·have e1:(p.2==j)=false:=by simpa using h2
    rw[e1];simp
theorem goAll_inv {ds : List (Option Nat)} {ops : List Oper} {I : (Nat → Bool) → St → Prop} {K : St → Prop} {Kp : AV → St → Prop} (hI : ∀ D D' σ, (∀ j, D j = D' j) → I D σ → I D' σ) (hs : stepsI P ds I Kp 0 ops) (hfin : ∀ σ D, (∀ j, D j = true) → I D σ → K σ) :
    ∀ (n:Nat) (r:List (Oper×Nat)) (σ:St),r.length≤n→(∀ p,p∈r→ops[p.2]? =some p.1)→I (fun j=>!(r.any fun q=>q.2==j)) σ→goAll P ds n r σ K Kp
  |0,r,σ,hn,hr,h=>by
    have:r=[]:=List.eq_nil_of_length_eq_zero (by omega)
    subst this
    exact⟨rfl,hfin _ _ (fun j=>by simp) h⟩
  |n+1,r,σ,hn,hr,h=>by
    rw[goAll]
    split
    · rename_i e
      subst e
      exact hfin _ _ (fun j=>by simp) h
    · intro p hp
      have hpr:p∈r:=by unfold readyR at hp;exact(List.mem_filter.1 hp).1
      have hrd:(p.1.after.toList.all fun e=>!Region.binds .any e||!(r.any fun q=>q.2==e.on))=true:=by unfold readyR at hp;exact(List.mem_filter.1 hp).2
      have hg:=stepsI_get _ 0 _ _ hs (hr p hpr) (fun j=>!(r.any fun q=>q.2==j)) σ (by
        simp only[Nat.zero_add,Bool.not_eq_false',List.any_eq_true]
        exact⟨p,hpr,by simp⟩) hrd h
      rw[Nat.zero_add] at hg
      refine goG_monoB (fun σ' h'=>goAll_inv hI hs hfin n _ σ' ?_ (fun q hq=>hr q (List.mem_filter.1 hq).1) (hI _ _ _ (fun j=>?_) h')) hg
      · have : (r.filter fun q => q.2 != p.2).length < r.length := by
          rw[← List.countP_eq_length_filter]
          refine Nat.lt_of_le_of_ne List.countP_le_length fun e=>?_
          have:=(List.countP_eq_length.1 e) p hpr
          simp at this
        omega
      · simp only[any_filter]
        rw[Bool.or_comm]
        by_cases e:j=p.2
        · simp[e]
        · simp[e]
theorem K_inv {N n : Nat} {id : Nat} {l : List Oper} {fs : List Fm} {ds : List (Option Nat)} {fr : Nat → Option AV} {hp : Nat → Option AObj} {nx : Nat} (I : (Nat → Bool) → St → Prop) (hm : P.follows .mixedOrders = true) (hE : E.nt = N)
    (hI:∀ D D' σ,(∀ j,D j=D' j)→I D σ→I D' σ)
    (h0:I (fun j=>decide (n≤j)) ⟨fr,hp,nx⟩)
    (hs:∀ (Kp:AV→St→Prop),(∀ x σ',Q (.pan x) σ'→Kp x σ')→stepsI P ds I Kp 0 l)
    (hfin:∀ σ D,(∀ j,D j=true)→I D σ→Kq P E fs Q .norm ⟨σ.fr,σ.hp,nx+1048576*n⟩)
    (hn:l.length=n:=by(simp only[List.length_cons,List.length_nil,Nat.reduceAdd];rfl)) (hd:dstOk N l.toArray=true:=by rfl) (hback:okBack l.toArray=true:=by rfl) (hds:l.map (·.dst)=ds:=by(simp only[List.map_cons,List.map_nil];rfl)):
    AW P E (.region id l.toArray true) (Kq P E fs Q) ⟨fr,hp,nx⟩:=by
  subst hn
  subst hds
  refine AW_drawAll hm (by rw[hE];exact hd) hback ?_
  refine goAll_inv (ops:=l) hI (hs (fun x σ'=>Kq P E fs Q (.pan x) σ') fun x σ' h=>Kq_pan h) (fun σ D hD hi=>hfin σ D hD hi) _ _ _ (by simp) ?_ ?_
  · rintro⟨o,i⟩ hp
    have:=List.mem_zipIdx hp
    simp only at this ⊢
    obtain⟨_,h2,h3⟩:=this
    simp only[Nat.zero_add,Nat.sub_zero] at h2 h3
    rw[h3];simp[h2]
  · refine hI _ _ _ (fun j=>?_) h0
    by_cases hj:j<l.length
    · have h1 : (l.zipIdx.any fun q => q.2 == j) = true := by
        rw[List.any_eq_true]
        exact⟨(l[j],j),by rw[List.mem_zipIdx_iff_getElem?];simp[hj],by simp⟩
      have h2:decide (l.length≤j)=false:=by simp;omega
      simp only[List.toList_toArray] at*
      rw[h1,h2];rfl
    · have h1 : (l.zipIdx.any fun q => q.2 == j) = false := by
        rw[List.any_eq_false]
        rintro⟨o,i⟩ hp
        have:=List.mem_zipIdx hp
        simp only[beq_iff_eq]
        omega
      have h2:decide (l.length≤j)=true:=by simp;omega
      simp only[List.toList_toArray] at*
      rw[h1,h2];rfl
theorem K_stop (n:Nat) {l:Array Oper} {b:Bool} {K:AEx→St→Prop} (h:AW P E (.region n l b) K σ):AW P E (.region n l b) K σ:=h
end Go.Am
