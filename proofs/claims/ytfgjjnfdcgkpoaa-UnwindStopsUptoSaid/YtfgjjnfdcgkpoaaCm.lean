/- A part of the proof: an abstract machine for the walks, and what the walked functions compute. -/
import Derived.Test.YtfgjjnfdcgkpoaaCl
import Derived.Test.YtfgjjnfdcgkpoaaMr
import Derived.Test.YtfgjjnfdcgkpoaaMi
import Derived.Test.YtfgjjnfdcgkpoaaMt
import Derived.Test.YtfgjjnfdcgkpoaaMq
import Derived.Test.YtfgjjnfdcgkpoaaMv
set_option linter.unusedVariables false
set_option linter.unusedSimpArgs false
set_option maxHeartbeats 4000000
set_option maxRecDepth 100000
namespace Go.Proofs.Ytfgjjnfdcgkpoaa
open Go.Am Go.Proofs Go.Hv
open Classical
attribute [local irreducible] AW CallP CallB
theorem nan_call (n:Int):PCall Try.prog 61 [.i n] (.bool false):=by
 have q:(n !=n)=false:=by simp
 refine PCall.intro Try.func61 rfl isf61 (by simp[Try.f61]) (by simp[AV.cloL,AV.clo]) fun E Q hE hN hQ=>K_start ?_
 repeat'(first|apply nx|refine zx ?_|rw[zw]|((first|refine hK _ ?_|refine hKp _ _ ?_);clear hK hKp K Kp;try clear hanc anc)|((with_reducible refine And.intro ?_ ?_);exact zb)|((first|refine zr hE fun K Kp hK hKp=>?_|refine zd false mixed hE fun K Kp hK hKp anc hanc=>?_);simp only[go_sem,q])|(refine zg (fun hg=>?_) (fun hg=>?_)<;>simp only[go_sem,q,hg])|(refine zc (fun hc=>?_) (fun hc=>?_)<;>try exact zh hc)|(refine K_ret ?_;refine zt hQ ?_))
 simp[AV.snap]
def cmpI (x y:Int):Int:=if x<y then -1 else if x>y then 1 else 0
theorem compare_call (x y:Int):PCall Try.prog 45 [.i x,.i y] (.i (cmpI x y)):=by
 have c1:=nan_call x
 have c2:=nan_call y
 unfold cmpI
 by_cases h1:x<y
 ·have q1:decide (x<y)=true:=decide_eq_true h1
  rw[if_pos h1]
  refine PCall.intro Try.func45 rfl isf45 (by simp[Try.f45]) (by simp[AV.cloL,AV.clo]) fun E Q hE hN hQ=>K_start ?_
  repeat'(first|apply nx|refine zx ?_|rw[zw]|((first|refine hK _ ?_|refine hKp _ _ ?_);clear hK hKp K Kp;try clear hanc anc)|((with_reducible refine And.intro ?_ ?_);exact zb)|((first|refine zr hE fun K Kp hK hKp=>?_|refine zd false mixed hE fun K Kp hK hKp anc hanc=>?_|(apply zm;exact zu;(first|exact c1|exact c2);exact zs;exact zl));simp only[go_sem,q1])|(refine zg (fun hg=>?_) (fun hg=>?_)<;>simp only[go_sem,q1,hg])|(refine zc (fun hc=>?_) (fun hc=>?_)<;>try exact zh hc)|(refine K_ret ?_;refine zt hQ ?_))
  simp[AV.snap]
 have q1:decide (x<y)=false:=decide_eq_false h1
 rw[if_neg h1]
 by_cases h2:x>y
 ·have q2:decide (x>y)=true:=decide_eq_true h2
  rw[if_pos h2]
  refine PCall.intro Try.func45 rfl isf45 (by simp[Try.f45]) (by simp[AV.cloL,AV.clo]) fun E Q hE hN hQ=>K_start ?_
  repeat'(first|apply nx|refine zx ?_|rw[zw]|((first|refine hK _ ?_|refine hKp _ _ ?_);clear hK hKp K Kp;try clear hanc anc)|((with_reducible refine And.intro ?_ ?_);exact zb)|((first|refine zr hE fun K Kp hK hKp=>?_|refine zd false mixed hE fun K Kp hK hKp anc hanc=>?_|(apply zm;exact zu;(first|exact c1|exact c2);exact zs;exact zl));simp only[go_sem,q1,q2])|(refine zg (fun hg=>?_) (fun hg=>?_)<;>simp only[go_sem,q1,q2,hg])|(refine zc (fun hc=>?_) (fun hc=>?_)<;>try exact zh hc)|(refine K_ret ?_;refine zt hQ ?_))
  simp[AV.snap]
 ·have q2:decide (x>y)=false:=decide_eq_false h2
  rw[if_neg h2]
  refine PCall.intro Try.func45 rfl isf45 (by simp[Try.f45]) (by simp[AV.cloL,AV.clo]) fun E Q hE hN hQ=>K_start ?_
  repeat'(first|apply nx|refine zx ?_|rw[zw]|((first|refine hK _ ?_|refine hKp _ _ ?_);clear hK hKp K Kp;try clear hanc anc)|((with_reducible refine And.intro ?_ ?_);exact zb)|((first|refine zr hE fun K Kp hK hKp=>?_|refine zd false mixed hE fun K Kp hK hKp anc hanc=>?_|(apply zm;exact zu;(first|exact c1|exact c2);exact zs;exact zl));simp only[go_sem,q1,q2])|(refine zg (fun hg=>?_) (fun hg=>?_)<;>simp only[go_sem,q1,q2,hg])|(refine zc (fun hc=>?_) (fun hc=>?_)<;>try exact zh hc)|(refine K_ret ?_;refine zt hQ ?_))
  simp[AV.snap]
def orI (a b:Int):Int:=if a=0 then b else a
theorem or_call (a b:Int):PCall Try.prog 44 [.sl [.i a,.i b]] (.i (orI a b)):=by
 unfold orI
 by_cases h1:a=0
 ·subst h1
  rw[if_pos rfl]
  refine PCall.intro Try.func44 rfl isf44 (by simp[Try.f44]) (by simp[AV.cloL,AV.clo]) fun E Q hE hN hQ=>K_start ?_
  repeat'(first|apply nx|refine zx ?_|rw[zw]|((first|refine hK _ ?_|refine hKp _ _ ?_);clear hK hKp K Kp;try clear hanc anc)|((with_reducible refine And.intro ?_ ?_);exact zb)|((first|refine zr hE fun K Kp hK hKp=>?_|refine zd false mixed hE fun K Kp hK hKp anc hanc=>?_);simp only[go_sem])|(refine zg (fun hg=>?_) (fun hg=>?_)<;>simp only[go_sem,hg])|(refine zc (fun hc=>?_) (fun hc=>?_)<;>try exact zh hc)|(refine K_ret ?_;refine zt hQ ?_))
  refine K_loop (X:=Nat) (fun i=>i≤2∧(i=2→b=0)) (fun i=>mkSt [(3,.i 0),(6,.sl [.i 0,.i b]),(7,.i 2),(8,AV.i (i:Nat))] [] 0) (fun i=>2 - i) 0 ⟨by omega,by omega⟩ (fun i=>i) (by refine ent_mk (by simp[go_sem]) (by simp[go_sem]) (by simp) (by simp[hN])) ?_
  rintro i ⟨hi,hb⟩
  rcases(by omega:i=0∨i=1∨i=2) with rfl|rfl|rfl
  ·repeat'(first|apply nx|refine zx ?_|rw[zw]|((first|refine hK _ ?_|refine hKp _ _ ?_);clear hK hKp K Kp;try clear hanc anc)|((with_reducible refine And.intro ?_ ?_);exact zb)|((first|refine zr hE fun K Kp hK hKp=>?_|refine zd false mixed hE fun K Kp hK hKp anc hanc=>?_);simp only[go_sem])|(refine zg (fun hg=>?_) (fun hg=>?_)<;>simp only[go_sem,hg])|(refine zc (fun hc=>?_) (fun hc=>?_)<;>try exact zh hc)|(refine K_ret ?_;refine zt hQ ?_))
   exact⟨1,⟨by omega,by omega⟩,by omega,fun i=>i,by refine ent_mk (by simp[go_sem]) (by simp[go_sem]) (by simp) (by simp[hN])⟩
  ·by_cases h2:b=0
   ·have q:(b !=0)=false:=by simp[h2]
    repeat'(first|apply nx|refine zx ?_|rw[zw]|((first|refine hK _ ?_|refine hKp _ _ ?_);clear hK hKp K Kp;try clear hanc anc)|((with_reducible refine And.intro ?_ ?_);exact zb)|((first|refine zr hE fun K Kp hK hKp=>?_|refine zd false mixed hE fun K Kp hK hKp anc hanc=>?_);simp only[go_sem,q])|(refine zg (fun hg=>?_) (fun hg=>?_)<;>simp only[go_sem,q,hg])|(refine zc (fun hc=>?_) (fun hc=>?_)<;>try exact zh hc)|(refine K_ret ?_;refine zt hQ ?_))
    exact⟨2,⟨by omega,fun _=>h2⟩,by omega,fun i=>i,by refine ent_mk (by simp[go_sem]) (by simp[go_sem]) (by simp) (by simp[hN])⟩
   ·have q:(b !=0)=true:=by simp[h2]
    repeat'(first|apply nx|refine zx ?_|rw[zw]|((first|refine hK _ ?_|refine hKp _ _ ?_);clear hK hKp K Kp;try clear hanc anc)|((with_reducible refine And.intro ?_ ?_);exact zb)|((first|refine zr hE fun K Kp hK hKp=>?_|refine zd false mixed hE fun K Kp hK hKp anc hanc=>?_);simp only[go_sem,q])|(refine zg (fun hg=>?_) (fun hg=>?_)<;>simp only[go_sem,q,hg])|(refine zc (fun hc=>?_) (fun hc=>?_)<;>try exact zh hc)|(refine K_ret ?_;refine zt hQ ?_))
    simp[AV.snap]
  ·obtain rfl:=hb rfl
   repeat'(first|apply nx|refine zx ?_|rw[zw]|((first|refine hK _ ?_|refine hKp _ _ ?_);clear hK hKp K Kp;try clear hanc anc)|((with_reducible refine And.intro ?_ ?_);exact zb)|((first|refine zr hE fun K Kp hK hKp=>?_|refine zd false mixed hE fun K Kp hK hKp anc hanc=>?_);simp only[go_sem])|(refine zg (fun hg=>?_) (fun hg=>?_)<;>simp only[go_sem,hg])|(refine zc (fun hc=>?_) (fun hc=>?_)<;>try exact zh hc)|(refine K_ret ?_;refine zt hQ ?_))
   simp[AV.snap]
 ·rw[if_neg h1]
  have q:(a !=0)=true:=by simp[h1]
  refine PCall.intro Try.func44 rfl isf44 (by simp[Try.f44]) (by simp[AV.cloL,AV.clo]) fun E Q hE hN hQ=>K_start ?_
  repeat'(first|apply nx|refine zx ?_|rw[zw]|((first|refine hK _ ?_|refine hKp _ _ ?_);clear hK hKp K Kp;try clear hanc anc)|((with_reducible refine And.intro ?_ ?_);exact zb)|((first|refine zr hE fun K Kp hK hKp=>?_|refine zd false mixed hE fun K Kp hK hKp anc hanc=>?_);simp only[go_sem])|(refine zg (fun hg=>?_) (fun hg=>?_)<;>simp only[go_sem,hg])|(refine zc (fun hc=>?_) (fun hc=>?_)<;>try exact zh hc)|(refine K_ret ?_;refine zt hQ ?_))
  refine K_loop (X:=Unit) (fun _=>True) (fun _=>mkSt [(3,.i 0),(6,.sl [.i a,.i b]),(7,.i 2),(8,AV.i ((0:Nat):Int))] [] 0) (fun _=>0) () trivial (fun i=>i) (by refine ent_mk (by simp[go_sem]) (by simp[go_sem]) (by simp) (by simp[hN])) ?_
  intro _ _
  repeat'(first|apply nx|refine zx ?_|rw[zw]|((first|refine hK _ ?_|refine hKp _ _ ?_);clear hK hKp K Kp;try clear hanc anc)|((with_reducible refine And.intro ?_ ?_);exact zb)|((first|refine zr hE fun K Kp hK hKp=>?_|refine zd false mixed hE fun K Kp hK hKp anc hanc=>?_);simp only[go_sem,q])|(refine zg (fun hg=>?_) (fun hg=>?_)<;>simp only[go_sem,q,hg])|(refine zc (fun hc=>?_) (fun hc=>?_)<;>try exact zh hc)|(refine K_ret ?_;refine zt hQ ?_))
  simp[AV.snap]
abbrev obA (a:Af):Nat→Option AObj:=mkHp [(0,.cells a.cs)]
abbrev obB (a:Af):Nat→Option AObj:=mkHp [(0,.cells a.cs),(1,.cells [.fn (.func 40) [] [.ptr 0 0]])]
theorem obA_wf (a:Af):WF (obA a) 1:=WF.of_list (by decide) (by simp[AObj.ids,go_sem]) (by intro id hid;obtain rfl:id=0:=(by omega);simp[mkHp,updo])
theorem obB_wf (a:Af):WF (obB a) 2:=WF.of_list (by decide) (by simp[AObj.ids,AV.idsL,AV.ids,go_sem]) (by intro id hid;rcases(by omega:id=0∨id=1) with rfl|rfl<;>simp[mkHp,updo])
theorem time_hc (a:Af) (i:Nat):HC Try.prog 40 [.i (i:Nat),.ptr 0 0] (obA a) 1 (.i (since a i)):=by
 have hw:=obA_wf a
 unfold since
 by_cases h:i<a.si.length
 ·obtain⟨x,hx⟩:=get?_of h
  have e:a.si.getD i 0=x:=by rw[List.getD_eq_getElem?_getD,hx];rfl
  rw[e]
  refine HC.intro hw rfl Try.func40 rfl isf40 (by simp[Try.f40]) fun E Q hE hN hQ=>K_start ?_
  repeat'(first|apply nx|refine zx ?_|rw[zw]|((first|refine hK _ ?_|refine hKp _ _ ?_);clear hK hKp K Kp;try clear hanc anc)|((with_reducible refine And.intro ?_ ?_);exact zb)|((first|refine zr hE fun K Kp hK hKp=>?_|refine zd true mixed hE fun K Kp hK hKp anc hanc=>?_|refine zd false mixed hE fun K Kp hK hKp anc hanc=>?_);simp only[go_sem,Af.cs,lt_dec h,hx])|(refine zg (fun hg=>?_) (fun hg=>?_)<;>simp only[go_sem,Af.cs,lt_dec h,hx,hg])|(refine zc (fun hc=>?_) (fun hc=>?_)<;>try exact zh hc))
  refine K_ret (hQ _ (by simp only[go_sem];rfl) (fun id ob h=>?_)).1
  exact h
 ·have e:a.si.getD i 0=0:=by rw[List.getD_eq_getElem?_getD,List.getElem?_eq_none (by omega)];rfl
  have q:decide (((i:Nat):Int)<(a.si.length:Int))=false:=decide_eq_false (by omega)
  rw[e]
  refine HC.intro hw rfl Try.func40 rfl isf40 (by simp[Try.f40]) fun E Q hE hN hQ=>K_start ?_
  repeat'(first|apply nx|refine zx ?_|rw[zw]|((first|refine hK _ ?_|refine hKp _ _ ?_);clear hK hKp K Kp;try clear hanc anc)|((with_reducible refine And.intro ?_ ?_);exact zb)|((first|refine zr hE fun K Kp hK hKp=>?_|refine zd true mixed hE fun K Kp hK hKp anc hanc=>?_|refine zd false mixed hE fun K Kp hK hKp anc hanc=>?_);simp only[go_sem,Af.cs,q])|(refine zg (fun hg=>?_) (fun hg=>?_)<;>simp only[go_sem,Af.cs,q,hg])|(refine zc (fun hc=>?_) (fun hc=>?_)<;>try exact zh hc))
  refine K_ret (hQ _ (by simp only[go_sem];rfl) (fun id ob h=>?_)).1
  exact h
def cmpO (a:Af) (i k:Nat):Int:=orI (cmpI (since a k) (since a i)) (cmpI k i)
def ICm (a:Af) (i k:Nat) (D:Nat→Bool) (σ:St):Prop:=
 σ.nx=2048576∧σ.fr 0=some (.i (i:Nat))∧σ.fr 1=some (.i (k:Nat))∧σ.fr 2=some (.ptr 1 0)∧σ.hp 0=some (.cells a.cs)∧σ.hp 1=some (.cells [.fn (.func 40) [] [.ptr 0 0]])∧(D 0=true→σ.fr 6=some (.fn (.func 40) [] [.ptr 0 0]))∧(D 1=true→σ.fr 7=some (.i (k:Nat)))∧(D 2=true→σ.fr 8=some (.i (since a k)))∧(D 3=true→σ.fr 9=some (.fn (.func 40) [] [.ptr 0 0]))∧(D 4=true→σ.fr 10=some (.i (i:Nat)))∧(D 5=true→σ.fr 11=some (.i (since a i)))∧(D 6=true→σ.fr 12=some (.i (cmpI (since a k) (since a i))))∧(D 7=true→σ.fr 13=some (.i (k:Nat)))∧(D 8=true→σ.fr 14=some (.i (i:Nat)))∧(D 9=true→σ.fr 15=some (.i (cmpI (k:Nat) (i:Nat))))∧(D 10=true→σ.fr 16=some (.rw 12534336))∧(D 11=true→σ.fr 17=some (.i (orI (cmpI (since a k) (since a i)) (cmpI (k:Nat) (i:Nat)))))∧(D 12=true→σ.fr 5=some (.i (orI (cmpI (since a k) (since a i)) (cmpI (k:Nat) (i:Nat)))))∧(D 10=true→σ.hp 12534336=some (.row 1 [.i (cmpI (since a k) (since a i)),.i (cmpI (k:Nat) (i:Nat))]))
theorem cmp_hc (a:Af) (i k:Nat):HC Try.prog 43 [.i (i:Nat),.i (k:Nat),.ptr 1 0] (obB a) 2 (.i (cmpO a i k)):=by
 have hw:=obB_wf a
 have c1:=compare_call (since a k) (since a i)
 have c2:=compare_call (k:Nat) (i:Nat)
 have c3:=or_call (cmpI (since a k) (since a i)) (cmpI (k:Nat) (i:Nat))
 have t1:=time_hc a k
 have t2:=time_hc a i
 refine HC.intro hw rfl Try.func43 rfl isf43 (by simp[Try.f43]) fun E Q hE hN hQ=>K_start ?_
 repeat'(first|apply nx|refine zx ?_|rw[zw]|((first|refine hK _ ?_|refine hKp _ _ ?_);clear hK hKp K Kp;try clear hanc anc)|((with_reducible refine And.intro ?_ ?_);exact zb)|((first|refine zr hE fun K Kp hK hKp=>?_);simp only[go_sem])|(refine zg (fun hg=>?_) (fun hg=>?_)<;>simp only[go_sem,hg])|(refine zc (fun hc=>?_) (fun hc=>?_)<;>try exact zh hc)|(refine K_ret ?_;refine zt hQ ?_))
 repeat(first|apply w1|apply w2)
 refine K_inv (n:=13) (ICm a i k) mixed hE ?_ ?_ (fun Kp hKp=>?_) ?_ rfl
 ·intro D D' σ h
  have:=fun j=>(h j).symm
  unfold ICm
  simp only[this]
  exact fun h=>h
 ·simp[ICm,go_sem]
 ·refine⟨?_,?_,?_,?_,?_,?_,?_,?_,?_,?_,?_,?_,?_,trivial⟩
  all_goals rintro D' ⟨fr,hp,nx⟩ hD' hr ⟨hn,f0,f1,f2,h0,h1,d0,d1,d2,d3,d4,d5,d6,d7,d8,d9,d10,d11,d12,e10⟩
  all_goals simp[Region.binds] at hn f0 f1 f2 h0 h1 d0 d1 d2 d3 d4 d5 d6 d7 d8 d9 d10 d11 d12 e10 hD' hr
  all_goals subst hn
  all_goals try clear hQ
  ·skip
   simp only[go_sem,f2,h1]
   (simp only[ICm,upd,updo];simp[f0,f1,f2,h0,h1];simp_all)
  ·skip
   simp only[go_sem,f1]
   (simp only[ICm,upd,updo];simp[f0,f1,f2,h0,h1];simp_all)
  ·skip
   have zd0:=d0 (by simp[hr,hD'])
   have zd1:=d1 (by simp[hr,hD'])
   simp only[go_sem,zd0,zd1]
   refine Hold.mk (HC.use (t1) (fun i=>i) (by simp only[renL_id]) (by simp[AV.idsL,AV.ids,go_sem]) (fun id ob ho=>?_) (fun _ _ _ _ e=>e) (fun hpn hold=>?_))
   ·rw[oren_id];revert id ob ho;exact mkHp_allP (p:=fun id ob=>hp id=some ob) (by simp[h0,h1])
   have yh0:=hold _ _ (h0)
   have yh1:=hold _ _ (h1)
   have ye10:=fun c0=>hold _ _ (e10 c0)
   clear hold
   simp only[go_sem]
   (simp only[ICm,upd,updo];simp[f0,f1,f2,h0,h1];simp_all)
  ·skip
   simp only[go_sem,f2,h1]
   (simp only[ICm,upd,updo];simp[f0,f1,f2,h0,h1];simp_all)
  ·skip
   simp only[go_sem,f0]
   (simp only[ICm,upd,updo];simp[f0,f1,f2,h0,h1];simp_all)
  ·skip
   have zd3:=d3 (by simp[hr,hD'])
   have zd4:=d4 (by simp[hr,hD'])
   simp only[go_sem,zd3,zd4]
   refine Hold.mk (HC.use (t2) (fun i=>i) (by simp only[renL_id]) (by simp[AV.idsL,AV.ids,go_sem]) (fun id ob ho=>?_) (fun _ _ _ _ e=>e) (fun hpn hold=>?_))
   ·rw[oren_id];revert id ob ho;exact mkHp_allP (p:=fun id ob=>hp id=some ob) (by simp[h0,h1])
   have yh0:=hold _ _ (h0)
   have yh1:=hold _ _ (h1)
   have ye10:=fun c0=>hold _ _ (e10 c0)
   clear hold
   simp only[go_sem]
   (simp only[ICm,upd,updo];simp[f0,f1,f2,h0,h1];simp_all)
  ·skip
   have zd2:=d2 (by simp[hr,hD'])
   have zd5:=d5 (by simp[hr,hD'])
   simp only[go_sem,zd2,zd5]
   refine CallB_mk (by simp only[go_sem,zd2,zd5]<;>rfl) c1 (by simp[go_sem,CloRow,AV.cells,AV.clo,zd2,zd5]) (by first|exact .inl rfl|exact .inr rfl|(right;simp[go_sem])) ?_
   simp only[go_sem]
   (simp only[ICm,upd,updo];simp[f0,f1,f2,h0,h1];simp_all)
  ·skip
   simp only[go_sem,f1]
   (simp only[ICm,upd,updo];simp[f0,f1,f2,h0,h1];simp_all)
  ·skip
   simp only[go_sem,f0]
   (simp only[ICm,upd,updo];simp[f0,f1,f2,h0,h1];simp_all)
  ·skip
   have zd7:=d7 (by simp[hr,hD'])
   have zd8:=d8 (by simp[hr,hD'])
   simp only[go_sem,zd7,zd8]
   refine CallB_mk (by simp only[go_sem,zd7,zd8]<;>rfl) c2 (by simp[go_sem,CloRow,AV.cells,AV.clo,zd7,zd8]) (by first|exact .inl rfl|exact .inr rfl|(right;simp[go_sem])) ?_
   simp only[go_sem]
   (simp only[ICm,upd,updo];simp[f0,f1,f2,h0,h1];simp_all)
  ·skip
   have zd6:=d6 (by simp[hr,hD'])
   have zd9:=d9 (by simp[hr,hD'])
   simp only[go_sem,zd6,zd9]
   (simp only[ICm,upd,updo];simp[f0,f1,f2,h0,h1];simp_all)
  ·skip
   have zd10:=d10 (by simp[hr,hD'])
   have ze10:=e10 (by simp[hr,hD'])
   simp only[go_sem,zd10,ze10]
   refine CallB_mk (by simp only[go_sem,zd10,ze10]<;>rfl) c3 (by simp[go_sem,CloRow,AV.cells,AV.clo,zd10,ze10]) (by first|exact .inl rfl|exact .inr rfl|(right;simp[go_sem])) ?_
   simp only[go_sem]
   (simp only[ICm,upd,updo];simp[f0,f1,f2,h0,h1];simp_all)
  ·skip
   have zd11:=d11 (by simp[hr,hD'])
   simp only[go_sem,zd11]
   (simp only[ICm,upd,updo];simp[f0,f1,f2,h0,h1];simp_all)
 rintro⟨fr,hp,nx⟩ D' hD' ⟨hn,f0,f1,f2,h0,h1,d0,d1,d2,d3,d4,d5,d6,d7,d8,d9,d10,d11,d12,e10⟩
 simp only at hn f0 f1 f2 h0 h1 d0 d1 d2 d3 d4 d5 d6 d7 d8 d9 d10 d11 d12 e10
 have zd0:=d0 (hD' 0)
 have zd1:=d1 (hD' 1)
 have zd2:=d2 (hD' 2)
 have zd3:=d3 (hD' 3)
 have zd4:=d4 (hD' 4)
 have zd5:=d5 (hD' 5)
 have zd6:=d6 (hD' 6)
 have zd7:=d7 (hD' 7)
 have zd8:=d8 (hD' 8)
 have zd9:=d9 (hD' 9)
 have zd10:=d10 (hD' 10)
 have zd11:=d11 (hD' 11)
 have zd12:=d12 (hD' 12)
 have ze10:=e10 (hD' 10)
 refine Kq_norm_code ?_
 refine K_ret (hQ _ ?_ (fun id ob h=>?_)).1
 ·simp[resA,rvA,Try.f43,zd12,cmpO]
 ·revert id ob h
  exact mkHp_allP (p:=fun id ob=>hp id=some ob) (by simp[h0,h1])

abbrev obS (a:Af) (l:List Nat):Nat→Option AObj:=mkHp [(0,.cells a.cs),(1,.cells [.fn (.func 40) [] [.ptr 0 0]]),(2,.row 1 (il (ni l)))]
theorem obS_2 (a:Af) (l:List Nat):obS a l 2=some (.row 1 (il (ni l))):=rfl
theorem famS (a:Af):Fam (obS a) 3:=by
 refine⟨fun w id ob ho=>?_,fun w id hid=>?_⟩
 ·simp only[mkHp,updo] at ho
  repeat' split at ho
  all_goals first|(cases ho;done)|skip
  all_goals cases ho;subst_vars
  all_goals exact⟨by decide,by simp[AObj.ids,AV.ids,AV.idsL,go_sem]⟩
 ·have:id=0∨id=1∨id=2:=by omega
  rcases this with rfl|rfl|rfl<;>simp[mkHp,updo]
theorem obS_of {a:Af} {l:List Nat} {hp:Nat→Option AObj} (h0:hp 0=some (.cells a.cs)) (h1:hp 1=some (.cells [.fn (.func 40) [] [.ptr 0 0]])) (h2:hp 2=some (.row 1 (il (ni l)))):∀ id ob,obS a l id=some ob→hp id=some ob:=
 mkHp_allP (p:=fun id ob=>hp id=some ob) (by simp[h0,h1,h2])
theorem cmpO_neg {a:Af} {x p:Nat} (h:p<x):decide (cmpO a x p<0)=decide (since a p≤since a x):=by
 unfold cmpO orI cmpI
 by_cases h1:since a p<since a x
 ·rw[if_pos h1,if_neg (by decide)];simp;omega
 ·rw[if_neg h1]
  by_cases h2:since a p>since a x
  ·rw[if_pos h2,if_neg (by decide)];simp;omega
  ·rw[if_neg h2,if_pos rfl,if_pos (by omega)];simp;omega
abbrev cmF:AV:= .fn (.func 43) [] [.ptr 1 0]
theorem isort_c (a:Af) (l:List Nat) (hl:l.length≤12) (hs:l.Pairwise (· < ·)):MCall Try.prog 76 [.rw 2,.i 0,.i (l.length:Nat),cmF] (obS a) 3 3 l (fun l'=>l'=sortO (since a) l):=by
 refine MCall.intro Try.func76 isf76 rfl (by simp[Try.f76]) rfl fun E Q hE hN hQ=>K_start ?_
 repeat'(first|apply nx|refine zx ?_|rw[zw]|((first|refine hK _ ?_|refine hKp _ _ ?_);clear hK hKp K Kp;try clear hanc anc)|((with_reducible refine And.intro ?_ ?_);exact zb)|((first|refine zr hE fun K Kp hK hKp=>?_|refine zd true mixed hE fun K Kp hK hKp anc hanc=>?_|refine zd false mixed hE fun K Kp hK hKp anc hanc=>?_);simp only[go_sem])|(refine zg (fun hg=>?_) (fun hg=>?_)<;>simp only[go_sem,hg])|(refine zc (fun hc=>?_) (fun hc=>?_)<;>try exact zh hc))
 have hfin:∀ {σ:St},σ.hp 0=some (.cells a.cs)→σ.hp 1=some (.cells [.fn (.func 40) [] [.ptr 0 0]])→σ.hp 2=some (.row 1 (il (ni (sortO (since a) l))))→Q .norm σ:=fun h0 h1 h2=>(hQ _ (MCall.fin (famS a) (by decide) rfl (obS_of h0 h1 h2))).2
 refine K_loop (X:=Nat) (fun i=>1≤i∧(i≤l.length∨i=1)) (fun i=>mkSt [(0,.rw 2),(1,.i 0),(2,.i (l.length:Nat)),(3,cmF),(8,.i (i:Nat))] [(0,.cells a.cs),(1,.cells [.fn (.func 40) [] [.ptr 0 0]]),(2,.row 1 (il (ni (sortO (since a) (l.take i)++l.drop i))))] 3) (fun i=>l.length - i) 1 ⟨Nat.le_refl _,.inr rfl⟩ (fun i=>i) ?_ ?_
 ·have e:sortO (since a) (l.take 1)++l.drop 1=l:=by
   match l with
   | []=>rfl
   | [x]=>rfl
   |x::y::l=>rfl
  rw[e]
  refine ent_mk (by simp[go_sem]) (by simp[go_sem]) (by simp) (by rw[hN];exact fun id hid=>⟨rfl,by omega⟩)
 rintro i ⟨hi,hil⟩
 by_cases hlt:i<l.length
 case neg=>
  have e:sortO (since a) (l.take i)++l.drop i=sortO (since a) l:=by rw[List.take_of_length_le (by omega),List.drop_eq_nil_of_le (by omega),List.append_nil]
  have q:decide ((i:Int)<(l.length:Int))=false:=decide_eq_false (by omega)
  rw[e]
  repeat'(first|apply nx|refine zx ?_|rw[zw]|((first|refine hK _ ?_|refine hKp _ _ ?_);clear hK hKp K Kp;try clear hanc anc)|((with_reducible refine And.intro ?_ ?_);exact zb)|((first|refine zr hE fun K Kp hK hKp=>?_|refine zd true mixed hE fun K Kp hK hKp anc hanc=>?_|refine zd false mixed hE fun K Kp hK hKp anc hanc=>?_);simp only[go_sem,q])|(refine zg (fun hg=>?_) (fun hg=>?_)<;>simp only[go_sem,q,hg])|(refine zc (fun hc=>?_) (fun hc=>?_)<;>try exact zh hc))
  refine Kq_norm_nil (hfin ?_ ?_ ?_)<;>simp[updo]
 obtain⟨x,hx⟩:=get?_of hlt
 have u1:IntKind.i64.wrap ((i:Int)+1)=((i+1:Nat):Int):=by rw[wrap64 (by omega) (by omega)];omega
 generalize hP:sortO (since a) (l.take i)=P
 generalize hr:l.drop (i+1)=r
 have hPl:P.length=i:=by rw[← hP,sortO_len,List.length_take];omega
 have hPs:Sd (since a) P:=hP▸sortO_sd _ _
 have hPx:∀ y,y∈P→y<x:=fun y hy=>by
  have h1:=(sortO_perm (since a) (l.take i)).mem_iff.1 (hP▸hy)
  obtain⟨j,hj,e⟩:=List.mem_take_iff_getElem.1 h1
  have:=List.pairwise_iff_getElem.1 hs j i (by omega) (by omega) (by omega)
  rw[(List.getElem?_eq_some_iff.1 hx).2] at this
  omega
 have hd:P++l.drop i=mid P P.length x r:=by
  rw[drop_of hx,hr];simp[mid]
 rw[hd]
 repeat'(first|apply nx|refine zx ?_|rw[zw]|((first|refine hK _ ?_|refine hKp _ _ ?_);clear hK hKp K Kp;try clear hanc anc)|((with_reducible refine And.intro ?_ ?_);exact zb)|((first|refine zr hE fun K Kp hK hKp=>?_|refine zd true mixed hE fun K Kp hK hKp anc hanc=>?_|refine zd false mixed hE fun K Kp hK hKp anc hanc=>?_);simp only[go_sem,lt_dec hlt])|(refine zg (fun hg=>?_) (fun hg=>?_)<;>simp only[go_sem,lt_dec hlt,hg])|(refine zc (fun hc=>?_) (fun hc=>?_)<;>try exact zh hc))
 refine K_loop (X:=Nat) (fun j=>j≤P.length∧∀ y,y∈P.drop j→since a y≤since a x) (fun j=>mkSt [(0,.rw 2),(1,.i 0),(2,.i (l.length:Nat)),(3,cmF),(8,.i (i:Nat)),(9,.i (j:Nat))] [(0,.cells a.cs),(1,.cells [.fn (.func 40) [] [.ptr 0 0]]),(2,.row 1 (il (ni (mid P j x r))))] 3) (fun j=>j) P.length ⟨Nat.le_refl _,by simp⟩ (fun i=>i) ?_ ?_
 ·refine ent_mk (by simp[go_sem,hPl]) (by simp[go_sem,hPl]) (by simp) (by rw[hN];exact fun id hid=>⟨rfl,by omega⟩)
 rintro j ⟨hj,hjs⟩
 cases j with
 |zero=>
  have hsp:=insO_split (s:=since a) (x:=x) (P:=P) (j:=0) (by simp) hjs
  have q0:decide (((0:Nat):Int)>0)=false:=rfl
  repeat'(first|apply nx|refine zx ?_|rw[zw]|((first|refine hK _ ?_|refine hKp _ _ ?_);clear hK hKp K Kp;try clear hanc anc)|((with_reducible refine And.intro ?_ ?_);exact zb)|((first|refine zr hE fun K Kp hK hKp=>?_|refine zd true mixed hE fun K Kp hK hKp anc hanc=>?_|refine zd false mixed hE fun K Kp hK hKp anc hanc=>?_);simp only[go_sem,u1,q0])|(refine zg (fun hg=>?_) (fun hg=>?_)<;>simp only[go_sem,u1,q0,hg])|(refine zc (fun hc=>?_) (fun hc=>?_)<;>try exact zh hc))
  refine⟨i+1,⟨by omega,.inl hlt⟩,by omega,fun i=>i,?_⟩
  rw[sortO_step hx,hP,hr,hsp]
  refine ent_mk (by simp[go_sem]) (by simp[go_sem,mid]) (by simp) (by rw[hN];exact fun id hid=>⟨rfl,by omega⟩)
 |succ j=>
  obtain⟨y,hy⟩:=get?_of (show j<P.length by omega)
  have hc:=cmp_hc a x y
  have q:=cmpO_neg (a:=a) (hPx y (List.mem_of_getElem? hy))
  have hm1:=mid_at (r:=r) (x:=x) hj
  have hm2:=(mid_pre (r:=r) (x:=x) hj).trans hy
  have u2:IntKind.i64.wrap (((j+1:Nat):Int) - 1)=((j:Nat):Int):=by rw[wrap64 (by omega) (by omega)];omega
  have q0:decide (((j+1:Nat):Int)>0)=true:=decide_eq_true (by omega)
  by_cases hcc:since a y≤since a x
  ·rw[decide_eq_true hcc] at q
   repeat'(first|apply nx|refine zx ?_|rw[zw]|((first|refine hK _ ?_|refine hKp _ _ ?_);clear hK hKp K Kp;try clear hanc anc)|((with_reducible refine And.intro ?_ ?_);exact zb)|((first|refine zr hE fun K Kp hK hKp=>?_|refine zd true mixed hE fun K Kp hK hKp anc hanc=>?_|refine zd false mixed hE fun K Kp hK hKp anc hanc=>?_);simp only[go_sem,u2,q0,mid_len hj,ni_get,ni_len,hm1,hm2])|(refine zg (fun hg=>?_) (fun hg=>?_)<;>simp only[go_sem,u2,q0,mid_len hj,ni_get,ni_len,hm1,hm2,hg])|(refine zc (fun hc=>?_) (fun hc=>?_)<;>try exact zh hc))
   refine Hold.mk (HC.use hc (fun i=>i) (by simp only[renL_id]) (by simp[AV.idsL,AV.ids,go_sem]) (fun id ob ho=>?_) (fun _ _ _ _ e=>e) (fun hpn hold=>?_))
   ·rw[oren_id];revert id ob ho;exact mkHp_allP (p:=fun id ob=>_=some ob) (by simp[updo])
   have g0:=hold 0 (.cells a.cs) (by simp[updo])
   have g1:=hold 1 (.cells [.fn (.func 40) [] [.ptr 0 0]]) (by simp[updo])
   have g2:=hold 2 (.row 1 (il (ni (mid P (j+1) x r)))) (by simp[updo])
   clear hold
   simp only[go_sem,q]
   refine hK _ ?_;clear hK hKp K Kp;try clear hanc anc
   repeat(first|refine Kq_norm_code ?_|refine Kq_norm_blk ?_|refine Kq_norm_lp ?_)
   have hm3:((mid P (j+1) x r).set (j+1) y)[j]? =some y:=by rw[List.getElem?_set_ne (by omega)];exact hm2
   have hl3:((mid P (j+1) x r).set (j+1) y).length=P.length+1+r.length:=by rw[List.length_set];exact mid_len hj
   repeat'(first|apply nx|refine zx ?_|rw[zw]|((first|refine hK _ ?_|refine hKp _ _ ?_);clear hK hKp K Kp;try clear hanc anc)|((with_reducible refine And.intro ?_ ?_);exact zb)|((first|refine zr hE fun K Kp hK hKp=>?_|refine zd true mixed hE fun K Kp hK hKp anc hanc=>?_|refine zd false mixed hE fun K Kp hK hKp anc hanc=>?_);simp only[go_sem,u2,q0,mid_len hj,ni_get,ni_len,hm1,hm2,g0,g1,g2,ni_set,hm3,hl3,mid_step hy])|(refine zg (fun hg=>?_) (fun hg=>?_)<;>simp only[go_sem,u2,q0,mid_len hj,ni_get,ni_len,hm1,hm2,g0,g1,g2,ni_set,hm3,hl3,mid_step hy,hg])|(refine zc (fun hc=>?_) (fun hc=>?_)<;>try exact zh hc))
   refine⟨j,⟨by omega,fun z hz=>?_⟩,by omega,fun i=>i,?_⟩
   ·rw[List.drop_eq_getElem_cons (by omega:j<P.length)] at hz
    rcases List.mem_cons.1 hz with rfl|hz
    ·rw[(List.getElem?_eq_some_iff.1 hy).2];exact hcc
    ·exact hjs z hz
   ·refine ent_mk (by simp[go_sem]) (by simp[go_sem,g0,g1,g2]) (by simp) (by rw[hN];exact fun id hid=>⟨rfl,by omega⟩)
  ·rw[decide_eq_false hcc] at q
   have hsp:=insO_split (s:=since a) (x:=x) (P:=P) (j:=j+1) (hPs.take (x:=x) hy (by omega)) hjs
   repeat'(first|apply nx|refine zx ?_|rw[zw]|((first|refine hK _ ?_|refine hKp _ _ ?_);clear hK hKp K Kp;try clear hanc anc)|((with_reducible refine And.intro ?_ ?_);exact zb)|((first|refine zr hE fun K Kp hK hKp=>?_|refine zd true mixed hE fun K Kp hK hKp anc hanc=>?_|refine zd false mixed hE fun K Kp hK hKp anc hanc=>?_);simp only[go_sem,u2,q0,mid_len hj,ni_get,ni_len,hm1,hm2])|(refine zg (fun hg=>?_) (fun hg=>?_)<;>simp only[go_sem,u2,q0,mid_len hj,ni_get,ni_len,hm1,hm2,hg])|(refine zc (fun hc=>?_) (fun hc=>?_)<;>try exact zh hc))
   refine Hold.mk (HC.use hc (fun i=>i) (by simp only[renL_id]) (by simp[AV.idsL,AV.ids,go_sem]) (fun id ob ho=>?_) (fun _ _ _ _ e=>e) (fun hpn hold=>?_))
   ·rw[oren_id];revert id ob ho;exact mkHp_allP (p:=fun id ob=>_=some ob) (by simp[updo])
   have g0:=hold 0 (.cells a.cs) (by simp[updo])
   have g1:=hold 1 (.cells [.fn (.func 40) [] [.ptr 0 0]]) (by simp[updo])
   have g2:=hold 2 (.row 1 (il (ni (mid P (j+1) x r)))) (by simp[updo])
   clear hold
   simp only[go_sem,q]
   refine hK _ ?_;clear hK hKp K Kp;try clear hanc anc
   repeat(first|refine Kq_norm_code ?_|refine Kq_norm_blk ?_|refine Kq_norm_lp ?_)
   repeat'(first|apply nx|refine zx ?_|rw[zw]|((first|refine hK _ ?_|refine hKp _ _ ?_);clear hK hKp K Kp;try clear hanc anc)|((with_reducible refine And.intro ?_ ?_);exact zb)|((first|refine zr hE fun K Kp hK hKp=>?_|refine zd true mixed hE fun K Kp hK hKp anc hanc=>?_|refine zd false mixed hE fun K Kp hK hKp anc hanc=>?_);simp only[go_sem,u1])|(refine zg (fun hg=>?_) (fun hg=>?_)<;>simp only[go_sem,u1,hg])|(refine zc (fun hc=>?_) (fun hc=>?_)<;>try exact zh hc))
   refine⟨i+1,⟨by omega,.inl hlt⟩,by omega,fun i=>i,?_⟩
   rw[sortO_step hx,hP,hr,hsp]
   refine ent_mk (by simp[go_sem]) (by simp[go_sem,mid,g0,g1,g2]) (by simp) (by rw[hN];exact fun id hid=>⟨rfl,by omega⟩)
theorem pdq_c (a:Af) (l:List Nat) (hl:l.length≤12) (hs:l.Pairwise (· < ·)) (k:Int):MCall Try.prog 59 [.rw 2,.i 0,.i (l.length:Nat),.i k,cmF] (obS a) 3 3 l (fun l'=>l'=sortO (since a) l):=by
 have hci:=isort_c a l hl hs
 have u1:IntKind.i64.wrap ((l.length:Int) - 0)=(l.length:Int):=by rw[wrap64 (by omega) (by omega)];omega
 have q:decide ((l.length:Int)≤12)=true:=decide_eq_true (by omega)
 refine MCall.intro Try.func59 isf59 rfl (by simp[Try.f59]) rfl fun E Q hE hN hQ=>K_start ?_
 repeat'(first|apply nx|refine zx ?_|rw[zw]|((first|refine hK _ ?_|refine hKp _ _ ?_);clear hK hKp K Kp;try clear hanc anc)|((with_reducible refine And.intro ?_ ?_);exact zb)|((first|refine zr hE fun K Kp hK hKp=>?_|refine zd true mixed hE fun K Kp hK hKp anc hanc=>?_|refine zd false mixed hE fun K Kp hK hKp anc hanc=>?_);simp only[go_sem])|(refine zg (fun hg=>?_) (fun hg=>?_)<;>simp only[go_sem,hg])|(refine zc (fun hc=>?_) (fun hc=>?_)<;>try exact zh hc))
 refine K_loop (X:=Unit) (fun _=>True) (fun _=>mkSt [(0,.rw 2),(1,.i 0),(2,.i (l.length:Nat)),(3,.i k),(4,cmF)] [(0,.cells a.cs),(1,.cells [.fn (.func 40) [] [.ptr 0 0]]),(2,.row 1 (il (ni l)))] 3) (fun _=>0) () trivial (fun i=>i) ?_ fun _ _=>?_
 ·refine ent_mk (by simp[go_sem]) (by simp[go_sem]) (by simp) (by rw[hN];exact fun id hid=>⟨rfl,by omega⟩)
 repeat'(first|apply nx|refine zx ?_|rw[zw]|((first|refine hK _ ?_|refine hKp _ _ ?_);clear hK hKp K Kp;try clear hanc anc)|((with_reducible refine And.intro ?_ ?_);exact zb)|((first|refine zr hE fun K Kp hK hKp=>?_|refine zd true mixed hE fun K Kp hK hKp anc hanc=>?_|refine zd false mixed hE fun K Kp hK hKp anc hanc=>?_);simp only[go_sem,u1,q])|(refine zg (fun hg=>?_) (fun hg=>?_)<;>simp only[go_sem,u1,q,hg])|(refine zc (fun hc=>?_) (fun hc=>?_)<;>try exact zh hc))
 refine Hold.mk (MCall.use (famS a) hci (by simp[AV.idsL,AV.ids]) (obS_of (by simp[updo]) (by simp[updo]) (by simp[updo])) fun x' hpn hG hobj hold=>?_)
 simp only[go_sem,putf]
 refine hK _ ?_;clear hK hKp K Kp;try clear hanc anc
 repeat(first|refine Kq_norm_code ?_|refine Kq_norm_blk ?_|refine Kq_norm_lp ?_)
 repeat'(first|apply nx|refine zx ?_|rw[zw]|((first|refine hK _ ?_|refine hKp _ _ ?_);clear hK hKp K Kp;try clear hanc anc)|((with_reducible refine And.intro ?_ ?_);exact zb)|((first|refine zr hE fun K Kp hK hKp=>?_|refine zd true mixed hE fun K Kp hK hKp anc hanc=>?_|refine zd false mixed hE fun K Kp hK hKp anc hanc=>?_);simp only[go_sem])|(refine zg (fun hg=>?_) (fun hg=>?_)<;>simp only[go_sem,hg])|(refine zc (fun hc=>?_) (fun hc=>?_)<;>try exact zh hc))
 exact K_ret (hQ _ (MCall.fin (famS a) (by decide) hG hobj)).1
theorem runE_ix {s b:Nat} {z:Option (List AV)} {n:Nat} {L:List UInt8} {σ:St} {d:Option Nat} {id:Nat} {K:St→Prop} (hn:n<L.length) (h:∀ c:UInt8,runE (some (True,.val (.int .u8 (c.toNat:Int)))) σ d id K):runE (ixO (some ⟨.str,s,b,z⟩) (n:Int) L[n]?) σ d id K:=by
 have h2:=h L[n]
 rw[List.getElem?_eq_getElem hn]
 unfold ixO
 simp only[show(0≤(n:Int))=True from eq_true (by omega)]
 exact h2
def isI (r:AV):Prop:=∃ k:Int,r= .i k
theorem len64_c (n:Nat) (h:n≤12):A0 Try.prog 85 [.int .u64 n] isI (fun _=>False):=by
 have q1:decide ((n:Int)≥4294967296)=false:=decide_eq_false (by omega)
 have q2:decide ((n:Int)≥65536)=false:=decide_eq_false (by omega)
 have q3:decide ((n:Int)≥256)=false:=decide_eq_false (by omega)
 have u1:IntKind.u8.wrap (n:Int)=n:=by rw[IntKind.wrap_u8];omega
 refine A0.intro Try.func85 rfl isf85 (by simp[Try.f85]) fun E Q hE hN hQ hQp=>K_start ?_
 repeat'(first|apply nx|refine zx ?_|rw[zw]|((first|refine hK _ ?_|refine hKp _ _ ?_);clear hK hKp K Kp;try clear hanc anc)|((with_reducible refine And.intro ?_ ?_);exact zb)|((first|refine zr hE fun K Kp hK hKp=>?_|refine zd true mixed hE fun K Kp hK hKp anc hanc=>?_|refine zd false mixed hE fun K Kp hK hKp anc hanc=>?_);simp only[go_sem,q1,q2,q3,u1])|(refine zg (fun hg=>?_) (fun hg=>?_)<;>simp only[go_sem,q1,q2,q3,u1,hg])|(refine zc (fun hc=>?_) (fun hc=>?_)<;>try exact zh hc))
 refine runE_ix (Nat.lt_of_le_of_lt h (by decide)) fun c=>?_
 have hc:=c.toNat_lt
 have u2:IntKind.i64.wrap (c.toNat:Int)=c.toNat:=by rw[wrap64 (by omega) (by omega)]
 have u3:IntKind.i64.wrap (0+(c.toNat:Int))=c.toNat:=by rw[wrap64 (by omega) (by omega)];omega
 simp only[go_sem,u2,u3]
 repeat'(first|apply nx|refine zx ?_|rw[zw]|((first|refine hK _ ?_|refine hKp _ _ ?_);clear hK hKp K Kp;try clear hanc anc)|((with_reducible refine And.intro ?_ ?_);exact zb)|((first|refine zr hE fun K Kp hK hKp=>?_|refine zd true mixed hE fun K Kp hK hKp anc hanc=>?_|refine zd false mixed hE fun K Kp hK hKp anc hanc=>?_);simp only[go_sem,u2,u3])|(refine zg (fun hg=>?_) (fun hg=>?_)<;>simp only[go_sem,u2,u3,hg])|(refine zc (fun hc=>?_) (fun hc=>?_)<;>try exact zh hc))
 exact K_ret (hQ _ ⟨_,by simp only[go_sem];rfl,⟨_,rfl⟩,rfl⟩).1
theorem len_c (n:Nat) (h:n≤12):A0 Try.prog 60 [.int .u64 n] isI (fun _=>False):=by
 have c0:=len64_c n h
 refine A0.intro Try.func60 rfl isf60 (by simp[Try.f60]) fun E Q hE hN hQ hQp=>K_start ?_
 repeat'(first|apply nx|refine zx ?_|rw[zw]|((first|refine hK _ ?_|refine hKp _ _ ?_);clear hK hKp K Kp;try clear hanc anc)|((with_reducible refine And.intro ?_ ?_);exact zb)|((first|refine zr hE fun K Kp hK hKp=>?_|refine zd true mixed hE fun K Kp hK hKp anc hanc=>?_|refine zd false mixed hE fun K Kp hK hKp anc hanc=>?_);simp only[go_sem])|(refine zg (fun hg=>?_) (fun hg=>?_)<;>simp only[go_sem,hg])|(refine zc (fun hc=>?_) (fun hc=>?_)<;>try exact zh hc))
 refine Hold.mk (CallB.of_A0 c0 rfl ?_ (fun _ h=>h.elim))
 rintro _ ⟨k,rfl⟩
 simp only[go_sem]
 refine hK _ ?_;clear hK hKp K Kp;try clear hanc anc
 repeat(first|refine Kq_norm_code ?_|refine Kq_norm_blk ?_|refine Kq_norm_lp ?_)
 repeat'(first|apply nx|refine zx ?_|rw[zw]|((first|refine hK _ ?_|refine hKp _ _ ?_);clear hK hKp K Kp;try clear hanc anc)|((with_reducible refine And.intro ?_ ?_);exact zb)|((first|refine zr hE fun K Kp hK hKp=>?_|refine zd true mixed hE fun K Kp hK hKp anc hanc=>?_|refine zd false mixed hE fun K Kp hK hKp anc hanc=>?_);simp only[go_sem])|(refine zg (fun hg=>?_) (fun hg=>?_)<;>simp only[go_sem,hg])|(refine zc (fun hc=>?_) (fun hc=>?_)<;>try exact zh hc))
 exact K_ret (hQ _ ⟨_,by simp only[go_sem];rfl,⟨_,rfl⟩,rfl⟩).1
theorem sort_c (a:Af) (l:List Nat) (hl:l.length≤12) (hs:l.Pairwise (· < ·)):MCall Try.prog 42 [.rw 2,cmF] (obS a) 3 3 l (fun l'=>l'=sortO (since a) l):=by
 have c0:=len_c l.length hl
 have u1:IntKind.u64.wrap (l.length:Int)=l.length:=by rw[IntKind.wrap_u64];omega
 refine MCall.intro Try.func42 isf42 rfl (by simp[Try.f42]) rfl fun E Q hE hN hQ=>K_start ?_
 repeat'(first|apply nx|refine zx ?_|rw[zw]|((first|refine hK _ ?_|refine hKp _ _ ?_);clear hK hKp K Kp;try clear hanc anc)|((with_reducible refine And.intro ?_ ?_);exact zb)|((first|refine zr hE fun K Kp hK hKp=>?_|refine zd true mixed hE fun K Kp hK hKp anc hanc=>?_|refine zd false mixed hE fun K Kp hK hKp anc hanc=>?_);simp only[go_sem,u1,il_len,ni_len])|(refine zg (fun hg=>?_) (fun hg=>?_)<;>simp only[go_sem,u1,il_len,ni_len,hg])|(refine zc (fun hc=>?_) (fun hc=>?_)<;>try exact zh hc))
 refine Hold.mk (CallB.of_A0 c0 rfl ?_ (fun _ h=>h.elim))
 rintro _ ⟨k,rfl⟩
 simp only[go_sem]
 refine Hold.mk (MCall.use (famS a) (pdq_c a l hl hs k) (by simp[AV.idsL,AV.ids]) (obS_of (by simp[updo]) (by simp[updo]) (by simp[updo])) fun x' hpn hG hobj hold=>?_)
 simp only[go_sem,putf]
 refine hK _ ?_;clear hK hKp K Kp;try clear hanc anc
 repeat(first|refine Kq_norm_code ?_|refine Kq_norm_blk ?_|refine Kq_norm_lp ?_)
 refine Kq_norm_nil ?_
 exact(hQ _ (MCall.fin (famS a) (by decide) hG hobj)).2

theorem own_call (v:Vl):PCall Try.prog 41 [v.av] (.bool (ownB v)):=by
 rw[Vl.av_eq]
 unfold ownB
 by_cases h2:v.kind=2
 ·have q:(v.kind==2)=true:=by simp[h2]
  rw[q]
  refine PCall.intro Try.func41 rfl isf41 (by simp[Try.f41]) (by simp[AV.cloL,AV.clo]) fun E Q hE hN hQ=>K_start ?_
  repeat'(first|apply nx|refine zx ?_|rw[zw]|((first|refine hK _ ?_|refine hKp _ _ ?_);clear hK hKp K Kp;try clear hanc anc)|((with_reducible refine And.intro ?_ ?_);exact zb)|((first|refine zr hE fun K Kp hK hKp=>?_|refine zd false mixed hE fun K Kp hK hKp anc hanc=>?_);simp only[go_sem,q])|(refine zg (fun hg=>?_) (fun hg=>?_)<;>simp only[go_sem,q,hg])|(refine zc (fun hc=>?_) (fun hc=>?_)<;>try exact zh hc)|(refine K_ret ?_;refine zt hQ ?_))
  simp[AV.snap]
 have q:(v.kind==2)=false:=by simp[h2]
 rw[q]
 by_cases h3:v.kind=3
 ·have q3:(v.kind==3)=true:=by simp[h3]
  rw[q3]
  refine PCall.intro Try.func41 rfl isf41 (by simp[Try.f41]) (by simp[AV.cloL,AV.clo]) fun E Q hE hN hQ=>K_start ?_
  repeat'(first|apply nx|refine zx ?_|rw[zw]|((first|refine hK _ ?_|refine hKp _ _ ?_);clear hK hKp K Kp;try clear hanc anc)|((with_reducible refine And.intro ?_ ?_);exact zb)|((first|refine zr hE fun K Kp hK hKp=>?_|refine zd false mixed hE fun K Kp hK hKp anc hanc=>?_);simp only[go_sem,q,q3])|(refine zg (fun hg=>?_) (fun hg=>?_)<;>simp only[go_sem,q,q3,hg])|(refine zc (fun hc=>?_) (fun hc=>?_)<;>try exact zh hc)|(refine K_ret ?_;refine zt hQ ?_))
  simp[AV.snap]
 have q3:(v.kind==3)=false:=by simp[h3]
 rw[q3]
 refine PCall.intro Try.func41 rfl isf41 (by simp[Try.f41]) (by simp[AV.cloL,AV.clo]) fun E Q hE hN hQ=>K_start ?_
 repeat'(first|apply nx|refine zx ?_|rw[zw]|((first|refine hK _ ?_|refine hKp _ _ ?_);clear hK hKp K Kp;try clear hanc anc)|((with_reducible refine And.intro ?_ ?_);exact zb)|((first|refine zr hE fun K Kp hK hKp=>?_|refine zd false mixed hE fun K Kp hK hKp anc hanc=>?_);simp only[go_sem,q,q3])|(refine zg (fun hg=>?_) (fun hg=>?_)<;>simp only[go_sem,q,q3,hg])|(refine zc (fun hc=>?_) (fun hc=>?_)<;>try exact zh hc)|(refine K_ret ?_;refine zt hQ ?_))
 simp[AV.snap]
theorem rown_call (v:Vl):PCall Try.prog 19 [v.av] (.bool (ownB v)):=by
 rw[Vl.av_eq]
 unfold ownB
 by_cases h2:v.kind=2
 ·have q:(v.kind==2)=true:=by simp[h2]
  rw[q]
  refine PCall.intro Try.func19 rfl isf19 (by simp[Try.f19]) (by simp[AV.cloL,AV.clo]) fun E Q hE hN hQ=>K_start ?_
  repeat'(first|apply nx|refine zx ?_|rw[zw]|((first|refine hK _ ?_|refine hKp _ _ ?_);clear hK hKp K Kp;try clear hanc anc)|((with_reducible refine And.intro ?_ ?_);exact zb)|((first|refine zr hE fun K Kp hK hKp=>?_|refine zd false mixed hE fun K Kp hK hKp anc hanc=>?_);simp only[go_sem,q])|(refine zg (fun hg=>?_) (fun hg=>?_)<;>simp only[go_sem,q,hg])|(refine zc (fun hc=>?_) (fun hc=>?_)<;>try exact zh hc)|(refine K_ret ?_;refine zt hQ ?_))
  simp[AV.snap]
 have q:(v.kind==2)=false:=by simp[h2]
 rw[q]
 by_cases h3:v.kind=3
 ·have q3:(v.kind==3)=true:=by simp[h3]
  rw[q3]
  refine PCall.intro Try.func19 rfl isf19 (by simp[Try.f19]) (by simp[AV.cloL,AV.clo]) fun E Q hE hN hQ=>K_start ?_
  repeat'(first|apply nx|refine zx ?_|rw[zw]|((first|refine hK _ ?_|refine hKp _ _ ?_);clear hK hKp K Kp;try clear hanc anc)|((with_reducible refine And.intro ?_ ?_);exact zb)|((first|refine zr hE fun K Kp hK hKp=>?_|refine zd false mixed hE fun K Kp hK hKp anc hanc=>?_);simp only[go_sem,q,q3])|(refine zg (fun hg=>?_) (fun hg=>?_)<;>simp only[go_sem,q,q3,hg])|(refine zc (fun hc=>?_) (fun hc=>?_)<;>try exact zh hc)|(refine K_ret ?_;refine zt hQ ?_))
  simp[AV.snap]
 have q3:(v.kind==3)=false:=by simp[h3]
 rw[q3]
 refine PCall.intro Try.func19 rfl isf19 (by simp[Try.f19]) (by simp[AV.cloL,AV.clo]) fun E Q hE hN hQ=>K_start ?_
 repeat'(first|apply nx|refine zx ?_|rw[zw]|((first|refine hK _ ?_|refine hKp _ _ ?_);clear hK hKp K Kp;try clear hanc anc)|((with_reducible refine And.intro ?_ ?_);exact zb)|((first|refine zr hE fun K Kp hK hKp=>?_|refine zd false mixed hE fun K Kp hK hKp anc hanc=>?_);simp only[go_sem,q,q3])|(refine zg (fun hg=>?_) (fun hg=>?_)<;>simp only[go_sem,q,q3,hg])|(refine zc (fun hc=>?_) (fun hc=>?_)<;>try exact zh hc)|(refine K_ret ?_;refine zt hQ ?_))
 simp[AV.snap]
def ownsT (a:Af) (i:Nat):List Nat:=(List.range i).filter fun i=>match a.sl[i]? with|some v=>ownB v|none=>false
theorem ownsT_step {a:Af} {i:Nat} {v:Vl} (h:a.sl[i]? =some v):ownsT a (i+1)=if ownB v then ownsT a i++[i] else ownsT a i:=by
 unfold ownsT
 rw[List.range_succ,List.filter_append]
 cases hb:ownB v<;>simp[h,hb]
theorem ownsT_len (a:Af) (i:Nat):(ownsT a i).length≤i:=by
 have:=List.length_filter_le (fun i=>match a.sl[i]? with|some v=>ownB v|none=>false) (List.range i)
 rw[List.length_range] at this
 exact this
theorem ownsT_all (a:Af):ownsT a a.sl.length=owns a:=rfl
theorem owns_lt (a:Af):(owns a).Pairwise (· < ·):=List.Pairwise.filter _ List.pairwise_lt_range
theorem order_c (a:Af) (hl:a.sl.length≤12):PCall Try.prog 17 [a.av] (.sl (il (ni (orderL a)))):=by
 rw[Af.av_eq]
 refine PCall.intro Try.func17 rfl isf17 (by simp[Try.f17]) (by simp[AV.cloL,AV.clo]) fun E Q hE hN hQ=>K_start ?_
 repeat'(first|apply nx|refine zx ?_|rw[zw]|((first|refine hK _ ?_|refine hKp _ _ ?_);clear hK hKp K Kp;try clear hanc anc)|((with_reducible refine And.intro ?_ ?_);exact zb)|((first|refine zr hE fun K Kp hK hKp=>?_|refine zd false mixed hE fun K Kp hK hKp anc hanc=>?_);simp only[go_sem])|(refine zg (fun hg=>?_) (fun hg=>?_)<;>simp only[go_sem,hg])|(refine zc (fun hc=>?_) (fun hc=>?_)<;>try exact zh hc)|(refine K_ret ?_;refine zt hQ ?_))
 refine AW_nil 4 1 (by rw[hE];decide) (by simp only[go_sem]) ?_
 simp only[go_sem]
 refine K_loop (X:=Nat) (fun i=>i≤a.sl.length) (fun i=>mkSt [(1,.ptr 0 0),(3,.ptr 1 0),(4,.rw 2),(9,.sl (Vl.avL a.sl)),(10,.i a.sl.length),(11,.i (i:Nat))] [(0,.cells a.cs),(1,.cells [.fn (.func 40) [] [.ptr 0 0]]),(2,.row 1 (il (ni (ownsT a i))))] 3) (fun i=>a.sl.length - i) 0 (Nat.zero_le _) (fun i=>if i=1 then 3145728 else if i=2 then 10485760 else i) ?_ ?_
 ·refine ent_mk (by simp[go_sem]) (by simp[go_sem,Af.cs,ownsT,ni]) (by simp) (by simp[hN])
 intro i hi
 by_cases hlt:i<a.sl.length
 ·obtain⟨v,hv⟩:=get?_of hlt
  have c0:=own_call v
  rw[Vl.av_eq] at c0
  have hst:=ownsT_step hv
  have hol:=ownsT_len a i
  have u1:IntKind.i64.wrap ((i:Int)+1)=((i+1:Nat):Int):=by rw[wrap64 (by omega) (by omega)];omega
  cases hb:ownB v
  ·rw[hb] at hst c0
   repeat'(first|apply nx|refine zx ?_|rw[zw]|((first|refine hK _ ?_|refine hKp _ _ ?_);clear hK hKp K Kp;try clear hanc anc)|((with_reducible refine And.intro ?_ ?_);exact zb)|((first|refine zr hE fun K Kp hK hKp=>?_|refine zd false mixed hE fun K Kp hK hKp anc hanc=>?_|(apply zm;exact zu;exact c0;exact zs;exact zl));simp only[go_sem,lt_dec hlt,hv,Vl.av_eq,u1])|(refine zg (fun hg=>?_) (fun hg=>?_)<;>simp only[go_sem,lt_dec hlt,hv,Vl.av_eq,u1,hg])|(refine zc (fun hc=>?_) (fun hc=>?_)<;>try exact zh hc)|(refine K_ret ?_;refine zt hQ ?_))
   refine⟨i+1,hlt,by omega,fun i=>i,?_⟩
   rw[hst]
   refine ent_mk (by simp[go_sem]) (by simp[go_sem]) (by simp) (by simp[hN])
  ·rw[hb] at hst c0
   repeat'(first|apply nx|refine zx ?_|rw[zw]|((first|refine hK _ ?_|refine hKp _ _ ?_);clear hK hKp K Kp;try clear hanc anc)|((with_reducible refine And.intro ?_ ?_);exact zb)|((first|refine zr hE fun K Kp hK hKp=>?_|refine zd false mixed hE fun K Kp hK hKp anc hanc=>?_|(apply zm;exact zu;exact c0;exact zs;exact zl));simp only[go_sem,lt_dec hlt,hv,Vl.av_eq,u1,il_len,ni_len])|(refine zg (fun hg=>?_) (fun hg=>?_)<;>simp only[go_sem,lt_dec hlt,hv,Vl.av_eq,u1,il_len,ni_len,hg])|(refine zc (fun hc=>?_) (fun hc=>?_)<;>try exact zh hc)|(refine K_ret ?_;refine zt hQ ?_))
   refine⟨i+1,hlt,by omega,fun i=>if i=2 then 12582915 else i,?_⟩
   rw[hst,if_pos rfl]
   refine ent_mk (by simp[go_sem]) (by simp[go_sem,ni]) (by simp) (by simp[hN])
 ·obtain rfl:i=a.sl.length:=by omega
  have hol:=ownsT_len a a.sl.length
  rw[ownsT_all] at*
  repeat'(first|apply nx|refine zx ?_|rw[zw]|((first|refine hK _ ?_|refine hKp _ _ ?_);clear hK hKp K Kp;try clear hanc anc)|((with_reducible refine And.intro ?_ ?_);exact zb)|((first|refine zr hE fun K Kp hK hKp=>?_|refine zd false mixed hE fun K Kp hK hKp anc hanc=>?_);simp only[go_sem,ge_dec])|(refine zg (fun hg=>?_) (fun hg=>?_)<;>simp only[go_sem,ge_dec,hg])|(refine zc (fun hc=>?_) (fun hc=>?_)<;>try exact zh hc)|(refine K_ret ?_;refine zt hQ ?_))
  refine Hold.mk (MCall.use (famS a) (sort_c a (owns a) (by omega) (owns_lt a)) (by simp[AV.idsL,AV.ids]) (obS_of (by simp[updo]) (by simp[updo]) (by simp[updo])) fun x' hpn hG hobj hold=>?_)
  subst hG
  have g2:=hobj 2 _ (obS_2 a _)
  simp only[go_sem,putf]
  refine hK _ ?_;clear hK hKp K Kp;try clear hanc anc
  repeat(first|refine Kq_norm_code ?_|refine Kq_norm_blk ?_|refine Kq_norm_lp ?_)
  repeat'(first|apply nx|refine zx ?_|rw[zw]|((first|refine hK _ ?_|refine hKp _ _ ?_);clear hK hKp K Kp;try clear hanc anc)|((with_reducible refine And.intro ?_ ?_);exact zb)|((first|refine zr hE fun K Kp hK hKp=>?_|refine zd true mixed hE fun K Kp hK hKp anc hanc=>?_|refine zd false mixed hE fun K Kp hK hKp anc hanc=>?_);simp only[go_sem])|(refine zg (fun hg=>?_) (fun hg=>?_)<;>simp only[go_sem,hg])|(refine zc (fun hc=>?_) (fun hc=>?_)<;>try exact zh hc))
  refine K_ret (hQ _ ⟨.rw 2,by simp[resA,rvA,Try.f17,go_sem],by simp[AV.snapOk,g2,go_sem],by simp[AV.snap,g2,orderL],rfl⟩).1
theorem since_call (a:Af) (i:Nat):PCall Try.prog 46 [a.av,.i (i:Nat)] (.i (since a i)):=by
 rw[Af.av_eq]
 unfold since
 by_cases h:i<a.si.length
 ·obtain⟨x,hx⟩:=get?_of h
  have e:a.si.getD i 0=x:=by rw[List.getD_eq_getElem?_getD,hx];rfl
  rw[e]
  refine PCall.intro Try.func46 rfl isf46 (by simp[Try.f46]) (by simp[AV.cloL,AV.clo]) fun E Q hE hN hQ=>K_start ?_
  repeat'(first|apply nx|refine zx ?_|rw[zw]|((first|refine hK _ ?_|refine hKp _ _ ?_);clear hK hKp K Kp;try clear hanc anc)|((with_reducible refine And.intro ?_ ?_);exact zb)|((first|refine zr hE fun K Kp hK hKp=>?_|refine zd false mixed hE fun K Kp hK hKp anc hanc=>?_);simp only[go_sem,lt_dec h,hx])|(refine zg (fun hg=>?_) (fun hg=>?_)<;>simp only[go_sem,lt_dec h,hx,hg])|(refine zc (fun hc=>?_) (fun hc=>?_)<;>try exact zh hc)|(refine K_ret ?_;refine zt hQ ?_))
  simp[AV.snap]
 ·have e:a.si.getD i 0=0:=by rw[List.getD_eq_getElem?_getD,List.getElem?_eq_none (by omega)];rfl
  have q:decide (((i:Nat):Int)<(a.si.length:Int))=false:=decide_eq_false (by omega)
  rw[e]
  refine PCall.intro Try.func46 rfl isf46 (by simp[Try.f46]) (by simp[AV.cloL,AV.clo]) fun E Q hE hN hQ=>K_start ?_
  repeat'(first|apply nx|refine zx ?_|rw[zw]|((first|refine hK _ ?_|refine hKp _ _ ?_);clear hK hKp K Kp;try clear hanc anc)|((with_reducible refine And.intro ?_ ?_);exact zb)|((first|refine zr hE fun K Kp hK hKp=>?_|refine zd false mixed hE fun K Kp hK hKp anc hanc=>?_);simp only[go_sem,q])|(refine zg (fun hg=>?_) (fun hg=>?_)<;>simp only[go_sem,q,hg])|(refine zc (fun hc=>?_) (fun hc=>?_)<;>try exact zh hc)|(refine K_ret ?_;refine zt hQ ?_))
  simp[AV.snap]

theorem insO_at {s:Nat→Int} {x:Nat} :∀ {P:List Nat} {k:Nat},(∀ y,y∈P.take k→s x<s y)→(∀ y,P[k]? =some y→¬ s x<s y)→k≤P.length→insO s x P=P.take k++x::P.drop k
 | [],k,_,_,_=>by simp[insO]
 |z::P,0,_,h,_=>by rw[insO,if_neg (h z rfl)];rfl
 |z::P,k+1,h1,h2,hk=>by
  rw[insO,if_pos (h1 z (by simp)),insO_at (P:=P) (k:=k) (fun y hy=>h1 y (by simp[hy])) (fun y hy=>h2 y (by simpa using hy)) (by simpa using hk)]
  simp
theorem rorder_c (a:Af) (hl:a.sl.length≤2 ^ 20):PCall Try.prog 18 [a.av] (.sl (il (ni (orderL a)))):=by
 rw[Af.av_eq]
 refine PCall.intro Try.func18 rfl isf18 (by simp[Try.f18]) (by simp[AV.cloL,AV.clo]) fun E Q hE hN hQ=>K_start ?_
 repeat'(first|apply nx|refine zx ?_|rw[zw]|((first|refine hK _ ?_|refine hKp _ _ ?_);clear hK hKp K Kp;try clear hanc anc)|((with_reducible refine And.intro ?_ ?_);exact zb)|((first|refine zr hE fun K Kp hK hKp=>?_|refine zd false mixed hE fun K Kp hK hKp anc hanc=>?_);simp only[go_sem])|(refine zg (fun hg=>?_) (fun hg=>?_)<;>simp only[go_sem,hg])|(refine zc (fun hc=>?_) (fun hc=>?_)<;>try exact zh hc)|(refine K_ret ?_;refine zt hQ ?_))
 refine K_loop (X:=Nat) (fun i=>i≤a.sl.length) (fun i=>mkSt [(1,.ptr 0 0),(3,.rw 1),(4,.i (i:Nat))] [(0,.cells a.cs),(1,.row 1 (il (ni (sortO (since a) (ownsT a i)))))] 2) (fun i=>a.sl.length - i) 0 (Nat.zero_le _) (fun i=>if i=1 then 2097152 else i) ?_ ?_
 ·refine ent_mk (by simp[go_sem]) (by simp[go_sem,Af.cs,ownsT,ni,sortO]) (by simp) (by simp[hN])
 intro i hi
 have hsl:(sortO (since a) (ownsT a i)).length≤i:=by rw[sortO_len];exact ownsT_len a i
 by_cases hlt:i<a.sl.length
 case neg=>
  obtain rfl:i=a.sl.length:=by omega
  repeat'(first|apply nx|refine zx ?_|rw[zw]|((first|refine hK _ ?_|refine hKp _ _ ?_);clear hK hKp K Kp;try clear hanc anc)|((with_reducible refine And.intro ?_ ?_);exact zb)|((first|refine zr hE fun K Kp hK hKp=>?_|refine zd true mixed hE fun K Kp hK hKp anc hanc=>?_|refine zd false mixed hE fun K Kp hK hKp anc hanc=>?_);simp only[go_sem,ge_dec,Af.cs])|(refine zg (fun hg=>?_) (fun hg=>?_)<;>simp only[go_sem,ge_dec,Af.cs,hg])|(refine zc (fun hc=>?_) (fun hc=>?_)<;>try exact zh hc))
  refine K_ret (hQ _ ⟨.rw 1,by simp[resA,rvA,Try.f18,go_sem],by simp[AV.snapOk,go_sem],by simp[AV.snap,orderL,ownsT_all,go_sem],rfl⟩).1
 obtain⟨v,hv⟩:=get?_of hlt
 have c0:=rown_call v
 rw[Vl.av_eq] at c0
 have hst:=ownsT_step hv
 have u1:IntKind.i64.wrap ((i:Int)+1)=((i+1:Nat):Int):=by rw[wrap64 (by omega) (by omega)];omega
 cases hb:ownB v
 ·rw[hb] at hst c0
  repeat'(first|apply nx|refine zx ?_|rw[zw]|((first|refine hK _ ?_|refine hKp _ _ ?_);clear hK hKp K Kp;try clear hanc anc)|((with_reducible refine And.intro ?_ ?_);exact zb)|((first|refine zr hE fun K Kp hK hKp=>?_|refine zd false mixed hE fun K Kp hK hKp anc hanc=>?_|(apply zm;exact zu;exact c0;exact zs;exact zl));simp only[go_sem,lt_dec hlt,hv,Vl.av_eq,Af.cs,u1])|(refine zg (fun hg=>?_) (fun hg=>?_)<;>simp only[go_sem,lt_dec hlt,hv,Vl.av_eq,Af.cs,u1,hg])|(refine zc (fun hc=>?_) (fun hc=>?_)<;>try exact zh hc)|(refine K_ret ?_;refine zt hQ ?_))
  refine⟨i+1,hlt,by omega,fun i=>i,?_⟩
  rw[hst]
  refine ent_mk (by simp[go_sem]) (by simp[go_sem,Af.cs]) (by simp) (by simp[hN])
 rw[hb] at hst c0
 rw[if_pos rfl] at hst
 have hst2:sortO (since a) (ownsT a (i+1))=insO (since a) i (sortO (since a) (ownsT a i)):=by rw[hst,sortO_snoc]
 generalize sortO (since a) (ownsT a i)=P at*
 repeat'(first|apply nx|refine zx ?_|rw[zw]|((first|refine hK _ ?_|refine hKp _ _ ?_);clear hK hKp K Kp;try clear hanc anc)|((with_reducible refine And.intro ?_ ?_);exact zb)|((first|refine zr hE fun K Kp hK hKp=>?_|refine zd false mixed hE fun K Kp hK hKp anc hanc=>?_|(apply zm;exact zu;exact c0;exact zs;exact zl));simp only[go_sem,lt_dec hlt,hv,Vl.av_eq,Af.cs,u1])|(refine zg (fun hg=>?_) (fun hg=>?_)<;>simp only[go_sem,lt_dec hlt,hv,Vl.av_eq,Af.cs,u1,hg])|(refine zc (fun hc=>?_) (fun hc=>?_)<;>try exact zh hc)|(refine K_ret ?_;refine zt hQ ?_))
 refine K_loop (X:=Nat) (fun k=>k≤P.length∧∀ y,y∈P.take k→since a i<since a y) (fun k=>mkSt [(1,.ptr 0 0),(3,.rw 1),(4,.i (i:Nat)),(5,.i (k:Nat))] [(0,.cells a.cs),(1,.row 1 (il (ni P)))] 2) (fun k=>P.length - k) 0 ⟨Nat.zero_le _,by simp⟩ (fun i=>i) ?_ ?_
 ·refine ent_mk (by simp[go_sem]) (by simp[go_sem,Af.cs]) (by simp) (by simp[hN])
 rintro k ⟨hk,hks⟩
 have c2:=since_call a i
 by_cases hkl:k<P.length
 ·obtain⟨y,hy⟩:=get?_of hkl
  have c1:=since_call a y
  rw[Af.av_eq] at c1 c2
  have u2:IntKind.i64.wrap ((k:Int)+1)=((k+1:Nat):Int):=by rw[wrap64 (by omega) (by omega)];omega
  by_cases hs:since a i<since a y
  ·have q:decide (since a y>since a i)=true:=decide_eq_true hs
   repeat'(first|apply nx|refine zx ?_|rw[zw]|((first|refine hK _ ?_|refine hKp _ _ ?_);clear hK hKp K Kp;try clear hanc anc)|((with_reducible refine And.intro ?_ ?_);exact zb)|((first|refine zr hE fun K Kp hK hKp=>?_|refine zd false mixed hE fun K Kp hK hKp anc hanc=>?_|(apply zm;exact zu;(first|exact c1|exact c2);exact zs;exact zl));simp only[go_sem,lt_dec hkl,il_len,ni_len,ni_get,hy,Af.cs,q,u2])|(refine zg (fun hg=>?_) (fun hg=>?_)<;>simp only[go_sem,lt_dec hkl,il_len,ni_len,ni_get,hy,Af.cs,q,u2,hg])|(refine zc (fun hc=>?_) (fun hc=>?_)<;>try exact zh hc)|(refine K_ret ?_;refine zt hQ ?_))
   refine⟨k+1,⟨hkl,fun z hz=>?_⟩,by omega,fun i=>i,?_⟩
   ·rw[List.take_add_one,hy] at hz
    rcases List.mem_append.1 hz with hz|hz
    ·exact hks z hz
    ·simp at hz;subst hz;exact hs
   ·refine ent_mk (by simp[go_sem]) (by simp[go_sem,Af.cs]) (by simp) (by simp[hN])
  ·have q:decide (since a y>since a i)=false:=decide_eq_false hs
   have hins:=insO_at (s:=since a) (x:=i) (P:=P) (k:=k) hks (fun z hz=>by rw[hy] at hz;cases hz;exact hs) hk
   repeat'(first|apply nx|refine zx ?_|rw[zw]|((first|refine hK _ ?_|refine hKp _ _ ?_);clear hK hKp K Kp;try clear hanc anc)|((with_reducible refine And.intro ?_ ?_);exact zb)|((fail_if_success refine K_stop 9 ?_);(first|refine zr hE fun K Kp hK hKp=>?_|refine zd true mixed hE fun K Kp hK hKp anc hanc=>?_|refine zd false mixed hE fun K Kp hK hKp anc hanc=>?_|(apply zm;exact zu;(first|exact c1|exact c2);exact zs;exact zl));simp only[go_sem,lt_dec hkl,il_len,ni_len,ni_get,hy,Af.cs,q,u1])|(refine zg (fun hg=>?_) (fun hg=>?_)<;>simp only[go_sem,lt_dec hkl,il_len,ni_len,ni_get,hy,Af.cs,q,u1,hg])|(refine zc (fun hc=>?_) (fun hc=>?_)<;>try exact zh hc))
   have ht:((ni P).take k).length=k:=by simp[ni];omega
   have hdp:((ni P).drop k).length=P.length - k:=by simp[ni]
   refine K_part 3 hE rfl rfl rfl rfl rfl fun K Kp hK hKp=>?_
   simp only[go_sem]
   refine PGo.mk' 1 16777218 (some (.i (k:Nat))) none 20971522 1 ti36 ti3 ti36 ti36 (by rw[hE];decide) (by rw[hE];decide) rfl rfl rfl rfl ?_ (fun _ h=>by cases h) rfl ?_ ?_ ?_
   ·rintro _ ⟨⟩;exact⟨_,rfl,rfl⟩
   ·refine⟨by omega,?_⟩
    simp[il_len,ni_len];omega
   ·simp[Fits,il_len,ni_len];omega
   simp only[go_sem]
   refine hK _ ?_;clear hK hKp K Kp;try clear hanc anc
   repeat(first|refine Kq_norm_code ?_|refine Kq_norm_blk ?_|refine Kq_norm_lp ?_)
   repeat'(first|apply nx|refine zx ?_|rw[zw]|((first|refine hK _ ?_|refine hKp _ _ ?_);clear hK hKp K Kp;try clear hanc anc)|((with_reducible refine And.intro ?_ ?_);exact zb)|((first|refine zr hE fun K Kp hK hKp=>?_|refine zd true mixed hE fun K Kp hK hKp anc hanc=>?_|refine zd false mixed hE fun K Kp hK hKp anc hanc=>?_);simp only[go_sem,il_len,ni_len,u1,ht,hdp])|(refine zg (fun hg=>?_) (fun hg=>?_)<;>simp only[go_sem,il_len,ni_len,u1,ht,hdp,hg])|(refine zc (fun hc=>?_) (fun hc=>?_)<;>try exact zh hc))
   refine⟨i+1,hlt,by omega,fun i=>if i=1 then 30408706 else i,?_⟩
   rw[hst2,hins]
   refine ent_mk (by simp[go_sem]) (by simp[go_sem,Af.cs,ni]) (by simp) (by simp[hN])
 ·obtain rfl:k=P.length:=by omega
  have hins:=insO_at (s:=since a) (x:=i) (P:=P) (k:=P.length) hks (fun z hz=>by simp at hz) hk
  repeat'(first|apply nx|refine zx ?_|rw[zw]|((first|refine hK _ ?_|refine hKp _ _ ?_);clear hK hKp K Kp;try clear hanc anc)|((with_reducible refine And.intro ?_ ?_);exact zb)|((fail_if_success refine K_stop 9 ?_);(first|refine zr hE fun K Kp hK hKp=>?_|refine zd true mixed hE fun K Kp hK hKp anc hanc=>?_|refine zd false mixed hE fun K Kp hK hKp anc hanc=>?_|(apply zm;exact zu;(first|exact c1|exact c2);exact zs;exact zl));simp only[go_sem,ge_dec,il_len,ni_len,Af.cs,u1])|(refine zg (fun hg=>?_) (fun hg=>?_)<;>simp only[go_sem,ge_dec,il_len,ni_len,Af.cs,u1,hg])|(refine zc (fun hc=>?_) (fun hc=>?_)<;>try exact zh hc))
  have ht:((ni P).take P.length).length=P.length:=by simp[ni]
  have hdp:((ni P).drop P.length).length=P.length - P.length:=by simp[ni]
  refine K_part 3 hE rfl rfl rfl rfl rfl fun K Kp hK hKp=>?_
  simp only[go_sem]
  refine PGo.mk' 1 16777218 (some (.i (P.length:Nat))) none 20971522 1 ti36 ti3 ti36 ti36 (by rw[hE];decide) (by rw[hE];decide) rfl rfl rfl rfl ?_ (fun _ h=>by cases h) rfl ?_ ?_ ?_
  ·rintro _ ⟨⟩;exact⟨_,rfl,rfl⟩
  ·refine⟨by omega,?_⟩
   simp[il_len,ni_len]
  ·simp[Fits,il_len,ni_len]
  simp only[go_sem]
  refine hK _ ?_;clear hK hKp K Kp;try clear hanc anc
  repeat(first|refine Kq_norm_code ?_|refine Kq_norm_blk ?_|refine Kq_norm_lp ?_)
  repeat'(first|apply nx|refine zx ?_|rw[zw]|((first|refine hK _ ?_|refine hKp _ _ ?_);clear hK hKp K Kp;try clear hanc anc)|((with_reducible refine And.intro ?_ ?_);exact zb)|((first|refine zr hE fun K Kp hK hKp=>?_|refine zd true mixed hE fun K Kp hK hKp anc hanc=>?_|refine zd false mixed hE fun K Kp hK hKp anc hanc=>?_);simp only[go_sem,il_len,ni_len,u1,ht,hdp])|(refine zg (fun hg=>?_) (fun hg=>?_)<;>simp only[go_sem,il_len,ni_len,u1,ht,hdp,hg])|(refine zc (fun hc=>?_) (fun hc=>?_)<;>try exact zh hc))
  refine⟨i+1,hlt,by omega,fun i=>if i=1 then 30408706 else i,?_⟩
  have eT:(ni P).take P.length=ni P:=by rw[← ni_len P];exact List.take_length
  have eD:(ni P).drop P.length=[]:=by rw[← ni_len P];exact List.drop_length
  have eS:ni (P++[i])=ni P++[(i:Int)]:=by simp[ni]
  rw[List.take_length,List.drop_length] at hins
  rw[hst2,hins,eS]
  refine ent_mk (by simp[go_sem]) (by simp[go_sem,Af.cs,eT,eD]) (by simp) (by simp[hN])
end Go.Proofs.Ytfgjjnfdcgkpoaa
