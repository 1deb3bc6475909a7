/- A part of the proof: an abstract machine for the walks, and what the walked functions compute. -/
import Derived.Test.YtfgjjnfdcgkpoaaCo
import Derived.Test.YtfgjjnfdcgkpoaaCk
set_option linter.unusedVariables false
set_option linter.unusedSimpArgs false
set_option maxHeartbeats 4000000
set_option maxRecDepth 100000
namespace Go.Proofs.Ytfgjjnfdcgkpoaa
open Go.Am Go.Proofs Go.Hv
open Classical
attribute [local irreducible] AW CallP CallB CallY
theorem ready_c (w:Wd) (tk:Int) (hw:w.ts.length≤2 ^ 40):PCall Try.prog 27 [w.av,.i tk] (.bool (readyT w tk).isSome):=by
 unfold readyT
 rw[Wd.av_eq]
 by_cases h1:0≤tk
 ·obtain⟨m,rfl⟩:∃ m:Nat,tk=m:=⟨tk.toNat,by omega⟩
  have q1:decide ((m:Int)≥0)=true:=decide_eq_true (by omega)
  rw[if_pos h1,Int.toNat_natCast]
  by_cases h2:m<w.ts.length
  ·obtain⟨t,ht⟩:=get?_of h2
   rw[ht]
   by_cases hs:t.st=0
   ·have q3:(t.st==0)=true:=by simpa using hs
    refine PCall.intro Try.func27 rfl isf27 (by simp[Try.f27]) (by simp[AV.cloL,AV.clo]) fun E Q hE hN hQ=>K_start ?_
    repeat'(first|apply nx|refine zx ?_|rw[zw]|((first|refine hK _ ?_|refine hKp _ _ ?_);clear hK hKp K Kp;try clear hanc anc)|((with_reducible refine And.intro ?_ ?_);exact zb)|((first|refine zr hE fun K Kp hK hKp=>?_|refine zd false mixed hE fun K Kp hK hKp anc hanc=>?_);simp only[go_sem,q1,lt_dec h2,ht,Tsk.av_eq,q3])|(refine zg (fun hg=>?_) (fun hg=>?_)<;>simp only[go_sem,q1,lt_dec h2,ht,Tsk.av_eq,q3,hg])|(refine zc (fun hc=>?_) (fun hc=>?_)<;>try exact zh hc)|(refine K_ret ?_;refine zt hQ ?_))
    simp[AV.snap,hs]
   ·have q3:(t.st==0)=false:=by simpa using hs
    refine PCall.intro Try.func27 rfl isf27 (by simp[Try.f27]) (by simp[AV.cloL,AV.clo]) fun E Q hE hN hQ=>K_start ?_
    repeat'(first|apply nx|refine zx ?_|rw[zw]|((first|refine hK _ ?_|refine hKp _ _ ?_);clear hK hKp K Kp;try clear hanc anc)|((with_reducible refine And.intro ?_ ?_);exact zb)|((first|refine zr hE fun K Kp hK hKp=>?_|refine zd false mixed hE fun K Kp hK hKp anc hanc=>?_);simp only[go_sem,q1,lt_dec h2,ht,Tsk.av_eq,q3])|(refine zg (fun hg=>?_) (fun hg=>?_)<;>simp only[go_sem,q1,lt_dec h2,ht,Tsk.av_eq,q3,hg])|(refine zc (fun hc=>?_) (fun hc=>?_)<;>try exact zh hc)|(refine K_ret ?_;refine zt hQ ?_))
    simp[AV.snap,hs]
  ·have q2:decide ((m:Int)<(w.ts.length:Int))=false:=decide_eq_false (by omega)
   rw[List.getElem?_eq_none (by omega)]
   refine PCall.intro Try.func27 rfl isf27 (by simp[Try.f27]) (by simp[AV.cloL,AV.clo]) fun E Q hE hN hQ=>K_start ?_
   repeat'(first|apply nx|refine zx ?_|rw[zw]|((first|refine hK _ ?_|refine hKp _ _ ?_);clear hK hKp K Kp;try clear hanc anc)|((with_reducible refine And.intro ?_ ?_);exact zb)|((first|refine zr hE fun K Kp hK hKp=>?_|refine zd false mixed hE fun K Kp hK hKp anc hanc=>?_);simp only[go_sem,q1,q2])|(refine zg (fun hg=>?_) (fun hg=>?_)<;>simp only[go_sem,q1,q2,hg])|(refine zc (fun hc=>?_) (fun hc=>?_)<;>try exact zh hc)|(refine K_ret ?_;refine zt hQ ?_))
   simp[AV.snap]
 ·have q1:decide (tk≥0)=false:=decide_eq_false (by omega)
  rw[if_neg h1]
  refine PCall.intro Try.func27 rfl isf27 (by simp[Try.f27]) (by simp[AV.cloL,AV.clo]) fun E Q hE hN hQ=>K_start ?_
  repeat'(first|apply nx|refine zx ?_|rw[zw]|((first|refine hK _ ?_|refine hKp _ _ ?_);clear hK hKp K Kp;try clear hanc anc)|((with_reducible refine And.intro ?_ ?_);exact zb)|((first|refine zr hE fun K Kp hK hKp=>?_|refine zd false mixed hE fun K Kp hK hKp anc hanc=>?_);simp only[go_sem,q1])|(refine zg (fun hg=>?_) (fun hg=>?_)<;>simp only[go_sem,q1,hg])|(refine zc (fun hc=>?_) (fun hc=>?_)<;>try exact zh hc)|(refine K_ret ?_;refine zt hQ ?_))
  simp[AV.snap]

theorem eqty73:Try.prog.stoodInHeld 73=false∧Try.prog.eqGuardType Try.prog.depth 73=false:=by constructor<;>kernel_rfl
theorem agg73 (x y:Int×Int) (r:Bool) (h:r=decide (x=y)):aggE Try.prog .neq 73 [.i x.1,.i x.2] [.i y.1,.i y.2]=some (True,.bool (!r)):=by
 have e:(x.1==y.1&&x.2==y.2)=r:=by
  rw[h,Bool.eq_iff_iff]
  cases x;cases y
  simp
 unfold aggE
 simp only[eqTy,Try.underlying73,eqty73,eqF,Try.underlying3,AV.i]
 simp[eqF,Try.underlying3,AV.i]
 simp[← e]
theorem sameO_c (a b:List (Int×Int)) (ha:a.length≤2 ^ 40):PCall Try.prog 25 [.sl (oul a),.sl (oul b)] (.bool (decide (a=b))):=by
 by_cases hn1:a.length=b.length
 case neg=>
  have q1:((a.length:Int) !=(b.length:Int))=true:=by simp;omega
  have hne:a≠b:=by rintro rfl;exact hn1 rfl
  refine PCall.intro Try.func25 rfl isf25 (by simp[Try.f25]) (by simp[AV.cloL,AV.clo]) fun E Q hE hN hQ=>K_start ?_
  repeat'(first|apply nx|refine zx ?_|rw[zw]|((first|refine hK _ ?_|refine hKp _ _ ?_);clear hK hKp K Kp;try clear hanc anc)|((with_reducible refine And.intro ?_ ?_);exact zb)|((first|refine zr hE fun K Kp hK hKp=>?_|refine zd false mixed hE fun K Kp hK hKp anc hanc=>?_);simp only[go_sem,q1])|(refine zg (fun hg=>?_) (fun hg=>?_)<;>simp only[go_sem,q1,hg])|(refine zc (fun hc=>?_) (fun hc=>?_)<;>try exact zh hc)|(refine K_ret ?_;refine zt hQ ?_))
  simp[AV.snap,hne]
 have q1:((a.length:Int) !=(b.length:Int))=false:=by simp[hn1]
 refine PCall.intro Try.func25 rfl isf25 (by simp[Try.f25]) (by simp[AV.cloL,AV.clo]) fun E Q hE hN hQ=>K_start ?_
 repeat'(first|apply nx|refine zx ?_|rw[zw]|((first|refine hK _ ?_|refine hKp _ _ ?_);clear hK hKp K Kp;try clear hanc anc)|((with_reducible refine And.intro ?_ ?_);exact zb)|((first|refine zr hE fun K Kp hK hKp=>?_|refine zd false mixed hE fun K Kp hK hKp anc hanc=>?_);simp only[go_sem,q1])|(refine zg (fun hg=>?_) (fun hg=>?_)<;>simp only[go_sem,q1,hg])|(refine zc (fun hc=>?_) (fun hc=>?_)<;>try exact zh hc)|(refine K_ret ?_;refine zt hQ ?_))
 refine K_loop (X:=Nat) (fun i=>i≤a.length∧a.take i=b.take i) (fun i=>mkSt [(0,.sl (oul a)),(1,.sl (oul b)),(5,AV.i i)] [] 0) (fun i=>a.length - i) 0 ⟨Nat.zero_le _,by simp⟩ (fun i=>i) (by refine ent_mk (by simp[go_sem]) (by simp[go_sem]) (by simp) (by simp[hN])) ?_
 rintro i ⟨hi,ht⟩
 by_cases hlt:i<a.length
 ·obtain⟨x,hx⟩:=get?_of hlt
  obtain⟨y,hy⟩:=get?_of (show i<b.length by omega)
  have u1:IntKind.i64.wrap ((i:Int)+1)=((i+1:Nat):Int):=by rw[wrap64 (by omega) (by omega)];omega
  by_cases hxy:x=y
  ·have ag:=agg73 x y true (by simp[hxy])
   repeat'(first|apply nx|refine zx ?_|rw[zw]|((first|refine hK _ ?_|refine hKp _ _ ?_);clear hK hKp K Kp;try clear hanc anc)|((with_reducible refine And.intro ?_ ?_);exact zb)|((first|refine zr hE fun K Kp hK hKp=>?_|refine zd false mixed hE fun K Kp hK hKp anc hanc=>?_);simp only[go_sem,lt_dec hlt,hx,hy,ouv,u1,ag])|(refine zg (fun hg=>?_) (fun hg=>?_)<;>simp only[go_sem,lt_dec hlt,hx,hy,ouv,u1,ag,hg])|(refine zc (fun hc=>?_) (fun hc=>?_)<;>try exact zh hc)|(refine K_ret ?_;refine zt hQ ?_))
   refine⟨i+1,⟨by omega,?_⟩,by omega,fun i=>i,by refine ent_mk (by simp[go_sem]) (by simp[go_sem]) (by simp) (by simp[hN])⟩
   rw[List.take_add_one,List.take_add_one,ht,hx,hy,hxy]
  ·have hne:a≠b:=by rintro rfl;rw[hx] at hy;exact hxy (Option.some.inj hy)
   have ag:=agg73 x y false (by simp[hxy])
   repeat'(first|apply nx|refine zx ?_|rw[zw]|((first|refine hK _ ?_|refine hKp _ _ ?_);clear hK hKp K Kp;try clear hanc anc)|((with_reducible refine And.intro ?_ ?_);exact zb)|((first|refine zr hE fun K Kp hK hKp=>?_|refine zd false mixed hE fun K Kp hK hKp anc hanc=>?_);simp only[go_sem,lt_dec hlt,hx,hy,ouv,ag])|(refine zg (fun hg=>?_) (fun hg=>?_)<;>simp only[go_sem,lt_dec hlt,hx,hy,ouv,ag,hg])|(refine zc (fun hc=>?_) (fun hc=>?_)<;>try exact zh hc)|(refine K_ret ?_;refine zt hQ ?_))
   simp[AV.snap,hne]
 ·obtain rfl:i=a.length:=by omega
  rw[List.take_length,hn1,List.take_length] at ht
  repeat'(first|apply nx|refine zx ?_|rw[zw]|((first|refine hK _ ?_|refine hKp _ _ ?_);clear hK hKp K Kp;try clear hanc anc)|((with_reducible refine And.intro ?_ ?_);exact zb)|((first|refine zr hE fun K Kp hK hKp=>?_|refine zd false mixed hE fun K Kp hK hKp anc hanc=>?_);simp only[go_sem,ge_dec])|(refine zg (fun hg=>?_) (fun hg=>?_)<;>simp only[go_sem,ge_dec,hg])|(refine zc (fun hc=>?_) (fun hc=>?_)<;>try exact zh hc)|(refine K_ret ?_;refine zt hQ ?_))
  simp[AV.snap,ht]
theorem Af.eq_iff (a b:Af):a=b↔a.num=b.num∧a.rt=b.rt∧a.blk=b.blk∧a.idx=b.idx∧a.dst=b.dst∧a.sl=b.sl∧a.si=b.si:=by cases a;cases b;simp
theorem Tsk.eq_iff (a b:Tsk):a=b↔a.st=b.st∧a.fs=b.fs∧a.ls=b.ls∧a.al=b.al∧a.ck=b.ck∧a.nx=b.nx∧a.ce=b.ce:=by cases a;cases b;simp
end Go.Proofs.Ytfgjjnfdcgkpoaa

set_option maxHeartbeats 4000000
set_option maxRecDepth 100000
namespace Go.Hv
open Go Go.Am Go.Proofs.Ytfgjjnfdcgkpoaa
end Go.Hv
namespace Go.Proofs.Ytfgjjnfdcgkpoaa
open Go.Am Go.Proofs Go.Hv
open Classical
attribute [local irreducible] AW CallP CallB CallY
structure WL (a:Wd):Prop where
 h:HB a.h
 ou:a.ou.length≤2 ^ 40
 t:a.ts.length≤2 ^ 40
 c:a.cn.length≤2 ^ 40
 tf:∀ t,t∈a.ts→(∀ x,x∈t.fs→(∀ v,v∈x.sl→v.sz<2 ^ 40)∧x.sl.length≤2 ^ 40∧x.si.length≤2 ^ 40)∧t.fs.length≤2 ^ 40∧t.ls.length≤2 ^ 40∧t.ce.length≤2 ^ 40
 cv:∀ l,l∈a.cn→l.length≤2 ^ 40∧∀ v,v∈l→v.sz<2 ^ 40
end Go.Proofs.Ytfgjjnfdcgkpoaa

set_option maxHeartbeats 4000000
set_option maxRecDepth 100000
namespace Go.Hv
open Go Go.Am Go.Proofs.Ytfgjjnfdcgkpoaa
def cntd (l:List Int):Prop:=∀ x,x∈l→ -1099511627776≤x∧x≤1099511627776
def fewL (l:List Vl):Prop:=(∀ v,v∈l→sizeV v 60≤60)∧l.length≤8
def fewF (a:Af):Prop:=fewL a.sl∧a.si.length≤8
def fewT (t:Tsk):Prop:=t.fs.length≤8∧t.ls.length≤60∧t.ce.length≤60∧cntd [t.al,t.ck,t.nx]∧∀ a,a∈t.fs→fewF a
def fewW (w:Wd):Prop:=fewB w.h (.mk 0 0 0 0 [] false [] [])∧w.ts.length≤8∧w.D.length≤60∧w.ou.length≤300∧w.cn.length≤8∧cntd [w.md,w.dp,w.cd]∧(∀ t,t∈w.ts→fewT t)∧∀ l,l∈w.cn→fewL l
end Go.Hv
namespace Go.Proofs.Ytfgjjnfdcgkpoaa
open Go.Am Go.Proofs Go.Hv
open Classical
attribute [local irreducible] AW CallP CallB CallY
structure WG (w:Wd):Prop where
 h:HB w.h
 D:w.D.length≤2 ^ 20
 ou:w.ou.length≤2 ^ 20
 t:w.ts.length≤2 ^ 20
 c:w.cn.length≤2 ^ 20
 tf:∀ t,t∈w.ts→(∀ x,x∈t.fs→(∀ v,v∈x.sl→v.sz≤2 ^ 20)∧x.sl.length≤2 ^ 20∧x.si.length≤2 ^ 20)∧t.fs.length≤2 ^ 20∧t.ls.length≤2 ^ 20∧t.ce.length≤2 ^ 20
 cv:∀ l,l∈w.cn→l.length≤2 ^ 20∧∀ v,v∈l→v.sz≤2 ^ 20
theorem WG.wl {w:Wd} (h:WG w):WL w:=⟨h.h,by have:=h.ou;omega,by have:=h.t;omega,by have:=h.c;omega,fun t ht=>by
 obtain⟨a,b,c,d⟩:=h.tf t ht
 exact⟨fun x hx=>by obtain⟨e,f,g⟩:=a x hx;exact⟨fun v hv=>by have:=e v hv;omega,by omega,by omega⟩,by omega,by omega,by omega⟩,fun l hl=>by
 obtain⟨a,b⟩:=h.cv l hl
 exact⟨by omega,fun v hv=>by have:=b v hv;omega⟩⟩
theorem WG.ws {w:Wd} (h:WG w) (hf:fewW w):WS w:=by
 obtain⟨a1,a2,a3,a4,a5,a6,a7,a8⟩:=hf
 refine⟨h.h,a1.1,a2,fun t ht=>?_,fun t ht a ha v hv=>((h.tf t ht).1 a ha).1 v hv,a3,a4,?_,?_⟩
 ·obtain⟨b1,b2,b3,b4,b5⟩:=a7 t ht
  exact⟨b1,fun a ha=>(b5 a ha).1.2⟩
 ·have:=a6 w.dp (by simp);omega
 ·have:=a6 w.cd (by simp);omega
theorem counted_c (l:List Int) (hl:l.length≤2 ^ 40):PCall Try.prog 33 [.sl (il l)] (.bool (decide (cntd l))):=by
 refine PCall.intro Try.func33 rfl isf33 (by simp[Try.f33]) (by simp[AV.cloL,AV.clo]) fun E Q hE hN hQ=>K_start ?_
 repeat'(first|apply nx|refine zx ?_|rw[zw]|((first|refine hK _ ?_|refine hKp _ _ ?_);clear hK hKp K Kp;try clear hanc anc)|((with_reducible refine And.intro ?_ ?_);exact zb)|((first|refine zr hE fun K Kp hK hKp=>?_|refine zd false mixed hE fun K Kp hK hKp anc hanc=>?_);simp only[go_sem])|(refine zg (fun hg=>?_) (fun hg=>?_)<;>simp only[go_sem,hg])|(refine zc (fun hc=>?_) (fun hc=>?_)<;>try exact zh hc)|(refine K_ret ?_;refine zt hQ ?_))
 refine K_loop (X:=Nat) (fun i=>i≤l.length∧cntd (l.take i)) (fun i=>mkSt [(0,.sl (il l)),(3,AV.i i)] [] 0) (fun i=>l.length - i) 0 ⟨Nat.zero_le _,by simp[cntd]⟩ (fun i=>i) (by refine ent_mk (by simp[go_sem]) (by simp[go_sem]) (by simp) (by simp[hN])) ?_
 rintro i ⟨hi,ht⟩
 by_cases hlt:i<l.length
 ·obtain⟨x,hx⟩:=get?_of hlt
  have u1:IntKind.i64.wrap ((i:Int)+1)=((i+1:Nat):Int):=by rw[wrap64 (by omega) (by omega)];omega
  by_cases h1:x< -1099511627776
  ·have hn:¬ cntd l:=fun h=>by have:=(h x (List.mem_of_getElem? hx)).1;omega
   have q1:decide (x< -1099511627776)=true:=decide_eq_true h1
   repeat'(first|apply nx|refine zx ?_|rw[zw]|((first|refine hK _ ?_|refine hKp _ _ ?_);clear hK hKp K Kp;try clear hanc anc)|((with_reducible refine And.intro ?_ ?_);exact zb)|((first|refine zr hE fun K Kp hK hKp=>?_|refine zd false mixed hE fun K Kp hK hKp anc hanc=>?_);simp only[go_sem,lt_dec hlt,hx,q1])|(refine zg (fun hg=>?_) (fun hg=>?_)<;>simp only[go_sem,lt_dec hlt,hx,q1,hg])|(refine zc (fun hc=>?_) (fun hc=>?_)<;>try exact zh hc)|(refine K_ret ?_;refine zt hQ ?_))
   simp[AV.snap,hn]
  ·have q1:decide (x< -1099511627776)=false:=decide_eq_false h1
   by_cases h2:1099511627776<x
   ·have hn:¬ cntd l:=fun h=>by have:=(h x (List.mem_of_getElem? hx)).2;omega
    have q2:decide (1099511627776<x)=true:=decide_eq_true h2
    repeat'(first|apply nx|refine zx ?_|rw[zw]|((first|refine hK _ ?_|refine hKp _ _ ?_);clear hK hKp K Kp;try clear hanc anc)|((with_reducible refine And.intro ?_ ?_);exact zb)|((first|refine zr hE fun K Kp hK hKp=>?_|refine zd false mixed hE fun K Kp hK hKp anc hanc=>?_);simp only[go_sem,lt_dec hlt,hx,q1,q2])|(refine zg (fun hg=>?_) (fun hg=>?_)<;>simp only[go_sem,lt_dec hlt,hx,q1,q2,hg])|(refine zc (fun hc=>?_) (fun hc=>?_)<;>try exact zh hc)|(refine K_ret ?_;refine zt hQ ?_))
    simp[AV.snap,hn]
   ·have q2:decide (1099511627776<x)=false:=decide_eq_false h2
    repeat'(first|apply nx|refine zx ?_|rw[zw]|((first|refine hK _ ?_|refine hKp _ _ ?_);clear hK hKp K Kp;try clear hanc anc)|((with_reducible refine And.intro ?_ ?_);exact zb)|((first|refine zr hE fun K Kp hK hKp=>?_|refine zd false mixed hE fun K Kp hK hKp anc hanc=>?_);simp only[go_sem,lt_dec hlt,hx,q1,q2,u1])|(refine zg (fun hg=>?_) (fun hg=>?_)<;>simp only[go_sem,lt_dec hlt,hx,q1,q2,u1,hg])|(refine zc (fun hc=>?_) (fun hc=>?_)<;>try exact zh hc)|(refine K_ret ?_;refine zt hQ ?_))
    refine⟨i+1,⟨by omega,?_⟩,by omega,fun i=>i,by refine ent_mk (by simp[go_sem]) (by simp[go_sem]) (by simp) (by simp[hN])⟩
    rw[List.take_add_one,hx]
    intro c hc
    rcases List.mem_append.1 hc with hc|hc
    ·exact ht c hc
    ·simp at hc;subst hc;omega
 ·obtain rfl:i=l.length:=by omega
  rw[List.take_length] at ht
  repeat'(first|apply nx|refine zx ?_|rw[zw]|((first|refine hK _ ?_|refine hKp _ _ ?_);clear hK hKp K Kp;try clear hanc anc)|((with_reducible refine And.intro ?_ ?_);exact zb)|((first|refine zr hE fun K Kp hK hKp=>?_|refine zd false mixed hE fun K Kp hK hKp anc hanc=>?_);simp only[go_sem,ge_dec])|(refine zg (fun hg=>?_) (fun hg=>?_)<;>simp only[go_sem,ge_dec,hg])|(refine zc (fun hc=>?_) (fun hc=>?_)<;>try exact zh hc)|(refine K_ret ?_;refine zt hQ ?_))
  simp[AV.snap,ht]
theorem fewL_c (l:List Vl) (hl:l.length≤2 ^ 40) (hz:∀ v,v∈l→v.sz<2 ^ 40):PCall Try.prog 34 [.sl (Vl.avL l)] (.bool (decide (fewL l))):=by
 refine PCall.intro Try.func34 rfl isf34 (by simp[Try.f34]) (by simp[AV.cloL,AV.clo]) fun E Q hE hN hQ=>K_start ?_
 repeat'(first|apply nx|refine zx ?_|rw[zw]|((first|refine hK _ ?_|refine hKp _ _ ?_);clear hK hKp K Kp;try clear hanc anc)|((with_reducible refine And.intro ?_ ?_);exact zb)|((first|refine zr hE fun K Kp hK hKp=>?_|refine zd false mixed hE fun K Kp hK hKp anc hanc=>?_);simp only[go_sem])|(refine zg (fun hg=>?_) (fun hg=>?_)<;>simp only[go_sem,hg])|(refine zc (fun hc=>?_) (fun hc=>?_)<;>try exact zh hc)|(refine K_ret ?_;refine zt hQ ?_))
 refine K_loop (X:=Nat) (fun i=>i≤l.length∧∀ v,v∈l.take i→sizeV v 60≤60) (fun i=>mkSt [(0,.sl (Vl.avL l)),(3,AV.i i)] [] 0) (fun i=>l.length - i) 0 ⟨Nat.zero_le _,by simp⟩ (fun i=>i) (by refine ent_mk (by simp[go_sem]) (by simp[go_sem]) (by simp) (by simp[hN])) ?_
 rintro i ⟨hi,ht⟩
 by_cases hlt:i<l.length
 ·obtain⟨x,hx⟩:=get?_of hlt
  have u1:IntKind.i64.wrap ((i:Int)+1)=((i+1:Nat):Int):=by rw[wrap64 (by omega) (by omega)];omega
  have hc0:=size60 x (hz x (List.mem_of_getElem? hx))
  unfold Vl.cs at hc0
  by_cases h1:sizeV x 60≤60
  ·have q4:decide (60<sizeV x 60)=false:=by simp;omega
   repeat'(first|apply nx|refine zx ?_|rw[zw]|((first|refine hK _ ?_|refine hKp _ _ ?_);clear hK hKp K Kp;try clear hanc anc)|((with_reducible refine And.intro ?_ ?_);exact zb)|((first|refine zr hE fun K Kp hK hKp=>?_|refine zd false mixed hE fun K Kp hK hKp anc hanc=>?_|(apply zm;exact zu;exact hc0;exact zs;exact zl));simp only[go_sem,lt_dec hlt,hx,Vl.av_eq,q4,u1])|(refine zg (fun hg=>?_) (fun hg=>?_)<;>simp only[go_sem,lt_dec hlt,hx,Vl.av_eq,q4,u1,hg])|(refine zc (fun hc=>?_) (fun hc=>?_)<;>try exact zh hc)|(refine K_ret ?_;refine zt hQ ?_))
   refine⟨i+1,⟨by omega,?_⟩,by omega,fun i=>i,by refine ent_mk (by simp[go_sem]) (by simp[go_sem]) (by simp) (by simp[hN])⟩
   rw[List.take_add_one,hx]
   intro c hc
   rcases List.mem_append.1 hc with hc|hc
   ·exact ht c hc
   ·simp at hc;subst hc;exact h1
  ·have q4:decide (60<sizeV x 60)=true:=by simp;omega
   have hn:¬ fewL l:=fun hf=>h1 (hf.1 x (List.mem_of_getElem? hx))
   repeat'(first|apply nx|refine zx ?_|rw[zw]|((first|refine hK _ ?_|refine hKp _ _ ?_);clear hK hKp K Kp;try clear hanc anc)|((with_reducible refine And.intro ?_ ?_);exact zb)|((first|refine zr hE fun K Kp hK hKp=>?_|refine zd false mixed hE fun K Kp hK hKp anc hanc=>?_|(apply zm;exact zu;exact hc0;exact zs;exact zl));simp only[go_sem,lt_dec hlt,hx,Vl.av_eq,q4])|(refine zg (fun hg=>?_) (fun hg=>?_)<;>simp only[go_sem,lt_dec hlt,hx,Vl.av_eq,q4,hg])|(refine zc (fun hc=>?_) (fun hc=>?_)<;>try exact zh hc)|(refine K_ret ?_;refine zt hQ ?_))
   simp[AV.snap,hn]
 ·obtain rfl:i=l.length:=by omega
  rw[List.take_length] at ht
  by_cases h8:l.length≤8
  ·have q8:decide ((l.length:Int)≤8)=true:=by simp;omega
   have hn:fewL l:=⟨ht,h8⟩
   repeat'(first|apply nx|refine zx ?_|rw[zw]|((first|refine hK _ ?_|refine hKp _ _ ?_);clear hK hKp K Kp;try clear hanc anc)|((with_reducible refine And.intro ?_ ?_);exact zb)|((first|refine zr hE fun K Kp hK hKp=>?_|refine zd false mixed hE fun K Kp hK hKp anc hanc=>?_);simp only[go_sem,ge_dec,q8])|(refine zg (fun hg=>?_) (fun hg=>?_)<;>simp only[go_sem,ge_dec,q8,hg])|(refine zc (fun hc=>?_) (fun hc=>?_)<;>try exact zh hc)|(refine K_ret ?_;refine zt hQ ?_))
   simp[AV.snap,hn]
  ·have q8:decide ((l.length:Int)≤8)=false:=by simp;omega
   have hn:¬ fewL l:=fun h=>h8 h.2
   repeat'(first|apply nx|refine zx ?_|rw[zw]|((first|refine hK _ ?_|refine hKp _ _ ?_);clear hK hKp K Kp;try clear hanc anc)|((with_reducible refine And.intro ?_ ?_);exact zb)|((first|refine zr hE fun K Kp hK hKp=>?_|refine zd false mixed hE fun K Kp hK hKp anc hanc=>?_);simp only[go_sem,ge_dec,q8])|(refine zg (fun hg=>?_) (fun hg=>?_)<;>simp only[go_sem,ge_dec,q8,hg])|(refine zc (fun hc=>?_) (fun hc=>?_)<;>try exact zh hc)|(refine K_ret ?_;refine zt hQ ?_))
   simp[AV.snap,hn]
theorem few_c (w:Wd) (hw:WG w):PCall Try.prog 10 [w.av] (.bool (decide (fewW w))):=by
 have hwt:=hw.t
 have hwc:=hw.c
 have k0:=few_call w.h (.mk 0 0 0 0 [] false [] []) (by decide) (fun c hc=>by have:=hw.h.m c hc;omega) hw.h.l
 have k6:PCall Try.prog 33 [.sl [.i w.md,.i w.dp,.i w.cd]] _:=counted_c [w.md,w.dp,w.cd] (by simp)
 rw[Wd.av_eq]
 rw[Hp.av_eq,Vl.av_eq] at k0
 by_cases e0:fewB w.h (.mk 0 0 0 0 [] false [] [])
 case neg=>
  have hn:¬ fewW w:=fun h=>e0 (h.1)
  rw[decide_eq_false e0] at k0
  refine PCall.intro Try.func10 rfl isf10 (by simp[Try.f10]) (by simp[AV.cloL,AV.clo]) fun E Q hE hN hQ=>K_start ?_
  repeat'(first|apply nx|refine zx ?_|rw[zw]|((first|refine hK _ ?_|refine hKp _ _ ?_);clear hK hKp K Kp;try clear hanc anc)|((with_reducible refine And.intro ?_ ?_);exact zb)|((first|refine zr hE fun K Kp hK hKp=>?_|refine zd false mixed hE fun K Kp hK hKp anc hanc=>?_|(apply zm;exact zu;exact k0;exact zs;exact zl));simp only[go_sem])|(refine zg (fun hg=>?_) (fun hg=>?_)<;>simp only[go_sem,hg])|(refine zc (fun hc=>?_) (fun hc=>?_)<;>try exact zh hc)|(refine K_ret ?_;refine zt hQ ?_))
  simp[AV.snap,hn]
 rw[decide_eq_true e0] at k0
 by_cases e1:w.ts.length≤8
 case neg=>
  have hn:¬ fewW w:=fun h=>e1 (h.2.1)
  have q1:decide ((8:Int)<(w.ts.length:Int))=true:=by simp;omega
  refine PCall.intro Try.func10 rfl isf10 (by simp[Try.f10]) (by simp[AV.cloL,AV.clo]) fun E Q hE hN hQ=>K_start ?_
  repeat'(first|apply nx|refine zx ?_|rw[zw]|((first|refine hK _ ?_|refine hKp _ _ ?_);clear hK hKp K Kp;try clear hanc anc)|((with_reducible refine And.intro ?_ ?_);exact zb)|((first|refine zr hE fun K Kp hK hKp=>?_|refine zd false mixed hE fun K Kp hK hKp anc hanc=>?_|(apply zm;exact zu;exact k0;exact zs;exact zl));simp only[go_sem,q1])|(refine zg (fun hg=>?_) (fun hg=>?_)<;>simp only[go_sem,q1,hg])|(refine zc (fun hc=>?_) (fun hc=>?_)<;>try exact zh hc)|(refine K_ret ?_;refine zt hQ ?_))
  simp[AV.snap,hn]
 have q1:decide ((8:Int)<(w.ts.length:Int))=false:=by simp;omega
 by_cases e2:w.D.length≤60
 case neg=>
  have hn:¬ fewW w:=fun h=>e2 (h.2.2.1)
  have q2:decide ((60:Int)<(w.D.length:Int))=true:=by simp;omega
  refine PCall.intro Try.func10 rfl isf10 (by simp[Try.f10]) (by simp[AV.cloL,AV.clo]) fun E Q hE hN hQ=>K_start ?_
  repeat'(first|apply nx|refine zx ?_|rw[zw]|((first|refine hK _ ?_|refine hKp _ _ ?_);clear hK hKp K Kp;try clear hanc anc)|((with_reducible refine And.intro ?_ ?_);exact zb)|((first|refine zr hE fun K Kp hK hKp=>?_|refine zd false mixed hE fun K Kp hK hKp anc hanc=>?_|(apply zm;exact zu;exact k0;exact zs;exact zl));simp only[go_sem,q1,q2])|(refine zg (fun hg=>?_) (fun hg=>?_)<;>simp only[go_sem,q1,q2,hg])|(refine zc (fun hc=>?_) (fun hc=>?_)<;>try exact zh hc)|(refine K_ret ?_;refine zt hQ ?_))
  simp[AV.snap,hn]
 have q2:decide ((60:Int)<(w.D.length:Int))=false:=by simp;omega
 by_cases e3:w.ou.length≤300
 case neg=>
  have hn:¬ fewW w:=fun h=>e3 (h.2.2.2.1)
  have q3:decide ((300:Int)<(w.ou.length:Int))=true:=by simp;omega
  refine PCall.intro Try.func10 rfl isf10 (by simp[Try.f10]) (by simp[AV.cloL,AV.clo]) fun E Q hE hN hQ=>K_start ?_
  repeat'(first|apply nx|refine zx ?_|rw[zw]|((first|refine hK _ ?_|refine hKp _ _ ?_);clear hK hKp K Kp;try clear hanc anc)|((with_reducible refine And.intro ?_ ?_);exact zb)|((first|refine zr hE fun K Kp hK hKp=>?_|refine zd false mixed hE fun K Kp hK hKp anc hanc=>?_|(apply zm;exact zu;exact k0;exact zs;exact zl));simp only[go_sem,q1,q2,q3])|(refine zg (fun hg=>?_) (fun hg=>?_)<;>simp only[go_sem,q1,q2,q3,hg])|(refine zc (fun hc=>?_) (fun hc=>?_)<;>try exact zh hc)|(refine K_ret ?_;refine zt hQ ?_))
  simp[AV.snap,hn]
 have q3:decide ((300:Int)<(w.ou.length:Int))=false:=by simp;omega
 by_cases e4:w.cn.length≤8
 case neg=>
  have hn:¬ fewW w:=fun h=>e4 (h.2.2.2.2.1)
  have q4:decide ((8:Int)<(w.cn.length:Int))=true:=by simp;omega
  refine PCall.intro Try.func10 rfl isf10 (by simp[Try.f10]) (by simp[AV.cloL,AV.clo]) fun E Q hE hN hQ=>K_start ?_
  repeat'(first|apply nx|refine zx ?_|rw[zw]|((first|refine hK _ ?_|refine hKp _ _ ?_);clear hK hKp K Kp;try clear hanc anc)|((with_reducible refine And.intro ?_ ?_);exact zb)|((first|refine zr hE fun K Kp hK hKp=>?_|refine zd false mixed hE fun K Kp hK hKp anc hanc=>?_|(apply zm;exact zu;exact k0;exact zs;exact zl));simp only[go_sem,q1,q2,q3,q4])|(refine zg (fun hg=>?_) (fun hg=>?_)<;>simp only[go_sem,q1,q2,q3,q4,hg])|(refine zc (fun hc=>?_) (fun hc=>?_)<;>try exact zh hc)|(refine K_ret ?_;refine zt hQ ?_))
  simp[AV.snap,hn]
 have q4:decide ((8:Int)<(w.cn.length:Int))=false:=by simp;omega
 by_cases e5:cntd [w.md,w.dp,w.cd]
 case neg=>
  have hn:¬ fewW w:=fun h=>e5 (h.2.2.2.2.2.1)
  rw[decide_eq_false e5] at k6
  refine PCall.intro Try.func10 rfl isf10 (by simp[Try.f10]) (by simp[AV.cloL,AV.clo]) fun E Q hE hN hQ=>K_start ?_
  repeat'(first|apply nx|refine zx ?_|rw[zw]|((first|refine hK _ ?_|refine hKp _ _ ?_);clear hK hKp K Kp;try clear hanc anc)|((with_reducible refine And.intro ?_ ?_);exact zb)|((first|refine zr hE fun K Kp hK hKp=>?_|refine zd false mixed hE fun K Kp hK hKp anc hanc=>?_|(apply zm;exact zu;(first|exact k0|exact k6);exact zs;exact zl));simp only[go_sem,q1,q2,q3,q4])|(refine zg (fun hg=>?_) (fun hg=>?_)<;>simp only[go_sem,q1,q2,q3,q4,hg])|(refine zc (fun hc=>?_) (fun hc=>?_)<;>try exact zh hc)|(refine K_ret ?_;refine zt hQ ?_))
  simp[AV.snap,hn]
 rw[decide_eq_true e5] at k6
 refine PCall.intro Try.func10 rfl isf10 (by simp[Try.f10]) (by simp[AV.cloL,AV.clo]) fun E Q hE hN hQ=>K_start ?_
 repeat'(first|apply nx|refine zx ?_|rw[zw]|((first|refine hK _ ?_|refine hKp _ _ ?_);clear hK hKp K Kp;try clear hanc anc)|((with_reducible refine And.intro ?_ ?_);exact zb)|((first|refine zr hE fun K Kp hK hKp=>?_|refine zd false mixed hE fun K Kp hK hKp anc hanc=>?_|(apply zm;exact zu;(first|exact k0|exact k6);exact zs;exact zl));simp only[go_sem,q1,q2,q3,q4])|(refine zg (fun hg=>?_) (fun hg=>?_)<;>simp only[go_sem,q1,q2,q3,q4,hg])|(refine zc (fun hc=>?_) (fun hc=>?_)<;>try exact zh hc)|(refine K_ret ?_;refine zt hQ ?_))
 refine K_loop (X:=Nat) (fun i=>i≤w.ts.length∧∀ t,t∈w.ts.take i→fewT t) (fun i=>mkSt [(1,.ptr 0 0),(3,AV.i i)] [(0,.cells [.sl (dl w.D),.sl w.R,.i w.mn,.sl (cl w.h.cells),.sl (bl w.h.arenas),.sl (tsl w.ts),.sl (chl w.cn),.sl (oul w.ou),.i w.md,.i w.dp,.i w.cd])] 1) (fun i=>w.ts.length - i) 0 ⟨Nat.zero_le _,by simp⟩ (fun i=>i) (by refine ent_mk (by simp[go_sem]) (by simp[go_sem]) (by simp) (by simp[hN])) ?_
 rintro i ⟨hi,ht⟩
 by_cases hlt:i<w.ts.length
 ·obtain⟨t,hx⟩:=get?_of hlt
  have hmem:=List.mem_of_getElem? hx
  obtain⟨g1,g2,g3,g4⟩:=hw.tf t hmem
  have u1:IntKind.i64.wrap ((i:Int)+1)=((i+1:Nat):Int):=by rw[wrap64 (by omega) (by omega)];omega
  have k9:PCall Try.prog 33 [.sl [.i t.al,.i t.ck,.i t.nx]] _:=counted_c [t.al,t.ck,t.nx] (by simp)
  by_cases f0:t.fs.length≤8
  case neg=>
   have hn:¬ fewW w:=fun h=>f0 ((h.2.2.2.2.2.2.1 t hmem).1)
   have q0:decide ((8:Int)<(t.fs.length:Int))=true:=by simp;omega
   repeat'(first|apply nx|refine zx ?_|rw[zw]|((first|refine hK _ ?_|refine hKp _ _ ?_);clear hK hKp K Kp;try clear hanc anc)|((with_reducible refine And.intro ?_ ?_);exact zb)|((first|refine zr hE fun K Kp hK hKp=>?_|refine zd false mixed hE fun K Kp hK hKp anc hanc=>?_);simp only[go_sem,lt_dec hlt,hx,Tsk.av_eq,q0])|(refine zg (fun hg=>?_) (fun hg=>?_)<;>simp only[go_sem,lt_dec hlt,hx,Tsk.av_eq,q0,hg])|(refine zc (fun hc=>?_) (fun hc=>?_)<;>try exact zh hc)|(refine K_ret ?_;refine zt hQ ?_))
   simp[AV.snap,hn]
  have q0:decide ((8:Int)<(t.fs.length:Int))=false:=by simp;omega
  by_cases f1:t.ls.length≤60
  case neg=>
   have hn:¬ fewW w:=fun h=>f1 ((h.2.2.2.2.2.2.1 t hmem).2.1)
   have q1:decide ((60:Int)<(t.ls.length:Int))=true:=by simp;omega
   repeat'(first|apply nx|refine zx ?_|rw[zw]|((first|refine hK _ ?_|refine hKp _ _ ?_);clear hK hKp K Kp;try clear hanc anc)|((with_reducible refine And.intro ?_ ?_);exact zb)|((first|refine zr hE fun K Kp hK hKp=>?_|refine zd false mixed hE fun K Kp hK hKp anc hanc=>?_);simp only[go_sem,lt_dec hlt,hx,Tsk.av_eq,q0,q1])|(refine zg (fun hg=>?_) (fun hg=>?_)<;>simp only[go_sem,lt_dec hlt,hx,Tsk.av_eq,q0,q1,hg])|(refine zc (fun hc=>?_) (fun hc=>?_)<;>try exact zh hc)|(refine K_ret ?_;refine zt hQ ?_))
   simp[AV.snap,hn]
  have q1:decide ((60:Int)<(t.ls.length:Int))=false:=by simp;omega
  by_cases f2:t.ce.length≤60
  case neg=>
   have hn:¬ fewW w:=fun h=>f2 ((h.2.2.2.2.2.2.1 t hmem).2.2.1)
   have q2:decide ((60:Int)<(t.ce.length:Int))=true:=by simp;omega
   repeat'(first|apply nx|refine zx ?_|rw[zw]|((first|refine hK _ ?_|refine hKp _ _ ?_);clear hK hKp K Kp;try clear hanc anc)|((with_reducible refine And.intro ?_ ?_);exact zb)|((first|refine zr hE fun K Kp hK hKp=>?_|refine zd false mixed hE fun K Kp hK hKp anc hanc=>?_);simp only[go_sem,lt_dec hlt,hx,Tsk.av_eq,q0,q1,q2])|(refine zg (fun hg=>?_) (fun hg=>?_)<;>simp only[go_sem,lt_dec hlt,hx,Tsk.av_eq,q0,q1,q2,hg])|(refine zc (fun hc=>?_) (fun hc=>?_)<;>try exact zh hc)|(refine K_ret ?_;refine zt hQ ?_))
   simp[AV.snap,hn]
  have q2:decide ((60:Int)<(t.ce.length:Int))=false:=by simp;omega
  by_cases f3:cntd [t.al,t.ck,t.nx]
  case neg=>
   have hn:¬ fewW w:=fun h=>f3 ((h.2.2.2.2.2.2.1 t hmem).2.2.2.1)
   rw[decide_eq_false f3] at k9
   repeat'(first|apply nx|refine zx ?_|rw[zw]|((first|refine hK _ ?_|refine hKp _ _ ?_);clear hK hKp K Kp;try clear hanc anc)|((with_reducible refine And.intro ?_ ?_);exact zb)|((first|refine zr hE fun K Kp hK hKp=>?_|refine zd false mixed hE fun K Kp hK hKp anc hanc=>?_|(apply zm;exact zu;exact k9;exact zs;exact zl));simp only[go_sem,lt_dec hlt,hx,Tsk.av_eq,q0,q1,q2])|(refine zg (fun hg=>?_) (fun hg=>?_)<;>simp only[go_sem,lt_dec hlt,hx,Tsk.av_eq,q0,q1,q2,hg])|(refine zc (fun hc=>?_) (fun hc=>?_)<;>try exact zh hc)|(refine K_ret ?_;refine zt hQ ?_))
   simp[AV.snap,hn]
  rw[decide_eq_true f3] at k9
  repeat'(first|apply nx|refine zx ?_|rw[zw]|((first|refine hK _ ?_|refine hKp _ _ ?_);clear hK hKp K Kp;try clear hanc anc)|((with_reducible refine And.intro ?_ ?_);exact zb)|((first|refine zr hE fun K Kp hK hKp=>?_|refine zd false mixed hE fun K Kp hK hKp anc hanc=>?_|(apply zm;exact zu;exact k9;exact zs;exact zl));simp only[go_sem,lt_dec hlt,hx,Tsk.av_eq,q0,q1,q2])|(refine zg (fun hg=>?_) (fun hg=>?_)<;>simp only[go_sem,lt_dec hlt,hx,Tsk.av_eq,q0,q1,q2,hg])|(refine zc (fun hc=>?_) (fun hc=>?_)<;>try exact zh hc)|(refine K_ret ?_;refine zt hQ ?_))
  refine K_loop (X:=Nat) (fun k=>k≤t.fs.length∧∀ a,a∈t.fs.take k→fewF a) (fun k=>mkSt [(1,.ptr 0 0),(3,AV.i i),(4,AV.i k)] [(0,.cells [.sl (dl w.D),.sl w.R,.i w.mn,.sl (cl w.h.cells),.sl (bl w.h.arenas),.sl (tsl w.ts),.sl (chl w.cn),.sl (oul w.ou),.i w.md,.i w.dp,.i w.cd])] 1) (fun k=>t.fs.length - k) 0 ⟨Nat.zero_le _,by simp⟩ (fun i=>i) (by refine ent_mk (by simp[go_sem]) (by simp[go_sem]) (by simp) (by simp[hN])) ?_
  rintro k ⟨hk,ht2⟩
  by_cases hkl:k<t.fs.length
  ·obtain⟨a,ha⟩:=get?_of hkl
   obtain⟨g5,g6,g7⟩:=g1 a (List.mem_of_getElem? ha)
   have u2:IntKind.i64.wrap ((k:Int)+1)=((k+1:Nat):Int):=by rw[wrap64 (by omega) (by omega)];omega
   have k7:=fewL_c a.sl (by omega) (fun v hv=>by have:=g5 v hv;omega)
   by_cases f4:fewL a.sl
   case neg=>
    have hn:¬ fewW w:=fun h=>f4 ((h.2.2.2.2.2.2.1 t hmem).2.2.2.2 a (List.mem_of_getElem? ha)).1
    rw[decide_eq_false f4] at k7
    repeat'(first|apply nx|refine zx ?_|rw[zw]|((first|refine hK _ ?_|refine hKp _ _ ?_);clear hK hKp K Kp;try clear hanc anc)|((with_reducible refine And.intro ?_ ?_);exact zb)|((first|refine zr hE fun K Kp hK hKp=>?_|refine zd false mixed hE fun K Kp hK hKp anc hanc=>?_|(apply zm;exact zu;exact k7;exact zs;exact zl));simp only[go_sem,lt_dec hkl,lt_dec hlt,hx,Tsk.av_eq,ha,Af.av_eq])|(refine zg (fun hg=>?_) (fun hg=>?_)<;>simp only[go_sem,lt_dec hkl,lt_dec hlt,hx,Tsk.av_eq,ha,Af.av_eq,hg])|(refine zc (fun hc=>?_) (fun hc=>?_)<;>try exact zh hc)|(refine K_ret ?_;refine zt hQ ?_))
    simp[AV.snap,hn]
   rw[decide_eq_true f4] at k7
   by_cases f5:a.si.length≤8
   case neg=>
    have hn:¬ fewW w:=fun h=>f5 ((h.2.2.2.2.2.2.1 t hmem).2.2.2.2 a (List.mem_of_getElem? ha)).2
    have q5:decide ((8:Int)<(a.si.length:Int))=true:=by simp;omega
    repeat'(first|apply nx|refine zx ?_|rw[zw]|((first|refine hK _ ?_|refine hKp _ _ ?_);clear hK hKp K Kp;try clear hanc anc)|((with_reducible refine And.intro ?_ ?_);exact zb)|((first|refine zr hE fun K Kp hK hKp=>?_|refine zd false mixed hE fun K Kp hK hKp anc hanc=>?_|(apply zm;exact zu;exact k7;exact zs;exact zl));simp only[go_sem,lt_dec hkl,lt_dec hlt,hx,Tsk.av_eq,ha,Af.av_eq,q5])|(refine zg (fun hg=>?_) (fun hg=>?_)<;>simp only[go_sem,lt_dec hkl,lt_dec hlt,hx,Tsk.av_eq,ha,Af.av_eq,q5,hg])|(refine zc (fun hc=>?_) (fun hc=>?_)<;>try exact zh hc)|(refine K_ret ?_;refine zt hQ ?_))
    simp[AV.snap,hn]
   have q5:decide ((8:Int)<(a.si.length:Int))=false:=by simp;omega
   repeat'(first|apply nx|refine zx ?_|rw[zw]|((first|refine hK _ ?_|refine hKp _ _ ?_);clear hK hKp K Kp;try clear hanc anc)|((with_reducible refine And.intro ?_ ?_);exact zb)|((first|refine zr hE fun K Kp hK hKp=>?_|refine zd false mixed hE fun K Kp hK hKp anc hanc=>?_|(apply zm;exact zu;exact k7;exact zs;exact zl));simp only[go_sem,lt_dec hkl,lt_dec hlt,hx,Tsk.av_eq,ha,Af.av_eq,q5,u2])|(refine zg (fun hg=>?_) (fun hg=>?_)<;>simp only[go_sem,lt_dec hkl,lt_dec hlt,hx,Tsk.av_eq,ha,Af.av_eq,q5,u2,hg])|(refine zc (fun hc=>?_) (fun hc=>?_)<;>try exact zh hc)|(refine K_ret ?_;refine zt hQ ?_))
   refine⟨k+1,⟨by omega,?_⟩,by omega,fun i=>i,by refine ent_mk (by simp[go_sem]) (by simp[go_sem]) (by simp) (by simp[hN])⟩
   rw[List.take_add_one,ha]
   intro c hc
   rcases List.mem_append.1 hc with hc|hc
   ·exact ht2 c hc
   ·simp at hc;subst hc;exact⟨f4,f5⟩
  ·obtain rfl:k=t.fs.length:=by omega
   rw[List.take_length] at ht2
   repeat'(first|apply nx|refine zx ?_|rw[zw]|((first|refine hK _ ?_|refine hKp _ _ ?_);clear hK hKp K Kp;try clear hanc anc)|((with_reducible refine And.intro ?_ ?_);exact zb)|((first|refine zr hE fun K Kp hK hKp=>?_|refine zd false mixed hE fun K Kp hK hKp anc hanc=>?_);simp only[go_sem,ge_dec,lt_dec hlt,hx,Tsk.av_eq,u1])|(refine zg (fun hg=>?_) (fun hg=>?_)<;>simp only[go_sem,ge_dec,lt_dec hlt,hx,Tsk.av_eq,u1,hg])|(refine zc (fun hc=>?_) (fun hc=>?_)<;>try exact zh hc)|(refine K_ret ?_;refine zt hQ ?_))
   refine⟨i+1,⟨by omega,?_⟩,by omega,fun i=>i,by refine ent_mk (by simp[go_sem]) (by simp[go_sem]) (by simp) (by simp[hN])⟩
   rw[List.take_add_one,hx]
   intro c hc
   rcases List.mem_append.1 hc with hc|hc
   ·exact ht c hc
   ·simp at hc;subst hc;exact⟨f0,f1,f2,f3,ht2⟩
 ·obtain rfl:i=w.ts.length:=by omega
  rw[List.take_length] at ht
  repeat'(first|apply nx|refine zx ?_|rw[zw]|((first|refine hK _ ?_|refine hKp _ _ ?_);clear hK hKp K Kp;try clear hanc anc)|((with_reducible refine And.intro ?_ ?_);exact zb)|((first|refine zr hE fun K Kp hK hKp=>?_|refine zd false mixed hE fun K Kp hK hKp anc hanc=>?_);simp only[go_sem,ge_dec])|(refine zg (fun hg=>?_) (fun hg=>?_)<;>simp only[go_sem,ge_dec,hg])|(refine zc (fun hc=>?_) (fun hc=>?_)<;>try exact zh hc)|(refine K_ret ?_;refine zt hQ ?_))
  refine K_loop (X:=Nat) (fun i=>i≤w.cn.length∧∀ l,l∈w.cn.take i→fewL l) (fun i=>mkSt [(1,.ptr 0 0),(5,AV.i i)] [(0,.cells [.sl (dl w.D),.sl w.R,.i w.mn,.sl (cl w.h.cells),.sl (bl w.h.arenas),.sl (tsl w.ts),.sl (chl w.cn),.sl (oul w.ou),.i w.md,.i w.dp,.i w.cd])] 1) (fun i=>w.cn.length - i) 0 ⟨Nat.zero_le _,by simp⟩ (fun i=>i) (by refine ent_mk (by simp[go_sem]) (by simp[go_sem]) (by simp) (by simp[hN])) ?_
  rintro i ⟨hi,ht2⟩
  by_cases hlt:i<w.cn.length
  ·obtain⟨l,hx⟩:=get?_of hlt
   have hmem:=List.mem_of_getElem? hx
   obtain⟨g1,g2⟩:=hw.cv l hmem
   have u1:IntKind.i64.wrap ((i:Int)+1)=((i+1:Nat):Int):=by rw[wrap64 (by omega) (by omega)];omega
   have k7:=fewL_c l (by omega) (fun v hv=>by have:=g2 v hv;omega)
   by_cases f4:fewL l
   case neg=>
    have hn:¬ fewW w:=fun h=>f4 (h.2.2.2.2.2.2.2 l hmem)
    rw[decide_eq_false f4] at k7
    repeat'(first|apply nx|refine zx ?_|rw[zw]|((first|refine hK _ ?_|refine hKp _ _ ?_);clear hK hKp K Kp;try clear hanc anc)|((with_reducible refine And.intro ?_ ?_);exact zb)|((first|refine zr hE fun K Kp hK hKp=>?_|refine zd false mixed hE fun K Kp hK hKp anc hanc=>?_|(apply zm;exact zu;exact k7;exact zs;exact zl));simp only[go_sem,lt_dec hlt,hx,chv])|(refine zg (fun hg=>?_) (fun hg=>?_)<;>simp only[go_sem,lt_dec hlt,hx,chv,hg])|(refine zc (fun hc=>?_) (fun hc=>?_)<;>try exact zh hc)|(refine K_ret ?_;refine zt hQ ?_))
    simp[AV.snap,hn]
   rw[decide_eq_true f4] at k7
   repeat'(first|apply nx|refine zx ?_|rw[zw]|((first|refine hK _ ?_|refine hKp _ _ ?_);clear hK hKp K Kp;try clear hanc anc)|((with_reducible refine And.intro ?_ ?_);exact zb)|((first|refine zr hE fun K Kp hK hKp=>?_|refine zd false mixed hE fun K Kp hK hKp anc hanc=>?_|(apply zm;exact zu;exact k7;exact zs;exact zl));simp only[go_sem,lt_dec hlt,hx,chv,u1])|(refine zg (fun hg=>?_) (fun hg=>?_)<;>simp only[go_sem,lt_dec hlt,hx,chv,u1,hg])|(refine zc (fun hc=>?_) (fun hc=>?_)<;>try exact zh hc)|(refine K_ret ?_;refine zt hQ ?_))
   refine⟨i+1,⟨by omega,?_⟩,by omega,fun i=>i,by refine ent_mk (by simp[go_sem]) (by simp[go_sem]) (by simp) (by simp[hN])⟩
   rw[List.take_add_one,hx]
   intro c hc
   rcases List.mem_append.1 hc with hc|hc
   ·exact ht2 c hc
   ·simp at hc;subst hc;exact f4
  ·obtain rfl:i=w.cn.length:=by omega
   rw[List.take_length] at ht2
   have hn:fewW w:=⟨e0,e1,e2,e3,e4,e5,ht,ht2⟩
   repeat'(first|apply nx|refine zx ?_|rw[zw]|((first|refine hK _ ?_|refine hKp _ _ ?_);clear hK hKp K Kp;try clear hanc anc)|((with_reducible refine And.intro ?_ ?_);exact zb)|((first|refine zr hE fun K Kp hK hKp=>?_|refine zd false mixed hE fun K Kp hK hKp anc hanc=>?_);simp only[go_sem,ge_dec])|(refine zg (fun hg=>?_) (fun hg=>?_)<;>simp only[go_sem,ge_dec,hg])|(refine zc (fun hc=>?_) (fun hc=>?_)<;>try exact zh hc)|(refine K_ret ?_;refine zt hQ ?_))
   simp[AV.snap,hn]
end Go.Proofs.Ytfgjjnfdcgkpoaa
