/- A part of the proof: an abstract machine for the walks, and what the walked functions compute. -/
import Derived.Test.YtfgjjnfdcgkpoaaCo
import Derived.Test.YtfgjjnfdcgkpoaaCk
set_option linter.unusedVariables false
set_option linter.unusedSimpArgs false
set_option maxHeartbeats 4000000
set_option maxRecDepth 100000
namespace Go.Proofs.Ytfgjjnfdcgkpoaa
open Go.Am Go.Proofs Go.Hv
open Classical
attribute [local irreducible] AW CallP CallB CallY

theorem eqty73:Try.prog.stoodInHeld 73=false∧Try.prog.eqGuardType Try.prog.depth 73=false:=by constructor<;>kernel_rfl
theorem agg73 (x y:Int×Int) (r:Bool) (h:r=decide (x=y)):aggE Try.prog .neq 73 [.i x.1,.i x.2] [.i y.1,.i y.2]=some (True,.bool (!r)):=by
 have e:(x.1==y.1&&x.2==y.2)=r:=by
  rw[h,Bool.eq_iff_iff]
  cases x;cases y
  simp
 unfold aggE
 simp only[eqTy,Try.underlying73,eqty73,eqF,Try.underlying3,AV.i]
 simp[eqF,Try.underlying3,AV.i]
 simp[← e]
theorem sameO_c (a b:List (Int×Int)) (ha:a.length≤2 ^ 40):PCall Try.prog 25 [.sl (oul a),.sl (oul b)] (.bool (decide (a=b))):=by
 by_cases hn1:a.length=b.length
 case neg=>
  have q1:((a.length:Int) !=(b.length:Int))=true:=by simp;omega
  have hne:a≠b:=by rintro rfl;exact hn1 rfl
  refine PCall.intro Try.func25 rfl isf25 (by simp[Try.f25]) (by simp[AV.cloL,AV.clo]) fun E Q hE hN hQ=>K_start ?_
  repeat'(first|apply nx|refine zx ?_|rw[zw]|((first|refine hK _ ?_|refine hKp _ _ ?_);clear hK hKp K Kp;try clear hanc anc)|((with_reducible refine And.intro ?_ ?_);exact zb)|((first|refine zr hE fun K Kp hK hKp=>?_|refine zd false mixed hE fun K Kp hK hKp anc hanc=>?_);simp only[go_sem,q1])|(refine zg (fun hg=>?_) (fun hg=>?_)<;>simp only[go_sem,q1,hg])|(refine zc (fun hc=>?_) (fun hc=>?_)<;>try exact zh hc)|(refine K_ret ?_;refine zt hQ ?_))
  simp[AV.snap,hne]
 have q1:((a.length:Int) !=(b.length:Int))=false:=by simp[hn1]
 refine PCall.intro Try.func25 rfl isf25 (by simp[Try.f25]) (by simp[AV.cloL,AV.clo]) fun E Q hE hN hQ=>K_start ?_
 repeat'(first|apply nx|refine zx ?_|rw[zw]|((first|refine hK _ ?_|refine hKp _ _ ?_);clear hK hKp K Kp;try clear hanc anc)|((with_reducible refine And.intro ?_ ?_);exact zb)|((first|refine zr hE fun K Kp hK hKp=>?_|refine zd false mixed hE fun K Kp hK hKp anc hanc=>?_);simp only[go_sem,q1])|(refine zg (fun hg=>?_) (fun hg=>?_)<;>simp only[go_sem,q1,hg])|(refine zc (fun hc=>?_) (fun hc=>?_)<;>try exact zh hc)|(refine K_ret ?_;refine zt hQ ?_))
 refine K_loop (X:=Nat) (fun i=>i≤a.length∧a.take i=b.take i) (fun i=>mkSt [(0,.sl (oul a)),(1,.sl (oul b)),(5,AV.i i)] [] 0) (fun i=>a.length - i) 0 ⟨Nat.zero_le _,by simp⟩ (fun i=>i) (by refine ent_mk (by simp[go_sem]) (by simp[go_sem]) (by simp) (by simp[hN])) ?_
 rintro i ⟨hi,ht⟩
 by_cases hlt:i<a.length
 ·obtain⟨x,hx⟩:=get?_of hlt
  obtain⟨y,hy⟩:=get?_of (show i<b.length by omega)
  have u1:IntKind.i64.wrap ((i:Int)+1)=((i+1:Nat):Int):=by rw[wrap64 (by omega) (by omega)];omega
  by_cases hxy:x=y
  ·have ag:=agg73 x y true (by simp[hxy])
   repeat'(first|apply nx|refine zx ?_|rw[zw]|((first|refine hK _ ?_|refine hKp _ _ ?_);clear hK hKp K Kp;try clear hanc anc)|((with_reducible refine And.intro ?_ ?_);exact zb)|((first|refine zr hE fun K Kp hK hKp=>?_|refine zd false mixed hE fun K Kp hK hKp anc hanc=>?_);simp only[go_sem,lt_dec hlt,hx,hy,ouv,u1,ag])|(refine zg (fun hg=>?_) (fun hg=>?_)<;>simp only[go_sem,lt_dec hlt,hx,hy,ouv,u1,ag,hg])|(refine zc (fun hc=>?_) (fun hc=>?_)<;>try exact zh hc)|(refine K_ret ?_;refine zt hQ ?_))
   refine⟨i+1,⟨by omega,?_⟩,by omega,fun i=>i,by refine ent_mk (by simp[go_sem]) (by simp[go_sem]) (by simp) (by simp[hN])⟩
   rw[List.take_add_one,List.take_add_one,ht,hx,hy,hxy]
  ·have hne:a≠b:=by rintro rfl;rw[hx] at hy;exact hxy (Option.some.inj hy)
   have ag:=agg73 x y false (by simp[hxy])
   repeat'(first|apply nx|refine zx ?_|rw[zw]|((first|refine hK _ ?_|refine hKp _ _ ?_);clear hK hKp K Kp;try clear hanc anc)|((with_reducible refine And.intro ?_ ?_);exact zb)|((first|refine zr hE fun K Kp hK hKp=>?_|refine zd false mixed hE fun K Kp hK hKp anc hanc=>?_);simp only[go_sem,lt_dec hlt,hx,hy,ouv,ag])|(refine zg (fun hg=>?_) (fun hg=>?_)<;>simp only[go_sem,lt_dec hlt,hx,hy,ouv,ag,hg])|(refine zc (fun hc=>?_) (fun hc=>?_)<;>try exact zh hc)|(refine K_ret ?_;refine zt hQ ?_))
   simp[AV.snap,hne]
 ·obtain rfl:i=a.length:=by omega
  rw[List.take_length,hn1,List.take_length] at ht
  repeat'(first|apply nx|refine zx ?_|rw[zw]|((first|refine hK _ ?_|refine hKp _ _ ?_);clear hK hKp K Kp;try clear hanc anc)|((with_reducible refine And.intro ?_ ?_);exact zb)|((first|refine zr hE fun K Kp hK hKp=>?_|refine zd false mixed hE fun K Kp hK hKp anc hanc=>?_);simp only[go_sem,ge_dec])|(refine zg (fun hg=>?_) (fun hg=>?_)<;>simp only[go_sem,ge_dec,hg])|(refine zc (fun hc=>?_) (fun hc=>?_)<;>try exact zh hc)|(refine K_ret ?_;refine zt hQ ?_))
  simp[AV.snap,ht]
theorem Af.eq_iff (a b:Af):a=b↔a.num=b.num∧a.rt=b.rt∧a.blk=b.blk∧a.idx=b.idx∧a.dst=b.dst∧a.sl=b.sl∧a.si=b.si:=by cases a;cases b;simp
theorem Tsk.eq_iff (a b:Tsk):a=b↔a.st=b.st∧a.fs=b.fs∧a.ls=b.ls∧a.al=b.al∧a.ck=b.ck∧a.nx=b.nx∧a.ce=b.ce:=by cases a;cases b;simp
end Go.Proofs.Ytfgjjnfdcgkpoaa

set_option maxHeartbeats 4000000
set_option maxRecDepth 100000
namespace Go.Hv
open Go Go.Am Go.Proofs.Ytfgjjnfdcgkpoaa
end Go.Hv
namespace Go.Proofs.Ytfgjjnfdcgkpoaa
open Go.Am Go.Proofs Go.Hv
open Classical
attribute [local irreducible] AW CallP CallB CallY
structure WL (a:Wd):Prop where
 h:HB a.h
 ou:a.ou.length≤2 ^ 40
 t:a.ts.length≤2 ^ 40
 c:a.cn.length≤2 ^ 40
 tf:∀ t,t∈a.ts→(∀ x,x∈t.fs→(∀ v,v∈x.sl→v.sz<2 ^ 40)∧x.sl.length≤2 ^ 40∧x.si.length≤2 ^ 40)∧t.fs.length≤2 ^ 40∧t.ls.length≤2 ^ 40∧t.ce.length≤2 ^ 40
 cv:∀ l,l∈a.cn→l.length≤2 ^ 40∧∀ v,v∈l→v.sz<2 ^ 40
end Go.Proofs.Ytfgjjnfdcgkpoaa

set_option maxHeartbeats 4000000
set_option maxRecDepth 100000
namespace Go.Hv
open Go Go.Am Go.Proofs.Ytfgjjnfdcgkpoaa
def cntd (l:List Int):Prop:=∀ x,x∈l→ -1099511627776≤x∧x≤1099511627776
def fewL (l:List Vl):Prop:=(∀ v,v∈l→sizeV v 60≤60)∧l.length≤8
def fewF (a:Af):Prop:=fewL a.sl∧a.si.length≤8
def fewT (t:Tsk):Prop:=t.fs.length≤8∧t.ls.length≤60∧t.ce.length≤60∧cntd [t.al,t.ck,t.nx]∧∀ a,a∈t.fs→fewF a
def fewW (w:Wd):Prop:=fewB w.h (.mk 0 0 0 0 [] false [] [])∧w.ts.length≤8∧w.D.length≤60∧w.ou.length≤300∧w.cn.length≤8∧cntd [w.md,w.dp,w.cd]∧(∀ t,t∈w.ts→fewT t)∧∀ l,l∈w.cn→fewL l
end Go.Hv
namespace Go.Proofs.Ytfgjjnfdcgkpoaa
open Go.Am Go.Proofs Go.Hv
open Classical
attribute [local irreducible] AW CallP CallB CallY
structure WG (w:Wd):Prop where
 h:HB w.h
 D:w.D.length≤2 ^ 20
 ou:w.ou.length≤2 ^ 20
 t:w.ts.length≤2 ^ 20
 c:w.cn.length≤2 ^ 20
 tf:∀ t,t∈w.ts→(∀ x,x∈t.fs→(∀ v,v∈x.sl→v.sz≤2 ^ 20)∧x.sl.length≤2 ^ 20∧x.si.length≤2 ^ 20)∧t.fs.length≤2 ^ 20∧t.ls.length≤2 ^ 20∧t.ce.length≤2 ^ 20
 cv:∀ l,l∈w.cn→l.length≤2 ^ 20∧∀ v,v∈l→v.sz≤2 ^ 20
theorem WG.ws {w:Wd} (h:WG w) (hf:fewW w):WS w:=by
 obtain⟨a1,a2,a3,a4,a5,a6,a7,a8⟩:=hf
 refine⟨h.h,a1.1,a2,fun t ht=>?_,fun t ht a ha v hv=>((h.tf t ht).1 a ha).1 v hv,a3,a4,?_,?_⟩
 ·obtain⟨b1,b2,b3,b4,b5⟩:=a7 t ht
  exact⟨b1,fun a ha=>(b5 a ha).1.2⟩
 ·have:=a6 w.dp (by simp);omega
 ·have:=a6 w.cd (by simp);omega
end Go.Proofs.Ytfgjjnfdcgkpoaa
