/- A part of the proof: an abstract machine for the walks, and what the walked functions compute. -/
import Derived.Test.YtfgjjnfdcgkpoaaCa
set_option linter.unusedVariables false
set_option linter.unusedSimpArgs false
set_option maxHeartbeats 4000000
set_option maxRecDepth 100000
namespace Go.Proofs.Ytfgjjnfdcgkpoaa
open Go.Am Go.Proofs Go.Hv
open Classical
attribute [local irreducible] AW CallP CallB
theorem Hp.eq_iff (a b:Hp):a=b↔a.cells=b.cells∧a.arenas=b.arenas:=⟨by rintro rfl;simp,fun⟨h1,h2⟩=>by cases a;cases b;simp_all⟩
theorem same_call (h a:Hp) (hl:h.cells.length≤2 ^ 20) (hl2:h.arenas.length≤2 ^ 20) (hz:∀ c,c∈h.cells→c.v.sz<2 ^ 40):PCall Try.prog 24 [h.av,a.av] (.bool (decide (h=a))):=by
 rw[Hp.av_eq,Hp.av_eq]
 by_cases hn1:h.cells.length=a.cells.length
 case neg=>
  have q1:((h.cells.length:Int) !=(a.cells.length:Int))=true:=by simp;omega
  have hne:h≠a:=by rintro rfl;exact hn1 rfl
  refine PCall.intro Try.func24 rfl isf24 (by simp[Try.f24]) (by simp[AV.cloL,AV.clo]) fun E Q hE hN hQ=>K_start ?_
  repeat'(first|apply nx|refine zx ?_|rw[zw]|((first|refine hK _ ?_|refine hKp _ _ ?_);clear hK hKp K Kp;try clear hanc anc)|((with_reducible refine And.intro ?_ ?_);exact zb)|((first|refine zr hE fun K Kp hK hKp=>?_|refine zd false mixed hE fun K Kp hK hKp anc hanc=>?_);simp only[go_sem,q1])|(refine zg (fun hg=>?_) (fun hg=>?_)<;>simp only[go_sem,q1,hg])|(refine zc (fun hc=>?_) (fun hc=>?_)<;>try exact zh hc)|(refine K_ret ?_;refine zt hQ ?_))
  simp[AV.snap,hne]
 have q1:((h.cells.length:Int) !=(a.cells.length:Int))=false:=by simp[hn1]
 by_cases hn2:h.arenas.length=a.arenas.length
 case neg=>
  have q2:((h.arenas.length:Int) !=(a.arenas.length:Int))=true:=by simp;omega
  have hne:h≠a:=by rintro rfl;exact hn2 rfl
  refine PCall.intro Try.func24 rfl isf24 (by simp[Try.f24]) (by simp[AV.cloL,AV.clo]) fun E Q hE hN hQ=>K_start ?_
  repeat'(first|apply nx|refine zx ?_|rw[zw]|((first|refine hK _ ?_|refine hKp _ _ ?_);clear hK hKp K Kp;try clear hanc anc)|((with_reducible refine And.intro ?_ ?_);exact zb)|((first|refine zr hE fun K Kp hK hKp=>?_|refine zd false mixed hE fun K Kp hK hKp anc hanc=>?_);simp only[go_sem,q1,q2])|(refine zg (fun hg=>?_) (fun hg=>?_)<;>simp only[go_sem,q1,q2,hg])|(refine zc (fun hc=>?_) (fun hc=>?_)<;>try exact zh hc)|(refine K_ret ?_;refine zt hQ ?_))
  simp[AV.snap,hne]
 have q2:((h.arenas.length:Int) !=(a.arenas.length:Int))=false:=by simp[hn2]
 have hiff:=Hp.eq_iff h a
 refine PCall.intro Try.func24 rfl isf24 (by simp[Try.f24]) (by simp[AV.cloL,AV.clo]) fun E Q hE hN hQ=>K_start ?_
 repeat'(first|apply nx|refine zx ?_|rw[zw]|((first|refine hK _ ?_|refine hKp _ _ ?_);clear hK hKp K Kp;try clear hanc anc)|((with_reducible refine And.intro ?_ ?_);exact zb)|((first|refine zr hE fun K Kp hK hKp=>?_|refine zd false mixed hE fun K Kp hK hKp anc hanc=>?_);simp only[go_sem,q1,q2])|(refine zg (fun hg=>?_) (fun hg=>?_)<;>simp only[go_sem,q1,q2,hg])|(refine zc (fun hc=>?_) (fun hc=>?_)<;>try exact zh hc)|(refine K_ret ?_;refine zt hQ ?_))
 refine K_loop (X:=Nat) (fun i=>i≤h.cells.length∧h.cells.take i=a.cells.take i) (fun i=>mkSt [(2,.ptr 0 0),(3,.ptr 1 0),(5,AV.i i)] [(0,.cells [.sl (cl h.cells),.sl (bl h.arenas)]),(1,.cells [.sl (cl a.cells),.sl (bl a.arenas)])] 2) (fun i=>h.cells.length - i) 0 ⟨Nat.zero_le _,by simp⟩ (fun i=>if i=0 then 0 else 1048576) (by refine ent_mk (by simp[go_sem]) (by simp[go_sem]) (by simp) (by simp[hN])) ?_
 rintro i ⟨hi,ht⟩
 by_cases hlt:i<h.cells.length
 ·obtain⟨x,hx⟩:=get?_of hlt
  obtain⟨y,hy⟩:=get?_of (show i<a.cells.length by omega)
  have hc0:=sameC_call x y (hz x (List.mem_of_getElem? hx))
  by_cases hxy:x=y
  ·rw[decide_eq_true hxy] at hc0
   repeat'(first|apply nx|refine zx ?_|rw[zw]|((first|refine hK _ ?_|refine hKp _ _ ?_);clear hK hKp K Kp;try clear hanc anc)|((with_reducible refine And.intro ?_ ?_);exact zb)|((first|refine zr hE fun K Kp hK hKp=>?_|refine zd false mixed hE fun K Kp hK hKp anc hanc=>?_|(apply zm;exact zu;exact hc0;exact zs;exact zl));simp only[go_sem,lt_dec hlt,hx,hy,Cl.av,Cl.cs_eq])|(refine zg (fun hg=>?_) (fun hg=>?_)<;>simp only[go_sem,lt_dec hlt,hx,hy,Cl.av,Cl.cs_eq,hg])|(refine zc (fun hc=>?_) (fun hc=>?_)<;>try exact zh hc)|(refine K_ret ?_;refine zt hQ ?_))
   refine⟨i+1,⟨by omega,?_⟩,by omega,fun i=>i,by refine ent_mk (by simp[go_sem]) (by simp[go_sem]) (by simp) (by simp[hN])⟩
   rw[List.take_add_one,List.take_add_one,ht,hx,hy,hxy]
  ·rw[decide_eq_false hxy] at hc0
   have hne:h≠a:=by rintro rfl;rw[hx] at hy;exact hxy (Option.some.inj hy)
   repeat'(first|apply nx|refine zx ?_|rw[zw]|((first|refine hK _ ?_|refine hKp _ _ ?_);clear hK hKp K Kp;try clear hanc anc)|((with_reducible refine And.intro ?_ ?_);exact zb)|((first|refine zr hE fun K Kp hK hKp=>?_|refine zd false mixed hE fun K Kp hK hKp anc hanc=>?_|(apply zm;exact zu;exact hc0;exact zs;exact zl));simp only[go_sem,lt_dec hlt,hx,hy,Cl.av,Cl.cs_eq])|(refine zg (fun hg=>?_) (fun hg=>?_)<;>simp only[go_sem,lt_dec hlt,hx,hy,Cl.av,Cl.cs_eq,hg])|(refine zc (fun hc=>?_) (fun hc=>?_)<;>try exact zh hc)|(refine K_ret ?_;refine zt hQ ?_))
   simp[AV.snap,hne]
 ·obtain rfl:i=h.cells.length:=by omega
  rw[List.take_length,hn1,List.take_length] at ht
  repeat'(first|apply nx|refine zx ?_|rw[zw]|((first|refine hK _ ?_|refine hKp _ _ ?_);clear hK hKp K Kp;try clear hanc anc)|((with_reducible refine And.intro ?_ ?_);exact zb)|((first|refine zr hE fun K Kp hK hKp=>?_|refine zd false mixed hE fun K Kp hK hKp anc hanc=>?_);simp only[go_sem,ge_dec])|(refine zg (fun hg=>?_) (fun hg=>?_)<;>simp only[go_sem,ge_dec,hg])|(refine zc (fun hc=>?_) (fun hc=>?_)<;>try exact zh hc)|(refine K_ret ?_;refine zt hQ ?_))
  refine K_loop (X:=Nat) (fun i=>i≤h.arenas.length∧h.arenas.take i=a.arenas.take i) (fun i=>mkSt [(2,.ptr 0 0),(3,.ptr 1 0),(6,AV.i i)] [(0,.cells [.sl (cl h.cells),.sl (bl h.arenas)]),(1,.cells [.sl (cl a.cells),.sl (bl a.arenas)])] 2) (fun i=>h.arenas.length - i) 0 ⟨Nat.zero_le _,by simp⟩ (fun i=>i) (by refine ent_mk (by simp[go_sem]) (by simp[go_sem]) (by simp) (by simp[hN])) ?_
  rintro i ⟨hi,ht2⟩
  by_cases hlt:i<h.arenas.length
  ·obtain⟨x,hx⟩:=get?_of hlt
   obtain⟨y,hy⟩:=get?_of (show i<a.arenas.length by omega)
   by_cases hxy:x=y
   ·have q3:(!x==y)=false:=by simp[hxy]
    repeat'(first|apply nx|refine zx ?_|rw[zw]|((first|refine hK _ ?_|refine hKp _ _ ?_);clear hK hKp K Kp;try clear hanc anc)|((with_reducible refine And.intro ?_ ?_);exact zb)|((first|refine zr hE fun K Kp hK hKp=>?_|refine zd false mixed hE fun K Kp hK hKp anc hanc=>?_);simp only[go_sem,lt_dec hlt,hx,hy,q3])|(refine zg (fun hg=>?_) (fun hg=>?_)<;>simp only[go_sem,lt_dec hlt,hx,hy,q3,hg])|(refine zc (fun hc=>?_) (fun hc=>?_)<;>try exact zh hc)|(refine K_ret ?_;refine zt hQ ?_))
    refine⟨i+1,⟨by omega,?_⟩,by omega,fun i=>i,by refine ent_mk (by simp[go_sem]) (by simp[go_sem]) (by simp) (by simp[hN])⟩
    rw[List.take_add_one,List.take_add_one,ht2,hx,hy,hxy]
   ·have q3:(!x==y)=true:=by simp[hxy]
    have hne:h≠a:=by rintro rfl;rw[hx] at hy;exact hxy (Option.some.inj hy)
    repeat'(first|apply nx|refine zx ?_|rw[zw]|((first|refine hK _ ?_|refine hKp _ _ ?_);clear hK hKp K Kp;try clear hanc anc)|((with_reducible refine And.intro ?_ ?_);exact zb)|((first|refine zr hE fun K Kp hK hKp=>?_|refine zd false mixed hE fun K Kp hK hKp anc hanc=>?_);simp only[go_sem,lt_dec hlt,hx,hy,q3])|(refine zg (fun hg=>?_) (fun hg=>?_)<;>simp only[go_sem,lt_dec hlt,hx,hy,q3,hg])|(refine zc (fun hc=>?_) (fun hc=>?_)<;>try exact zh hc)|(refine K_ret ?_;refine zt hQ ?_))
    simp[AV.snap,hne]
  ·obtain rfl:i=h.arenas.length:=by omega
   rw[List.take_length,hn2,List.take_length] at ht2
   repeat'(first|apply nx|refine zx ?_|rw[zw]|((first|refine hK _ ?_|refine hKp _ _ ?_);clear hK hKp K Kp;try clear hanc anc)|((with_reducible refine And.intro ?_ ?_);exact zb)|((first|refine zr hE fun K Kp hK hKp=>?_|refine zd false mixed hE fun K Kp hK hKp anc hanc=>?_);simp only[go_sem,ge_dec])|(refine zg (fun hg=>?_) (fun hg=>?_)<;>simp only[go_sem,ge_dec,hg])|(refine zc (fun hc=>?_) (fun hc=>?_)<;>try exact zh hc)|(refine K_ret ?_;refine zt hQ ?_))
   simp[AV.snap,hiff,ht,ht2]
mutual
def sizeV:Vl→Int→Int
 | .mk _ _ _ _ f _ _ _,m=>sizeL f 1 m
def sizeL:List Vl→Int→Int→Int
 | [],n,_=>n
 |x::l,n,m=>if n≤m then sizeL l (n+sizeV x (m - n)) m else n
end
def fewB (h:Hp) (v:Vl):Prop:=h.cells.length≤60∧h.arenas.length≤30∧sizeV v 60≤60∧∀ c,c∈h.cells→sizeV c.v 60≤60



def hp0:Hp:=⟨[],[]⟩
theorem app_set {l:List AV} {n:Nat} (h:l.length=n) (z x:AV):(l++[z]).set n x=l++[x]:=by subst h;simp

end Go.Proofs.Ytfgjjnfdcgkpoaa
