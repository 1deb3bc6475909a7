/- A part of the proof: an abstract machine for the walks, and what the walked functions compute. -/
import Derived.Test.YtfgjjnfdcgkpoaaCa
set_option linter.unusedVariables false
set_option linter.unusedSimpArgs false
set_option maxHeartbeats 4000000
set_option maxRecDepth 100000
namespace Go.Proofs.Ytfgjjnfdcgkpoaa
open Go.Am Go.Proofs Go.Hv
open Classical
attribute [local irreducible] AW CallP CallB
theorem Hp.eq_iff (a b:Hp):a=b↔a.cells=b.cells∧a.arenas=b.arenas:=⟨by rintro rfl;simp,fun⟨h1,h2⟩=>by cases a;cases b;simp_all⟩
theorem same_call (h a:Hp) (hl:h.cells.length≤2 ^ 20) (hl2:h.arenas.length≤2 ^ 20) (hz:∀ c,c∈h.cells→c.v.sz<2 ^ 40):PCall Try.prog 24 [h.av,a.av] (.bool (decide (h=a))):=by
 rw[Hp.av_eq,Hp.av_eq]
 by_cases hn1:h.cells.length=a.cells.length
 case neg=>
  have q1:((h.cells.length:Int) !=(a.cells.length:Int))=true:=by simp;omega
  have hne:h≠a:=by rintro rfl;exact hn1 rfl
  refine PCall.intro Try.func24 rfl isf24 (by simp[Try.f24]) (by simp[AV.cloL,AV.clo]) fun E Q hE hN hQ=>K_start ?_
  repeat'(first|apply nx|refine zx ?_|rw[zw]|((first|refine hK _ ?_|refine hKp _ _ ?_);clear hK hKp K Kp;try clear hanc anc)|((with_reducible refine And.intro ?_ ?_);exact zb)|((first|refine zr hE fun K Kp hK hKp=>?_|refine zd false mixed hE fun K Kp hK hKp anc hanc=>?_);simp only[go_sem,q1])|(refine zg (fun hg=>?_) (fun hg=>?_)<;>simp only[go_sem,q1,hg])|(refine zc (fun hc=>?_) (fun hc=>?_)<;>try exact zh hc)|(refine K_ret ?_;refine zt hQ ?_))
  simp[AV.snap,hne]
 have q1:((h.cells.length:Int) !=(a.cells.length:Int))=false:=by simp[hn1]
 by_cases hn2:h.arenas.length=a.arenas.length
 case neg=>
  have q2:((h.arenas.length:Int) !=(a.arenas.length:Int))=true:=by simp;omega
  have hne:h≠a:=by rintro rfl;exact hn2 rfl
  refine PCall.intro Try.func24 rfl isf24 (by simp[Try.f24]) (by simp[AV.cloL,AV.clo]) fun E Q hE hN hQ=>K_start ?_
  repeat'(first|apply nx|refine zx ?_|rw[zw]|((first|refine hK _ ?_|refine hKp _ _ ?_);clear hK hKp K Kp;try clear hanc anc)|((with_reducible refine And.intro ?_ ?_);exact zb)|((first|refine zr hE fun K Kp hK hKp=>?_|refine zd false mixed hE fun K Kp hK hKp anc hanc=>?_);simp only[go_sem,q1,q2])|(refine zg (fun hg=>?_) (fun hg=>?_)<;>simp only[go_sem,q1,q2,hg])|(refine zc (fun hc=>?_) (fun hc=>?_)<;>try exact zh hc)|(refine K_ret ?_;refine zt hQ ?_))
  simp[AV.snap,hne]
 have q2:((h.arenas.length:Int) !=(a.arenas.length:Int))=false:=by simp[hn2]
 have hiff:=Hp.eq_iff h a
 refine PCall.intro Try.func24 rfl isf24 (by simp[Try.f24]) (by simp[AV.cloL,AV.clo]) fun E Q hE hN hQ=>K_start ?_
 repeat'(first|apply nx|refine zx ?_|rw[zw]|((first|refine hK _ ?_|refine hKp _ _ ?_);clear hK hKp K Kp;try clear hanc anc)|((with_reducible refine And.intro ?_ ?_);exact zb)|((first|refine zr hE fun K Kp hK hKp=>?_|refine zd false mixed hE fun K Kp hK hKp anc hanc=>?_);simp only[go_sem,q1,q2])|(refine zg (fun hg=>?_) (fun hg=>?_)<;>simp only[go_sem,q1,q2,hg])|(refine zc (fun hc=>?_) (fun hc=>?_)<;>try exact zh hc)|(refine K_ret ?_;refine zt hQ ?_))
 refine K_loop (X:=Nat) (fun i=>i≤h.cells.length∧h.cells.take i=a.cells.take i) (fun i=>mkSt [(2,.ptr 0 0),(3,.ptr 1 0),(5,AV.i i)] [(0,.cells [.sl (cl h.cells),.sl (bl h.arenas)]),(1,.cells [.sl (cl a.cells),.sl (bl a.arenas)])] 2) (fun i=>h.cells.length - i) 0 ⟨Nat.zero_le _,by simp⟩ (fun i=>if i=0 then 0 else 1048576) (by refine ent_mk (by simp[go_sem]) (by simp[go_sem]) (by simp) (by simp[hN])) ?_
 rintro i ⟨hi,ht⟩
 by_cases hlt:i<h.cells.length
 ·obtain⟨x,hx⟩:=get?_of hlt
  obtain⟨y,hy⟩:=get?_of (show i<a.cells.length by omega)
  have hc0:=sameC_call x y (hz x (List.mem_of_getElem? hx))
  by_cases hxy:x=y
  ·rw[decide_eq_true hxy] at hc0
   repeat'(first|apply nx|refine zx ?_|rw[zw]|((first|refine hK _ ?_|refine hKp _ _ ?_);clear hK hKp K Kp;try clear hanc anc)|((with_reducible refine And.intro ?_ ?_);exact zb)|((first|refine zr hE fun K Kp hK hKp=>?_|refine zd false mixed hE fun K Kp hK hKp anc hanc=>?_|(apply zm;exact zu;exact hc0;exact zs;exact zl));simp only[go_sem,lt_dec hlt,hx,hy,Cl.av,Cl.cs_eq])|(refine zg (fun hg=>?_) (fun hg=>?_)<;>simp only[go_sem,lt_dec hlt,hx,hy,Cl.av,Cl.cs_eq,hg])|(refine zc (fun hc=>?_) (fun hc=>?_)<;>try exact zh hc)|(refine K_ret ?_;refine zt hQ ?_))
   refine⟨i+1,⟨by omega,?_⟩,by omega,fun i=>i,by refine ent_mk (by simp[go_sem]) (by simp[go_sem]) (by simp) (by simp[hN])⟩
   rw[List.take_add_one,List.take_add_one,ht,hx,hy,hxy]
  ·rw[decide_eq_false hxy] at hc0
   have hne:h≠a:=by rintro rfl;rw[hx] at hy;exact hxy (Option.some.inj hy)
   repeat'(first|apply nx|refine zx ?_|rw[zw]|((first|refine hK _ ?_|refine hKp _ _ ?_);clear hK hKp K Kp;try clear hanc anc)|((with_reducible refine And.intro ?_ ?_);exact zb)|((first|refine zr hE fun K Kp hK hKp=>?_|refine zd false mixed hE fun K Kp hK hKp anc hanc=>?_|(apply zm;exact zu;exact hc0;exact zs;exact zl));simp only[go_sem,lt_dec hlt,hx,hy,Cl.av,Cl.cs_eq])|(refine zg (fun hg=>?_) (fun hg=>?_)<;>simp only[go_sem,lt_dec hlt,hx,hy,Cl.av,Cl.cs_eq,hg])|(refine zc (fun hc=>?_) (fun hc=>?_)<;>try exact zh hc)|(refine K_ret ?_;refine zt hQ ?_))
   simp[AV.snap,hne]
 ·obtain rfl:i=h.cells.length:=by omega
  rw[List.take_length,hn1,List.take_length] at ht
  repeat'(first|apply nx|refine zx ?_|rw[zw]|((first|refine hK _ ?_|refine hKp _ _ ?_);clear hK hKp K Kp;try clear hanc anc)|((with_reducible refine And.intro ?_ ?_);exact zb)|((first|refine zr hE fun K Kp hK hKp=>?_|refine zd false mixed hE fun K Kp hK hKp anc hanc=>?_);simp only[go_sem,ge_dec])|(refine zg (fun hg=>?_) (fun hg=>?_)<;>simp only[go_sem,ge_dec,hg])|(refine zc (fun hc=>?_) (fun hc=>?_)<;>try exact zh hc)|(refine K_ret ?_;refine zt hQ ?_))
  refine K_loop (X:=Nat) (fun i=>i≤h.arenas.length∧h.arenas.take i=a.arenas.take i) (fun i=>mkSt [(2,.ptr 0 0),(3,.ptr 1 0),(6,AV.i i)] [(0,.cells [.sl (cl h.cells),.sl (bl h.arenas)]),(1,.cells [.sl (cl a.cells),.sl (bl a.arenas)])] 2) (fun i=>h.arenas.length - i) 0 ⟨Nat.zero_le _,by simp⟩ (fun i=>i) (by refine ent_mk (by simp[go_sem]) (by simp[go_sem]) (by simp) (by simp[hN])) ?_
  rintro i ⟨hi,ht2⟩
  by_cases hlt:i<h.arenas.length
  ·obtain⟨x,hx⟩:=get?_of hlt
   obtain⟨y,hy⟩:=get?_of (show i<a.arenas.length by omega)
   by_cases hxy:x=y
   ·have q3:(!x==y)=false:=by simp[hxy]
    repeat'(first|apply nx|refine zx ?_|rw[zw]|((first|refine hK _ ?_|refine hKp _ _ ?_);clear hK hKp K Kp;try clear hanc anc)|((with_reducible refine And.intro ?_ ?_);exact zb)|((first|refine zr hE fun K Kp hK hKp=>?_|refine zd false mixed hE fun K Kp hK hKp anc hanc=>?_);simp only[go_sem,lt_dec hlt,hx,hy,q3])|(refine zg (fun hg=>?_) (fun hg=>?_)<;>simp only[go_sem,lt_dec hlt,hx,hy,q3,hg])|(refine zc (fun hc=>?_) (fun hc=>?_)<;>try exact zh hc)|(refine K_ret ?_;refine zt hQ ?_))
    refine⟨i+1,⟨by omega,?_⟩,by omega,fun i=>i,by refine ent_mk (by simp[go_sem]) (by simp[go_sem]) (by simp) (by simp[hN])⟩
    rw[List.take_add_one,List.take_add_one,ht2,hx,hy,hxy]
   ·have q3:(!x==y)=true:=by simp[hxy]
    have hne:h≠a:=by rintro rfl;rw[hx] at hy;exact hxy (Option.some.inj hy)
    repeat'(first|apply nx|refine zx ?_|rw[zw]|((first|refine hK _ ?_|refine hKp _ _ ?_);clear hK hKp K Kp;try clear hanc anc)|((with_reducible refine And.intro ?_ ?_);exact zb)|((first|refine zr hE fun K Kp hK hKp=>?_|refine zd false mixed hE fun K Kp hK hKp anc hanc=>?_);simp only[go_sem,lt_dec hlt,hx,hy,q3])|(refine zg (fun hg=>?_) (fun hg=>?_)<;>simp only[go_sem,lt_dec hlt,hx,hy,q3,hg])|(refine zc (fun hc=>?_) (fun hc=>?_)<;>try exact zh hc)|(refine K_ret ?_;refine zt hQ ?_))
    simp[AV.snap,hne]
  ·obtain rfl:i=h.arenas.length:=by omega
   rw[List.take_length,hn2,List.take_length] at ht2
   repeat'(first|apply nx|refine zx ?_|rw[zw]|((first|refine hK _ ?_|refine hKp _ _ ?_);clear hK hKp K Kp;try clear hanc anc)|((with_reducible refine And.intro ?_ ?_);exact zb)|((first|refine zr hE fun K Kp hK hKp=>?_|refine zd false mixed hE fun K Kp hK hKp anc hanc=>?_);simp only[go_sem,ge_dec])|(refine zg (fun hg=>?_) (fun hg=>?_)<;>simp only[go_sem,ge_dec,hg])|(refine zc (fun hc=>?_) (fun hc=>?_)<;>try exact zh hc)|(refine K_ret ?_;refine zt hQ ?_))
   simp[AV.snap,hiff,ht,ht2]
mutual
def sizeV:Vl→Int→Int
 | .mk _ _ _ _ f _ _ _,m=>sizeL f 1 m
def sizeL:List Vl→Int→Int→Int
 | [],n,_=>n
 |x::l,n,m=>if n≤m then sizeL l (n+sizeV x (m - n)) m else n
end
theorem sizeV_eq (v:Vl) (m:Int):sizeV v m=sizeL v.fs 1 m:=by cases v;rw[sizeV];rfl
mutual
theorem sizeV_le:∀ (v:Vl) (m:Int),1≤sizeV v m∧sizeV v m≤v.sz
 | .mk a b c d f e g h,m=>by
  rw[sizeV]
  have h0:=sizeL_le f 1 m (by omega)
  have h1:(Vl.mk a b c d f e g h).sz=1+g.length+h.length+Vl.szL f:=Vl.sz_eq _
  omega
theorem sizeL_le:∀ (l:List Vl) (n m:Int),0≤n→n≤sizeL l n m∧sizeL l n m≤n+Vl.szL l
 | [],n,m,h=>by rw[sizeL,Vl.szL];omega
 |x::l,n,m,h=>by
  rw[sizeL,Vl.szL]
  have h1:=sizeV_le x (m - n)
  split
  ·have h2:=sizeL_le l (n+sizeV x (m - n)) m (by omega)
   omega
  ·omega
end
theorem size_call:∀ (N:Nat) (v:Vl) (m:Int),v.sz<N→N≤2 ^ 40→ -2 ^ 50+N≤m→m≤60→PCall Try.prog 51 [.agg v.cs,.i m] (.i (sizeV v m)):=by
 intro N
 induction N with
 |zero=>intro v m h;omega
 |succ N ih=>
 intro v m hv hN hm1 hm2
 have hsz:=v.sz_eq
 have hlf:=Vl.len_le v.fs
 rw[sizeV_eq]
 unfold Vl.cs
 refine PCall.intro Try.func51 rfl isf51 (by simp[Try.f51]) (by simp[AV.cloL,AV.clo]) fun E Q hE hN hQ=>K_start ?_
 repeat'(first|apply nx|refine zx ?_|rw[zw]|((first|refine hK _ ?_|refine hKp _ _ ?_);clear hK hKp K Kp;try clear hanc anc)|((with_reducible refine And.intro ?_ ?_);exact zb)|((first|refine zr hE fun K Kp hK hKp=>?_|refine zd false mixed hE fun K Kp hK hKp anc hanc=>?_);simp only[go_sem])|(refine zg (fun hg=>?_) (fun hg=>?_)<;>simp only[go_sem,hg])|(refine zc (fun hc=>?_) (fun hc=>?_)<;>try exact zh hc)|(refine K_ret ?_;refine zt hQ ?_))
 refine K_loop (X:=Nat×Int) (fun x=>x.1≤v.fs.length∧sizeL (v.fs.drop x.1) x.2 m=sizeL v.fs 1 m∧1≤x.2∧x.2≤1+Vl.szL (v.fs.take x.1)) (fun x=>mkSt [(1,AV.i m),(2,.ptr 0 0),(5,AV.i x.2),(6,AV.i x.1)] [(0,.cells v.cs)] 1) (fun x=>v.fs.length - x.1) (0,1) ⟨Nat.zero_le _,by simp,by simp,by simp[Vl.szL]⟩ (fun i=>i) (by refine ent_mk (by simp[go_sem,Vl.cs]) (by simp[go_sem,Vl.cs]) (by simp) (by simp[hN])) ?_
 rintro⟨i,n⟩ ⟨hi,ht,h1,h2⟩
 simp only at hi ht h1 h2
 have htk:Vl.szL (v.fs.take i)+Vl.szL (v.fs.drop i)=Vl.szL v.fs:=by
  rw[Vl.szL_eq,Vl.szL_eq,Vl.szL_eq, ← List.sum_append, ← List.map_append,List.take_append_drop]
 by_cases hlt:i<v.fs.length
 ·obtain⟨x,hx⟩:=get?_of hlt
  rw[drop_of hx,sizeL] at ht
  rw[drop_of hx,Vl.szL] at htk
  by_cases hle:n≤m
  ·rw[if_pos hle] at ht
   have hsx:=sizeV_le x (m - n)
   have hr:=ih x (m - n) (by omega) (by omega) (by omega) (by omega)
   repeat'(first|apply nx|refine zx ?_|rw[zw]|((first|refine hK _ ?_|refine hKp _ _ ?_);clear hK hKp K Kp;try clear hanc anc)|((with_reducible refine And.intro ?_ ?_);exact zb)|((first|refine zr hE fun K Kp hK hKp=>?_|refine zd false mixed hE fun K Kp hK hKp anc hanc=>?_|(apply zm;exact zu;exact hr;exact zs;exact zl));simp only[go_sem,lt_dec hlt,hx,Vl.av_cs,Vl.cs,hle])|(refine zg (fun hg=>?_) (fun hg=>?_)<;>simp only[go_sem,lt_dec hlt,hx,Vl.av_cs,Vl.cs,hle,hg])|(refine zc (fun hc=>?_) (fun hc=>?_)<;>try exact zh hc)|(refine K_ret ?_;refine zt hQ ?_))
   refine⟨(i+1,n+sizeV x (m - n)),⟨by simp only;omega,by simp only;exact ht,by simp only;omega,?_⟩,by simp only;omega,fun i=>i,by refine ent_mk (by simp[go_sem,Vl.cs]) (by simp[go_sem,Vl.cs]) (by simp) (by simp[hN])⟩
   simp only
   rw[List.take_add_one,hx]
   have e:Vl.szL (v.fs.take i++(some x).toList)=Vl.szL (v.fs.take i)+x.sz:=by
    rw[Vl.szL_eq,Vl.szL_eq];simp
   rw[e]
   omega
  ·rw[if_neg hle] at ht
   repeat'(first|apply nx|refine zx ?_|rw[zw]|((first|refine hK _ ?_|refine hKp _ _ ?_);clear hK hKp K Kp;try clear hanc anc)|((with_reducible refine And.intro ?_ ?_);exact zb)|((first|refine zr hE fun K Kp hK hKp=>?_|refine zd false mixed hE fun K Kp hK hKp anc hanc=>?_);simp only[go_sem,lt_dec hlt,hle,Vl.cs])|(refine zg (fun hg=>?_) (fun hg=>?_)<;>simp only[go_sem,lt_dec hlt,hle,Vl.cs,hg])|(refine zc (fun hc=>?_) (fun hc=>?_)<;>try exact zh hc)|(refine K_ret ?_;refine zt hQ ?_))
   simp[AV.snap,ht]
 ·obtain rfl:i=v.fs.length:=by omega
  rw[List.drop_length,sizeL] at ht
  repeat'(first|apply nx|refine zx ?_|rw[zw]|((first|refine hK _ ?_|refine hKp _ _ ?_);clear hK hKp K Kp;try clear hanc anc)|((with_reducible refine And.intro ?_ ?_);exact zb)|((first|refine zr hE fun K Kp hK hKp=>?_|refine zd false mixed hE fun K Kp hK hKp anc hanc=>?_);simp only[go_sem,ge_dec,Vl.cs])|(refine zg (fun hg=>?_) (fun hg=>?_)<;>simp only[go_sem,ge_dec,Vl.cs,hg])|(refine zc (fun hc=>?_) (fun hc=>?_)<;>try exact zh hc)|(refine K_ret ?_;refine zt hQ ?_))
  simp[AV.snap,ht]
theorem size60 (v:Vl) (h:v.sz<2 ^ 40):PCall Try.prog 51 [.agg v.cs,.i 60] (.i (sizeV v 60)):=size_call (2 ^ 40) v 60 h (Nat.le_refl _) (by omega) (by omega)
def fewB (h:Hp) (v:Vl):Prop:=h.cells.length≤60∧h.arenas.length≤30∧sizeV v 60≤60∧∀ c,c∈h.cells→sizeV c.v 60≤60
theorem few_call (h:Hp) (v:Vl) (hv:v.sz<2 ^ 40) (hz:∀ c,c∈h.cells→c.v.sz<2 ^ 40) (hl:h.cells.length≤2 ^ 20):PCall Try.prog 32 [h.av,v.av] (.bool (decide (fewB h v))):=by
 have h60:=size60 v hv
 rw[Hp.av_eq,Vl.av_eq]
 unfold Vl.cs at h60
 by_cases h1:h.cells.length≤60
 case neg=>
  have q1:decide ((60:Int)<(h.cells.length:Int))=true:=by simp;omega
  have hn:¬ fewB h v:=fun hf=>h1 hf.1
  refine PCall.intro Try.func32 rfl isf32 (by simp[Try.f32]) (by simp[AV.cloL,AV.clo]) fun E Q hE hN hQ=>K_start ?_
  repeat'(first|apply nx|refine zx ?_|rw[zw]|((first|refine hK _ ?_|refine hKp _ _ ?_);clear hK hKp K Kp;try clear hanc anc)|((with_reducible refine And.intro ?_ ?_);exact zb)|((first|refine zr hE fun K Kp hK hKp=>?_|refine zd false mixed hE fun K Kp hK hKp anc hanc=>?_);simp only[go_sem,q1])|(refine zg (fun hg=>?_) (fun hg=>?_)<;>simp only[go_sem,q1,hg])|(refine zc (fun hc=>?_) (fun hc=>?_)<;>try exact zh hc)|(refine K_ret ?_;refine zt hQ ?_))
  simp[AV.snap,hn]
 have q1:decide ((60:Int)<(h.cells.length:Int))=false:=by simp;omega
 by_cases h2:h.arenas.length≤30
 case neg=>
  have q2:decide ((30:Int)<(h.arenas.length:Int))=true:=by simp;omega
  have hn:¬ fewB h v:=fun hf=>h2 hf.2.1
  refine PCall.intro Try.func32 rfl isf32 (by simp[Try.f32]) (by simp[AV.cloL,AV.clo]) fun E Q hE hN hQ=>K_start ?_
  repeat'(first|apply nx|refine zx ?_|rw[zw]|((first|refine hK _ ?_|refine hKp _ _ ?_);clear hK hKp K Kp;try clear hanc anc)|((with_reducible refine And.intro ?_ ?_);exact zb)|((first|refine zr hE fun K Kp hK hKp=>?_|refine zd false mixed hE fun K Kp hK hKp anc hanc=>?_);simp only[go_sem,q1,q2])|(refine zg (fun hg=>?_) (fun hg=>?_)<;>simp only[go_sem,q1,q2,hg])|(refine zc (fun hc=>?_) (fun hc=>?_)<;>try exact zh hc)|(refine K_ret ?_;refine zt hQ ?_))
  simp[AV.snap,hn]
 have q2:decide ((30:Int)<(h.arenas.length:Int))=false:=by simp;omega
 by_cases h3:sizeV v 60≤60
 case neg=>
  have q3:decide (60<sizeV v 60)=true:=by simp;omega
  have hn:¬ fewB h v:=fun hf=>h3 hf.2.2.1
  refine PCall.intro Try.func32 rfl isf32 (by simp[Try.f32]) (by simp[AV.cloL,AV.clo]) fun E Q hE hN hQ=>K_start ?_
  repeat'(first|apply nx|refine zx ?_|rw[zw]|((first|refine hK _ ?_|refine hKp _ _ ?_);clear hK hKp K Kp;try clear hanc anc)|((with_reducible refine And.intro ?_ ?_);exact zb)|((first|refine zr hE fun K Kp hK hKp=>?_|refine zd false mixed hE fun K Kp hK hKp anc hanc=>?_|(apply zm;exact zu;exact h60;exact zs;exact zl));simp only[go_sem,q1,q2,q3])|(refine zg (fun hg=>?_) (fun hg=>?_)<;>simp only[go_sem,q1,q2,q3,hg])|(refine zc (fun hc=>?_) (fun hc=>?_)<;>try exact zh hc)|(refine K_ret ?_;refine zt hQ ?_))
  all_goals simp[AV.snap,hn]
 have q3:decide (60<sizeV v 60)=false:=by simp;omega
 refine PCall.intro Try.func32 rfl isf32 (by simp[Try.f32]) (by simp[AV.cloL,AV.clo]) fun E Q hE hN hQ=>K_start ?_
 repeat'(first|apply nx|refine zx ?_|rw[zw]|((first|refine hK _ ?_|refine hKp _ _ ?_);clear hK hKp K Kp;try clear hanc anc)|((with_reducible refine And.intro ?_ ?_);exact zb)|((first|refine zr hE fun K Kp hK hKp=>?_|refine zd false mixed hE fun K Kp hK hKp anc hanc=>?_|(apply zm;exact zu;exact h60;exact zs;exact zl));simp only[go_sem,q1,q2,q3])|(refine zg (fun hg=>?_) (fun hg=>?_)<;>simp only[go_sem,q1,q2,q3,hg])|(refine zc (fun hc=>?_) (fun hc=>?_)<;>try exact zh hc)|(refine K_ret ?_;refine zt hQ ?_))
 refine K_loop (X:=Nat) (fun i=>i≤h.cells.length∧∀ c,c∈h.cells.take i→sizeV c.v 60≤60) (fun i=>mkSt [(2,.ptr 0 0),(5,AV.i i)] [(0,.cells [.sl (cl h.cells),.sl (bl h.arenas)])] 2) (fun i=>h.cells.length - i) 0 ⟨Nat.zero_le _,by simp⟩ (fun i=>i) (by refine ent_mk (by simp[go_sem]) (by simp[go_sem]) (by simp) (by simp[hN])) ?_
 rintro i ⟨hi,ht⟩
 by_cases hlt:i<h.cells.length
 ·obtain⟨x,hx⟩:=get?_of hlt
  have hc0:=size60 x.v (hz x (List.mem_of_getElem? hx))
  unfold Vl.cs at hc0
  by_cases hs:sizeV x.v 60≤60
  ·have q4:decide (60<sizeV x.v 60)=false:=by simp;omega
   repeat'(first|apply nx|refine zx ?_|rw[zw]|((first|refine hK _ ?_|refine hKp _ _ ?_);clear hK hKp K Kp;try clear hanc anc)|((with_reducible refine And.intro ?_ ?_);exact zb)|((first|refine zr hE fun K Kp hK hKp=>?_|refine zd false mixed hE fun K Kp hK hKp anc hanc=>?_|(apply zm;exact zu;exact hc0;exact zs;exact zl));simp only[go_sem,lt_dec hlt,hx,Cl.av,Cl.cs_eq,q4])|(refine zg (fun hg=>?_) (fun hg=>?_)<;>simp only[go_sem,lt_dec hlt,hx,Cl.av,Cl.cs_eq,q4,hg])|(refine zc (fun hc=>?_) (fun hc=>?_)<;>try exact zh hc)|(refine K_ret ?_;refine zt hQ ?_))
   refine⟨i+1,⟨by omega,?_⟩,by omega,fun i=>i,by refine ent_mk (by simp[go_sem]) (by simp[go_sem]) (by simp) (by simp[hN])⟩
   rw[List.take_add_one,hx]
   intro c hc
   rcases List.mem_append.1 hc with hc|hc
   ·exact ht c hc
   ·simp at hc;subst hc;exact hs
  ·have q4:decide (60<sizeV x.v 60)=true:=by simp;omega
   have hn:¬ fewB h v:=fun hf=>hs (hf.2.2.2 x (List.mem_of_getElem? hx))
   repeat'(first|apply nx|refine zx ?_|rw[zw]|((first|refine hK _ ?_|refine hKp _ _ ?_);clear hK hKp K Kp;try clear hanc anc)|((with_reducible refine And.intro ?_ ?_);exact zb)|((first|refine zr hE fun K Kp hK hKp=>?_|refine zd false mixed hE fun K Kp hK hKp anc hanc=>?_|(apply zm;exact zu;exact hc0;exact zs;exact zl));simp only[go_sem,lt_dec hlt,hx,Cl.av,Cl.cs_eq,q4])|(refine zg (fun hg=>?_) (fun hg=>?_)<;>simp only[go_sem,lt_dec hlt,hx,Cl.av,Cl.cs_eq,q4,hg])|(refine zc (fun hc=>?_) (fun hc=>?_)<;>try exact zh hc)|(refine K_ret ?_;refine zt hQ ?_))
   simp[AV.snap,hn]
 ·obtain rfl:i=h.cells.length:=by omega
  rw[List.take_length] at ht
  have hn:fewB h v:=⟨h1,h2,h3,ht⟩
  repeat'(first|apply nx|refine zx ?_|rw[zw]|((first|refine hK _ ?_|refine hKp _ _ ?_);clear hK hKp K Kp;try clear hanc anc)|((with_reducible refine And.intro ?_ ?_);exact zb)|((first|refine zr hE fun K Kp hK hKp=>?_|refine zd false mixed hE fun K Kp hK hKp anc hanc=>?_);simp only[go_sem,ge_dec])|(refine zg (fun hg=>?_) (fun hg=>?_)<;>simp only[go_sem,ge_dec,hg])|(refine zc (fun hc=>?_) (fun hc=>?_)<;>try exact zh hc)|(refine K_ret ?_;refine zt hQ ?_))
  simp[AV.snap,hn]



def hp0:Hp:=⟨[],[]⟩
theorem app_set {l:List AV} {n:Nat} (h:l.length=n) (z x:AV):(l++[z]).set n x=l++[x]:=by subst h;simp

end Go.Proofs.Ytfgjjnfdcgkpoaa
