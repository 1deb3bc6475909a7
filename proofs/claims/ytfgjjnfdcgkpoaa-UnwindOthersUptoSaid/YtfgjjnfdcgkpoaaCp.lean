/- A part of the proof: an abstract machine for the walks, and what the walked functions compute. -/
import Derived.Test.YtfgjjnfdcgkpoaaCo
import Derived.Test.YtfgjjnfdcgkpoaaCk
set_option linter.unusedVariables false
set_option linter.unusedSimpArgs false
set_option maxHeartbeats 4000000
set_option maxRecDepth 100000
namespace Go.Proofs.Ytfgjjnfdcgkpoaa
open Go.Am Go.Proofs Go.Hv
open Classical
attribute [local irreducible] AW CallP CallB CallY
theorem ready_c (w:Wd) (tk:Int) (hw:w.ts.length≤2 ^ 40):PCall Try.prog 27 [w.av,.i tk] (.bool (readyT w tk).isSome):=by
 unfold readyT
 rw[Wd.av_eq]
 by_cases h1:0≤tk
 ·obtain⟨m,rfl⟩:∃ m:Nat,tk=m:=⟨tk.toNat,by omega⟩
  have q1:decide ((m:Int)≥0)=true:=decide_eq_true (by omega)
  rw[if_pos h1,Int.toNat_natCast]
  by_cases h2:m<w.ts.length
  ·obtain⟨t,ht⟩:=get?_of h2
   rw[ht]
   by_cases hs:t.st=0
   ·have q3:(t.st==0)=true:=by simpa using hs
    refine PCall.intro Try.func27 rfl isf27 (by simp[Try.f27]) (by simp[AV.cloL,AV.clo]) fun E Q hE hN hQ=>K_start ?_
    repeat'(first|apply nx|refine zx ?_|rw[zw]|((first|refine hK _ ?_|refine hKp _ _ ?_);clear hK hKp K Kp;try clear hanc anc)|((with_reducible refine And.intro ?_ ?_);exact zb)|((first|refine zr hE fun K Kp hK hKp=>?_|refine zd false mixed hE fun K Kp hK hKp anc hanc=>?_);simp only[go_sem,q1,lt_dec h2,ht,Tsk.av_eq,q3])|(refine zg (fun hg=>?_) (fun hg=>?_)<;>simp only[go_sem,q1,lt_dec h2,ht,Tsk.av_eq,q3,hg])|(refine zc (fun hc=>?_) (fun hc=>?_)<;>try exact zh hc)|(refine K_ret ?_;refine zt hQ ?_))
    simp[AV.snap,hs]
   ·have q3:(t.st==0)=false:=by simpa using hs
    refine PCall.intro Try.func27 rfl isf27 (by simp[Try.f27]) (by simp[AV.cloL,AV.clo]) fun E Q hE hN hQ=>K_start ?_
    repeat'(first|apply nx|refine zx ?_|rw[zw]|((first|refine hK _ ?_|refine hKp _ _ ?_);clear hK hKp K Kp;try clear hanc anc)|((with_reducible refine And.intro ?_ ?_);exact zb)|((first|refine zr hE fun K Kp hK hKp=>?_|refine zd false mixed hE fun K Kp hK hKp anc hanc=>?_);simp only[go_sem,q1,lt_dec h2,ht,Tsk.av_eq,q3])|(refine zg (fun hg=>?_) (fun hg=>?_)<;>simp only[go_sem,q1,lt_dec h2,ht,Tsk.av_eq,q3,hg])|(refine zc (fun hc=>?_) (fun hc=>?_)<;>try exact zh hc)|(refine K_ret ?_;refine zt hQ ?_))
    simp[AV.snap,hs]
  ·have q2:decide ((m:Int)<(w.ts.length:Int))=false:=decide_eq_false (by omega)
   rw[List.getElem?_eq_none (by omega)]
   refine PCall.intro Try.func27 rfl isf27 (by simp[Try.f27]) (by simp[AV.cloL,AV.clo]) fun E Q hE hN hQ=>K_start ?_
   repeat'(first|apply nx|refine zx ?_|rw[zw]|((first|refine hK _ ?_|refine hKp _ _ ?_);clear hK hKp K Kp;try clear hanc anc)|((with_reducible refine And.intro ?_ ?_);exact zb)|((first|refine zr hE fun K Kp hK hKp=>?_|refine zd false mixed hE fun K Kp hK hKp anc hanc=>?_);simp only[go_sem,q1,q2])|(refine zg (fun hg=>?_) (fun hg=>?_)<;>simp only[go_sem,q1,q2,hg])|(refine zc (fun hc=>?_) (fun hc=>?_)<;>try exact zh hc)|(refine K_ret ?_;refine zt hQ ?_))
   simp[AV.snap]
 ·have q1:decide (tk≥0)=false:=decide_eq_false (by omega)
  rw[if_neg h1]
  refine PCall.intro Try.func27 rfl isf27 (by simp[Try.f27]) (by simp[AV.cloL,AV.clo]) fun E Q hE hN hQ=>K_start ?_
  repeat'(first|apply nx|refine zx ?_|rw[zw]|((first|refine hK _ ?_|refine hKp _ _ ?_);clear hK hKp K Kp;try clear hanc anc)|((with_reducible refine And.intro ?_ ?_);exact zb)|((first|refine zr hE fun K Kp hK hKp=>?_|refine zd false mixed hE fun K Kp hK hKp anc hanc=>?_);simp only[go_sem,q1])|(refine zg (fun hg=>?_) (fun hg=>?_)<;>simp only[go_sem,q1,hg])|(refine zc (fun hc=>?_) (fun hc=>?_)<;>try exact zh hc)|(refine K_ret ?_;refine zt hQ ?_))
  simp[AV.snap]

theorem eqty73:Try.prog.stoodInHeld 73=false∧Try.prog.eqGuardType Try.prog.depth 73=false:=by constructor<;>kernel_rfl
theorem eqty96:Try.prog.stoodInHeld 96=false∧Try.prog.eqGuardType Try.prog.depth 96=false:=by constructor<;>kernel_rfl
theorem agg73 (x y:Int×Int) (r:Bool) (h:r=decide (x=y)):aggE Try.prog .neq 73 [.i x.1,.i x.2] [.i y.1,.i y.2]=some (True,.bool (!r)):=by
 have e:(x.1==y.1&&x.2==y.2)=r:=by
  rw[h,Bool.eq_iff_iff]
  cases x;cases y
  simp
 unfold aggE
 simp only[eqTy,Try.underlying73,eqty73,eqF,Try.underlying3,AV.i]
 simp[eqF,Try.underlying3,AV.i]
 simp[← e]
theorem agg96 (x y:Ln) (r:Bool) (h:r=decide (x=y)):aggE Try.prog .neq 96 [.i x.fr,.i x.slot,.bool x.excl,.bool x.re,.bool x.over] [.i y.fr,.i y.slot,.bool y.excl,.bool y.re,.bool y.over]=some (True,.bool (!r)):=by
 have e:(x.fr==y.fr&&(x.slot==y.slot&&(x.excl==y.excl&&(x.re==y.re&&x.over==y.over))))=r:=by
  rw[h,Bool.eq_iff_iff]
  cases x;cases y
  simp
 unfold aggE
 simp only[eqTy,Try.underlying96,eqty96,eqF,Try.underlying3,Try.underlying4,AV.i]
 simp[eqF,Try.underlying3,Try.underlying4,AV.i]
 simp[← e]
theorem sameO_c (a b:List (Int×Int)) (ha:a.length≤2 ^ 40):PCall Try.prog 25 [.sl (oul a),.sl (oul b)] (.bool (decide (a=b))):=by
 by_cases hn1:a.length=b.length
 case neg=>
  have q1:((a.length:Int) !=(b.length:Int))=true:=by simp;omega
  have hne:a≠b:=by rintro rfl;exact hn1 rfl
  refine PCall.intro Try.func25 rfl isf25 (by simp[Try.f25]) (by simp[AV.cloL,AV.clo]) fun E Q hE hN hQ=>K_start ?_
  repeat'(first|apply nx|refine zx ?_|rw[zw]|((first|refine hK _ ?_|refine hKp _ _ ?_);clear hK hKp K Kp;try clear hanc anc)|((with_reducible refine And.intro ?_ ?_);exact zb)|((first|refine zr hE fun K Kp hK hKp=>?_|refine zd false mixed hE fun K Kp hK hKp anc hanc=>?_);simp only[go_sem,q1])|(refine zg (fun hg=>?_) (fun hg=>?_)<;>simp only[go_sem,q1,hg])|(refine zc (fun hc=>?_) (fun hc=>?_)<;>try exact zh hc)|(refine K_ret ?_;refine zt hQ ?_))
  simp[AV.snap,hne]
 have q1:((a.length:Int) !=(b.length:Int))=false:=by simp[hn1]
 refine PCall.intro Try.func25 rfl isf25 (by simp[Try.f25]) (by simp[AV.cloL,AV.clo]) fun E Q hE hN hQ=>K_start ?_
 repeat'(first|apply nx|refine zx ?_|rw[zw]|((first|refine hK _ ?_|refine hKp _ _ ?_);clear hK hKp K Kp;try clear hanc anc)|((with_reducible refine And.intro ?_ ?_);exact zb)|((first|refine zr hE fun K Kp hK hKp=>?_|refine zd false mixed hE fun K Kp hK hKp anc hanc=>?_);simp only[go_sem,q1])|(refine zg (fun hg=>?_) (fun hg=>?_)<;>simp only[go_sem,q1,hg])|(refine zc (fun hc=>?_) (fun hc=>?_)<;>try exact zh hc)|(refine K_ret ?_;refine zt hQ ?_))
 refine K_loop (X:=Nat) (fun i=>i≤a.length∧a.take i=b.take i) (fun i=>mkSt [(0,.sl (oul a)),(1,.sl (oul b)),(5,AV.i i)] [] 0) (fun i=>a.length - i) 0 ⟨Nat.zero_le _,by simp⟩ (fun i=>i) (by refine ent_mk (by simp[go_sem]) (by simp[go_sem]) (by simp) (by simp[hN])) ?_
 rintro i ⟨hi,ht⟩
 by_cases hlt:i<a.length
 ·obtain⟨x,hx⟩:=get?_of hlt
  obtain⟨y,hy⟩:=get?_of (show i<b.length by omega)
  have u1:IntKind.i64.wrap ((i:Int)+1)=((i+1:Nat):Int):=by rw[wrap64 (by omega) (by omega)];omega
  by_cases hxy:x=y
  ·have ag:=agg73 x y true (by simp[hxy])
   repeat'(first|apply nx|refine zx ?_|rw[zw]|((first|refine hK _ ?_|refine hKp _ _ ?_);clear hK hKp K Kp;try clear hanc anc)|((with_reducible refine And.intro ?_ ?_);exact zb)|((first|refine zr hE fun K Kp hK hKp=>?_|refine zd false mixed hE fun K Kp hK hKp anc hanc=>?_);simp only[go_sem,lt_dec hlt,hx,hy,ouv,u1,ag])|(refine zg (fun hg=>?_) (fun hg=>?_)<;>simp only[go_sem,lt_dec hlt,hx,hy,ouv,u1,ag,hg])|(refine zc (fun hc=>?_) (fun hc=>?_)<;>try exact zh hc)|(refine K_ret ?_;refine zt hQ ?_))
   refine⟨i+1,⟨by omega,?_⟩,by omega,fun i=>i,by refine ent_mk (by simp[go_sem]) (by simp[go_sem]) (by simp) (by simp[hN])⟩
   rw[List.take_add_one,List.take_add_one,ht,hx,hy,hxy]
  ·have hne:a≠b:=by rintro rfl;rw[hx] at hy;exact hxy (Option.some.inj hy)
   have ag:=agg73 x y false (by simp[hxy])
   repeat'(first|apply nx|refine zx ?_|rw[zw]|((first|refine hK _ ?_|refine hKp _ _ ?_);clear hK hKp K Kp;try clear hanc anc)|((with_reducible refine And.intro ?_ ?_);exact zb)|((first|refine zr hE fun K Kp hK hKp=>?_|refine zd false mixed hE fun K Kp hK hKp anc hanc=>?_);simp only[go_sem,lt_dec hlt,hx,hy,ouv,ag])|(refine zg (fun hg=>?_) (fun hg=>?_)<;>simp only[go_sem,lt_dec hlt,hx,hy,ouv,ag,hg])|(refine zc (fun hc=>?_) (fun hc=>?_)<;>try exact zh hc)|(refine K_ret ?_;refine zt hQ ?_))
   simp[AV.snap,hne]
 ·obtain rfl:i=a.length:=by omega
  rw[List.take_length,hn1,List.take_length] at ht
  repeat'(first|apply nx|refine zx ?_|rw[zw]|((first|refine hK _ ?_|refine hKp _ _ ?_);clear hK hKp K Kp;try clear hanc anc)|((with_reducible refine And.intro ?_ ?_);exact zb)|((first|refine zr hE fun K Kp hK hKp=>?_|refine zd false mixed hE fun K Kp hK hKp anc hanc=>?_);simp only[go_sem,ge_dec])|(refine zg (fun hg=>?_) (fun hg=>?_)<;>simp only[go_sem,ge_dec,hg])|(refine zc (fun hc=>?_) (fun hc=>?_)<;>try exact zh hc)|(refine K_ret ?_;refine zt hQ ?_))
  simp[AV.snap,ht]
theorem Af.eq_iff (a b:Af):a=b↔a.num=b.num∧a.rt=b.rt∧a.blk=b.blk∧a.idx=b.idx∧a.dst=b.dst∧a.sl=b.sl∧a.si=b.si:=by cases a;cases b;simp
theorem sameF_c (a b:Af) (hz:∀ v,v∈a.sl→v.sz<2 ^ 40) (hsl:a.sl.length≤2 ^ 40) (hsi:a.si.length≤2 ^ 40):PCall Try.prog 49 [a.av,b.av] (.bool (decide (a=b))):=by
 have hiff:=Af.eq_iff a b
 rw[Af.av_eq,Af.av_eq]
 by_cases e0:a.num=b.num
 case neg=>
  have hne:a≠b:=by rintro rfl;exact e0 rfl
  have q0:(a.num !=b.num)=true:=by simpa using e0
  refine PCall.intro Try.func49 rfl isf49 (by simp[Try.f49]) (by simp[AV.cloL,AV.clo]) fun E Q hE hN hQ=>K_start ?_
  repeat'(first|apply nx|refine zx ?_|rw[zw]|((first|refine hK _ ?_|refine hKp _ _ ?_);clear hK hKp K Kp;try clear hanc anc)|((with_reducible refine And.intro ?_ ?_);exact zb)|((first|refine zr hE fun K Kp hK hKp=>?_|refine zd false mixed hE fun K Kp hK hKp anc hanc=>?_);simp only[go_sem,q0])|(refine zg (fun hg=>?_) (fun hg=>?_)<;>simp only[go_sem,q0,hg])|(refine zc (fun hc=>?_) (fun hc=>?_)<;>try exact zh hc)|(refine K_ret ?_;refine zt hQ ?_))
  simp[AV.snap,hne]
 have q0:(a.num !=b.num)=false:=by simpa using e0
 by_cases e1:a.rt=b.rt
 case neg=>
  have hne:a≠b:=by rintro rfl;exact e1 rfl
  have q1:(a.rt !=b.rt)=true:=by simpa using e1
  refine PCall.intro Try.func49 rfl isf49 (by simp[Try.f49]) (by simp[AV.cloL,AV.clo]) fun E Q hE hN hQ=>K_start ?_
  repeat'(first|apply nx|refine zx ?_|rw[zw]|((first|refine hK _ ?_|refine hKp _ _ ?_);clear hK hKp K Kp;try clear hanc anc)|((with_reducible refine And.intro ?_ ?_);exact zb)|((first|refine zr hE fun K Kp hK hKp=>?_|refine zd false mixed hE fun K Kp hK hKp anc hanc=>?_);simp only[go_sem,q0,q1])|(refine zg (fun hg=>?_) (fun hg=>?_)<;>simp only[go_sem,q0,q1,hg])|(refine zc (fun hc=>?_) (fun hc=>?_)<;>try exact zh hc)|(refine K_ret ?_;refine zt hQ ?_))
  simp[AV.snap,hne]
 have q1:(a.rt !=b.rt)=false:=by simpa using e1
 by_cases e2:a.blk=b.blk
 case neg=>
  have hne:a≠b:=by rintro rfl;exact e2 rfl
  have q2:(a.blk !=b.blk)=true:=by simpa using e2
  refine PCall.intro Try.func49 rfl isf49 (by simp[Try.f49]) (by simp[AV.cloL,AV.clo]) fun E Q hE hN hQ=>K_start ?_
  repeat'(first|apply nx|refine zx ?_|rw[zw]|((first|refine hK _ ?_|refine hKp _ _ ?_);clear hK hKp K Kp;try clear hanc anc)|((with_reducible refine And.intro ?_ ?_);exact zb)|((first|refine zr hE fun K Kp hK hKp=>?_|refine zd false mixed hE fun K Kp hK hKp anc hanc=>?_);simp only[go_sem,q0,q1,q2])|(refine zg (fun hg=>?_) (fun hg=>?_)<;>simp only[go_sem,q0,q1,q2,hg])|(refine zc (fun hc=>?_) (fun hc=>?_)<;>try exact zh hc)|(refine K_ret ?_;refine zt hQ ?_))
  simp[AV.snap,hne]
 have q2:(a.blk !=b.blk)=false:=by simpa using e2
 by_cases e3:a.idx=b.idx
 case neg=>
  have hne:a≠b:=by rintro rfl;exact e3 rfl
  have q3:(a.idx !=b.idx)=true:=by simpa using e3
  refine PCall.intro Try.func49 rfl isf49 (by simp[Try.f49]) (by simp[AV.cloL,AV.clo]) fun E Q hE hN hQ=>K_start ?_
  repeat'(first|apply nx|refine zx ?_|rw[zw]|((first|refine hK _ ?_|refine hKp _ _ ?_);clear hK hKp K Kp;try clear hanc anc)|((with_reducible refine And.intro ?_ ?_);exact zb)|((first|refine zr hE fun K Kp hK hKp=>?_|refine zd false mixed hE fun K Kp hK hKp anc hanc=>?_);simp only[go_sem,q0,q1,q2,q3])|(refine zg (fun hg=>?_) (fun hg=>?_)<;>simp only[go_sem,q0,q1,q2,q3,hg])|(refine zc (fun hc=>?_) (fun hc=>?_)<;>try exact zh hc)|(refine K_ret ?_;refine zt hQ ?_))
  simp[AV.snap,hne]
 have q3:(a.idx !=b.idx)=false:=by simpa using e3
 by_cases e4:a.dst=b.dst
 case neg=>
  have hne:a≠b:=by rintro rfl;exact e4 rfl
  have q4:(a.dst !=b.dst)=true:=by simpa using e4
  refine PCall.intro Try.func49 rfl isf49 (by simp[Try.f49]) (by simp[AV.cloL,AV.clo]) fun E Q hE hN hQ=>K_start ?_
  repeat'(first|apply nx|refine zx ?_|rw[zw]|((first|refine hK _ ?_|refine hKp _ _ ?_);clear hK hKp K Kp;try clear hanc anc)|((with_reducible refine And.intro ?_ ?_);exact zb)|((first|refine zr hE fun K Kp hK hKp=>?_|refine zd false mixed hE fun K Kp hK hKp anc hanc=>?_);simp only[go_sem,q0,q1,q2,q3,q4])|(refine zg (fun hg=>?_) (fun hg=>?_)<;>simp only[go_sem,q0,q1,q2,q3,q4,hg])|(refine zc (fun hc=>?_) (fun hc=>?_)<;>try exact zh hc)|(refine K_ret ?_;refine zt hQ ?_))
  simp[AV.snap,hne]
 have q4:(a.dst !=b.dst)=false:=by simpa using e4
 by_cases e5:a.sl.length=b.sl.length
 case neg=>
  have hne:a≠b:=by rintro rfl;exact e5 rfl
  have q5:(((a.sl.length:Nat):Int) !=((b.sl.length:Nat):Int))=true:=by simp;omega
  refine PCall.intro Try.func49 rfl isf49 (by simp[Try.f49]) (by simp[AV.cloL,AV.clo]) fun E Q hE hN hQ=>K_start ?_
  repeat'(first|apply nx|refine zx ?_|rw[zw]|((first|refine hK _ ?_|refine hKp _ _ ?_);clear hK hKp K Kp;try clear hanc anc)|((with_reducible refine And.intro ?_ ?_);exact zb)|((first|refine zr hE fun K Kp hK hKp=>?_|refine zd false mixed hE fun K Kp hK hKp anc hanc=>?_);simp only[go_sem,q0,q1,q2,q3,q4,q5])|(refine zg (fun hg=>?_) (fun hg=>?_)<;>simp only[go_sem,q0,q1,q2,q3,q4,q5,hg])|(refine zc (fun hc=>?_) (fun hc=>?_)<;>try exact zh hc)|(refine K_ret ?_;refine zt hQ ?_))
  simp[AV.snap,hne]
 have q5:(((a.sl.length:Nat):Int) !=((b.sl.length:Nat):Int))=false:=by rw[e5];simp
 by_cases e6:a.si=b.si
 case neg=>
  have hne:a≠b:=by rintro rfl;exact e6 rfl
  have k6:=ints_call a.si b.si hsi
  rw[decide_eq_false e6] at k6
  refine PCall.intro Try.func49 rfl isf49 (by simp[Try.f49]) (by simp[AV.cloL,AV.clo]) fun E Q hE hN hQ=>K_start ?_
  repeat'(first|apply nx|refine zx ?_|rw[zw]|((first|refine hK _ ?_|refine hKp _ _ ?_);clear hK hKp K Kp;try clear hanc anc)|((with_reducible refine And.intro ?_ ?_);exact zb)|((first|refine zr hE fun K Kp hK hKp=>?_|refine zd false mixed hE fun K Kp hK hKp anc hanc=>?_|(apply zm;exact zu;exact k6;exact zs;exact zl));simp only[go_sem,q0,q1,q2,q3,q4,q5])|(refine zg (fun hg=>?_) (fun hg=>?_)<;>simp only[go_sem,q0,q1,q2,q3,q4,q5,hg])|(refine zc (fun hc=>?_) (fun hc=>?_)<;>try exact zh hc)|(refine K_ret ?_;refine zt hQ ?_))
  simp[AV.snap,hne]
 have k6:=ints_call a.si b.si hsi
 rw[decide_eq_true e6] at k6
 refine PCall.intro Try.func49 rfl isf49 (by simp[Try.f49]) (by simp[AV.cloL,AV.clo]) fun E Q hE hN hQ=>K_start ?_
 repeat'(first|apply nx|refine zx ?_|rw[zw]|((first|refine hK _ ?_|refine hKp _ _ ?_);clear hK hKp K Kp;try clear hanc anc)|((with_reducible refine And.intro ?_ ?_);exact zb)|((first|refine zr hE fun K Kp hK hKp=>?_|refine zd false mixed hE fun K Kp hK hKp anc hanc=>?_|(apply zm;exact zu;exact k6;exact zs;exact zl));simp only[go_sem,q0,q1,q2,q3,q4,q5])|(refine zg (fun hg=>?_) (fun hg=>?_)<;>simp only[go_sem,q0,q1,q2,q3,q4,q5,hg])|(refine zc (fun hc=>?_) (fun hc=>?_)<;>try exact zh hc)|(refine K_ret ?_;refine zt hQ ?_))
 refine K_loop (X:=Nat) (fun i=>i≤a.sl.length∧a.sl.take i=b.sl.take i) (fun i=>mkSt [(2,.ptr 0 0),(3,.ptr 1 0),(5,AV.i i)] [(0,.cells [.i a.num,.i a.rt,.i a.blk,.i a.idx,.i a.dst,.sl (Vl.avL a.sl),.sl (il a.si)]),(1,.cells [.i b.num,.i b.rt,.i b.blk,.i b.idx,.i b.dst,.sl (Vl.avL b.sl),.sl (il b.si)])] 2) (fun i=>a.sl.length - i) 0 ⟨Nat.zero_le _,by simp⟩ (fun i=>if i=0 then 0 else 1048576) (by refine ent_mk (by simp[go_sem]) (by simp[go_sem]) (by simp) (by simp[hN])) ?_
 rintro i ⟨hi,ht⟩
 by_cases hlt:i<a.sl.length
 ·obtain⟨x,hx⟩:=get?_of hlt
  obtain⟨y,hy⟩:=get?_of (show i<b.sl.length by omega)
  have u1:IntKind.i64.wrap ((i:Int)+1)=((i+1:Nat):Int):=by rw[wrap64 (by omega) (by omega)];omega
  have hc0:=sameV x y (hz x (List.mem_of_getElem? hx))
  unfold Vl.cs at hc0
  by_cases hxy:x=y
  ·rw[decide_eq_true hxy] at hc0
   repeat'(first|apply nx|refine zx ?_|rw[zw]|((first|refine hK _ ?_|refine hKp _ _ ?_);clear hK hKp K Kp;try clear hanc anc)|((with_reducible refine And.intro ?_ ?_);exact zb)|((first|refine zr hE fun K Kp hK hKp=>?_|refine zd false mixed hE fun K Kp hK hKp anc hanc=>?_|(apply zm;exact zu;exact hc0;exact zs;exact zl));simp only[go_sem,lt_dec hlt,hx,hy,Vl.av_eq,u1])|(refine zg (fun hg=>?_) (fun hg=>?_)<;>simp only[go_sem,lt_dec hlt,hx,hy,Vl.av_eq,u1,hg])|(refine zc (fun hc=>?_) (fun hc=>?_)<;>try exact zh hc)|(refine K_ret ?_;refine zt hQ ?_))
   refine⟨i+1,⟨by omega,?_⟩,by omega,fun i=>i,by refine ent_mk (by simp[go_sem]) (by simp[go_sem]) (by simp) (by simp[hN])⟩
   rw[List.take_add_one,List.take_add_one,ht,hx,hy,hxy]
  ·rw[decide_eq_false hxy] at hc0
   have hne:a≠b:=by rintro rfl;rw[hx] at hy;exact hxy (Option.some.inj hy)
   repeat'(first|apply nx|refine zx ?_|rw[zw]|((first|refine hK _ ?_|refine hKp _ _ ?_);clear hK hKp K Kp;try clear hanc anc)|((with_reducible refine And.intro ?_ ?_);exact zb)|((first|refine zr hE fun K Kp hK hKp=>?_|refine zd false mixed hE fun K Kp hK hKp anc hanc=>?_|(apply zm;exact zu;exact hc0;exact zs;exact zl));simp only[go_sem,lt_dec hlt,hx,hy,Vl.av_eq])|(refine zg (fun hg=>?_) (fun hg=>?_)<;>simp only[go_sem,lt_dec hlt,hx,hy,Vl.av_eq,hg])|(refine zc (fun hc=>?_) (fun hc=>?_)<;>try exact zh hc)|(refine K_ret ?_;refine zt hQ ?_))
   simp[AV.snap,hne]
 ·obtain rfl:i=a.sl.length:=by omega
  rw[List.take_length,e5,List.take_length] at ht
  repeat'(first|apply nx|refine zx ?_|rw[zw]|((first|refine hK _ ?_|refine hKp _ _ ?_);clear hK hKp K Kp;try clear hanc anc)|((with_reducible refine And.intro ?_ ?_);exact zb)|((first|refine zr hE fun K Kp hK hKp=>?_|refine zd false mixed hE fun K Kp hK hKp anc hanc=>?_);simp only[go_sem,ge_dec])|(refine zg (fun hg=>?_) (fun hg=>?_)<;>simp only[go_sem,ge_dec,hg])|(refine zc (fun hc=>?_) (fun hc=>?_)<;>try exact zh hc)|(refine K_ret ?_;refine zt hQ ?_))
  simp[AV.snap,hiff,ht,e0,e1,e2,e3,e4,e6]
theorem Tsk.eq_iff (a b:Tsk):a=b↔a.st=b.st∧a.fs=b.fs∧a.ls=b.ls∧a.al=b.al∧a.ck=b.ck∧a.nx=b.nx∧a.ce=b.ce:=by cases a;cases b;simp
theorem sameT_c (a b:Tsk) (hf:∀ x,x∈a.fs→(∀ v,v∈x.sl→v.sz<2 ^ 40)∧x.sl.length≤2 ^ 40∧x.si.length≤2 ^ 40) (hfl:a.fs.length≤2 ^ 40) (hll:a.ls.length≤2 ^ 40) (hce:a.ce.length≤2 ^ 40):PCall Try.prog 28 [a.av,b.av] (.bool (decide (a=b))):=by
 have hiff:=Tsk.eq_iff a b
 rw[Tsk.av_eq,Tsk.av_eq]
 by_cases e0:a.st=b.st
 case neg=>
  have hne:a≠b:=by rintro rfl;exact e0 rfl
  have q0:(a.st !=b.st)=true:=by simpa using e0
  refine PCall.intro Try.func28 rfl isf28 (by simp[Try.f28]) (by simp[AV.cloL,AV.clo]) fun E Q hE hN hQ=>K_start ?_
  repeat'(first|apply nx|refine zx ?_|rw[zw]|((first|refine hK _ ?_|refine hKp _ _ ?_);clear hK hKp K Kp;try clear hanc anc)|((with_reducible refine And.intro ?_ ?_);exact zb)|((first|refine zr hE fun K Kp hK hKp=>?_|refine zd false mixed hE fun K Kp hK hKp anc hanc=>?_);simp only[go_sem,q0])|(refine zg (fun hg=>?_) (fun hg=>?_)<;>simp only[go_sem,q0,hg])|(refine zc (fun hc=>?_) (fun hc=>?_)<;>try exact zh hc)|(refine K_ret ?_;refine zt hQ ?_))
  simp[AV.snap,hne]
 have q0:(a.st !=b.st)=false:=by simpa using e0
 by_cases e1:a.al=b.al
 case neg=>
  have hne:a≠b:=by rintro rfl;exact e1 rfl
  have q1:(a.al !=b.al)=true:=by simpa using e1
  refine PCall.intro Try.func28 rfl isf28 (by simp[Try.f28]) (by simp[AV.cloL,AV.clo]) fun E Q hE hN hQ=>K_start ?_
  repeat'(first|apply nx|refine zx ?_|rw[zw]|((first|refine hK _ ?_|refine hKp _ _ ?_);clear hK hKp K Kp;try clear hanc anc)|((with_reducible refine And.intro ?_ ?_);exact zb)|((first|refine zr hE fun K Kp hK hKp=>?_|refine zd false mixed hE fun K Kp hK hKp anc hanc=>?_);simp only[go_sem,q0,q1])|(refine zg (fun hg=>?_) (fun hg=>?_)<;>simp only[go_sem,q0,q1,hg])|(refine zc (fun hc=>?_) (fun hc=>?_)<;>try exact zh hc)|(refine K_ret ?_;refine zt hQ ?_))
  simp[AV.snap,hne]
 have q1:(a.al !=b.al)=false:=by simpa using e1
 by_cases e2:a.ck=b.ck
 case neg=>
  have hne:a≠b:=by rintro rfl;exact e2 rfl
  have q2:(a.ck !=b.ck)=true:=by simpa using e2
  refine PCall.intro Try.func28 rfl isf28 (by simp[Try.f28]) (by simp[AV.cloL,AV.clo]) fun E Q hE hN hQ=>K_start ?_
  repeat'(first|apply nx|refine zx ?_|rw[zw]|((first|refine hK _ ?_|refine hKp _ _ ?_);clear hK hKp K Kp;try clear hanc anc)|((with_reducible refine And.intro ?_ ?_);exact zb)|((first|refine zr hE fun K Kp hK hKp=>?_|refine zd false mixed hE fun K Kp hK hKp anc hanc=>?_);simp only[go_sem,q0,q1,q2])|(refine zg (fun hg=>?_) (fun hg=>?_)<;>simp only[go_sem,q0,q1,q2,hg])|(refine zc (fun hc=>?_) (fun hc=>?_)<;>try exact zh hc)|(refine K_ret ?_;refine zt hQ ?_))
  simp[AV.snap,hne]
 have q2:(a.ck !=b.ck)=false:=by simpa using e2
 by_cases e3:a.nx=b.nx
 case neg=>
  have hne:a≠b:=by rintro rfl;exact e3 rfl
  have q3:(a.nx !=b.nx)=true:=by simpa using e3
  refine PCall.intro Try.func28 rfl isf28 (by simp[Try.f28]) (by simp[AV.cloL,AV.clo]) fun E Q hE hN hQ=>K_start ?_
  repeat'(first|apply nx|refine zx ?_|rw[zw]|((first|refine hK _ ?_|refine hKp _ _ ?_);clear hK hKp K Kp;try clear hanc anc)|((with_reducible refine And.intro ?_ ?_);exact zb)|((first|refine zr hE fun K Kp hK hKp=>?_|refine zd false mixed hE fun K Kp hK hKp anc hanc=>?_);simp only[go_sem,q0,q1,q2,q3])|(refine zg (fun hg=>?_) (fun hg=>?_)<;>simp only[go_sem,q0,q1,q2,q3,hg])|(refine zc (fun hc=>?_) (fun hc=>?_)<;>try exact zh hc)|(refine K_ret ?_;refine zt hQ ?_))
  simp[AV.snap,hne]
 have q3:(a.nx !=b.nx)=false:=by simpa using e3
 by_cases e4:a.ce=b.ce
 case neg=>
  have hne:a≠b:=by rintro rfl;exact e4 rfl
  have k4:=ints_call a.ce b.ce hce
  rw[decide_eq_false e4] at k4
  refine PCall.intro Try.func28 rfl isf28 (by simp[Try.f28]) (by simp[AV.cloL,AV.clo]) fun E Q hE hN hQ=>K_start ?_
  repeat'(first|apply nx|refine zx ?_|rw[zw]|((first|refine hK _ ?_|refine hKp _ _ ?_);clear hK hKp K Kp;try clear hanc anc)|((with_reducible refine And.intro ?_ ?_);exact zb)|((first|refine zr hE fun K Kp hK hKp=>?_|refine zd false mixed hE fun K Kp hK hKp anc hanc=>?_|(apply zm;exact zu;exact k4;exact zs;exact zl));simp only[go_sem,q0,q1,q2,q3])|(refine zg (fun hg=>?_) (fun hg=>?_)<;>simp only[go_sem,q0,q1,q2,q3,hg])|(refine zc (fun hc=>?_) (fun hc=>?_)<;>try exact zh hc)|(refine K_ret ?_;refine zt hQ ?_))
  simp[AV.snap,hne]
 have k4:=ints_call a.ce b.ce hce
 rw[decide_eq_true e4] at k4
 by_cases e5:a.fs.length=b.fs.length
 case neg=>
  have hne:a≠b:=by rintro rfl;exact e5 rfl
  have q5:(((a.fs.length:Nat):Int) !=((b.fs.length:Nat):Int))=true:=by simp;omega
  refine PCall.intro Try.func28 rfl isf28 (by simp[Try.f28]) (by simp[AV.cloL,AV.clo]) fun E Q hE hN hQ=>K_start ?_
  repeat'(first|apply nx|refine zx ?_|rw[zw]|((first|refine hK _ ?_|refine hKp _ _ ?_);clear hK hKp K Kp;try clear hanc anc)|((with_reducible refine And.intro ?_ ?_);exact zb)|((first|refine zr hE fun K Kp hK hKp=>?_|refine zd false mixed hE fun K Kp hK hKp anc hanc=>?_|(apply zm;exact zu;exact k4;exact zs;exact zl));simp only[go_sem,q0,q1,q2,q3,q5])|(refine zg (fun hg=>?_) (fun hg=>?_)<;>simp only[go_sem,q0,q1,q2,q3,q5,hg])|(refine zc (fun hc=>?_) (fun hc=>?_)<;>try exact zh hc)|(refine K_ret ?_;refine zt hQ ?_))
  simp[AV.snap,hne]
 have q5:(((a.fs.length:Nat):Int) !=((b.fs.length:Nat):Int))=false:=by rw[e5];simp
 by_cases e6:a.ls.length=b.ls.length
 case neg=>
  have hne:a≠b:=by rintro rfl;exact e6 rfl
  have q6:(((a.ls.length:Nat):Int) !=((b.ls.length:Nat):Int))=true:=by simp;omega
  refine PCall.intro Try.func28 rfl isf28 (by simp[Try.f28]) (by simp[AV.cloL,AV.clo]) fun E Q hE hN hQ=>K_start ?_
  repeat'(first|apply nx|refine zx ?_|rw[zw]|((first|refine hK _ ?_|refine hKp _ _ ?_);clear hK hKp K Kp;try clear hanc anc)|((with_reducible refine And.intro ?_ ?_);exact zb)|((first|refine zr hE fun K Kp hK hKp=>?_|refine zd false mixed hE fun K Kp hK hKp anc hanc=>?_|(apply zm;exact zu;exact k4;exact zs;exact zl));simp only[go_sem,q0,q1,q2,q3,q5,q6])|(refine zg (fun hg=>?_) (fun hg=>?_)<;>simp only[go_sem,q0,q1,q2,q3,q5,q6,hg])|(refine zc (fun hc=>?_) (fun hc=>?_)<;>try exact zh hc)|(refine K_ret ?_;refine zt hQ ?_))
  simp[AV.snap,hne]
 have q6:(((a.ls.length:Nat):Int) !=((b.ls.length:Nat):Int))=false:=by rw[e6];simp
 refine PCall.intro Try.func28 rfl isf28 (by simp[Try.f28]) (by simp[AV.cloL,AV.clo]) fun E Q hE hN hQ=>K_start ?_
 repeat'(first|apply nx|refine zx ?_|rw[zw]|((first|refine hK _ ?_|refine hKp _ _ ?_);clear hK hKp K Kp;try clear hanc anc)|((with_reducible refine And.intro ?_ ?_);exact zb)|((first|refine zr hE fun K Kp hK hKp=>?_|refine zd false mixed hE fun K Kp hK hKp anc hanc=>?_|(apply zm;exact zu;exact k4;exact zs;exact zl));simp only[go_sem,q0,q1,q2,q3,q5,q6])|(refine zg (fun hg=>?_) (fun hg=>?_)<;>simp only[go_sem,q0,q1,q2,q3,q5,q6,hg])|(refine zc (fun hc=>?_) (fun hc=>?_)<;>try exact zh hc)|(refine K_ret ?_;refine zt hQ ?_))
 refine K_loop (X:=Nat) (fun i=>i≤a.fs.length∧a.fs.take i=b.fs.take i) (fun i=>mkSt [(2,.ptr 0 0),(3,.ptr 1 0),(5,AV.i i)] [(0,.cells [.i a.st,.sl (acl a.fs),.sl (lnl a.ls),.i a.al,.i a.ck,.i a.nx,.sl (il a.ce)]),(1,.cells [.i b.st,.sl (acl b.fs),.sl (lnl b.ls),.i b.al,.i b.ck,.i b.nx,.sl (il b.ce)])] 2) (fun i=>a.fs.length - i) 0 ⟨Nat.zero_le _,by simp⟩ (fun i=>if i=0 then 0 else 1048576) (by refine ent_mk (by simp[go_sem]) (by simp[go_sem]) (by simp) (by simp[hN])) ?_
 rintro i ⟨hi,ht⟩
 by_cases hlt:i<a.fs.length
 ·obtain⟨x,hx⟩:=get?_of hlt
  obtain⟨y,hy⟩:=get?_of (show i<b.fs.length by omega)
  have u1:IntKind.i64.wrap ((i:Int)+1)=((i+1:Nat):Int):=by rw[wrap64 (by omega) (by omega)];omega
  obtain⟨g1,g2,g3⟩:=hf x (List.mem_of_getElem? hx)
  have hc0:=sameF_c x y g1 g2 g3
  rw[Af.av_eq,Af.av_eq] at hc0
  by_cases hxy:x=y
  ·rw[decide_eq_true hxy] at hc0
   repeat'(first|apply nx|refine zx ?_|rw[zw]|((first|refine hK _ ?_|refine hKp _ _ ?_);clear hK hKp K Kp;try clear hanc anc)|((with_reducible refine And.intro ?_ ?_);exact zb)|((first|refine zr hE fun K Kp hK hKp=>?_|refine zd false mixed hE fun K Kp hK hKp anc hanc=>?_|(apply zm;exact zu;exact hc0;exact zs;exact zl));simp only[go_sem,lt_dec hlt,hx,hy,Af.av_eq,u1])|(refine zg (fun hg=>?_) (fun hg=>?_)<;>simp only[go_sem,lt_dec hlt,hx,hy,Af.av_eq,u1,hg])|(refine zc (fun hc=>?_) (fun hc=>?_)<;>try exact zh hc)|(refine K_ret ?_;refine zt hQ ?_))
   refine⟨i+1,⟨by omega,?_⟩,by omega,fun i=>i,by refine ent_mk (by simp[go_sem]) (by simp[go_sem]) (by simp) (by simp[hN])⟩
   rw[List.take_add_one,List.take_add_one,ht,hx,hy,hxy]
  ·rw[decide_eq_false hxy] at hc0
   have hne:a≠b:=by rintro rfl;rw[hx] at hy;exact hxy (Option.some.inj hy)
   repeat'(first|apply nx|refine zx ?_|rw[zw]|((first|refine hK _ ?_|refine hKp _ _ ?_);clear hK hKp K Kp;try clear hanc anc)|((with_reducible refine And.intro ?_ ?_);exact zb)|((first|refine zr hE fun K Kp hK hKp=>?_|refine zd false mixed hE fun K Kp hK hKp anc hanc=>?_|(apply zm;exact zu;exact hc0;exact zs;exact zl));simp only[go_sem,lt_dec hlt,hx,hy,Af.av_eq])|(refine zg (fun hg=>?_) (fun hg=>?_)<;>simp only[go_sem,lt_dec hlt,hx,hy,Af.av_eq,hg])|(refine zc (fun hc=>?_) (fun hc=>?_)<;>try exact zh hc)|(refine K_ret ?_;refine zt hQ ?_))
   simp[AV.snap,hne]
 ·obtain rfl:i=a.fs.length:=by omega
  rw[List.take_length,e5,List.take_length] at ht
  repeat'(first|apply nx|refine zx ?_|rw[zw]|((first|refine hK _ ?_|refine hKp _ _ ?_);clear hK hKp K Kp;try clear hanc anc)|((with_reducible refine And.intro ?_ ?_);exact zb)|((first|refine zr hE fun K Kp hK hKp=>?_|refine zd false mixed hE fun K Kp hK hKp anc hanc=>?_);simp only[go_sem,ge_dec])|(refine zg (fun hg=>?_) (fun hg=>?_)<;>simp only[go_sem,ge_dec,hg])|(refine zc (fun hc=>?_) (fun hc=>?_)<;>try exact zh hc)|(refine K_ret ?_;refine zt hQ ?_))
  refine K_loop (X:=Nat) (fun i=>i≤a.ls.length∧a.ls.take i=b.ls.take i) (fun i=>mkSt [(2,.ptr 0 0),(3,.ptr 1 0),(6,AV.i i)] [(0,.cells [.i a.st,.sl (acl a.fs),.sl (lnl a.ls),.i a.al,.i a.ck,.i a.nx,.sl (il a.ce)]),(1,.cells [.i b.st,.sl (acl b.fs),.sl (lnl b.ls),.i b.al,.i b.ck,.i b.nx,.sl (il b.ce)])] 2) (fun i=>a.ls.length - i) 0 ⟨Nat.zero_le _,by simp⟩ (fun i=>i) (by refine ent_mk (by simp[go_sem]) (by simp[go_sem]) (by simp) (by simp[hN])) ?_
  rintro i ⟨hi,ht2⟩
  by_cases hlt:i<a.ls.length
  ·obtain⟨x,hx⟩:=get?_of hlt
   obtain⟨y,hy⟩:=get?_of (show i<b.ls.length by omega)
   have u1:IntKind.i64.wrap ((i:Int)+1)=((i+1:Nat):Int):=by rw[wrap64 (by omega) (by omega)];omega
   by_cases hxy:x=y
   ·have ag:=agg96 x y true (by simp[hxy])
    repeat'(first|apply nx|refine zx ?_|rw[zw]|((first|refine hK _ ?_|refine hKp _ _ ?_);clear hK hKp K Kp;try clear hanc anc)|((with_reducible refine And.intro ?_ ?_);exact zb)|((first|refine zr hE fun K Kp hK hKp=>?_|refine zd false mixed hE fun K Kp hK hKp anc hanc=>?_);simp only[go_sem,lt_dec hlt,hx,hy,Ln.av,u1,ag])|(refine zg (fun hg=>?_) (fun hg=>?_)<;>simp only[go_sem,lt_dec hlt,hx,hy,Ln.av,u1,ag,hg])|(refine zc (fun hc=>?_) (fun hc=>?_)<;>try exact zh hc)|(refine K_ret ?_;refine zt hQ ?_))
    refine⟨i+1,⟨by omega,?_⟩,by omega,fun i=>i,by refine ent_mk (by simp[go_sem]) (by simp[go_sem]) (by simp) (by simp[hN])⟩
    rw[List.take_add_one,List.take_add_one,ht2,hx,hy,hxy]
   ·have ag:=agg96 x y false (by simp[hxy])
    have hne:a≠b:=by rintro rfl;rw[hx] at hy;exact hxy (Option.some.inj hy)
    repeat'(first|apply nx|refine zx ?_|rw[zw]|((first|refine hK _ ?_|refine hKp _ _ ?_);clear hK hKp K Kp;try clear hanc anc)|((with_reducible refine And.intro ?_ ?_);exact zb)|((first|refine zr hE fun K Kp hK hKp=>?_|refine zd false mixed hE fun K Kp hK hKp anc hanc=>?_);simp only[go_sem,lt_dec hlt,hx,hy,Ln.av,ag])|(refine zg (fun hg=>?_) (fun hg=>?_)<;>simp only[go_sem,lt_dec hlt,hx,hy,Ln.av,ag,hg])|(refine zc (fun hc=>?_) (fun hc=>?_)<;>try exact zh hc)|(refine K_ret ?_;refine zt hQ ?_))
    simp[AV.snap,hne]
  ·obtain rfl:i=a.ls.length:=by omega
   rw[List.take_length,e6,List.take_length] at ht2
   repeat'(first|apply nx|refine zx ?_|rw[zw]|((first|refine hK _ ?_|refine hKp _ _ ?_);clear hK hKp K Kp;try clear hanc anc)|((with_reducible refine And.intro ?_ ?_);exact zb)|((first|refine zr hE fun K Kp hK hKp=>?_|refine zd false mixed hE fun K Kp hK hKp anc hanc=>?_);simp only[go_sem,ge_dec])|(refine zg (fun hg=>?_) (fun hg=>?_)<;>simp only[go_sem,ge_dec,hg])|(refine zc (fun hc=>?_) (fun hc=>?_)<;>try exact zh hc)|(refine K_ret ?_;refine zt hQ ?_))
   simp[AV.snap,hiff,ht,ht2,e0,e1,e2,e3,e4]
end Go.Proofs.Ytfgjjnfdcgkpoaa

set_option maxHeartbeats 4000000
set_option maxRecDepth 100000
namespace Go.Hv
open Go Go.Am Go.Proofs.Ytfgjjnfdcgkpoaa
def sameW (a b:Wd):Prop:=a.h=b.h∧a.ts=b.ts∧a.cn=b.cn∧a.ou=b.ou∧a.md=b.md∧a.dp=b.dp∧a.cd=b.cd
end Go.Hv
namespace Go.Proofs.Ytfgjjnfdcgkpoaa
open Go.Am Go.Proofs Go.Hv
open Classical
attribute [local irreducible] AW CallP CallB CallY
structure WL (a:Wd):Prop where
 h:HB a.h
 ou:a.ou.length≤2 ^ 40
 t:a.ts.length≤2 ^ 40
 c:a.cn.length≤2 ^ 40
 tf:∀ t,t∈a.ts→(∀ x,x∈t.fs→(∀ v,v∈x.sl→v.sz<2 ^ 40)∧x.sl.length≤2 ^ 40∧x.si.length≤2 ^ 40)∧t.fs.length≤2 ^ 40∧t.ls.length≤2 ^ 40∧t.ce.length≤2 ^ 40
 cv:∀ l,l∈a.cn→l.length≤2 ^ 40∧∀ v,v∈l→v.sz<2 ^ 40
theorem sameS_c (a b:Wd) (hw:WL a):PCall Try.prog 11 [a.av,b.av] (.bool (decide (sameW a b))):=by
 have hh:=hw.h
 have hou:=hw.ou
 have hwt:=hw.t
 have hwc:=hw.c
 rw[Wd.av_eq,Wd.av_eq]
 by_cases e0:a.h=b.h
 case neg=>
  have hne:¬ sameW a b:=fun h=>e0 h.1
  have k0:=same_call a.h b.h hh.l hh.a hh.z
  rw[decide_eq_false e0] at k0
  simp only[Hp.av_eq] at k0
  refine PCall.intro Try.func11 rfl isf11 (by simp[Try.f11]) (by simp[AV.cloL,AV.clo]) fun E Q hE hN hQ=>K_start ?_
  repeat'(first|apply nx|refine zx ?_|rw[zw]|((first|refine hK _ ?_|refine hKp _ _ ?_);clear hK hKp K Kp;try clear hanc anc)|((with_reducible refine And.intro ?_ ?_);exact zb)|((first|refine zr hE fun K Kp hK hKp=>?_|refine zd false mixed hE fun K Kp hK hKp anc hanc=>?_|(apply zm;exact zu;exact k0;exact zs;exact zl));simp only[go_sem])|(refine zg (fun hg=>?_) (fun hg=>?_)<;>simp only[go_sem,hg])|(refine zc (fun hc=>?_) (fun hc=>?_)<;>try exact zh hc)|(refine K_ret ?_;refine zt hQ ?_))
  simp[AV.snap,hne]
 have k0:=same_call a.h b.h hh.l hh.a hh.z
 rw[decide_eq_true e0] at k0
 simp only[Hp.av_eq] at k0
 by_cases e1:a.ts.length=b.ts.length
 case neg=>
  have hne:¬ sameW a b:=fun h=>e1 (by rw[h.2.1])
  have q1:(((a.ts.length:Nat):Int) !=((b.ts.length:Nat):Int))=true:=by simp;omega
  refine PCall.intro Try.func11 rfl isf11 (by simp[Try.f11]) (by simp[AV.cloL,AV.clo]) fun E Q hE hN hQ=>K_start ?_
  repeat'(first|apply nx|refine zx ?_|rw[zw]|((first|refine hK _ ?_|refine hKp _ _ ?_);clear hK hKp K Kp;try clear hanc anc)|((with_reducible refine And.intro ?_ ?_);exact zb)|((first|refine zr hE fun K Kp hK hKp=>?_|refine zd false mixed hE fun K Kp hK hKp anc hanc=>?_|(apply zm;exact zu;exact k0;exact zs;exact zl));simp only[go_sem,q1])|(refine zg (fun hg=>?_) (fun hg=>?_)<;>simp only[go_sem,q1,hg])|(refine zc (fun hc=>?_) (fun hc=>?_)<;>try exact zh hc)|(refine K_ret ?_;refine zt hQ ?_))
  simp[AV.snap,hne]
 have q1:(((a.ts.length:Nat):Int) !=((b.ts.length:Nat):Int))=false:=by rw[e1];simp
 by_cases e2:a.cn.length=b.cn.length
 case neg=>
  have hne:¬ sameW a b:=fun h=>e2 (by rw[h.2.2.1])
  have q2:(((a.cn.length:Nat):Int) !=((b.cn.length:Nat):Int))=true:=by simp;omega
  refine PCall.intro Try.func11 rfl isf11 (by simp[Try.f11]) (by simp[AV.cloL,AV.clo]) fun E Q hE hN hQ=>K_start ?_
  repeat'(first|apply nx|refine zx ?_|rw[zw]|((first|refine hK _ ?_|refine hKp _ _ ?_);clear hK hKp K Kp;try clear hanc anc)|((with_reducible refine And.intro ?_ ?_);exact zb)|((first|refine zr hE fun K Kp hK hKp=>?_|refine zd false mixed hE fun K Kp hK hKp anc hanc=>?_|(apply zm;exact zu;exact k0;exact zs;exact zl));simp only[go_sem,q1,q2])|(refine zg (fun hg=>?_) (fun hg=>?_)<;>simp only[go_sem,q1,q2,hg])|(refine zc (fun hc=>?_) (fun hc=>?_)<;>try exact zh hc)|(refine K_ret ?_;refine zt hQ ?_))
  simp[AV.snap,hne]
 have q2:(((a.cn.length:Nat):Int) !=((b.cn.length:Nat):Int))=false:=by rw[e2];simp
 by_cases e3:a.ou=b.ou
 case neg=>
  have hne:¬ sameW a b:=fun h=>e3 h.2.2.2.1
  have k3:=sameO_c a.ou b.ou hou
  rw[decide_eq_false e3] at k3
  refine PCall.intro Try.func11 rfl isf11 (by simp[Try.f11]) (by simp[AV.cloL,AV.clo]) fun E Q hE hN hQ=>K_start ?_
  repeat'(first|apply nx|refine zx ?_|rw[zw]|((first|refine hK _ ?_|refine hKp _ _ ?_);clear hK hKp K Kp;try clear hanc anc)|((with_reducible refine And.intro ?_ ?_);exact zb)|((first|refine zr hE fun K Kp hK hKp=>?_|refine zd false mixed hE fun K Kp hK hKp anc hanc=>?_|(apply zm;exact zu;(first|exact k0|exact k3);exact zs;exact zl));simp only[go_sem,q1,q2])|(refine zg (fun hg=>?_) (fun hg=>?_)<;>simp only[go_sem,q1,q2,hg])|(refine zc (fun hc=>?_) (fun hc=>?_)<;>try exact zh hc)|(refine K_ret ?_;refine zt hQ ?_))
  simp[AV.snap,hne]
 have k3:=sameO_c a.ou b.ou hou
 rw[decide_eq_true e3] at k3
 by_cases e4:a.md=b.md
 case neg=>
  have hne:¬ sameW a b:=fun h=>e4 h.2.2.2.2.1
  have q4:(a.md !=b.md)=true:=by simpa using e4
  refine PCall.intro Try.func11 rfl isf11 (by simp[Try.f11]) (by simp[AV.cloL,AV.clo]) fun E Q hE hN hQ=>K_start ?_
  repeat'(first|apply nx|refine zx ?_|rw[zw]|((first|refine hK _ ?_|refine hKp _ _ ?_);clear hK hKp K Kp;try clear hanc anc)|((with_reducible refine And.intro ?_ ?_);exact zb)|((first|refine zr hE fun K Kp hK hKp=>?_|refine zd false mixed hE fun K Kp hK hKp anc hanc=>?_|(apply zm;exact zu;(first|exact k0|exact k3);exact zs;exact zl));simp only[go_sem,q1,q2,q4])|(refine zg (fun hg=>?_) (fun hg=>?_)<;>simp only[go_sem,q1,q2,q4,hg])|(refine zc (fun hc=>?_) (fun hc=>?_)<;>try exact zh hc)|(refine K_ret ?_;refine zt hQ ?_))
  simp[AV.snap,hne]
 have q4:(a.md !=b.md)=false:=by simpa using e4
 by_cases e5:a.dp=b.dp
 case neg=>
  have hne:¬ sameW a b:=fun h=>e5 h.2.2.2.2.2.1
  have q5:(a.dp !=b.dp)=true:=by simpa using e5
  refine PCall.intro Try.func11 rfl isf11 (by simp[Try.f11]) (by simp[AV.cloL,AV.clo]) fun E Q hE hN hQ=>K_start ?_
  repeat'(first|apply nx|refine zx ?_|rw[zw]|((first|refine hK _ ?_|refine hKp _ _ ?_);clear hK hKp K Kp;try clear hanc anc)|((with_reducible refine And.intro ?_ ?_);exact zb)|((first|refine zr hE fun K Kp hK hKp=>?_|refine zd false mixed hE fun K Kp hK hKp anc hanc=>?_|(apply zm;exact zu;(first|exact k0|exact k3);exact zs;exact zl));simp only[go_sem,q1,q2,q4,q5])|(refine zg (fun hg=>?_) (fun hg=>?_)<;>simp only[go_sem,q1,q2,q4,q5,hg])|(refine zc (fun hc=>?_) (fun hc=>?_)<;>try exact zh hc)|(refine K_ret ?_;refine zt hQ ?_))
  simp[AV.snap,hne]
 have q5:(a.dp !=b.dp)=false:=by simpa using e5
 by_cases e6:a.cd=b.cd
 case neg=>
  have hne:¬ sameW a b:=fun h=>e6 h.2.2.2.2.2.2
  have q6:(a.cd !=b.cd)=true:=by simpa using e6
  refine PCall.intro Try.func11 rfl isf11 (by simp[Try.f11]) (by simp[AV.cloL,AV.clo]) fun E Q hE hN hQ=>K_start ?_
  repeat'(first|apply nx|refine zx ?_|rw[zw]|((first|refine hK _ ?_|refine hKp _ _ ?_);clear hK hKp K Kp;try clear hanc anc)|((with_reducible refine And.intro ?_ ?_);exact zb)|((first|refine zr hE fun K Kp hK hKp=>?_|refine zd false mixed hE fun K Kp hK hKp anc hanc=>?_|(apply zm;exact zu;(first|exact k0|exact k3);exact zs;exact zl));simp only[go_sem,q1,q2,q4,q5,q6])|(refine zg (fun hg=>?_) (fun hg=>?_)<;>simp only[go_sem,q1,q2,q4,q5,q6,hg])|(refine zc (fun hc=>?_) (fun hc=>?_)<;>try exact zh hc)|(refine K_ret ?_;refine zt hQ ?_))
  simp[AV.snap,hne]
 have q6:(a.cd !=b.cd)=false:=by simpa using e6
 refine PCall.intro Try.func11 rfl isf11 (by simp[Try.f11]) (by simp[AV.cloL,AV.clo]) fun E Q hE hN hQ=>K_start ?_
 repeat'(first|apply nx|refine zx ?_|rw[zw]|((first|refine hK _ ?_|refine hKp _ _ ?_);clear hK hKp K Kp;try clear hanc anc)|((with_reducible refine And.intro ?_ ?_);exact zb)|((first|refine zr hE fun K Kp hK hKp=>?_|refine zd false mixed hE fun K Kp hK hKp anc hanc=>?_|(apply zm;exact zu;(first|exact k0|exact k3);exact zs;exact zl));simp only[go_sem,q1,q2,q4,q5,q6])|(refine zg (fun hg=>?_) (fun hg=>?_)<;>simp only[go_sem,q1,q2,q4,q5,q6,hg])|(refine zc (fun hc=>?_) (fun hc=>?_)<;>try exact zh hc)|(refine K_ret ?_;refine zt hQ ?_))
 refine K_loop (X:=Nat) (fun i=>i≤a.ts.length∧a.ts.take i=b.ts.take i) (fun i=>mkSt [(2,.ptr 0 0),(3,.ptr 1 0),(5,AV.i i)] [(0,.cells [.sl (dl a.D),.sl a.R,.i a.mn,.sl (cl a.h.cells),.sl (bl a.h.arenas),.sl (tsl a.ts),.sl (chl a.cn),.sl (oul a.ou),.i a.md,.i a.dp,.i a.cd]),(1,.cells [.sl (dl b.D),.sl b.R,.i b.mn,.sl (cl b.h.cells),.sl (bl b.h.arenas),.sl (tsl b.ts),.sl (chl b.cn),.sl (oul b.ou),.i b.md,.i b.dp,.i b.cd])] 2) (fun i=>a.ts.length - i) 0 ⟨Nat.zero_le _,by simp⟩ (fun i=>if i=0 then 0 else 1048576) (by refine ent_mk (by simp[go_sem]) (by simp[go_sem]) (by simp) (by simp[hN])) ?_
 rintro i ⟨hi,ht⟩
 by_cases hlt:i<a.ts.length
 ·obtain⟨x,hx⟩:=get?_of hlt
  obtain⟨y,hy⟩:=get?_of (show i<b.ts.length by omega)
  have u1:IntKind.i64.wrap ((i:Int)+1)=((i+1:Nat):Int):=by rw[wrap64 (by omega) (by omega)];omega
  obtain⟨g1,g2,g3,g4⟩:=hw.tf x (List.mem_of_getElem? hx)
  have hc0:=sameT_c x y g1 g2 g3 g4
  rw[Tsk.av_eq,Tsk.av_eq] at hc0
  by_cases hxy:x=y
  ·rw[decide_eq_true hxy] at hc0
   repeat'(first|apply nx|refine zx ?_|rw[zw]|((first|refine hK _ ?_|refine hKp _ _ ?_);clear hK hKp K Kp;try clear hanc anc)|((with_reducible refine And.intro ?_ ?_);exact zb)|((first|refine zr hE fun K Kp hK hKp=>?_|refine zd false mixed hE fun K Kp hK hKp anc hanc=>?_|(apply zm;exact zu;exact hc0;exact zs;exact zl));simp only[go_sem,lt_dec hlt,hx,hy,Tsk.av_eq,u1])|(refine zg (fun hg=>?_) (fun hg=>?_)<;>simp only[go_sem,lt_dec hlt,hx,hy,Tsk.av_eq,u1,hg])|(refine zc (fun hc=>?_) (fun hc=>?_)<;>try exact zh hc)|(refine K_ret ?_;refine zt hQ ?_))
   refine⟨i+1,⟨by omega,?_⟩,by omega,fun i=>i,by refine ent_mk (by simp[go_sem]) (by simp[go_sem]) (by simp) (by simp[hN])⟩
   rw[List.take_add_one,List.take_add_one,ht,hx,hy,hxy]
  ·rw[decide_eq_false hxy] at hc0
   have hne:¬ sameW a b:=fun h=>by rw[h.2.1,hy] at hx;exact hxy (Option.some.inj hx).symm
   repeat'(first|apply nx|refine zx ?_|rw[zw]|((first|refine hK _ ?_|refine hKp _ _ ?_);clear hK hKp K Kp;try clear hanc anc)|((with_reducible refine And.intro ?_ ?_);exact zb)|((first|refine zr hE fun K Kp hK hKp=>?_|refine zd false mixed hE fun K Kp hK hKp anc hanc=>?_|(apply zm;exact zu;exact hc0;exact zs;exact zl));simp only[go_sem,lt_dec hlt,hx,hy,Tsk.av_eq])|(refine zg (fun hg=>?_) (fun hg=>?_)<;>simp only[go_sem,lt_dec hlt,hx,hy,Tsk.av_eq,hg])|(refine zc (fun hc=>?_) (fun hc=>?_)<;>try exact zh hc)|(refine K_ret ?_;refine zt hQ ?_))
   simp[AV.snap,hne]
 ·obtain rfl:i=a.ts.length:=by omega
  rw[List.take_length,e1,List.take_length] at ht
  repeat'(first|apply nx|refine zx ?_|rw[zw]|((first|refine hK _ ?_|refine hKp _ _ ?_);clear hK hKp K Kp;try clear hanc anc)|((with_reducible refine And.intro ?_ ?_);exact zb)|((first|refine zr hE fun K Kp hK hKp=>?_|refine zd false mixed hE fun K Kp hK hKp anc hanc=>?_);simp only[go_sem,ge_dec])|(refine zg (fun hg=>?_) (fun hg=>?_)<;>simp only[go_sem,ge_dec,hg])|(refine zc (fun hc=>?_) (fun hc=>?_)<;>try exact zh hc)|(refine K_ret ?_;refine zt hQ ?_))
  refine K_loop (X:=Nat) (fun i=>i≤a.cn.length∧a.cn.take i=b.cn.take i) (fun i=>mkSt [(2,.ptr 0 0),(3,.ptr 1 0),(6,AV.i i)] [(0,.cells [.sl (dl a.D),.sl a.R,.i a.mn,.sl (cl a.h.cells),.sl (bl a.h.arenas),.sl (tsl a.ts),.sl (chl a.cn),.sl (oul a.ou),.i a.md,.i a.dp,.i a.cd]),(1,.cells [.sl (dl b.D),.sl b.R,.i b.mn,.sl (cl b.h.cells),.sl (bl b.h.arenas),.sl (tsl b.ts),.sl (chl b.cn),.sl (oul b.ou),.i b.md,.i b.dp,.i b.cd])] 2) (fun i=>a.cn.length - i) 0 ⟨Nat.zero_le _,by simp⟩ (fun i=>i) (by refine ent_mk (by simp[go_sem]) (by simp[go_sem]) (by simp) (by simp[hN])) ?_
  rintro i ⟨hi,ht2⟩
  by_cases hlt:i<a.cn.length
  ·obtain⟨x,hx⟩:=get?_of hlt
   obtain⟨y,hy⟩:=get?_of (show i<b.cn.length by omega)
   have hlb:i<b.cn.length:=by omega
   have u1:IntKind.i64.wrap ((i:Int)+1)=((i+1:Nat):Int):=by rw[wrap64 (by omega) (by omega)];omega
   obtain⟨g1,g2⟩:=hw.cv x (List.mem_of_getElem? hx)
   by_cases hxl:x.length=y.length
   case neg=>
    have q9:((x.length:Int) !=(y.length:Int))=true:=by simp;omega
    have hne:¬ sameW a b:=fun h=>by rw[h.2.2.1,hy] at hx;exact hxl (by rw[Option.some.inj hx])
    repeat'(first|apply nx|refine zx ?_|rw[zw]|((first|refine hK _ ?_|refine hKp _ _ ?_);clear hK hKp K Kp;try clear hanc anc)|((with_reducible refine And.intro ?_ ?_);exact zb)|((first|refine zr hE fun K Kp hK hKp=>?_|refine zd false mixed hE fun K Kp hK hKp anc hanc=>?_);simp only[go_sem,lt_dec hlt,hx,hy,chv,q9])|(refine zg (fun hg=>?_) (fun hg=>?_)<;>simp only[go_sem,lt_dec hlt,hx,hy,chv,q9,hg])|(refine zc (fun hc=>?_) (fun hc=>?_)<;>try exact zh hc)|(refine K_ret ?_;refine zt hQ ?_))
    simp[AV.snap,hne]
   have q9:((x.length:Int) !=(y.length:Int))=false:=by simp[hxl]
   repeat'(first|apply nx|refine zx ?_|rw[zw]|((first|refine hK _ ?_|refine hKp _ _ ?_);clear hK hKp K Kp;try clear hanc anc)|((with_reducible refine And.intro ?_ ?_);exact zb)|((first|refine zr hE fun K Kp hK hKp=>?_|refine zd false mixed hE fun K Kp hK hKp anc hanc=>?_);simp only[go_sem,lt_dec hlt,hx,hy,chv,q9])|(refine zg (fun hg=>?_) (fun hg=>?_)<;>simp only[go_sem,lt_dec hlt,hx,hy,chv,q9,hg])|(refine zc (fun hc=>?_) (fun hc=>?_)<;>try exact zh hc)|(refine K_ret ?_;refine zt hQ ?_))
   refine K_loop (X:=Nat) (fun k=>k≤x.length∧x.take k=y.take k) (fun k=>mkSt [(2,.ptr 0 0),(3,.ptr 1 0),(6,AV.i i),(7,AV.i k)] [(0,.cells [.sl (dl a.D),.sl a.R,.i a.mn,.sl (cl a.h.cells),.sl (bl a.h.arenas),.sl (tsl a.ts),.sl (chl a.cn),.sl (oul a.ou),.i a.md,.i a.dp,.i a.cd]),(1,.cells [.sl (dl b.D),.sl b.R,.i b.mn,.sl (cl b.h.cells),.sl (bl b.h.arenas),.sl (tsl b.ts),.sl (chl b.cn),.sl (oul b.ou),.i b.md,.i b.dp,.i b.cd])] 2) (fun k=>x.length - k) 0 ⟨Nat.zero_le _,by simp⟩ (fun i=>i) (by refine ent_mk (by simp[go_sem]) (by simp[go_sem]) (by simp) (by simp[hN])) ?_
   rintro k ⟨hk,ht3⟩
   by_cases hkl:k<x.length
   ·obtain⟨v,hv⟩:=get?_of hkl
    obtain⟨u,hu⟩:=get?_of (show k<y.length by omega)
    have u2:IntKind.i64.wrap ((k:Int)+1)=((k+1:Nat):Int):=by rw[wrap64 (by omega) (by omega)];omega
    have hc0:=sameV v u (g2 v (List.mem_of_getElem? hv))
    unfold Vl.cs at hc0
    by_cases hvu:v=u
    ·rw[decide_eq_true hvu] at hc0
     repeat'(first|apply nx|refine zx ?_|rw[zw]|((first|refine hK _ ?_|refine hKp _ _ ?_);clear hK hKp K Kp;try clear hanc anc)|((with_reducible refine And.intro ?_ ?_);exact zb)|((first|refine zr hE fun K Kp hK hKp=>?_|refine zd false mixed hE fun K Kp hK hKp anc hanc=>?_|(apply zm;exact zu;exact hc0;exact zs;exact zl));simp only[go_sem,lt_dec hkl,lt_dec hlt,hx,hy,chv,hv,hu,Vl.av_eq,u2])|(refine zg (fun hg=>?_) (fun hg=>?_)<;>simp only[go_sem,lt_dec hkl,lt_dec hlt,hx,hy,chv,hv,hu,Vl.av_eq,u2,hg])|(refine zc (fun hc=>?_) (fun hc=>?_)<;>try exact zh hc)|(refine K_ret ?_;refine zt hQ ?_))
     refine⟨k+1,⟨by omega,?_⟩,by omega,fun i=>i,by refine ent_mk (by simp[go_sem]) (by simp[go_sem]) (by simp) (by simp[hN])⟩
     rw[List.take_add_one,List.take_add_one,ht3,hv,hu,hvu]
    ·rw[decide_eq_false hvu] at hc0
     have hne:¬ sameW a b:=fun h=>by
      rw[h.2.2.1,hy] at hx
      obtain rfl:=Option.some.inj hx
      rw[hv] at hu
      exact hvu (Option.some.inj hu)
     repeat'(first|apply nx|refine zx ?_|rw[zw]|((first|refine hK _ ?_|refine hKp _ _ ?_);clear hK hKp K Kp;try clear hanc anc)|((with_reducible refine And.intro ?_ ?_);exact zb)|((first|refine zr hE fun K Kp hK hKp=>?_|refine zd false mixed hE fun K Kp hK hKp anc hanc=>?_|(apply zm;exact zu;exact hc0;exact zs;exact zl));simp only[go_sem,lt_dec hkl,lt_dec hlt,hx,hy,chv,hv,hu,Vl.av_eq])|(refine zg (fun hg=>?_) (fun hg=>?_)<;>simp only[go_sem,lt_dec hkl,lt_dec hlt,hx,hy,chv,hv,hu,Vl.av_eq,hg])|(refine zc (fun hc=>?_) (fun hc=>?_)<;>try exact zh hc)|(refine K_ret ?_;refine zt hQ ?_))
     simp[AV.snap,hne]
   ·obtain rfl:k=x.length:=by omega
    rw[List.take_length,hxl,List.take_length] at ht3
    repeat'(first|apply nx|refine zx ?_|rw[zw]|((first|refine hK _ ?_|refine hKp _ _ ?_);clear hK hKp K Kp;try clear hanc anc)|((with_reducible refine And.intro ?_ ?_);exact zb)|((first|refine zr hE fun K Kp hK hKp=>?_|refine zd false mixed hE fun K Kp hK hKp anc hanc=>?_);simp only[go_sem,ge_dec,lt_dec hlt,hx,chv,u1])|(refine zg (fun hg=>?_) (fun hg=>?_)<;>simp only[go_sem,ge_dec,lt_dec hlt,hx,chv,u1,hg])|(refine zc (fun hc=>?_) (fun hc=>?_)<;>try exact zh hc)|(refine K_ret ?_;refine zt hQ ?_))
    refine⟨i+1,⟨by omega,?_⟩,by omega,fun i=>i,by refine ent_mk (by simp[go_sem]) (by simp[go_sem]) (by simp) (by simp[hN])⟩
    rw[List.take_add_one,List.take_add_one,ht2,hx,hy,ht3]
  ·obtain rfl:i=a.cn.length:=by omega
   rw[List.take_length,e2,List.take_length] at ht2
   repeat'(first|apply nx|refine zx ?_|rw[zw]|((first|refine hK _ ?_|refine hKp _ _ ?_);clear hK hKp K Kp;try clear hanc anc)|((with_reducible refine And.intro ?_ ?_);exact zb)|((first|refine zr hE fun K Kp hK hKp=>?_|refine zd false mixed hE fun K Kp hK hKp anc hanc=>?_);simp only[go_sem,ge_dec])|(refine zg (fun hg=>?_) (fun hg=>?_)<;>simp only[go_sem,ge_dec,hg])|(refine zc (fun hc=>?_) (fun hc=>?_)<;>try exact zh hc)|(refine K_ret ?_;refine zt hQ ?_))
   simp[AV.snap,sameW,ht,ht2,e0,e3,e4,e5,e6]
end Go.Proofs.Ytfgjjnfdcgkpoaa

set_option maxHeartbeats 4000000
set_option maxRecDepth 100000
namespace Go.Hv
open Go Go.Am Go.Proofs.Ytfgjjnfdcgkpoaa
def cntd (l:List Int):Prop:=∀ x,x∈l→ -1099511627776≤x∧x≤1099511627776
def fewL (l:List Vl):Prop:=(∀ v,v∈l→sizeV v 60≤60)∧l.length≤8
def fewF (a:Af):Prop:=fewL a.sl∧a.si.length≤8
def fewT (t:Tsk):Prop:=t.fs.length≤8∧t.ls.length≤60∧t.ce.length≤60∧cntd [t.al,t.ck,t.nx]∧∀ a,a∈t.fs→fewF a
def fewW (w:Wd):Prop:=fewB w.h (.mk 0 0 0 0 [] false [] [])∧w.ts.length≤8∧w.D.length≤60∧w.ou.length≤300∧w.cn.length≤8∧cntd [w.md,w.dp,w.cd]∧(∀ t,t∈w.ts→fewT t)∧∀ l,l∈w.cn→fewL l
end Go.Hv
namespace Go.Proofs.Ytfgjjnfdcgkpoaa
open Go.Am Go.Proofs Go.Hv
open Classical
attribute [local irreducible] AW CallP CallB CallY
structure WG (w:Wd):Prop where
 h:HB w.h
 D:w.D.length≤2 ^ 20
 ou:w.ou.length≤2 ^ 20
 t:w.ts.length≤2 ^ 20
 c:w.cn.length≤2 ^ 20
 tf:∀ t,t∈w.ts→(∀ x,x∈t.fs→(∀ v,v∈x.sl→v.sz≤2 ^ 20)∧x.sl.length≤2 ^ 20∧x.si.length≤2 ^ 20)∧t.fs.length≤2 ^ 20∧t.ls.length≤2 ^ 20∧t.ce.length≤2 ^ 20
 cv:∀ l,l∈w.cn→l.length≤2 ^ 20∧∀ v,v∈l→v.sz≤2 ^ 20
theorem WG.wl {w:Wd} (h:WG w):WL w:=⟨h.h,by have:=h.ou;omega,by have:=h.t;omega,by have:=h.c;omega,fun t ht=>by
 obtain⟨a,b,c,d⟩:=h.tf t ht
 exact⟨fun x hx=>by obtain⟨e,f,g⟩:=a x hx;exact⟨fun v hv=>by have:=e v hv;omega,by omega,by omega⟩,by omega,by omega,by omega⟩,fun l hl=>by
 obtain⟨a,b⟩:=h.cv l hl
 exact⟨by omega,fun v hv=>by have:=b v hv;omega⟩⟩
theorem WG.ws {w:Wd} (h:WG w) (hf:fewW w):WS w:=by
 obtain⟨a1,a2,a3,a4,a5,a6,a7,a8⟩:=hf
 refine⟨h.h,a1.1,a2,fun t ht=>?_,fun t ht a ha v hv=>((h.tf t ht).1 a ha).1 v hv,a3,a4,?_,?_⟩
 ·obtain⟨b1,b2,b3,b4,b5⟩:=a7 t ht
  exact⟨b1,fun a ha=>(b5 a ha).1.2⟩
 ·have:=a6 w.dp (by simp);omega
 ·have:=a6 w.cd (by simp);omega
theorem counted_c (l:List Int) (hl:l.length≤2 ^ 40):PCall Try.prog 33 [.sl (il l)] (.bool (decide (cntd l))):=by
 refine PCall.intro Try.func33 rfl isf33 (by simp[Try.f33]) (by simp[AV.cloL,AV.clo]) fun E Q hE hN hQ=>K_start ?_
 repeat'(first|apply nx|refine zx ?_|rw[zw]|((first|refine hK _ ?_|refine hKp _ _ ?_);clear hK hKp K Kp;try clear hanc anc)|((with_reducible refine And.intro ?_ ?_);exact zb)|((first|refine zr hE fun K Kp hK hKp=>?_|refine zd false mixed hE fun K Kp hK hKp anc hanc=>?_);simp only[go_sem])|(refine zg (fun hg=>?_) (fun hg=>?_)<;>simp only[go_sem,hg])|(refine zc (fun hc=>?_) (fun hc=>?_)<;>try exact zh hc)|(refine K_ret ?_;refine zt hQ ?_))
 refine K_loop (X:=Nat) (fun i=>i≤l.length∧cntd (l.take i)) (fun i=>mkSt [(0,.sl (il l)),(3,AV.i i)] [] 0) (fun i=>l.length - i) 0 ⟨Nat.zero_le _,by simp[cntd]⟩ (fun i=>i) (by refine ent_mk (by simp[go_sem]) (by simp[go_sem]) (by simp) (by simp[hN])) ?_
 rintro i ⟨hi,ht⟩
 by_cases hlt:i<l.length
 ·obtain⟨x,hx⟩:=get?_of hlt
  have u1:IntKind.i64.wrap ((i:Int)+1)=((i+1:Nat):Int):=by rw[wrap64 (by omega) (by omega)];omega
  by_cases h1:x< -1099511627776
  ·have hn:¬ cntd l:=fun h=>by have:=(h x (List.mem_of_getElem? hx)).1;omega
   have q1:decide (x< -1099511627776)=true:=decide_eq_true h1
   repeat'(first|apply nx|refine zx ?_|rw[zw]|((first|refine hK _ ?_|refine hKp _ _ ?_);clear hK hKp K Kp;try clear hanc anc)|((with_reducible refine And.intro ?_ ?_);exact zb)|((first|refine zr hE fun K Kp hK hKp=>?_|refine zd false mixed hE fun K Kp hK hKp anc hanc=>?_);simp only[go_sem,lt_dec hlt,hx,q1])|(refine zg (fun hg=>?_) (fun hg=>?_)<;>simp only[go_sem,lt_dec hlt,hx,q1,hg])|(refine zc (fun hc=>?_) (fun hc=>?_)<;>try exact zh hc)|(refine K_ret ?_;refine zt hQ ?_))
   simp[AV.snap,hn]
  ·have q1:decide (x< -1099511627776)=false:=decide_eq_false h1
   by_cases h2:1099511627776<x
   ·have hn:¬ cntd l:=fun h=>by have:=(h x (List.mem_of_getElem? hx)).2;omega
    have q2:decide (1099511627776<x)=true:=decide_eq_true h2
    repeat'(first|apply nx|refine zx ?_|rw[zw]|((first|refine hK _ ?_|refine hKp _ _ ?_);clear hK hKp K Kp;try clear hanc anc)|((with_reducible refine And.intro ?_ ?_);exact zb)|((first|refine zr hE fun K Kp hK hKp=>?_|refine zd false mixed hE fun K Kp hK hKp anc hanc=>?_);simp only[go_sem,lt_dec hlt,hx,q1,q2])|(refine zg (fun hg=>?_) (fun hg=>?_)<;>simp only[go_sem,lt_dec hlt,hx,q1,q2,hg])|(refine zc (fun hc=>?_) (fun hc=>?_)<;>try exact zh hc)|(refine K_ret ?_;refine zt hQ ?_))
    simp[AV.snap,hn]
   ·have q2:decide (1099511627776<x)=false:=decide_eq_false h2
    repeat'(first|apply nx|refine zx ?_|rw[zw]|((first|refine hK _ ?_|refine hKp _ _ ?_);clear hK hKp K Kp;try clear hanc anc)|((with_reducible refine And.intro ?_ ?_);exact zb)|((first|refine zr hE fun K Kp hK hKp=>?_|refine zd false mixed hE fun K Kp hK hKp anc hanc=>?_);simp only[go_sem,lt_dec hlt,hx,q1,q2,u1])|(refine zg (fun hg=>?_) (fun hg=>?_)<;>simp only[go_sem,lt_dec hlt,hx,q1,q2,u1,hg])|(refine zc (fun hc=>?_) (fun hc=>?_)<;>try exact zh hc)|(refine K_ret ?_;refine zt hQ ?_))
    refine⟨i+1,⟨by omega,?_⟩,by omega,fun i=>i,by refine ent_mk (by simp[go_sem]) (by simp[go_sem]) (by simp) (by simp[hN])⟩
    rw[List.take_add_one,hx]
    intro c hc
    rcases List.mem_append.1 hc with hc|hc
    ·exact ht c hc
    ·simp at hc;subst hc;omega
 ·obtain rfl:i=l.length:=by omega
  rw[List.take_length] at ht
  repeat'(first|apply nx|refine zx ?_|rw[zw]|((first|refine hK _ ?_|refine hKp _ _ ?_);clear hK hKp K Kp;try clear hanc anc)|((with_reducible refine And.intro ?_ ?_);exact zb)|((first|refine zr hE fun K Kp hK hKp=>?_|refine zd false mixed hE fun K Kp hK hKp anc hanc=>?_);simp only[go_sem,ge_dec])|(refine zg (fun hg=>?_) (fun hg=>?_)<;>simp only[go_sem,ge_dec,hg])|(refine zc (fun hc=>?_) (fun hc=>?_)<;>try exact zh hc)|(refine K_ret ?_;refine zt hQ ?_))
  simp[AV.snap,ht]
theorem fewL_c (l:List Vl) (hl:l.length≤2 ^ 40) (hz:∀ v,v∈l→v.sz<2 ^ 40):PCall Try.prog 34 [.sl (Vl.avL l)] (.bool (decide (fewL l))):=by
 refine PCall.intro Try.func34 rfl isf34 (by simp[Try.f34]) (by simp[AV.cloL,AV.clo]) fun E Q hE hN hQ=>K_start ?_
 repeat'(first|apply nx|refine zx ?_|rw[zw]|((first|refine hK _ ?_|refine hKp _ _ ?_);clear hK hKp K Kp;try clear hanc anc)|((with_reducible refine And.intro ?_ ?_);exact zb)|((first|refine zr hE fun K Kp hK hKp=>?_|refine zd false mixed hE fun K Kp hK hKp anc hanc=>?_);simp only[go_sem])|(refine zg (fun hg=>?_) (fun hg=>?_)<;>simp only[go_sem,hg])|(refine zc (fun hc=>?_) (fun hc=>?_)<;>try exact zh hc)|(refine K_ret ?_;refine zt hQ ?_))
 refine K_loop (X:=Nat) (fun i=>i≤l.length∧∀ v,v∈l.take i→sizeV v 60≤60) (fun i=>mkSt [(0,.sl (Vl.avL l)),(3,AV.i i)] [] 0) (fun i=>l.length - i) 0 ⟨Nat.zero_le _,by simp⟩ (fun i=>i) (by refine ent_mk (by simp[go_sem]) (by simp[go_sem]) (by simp) (by simp[hN])) ?_
 rintro i ⟨hi,ht⟩
 by_cases hlt:i<l.length
 ·obtain⟨x,hx⟩:=get?_of hlt
  have u1:IntKind.i64.wrap ((i:Int)+1)=((i+1:Nat):Int):=by rw[wrap64 (by omega) (by omega)];omega
  have hc0:=size60 x (hz x (List.mem_of_getElem? hx))
  unfold Vl.cs at hc0
  by_cases h1:sizeV x 60≤60
  ·have q4:decide (60<sizeV x 60)=false:=by simp;omega
   repeat'(first|apply nx|refine zx ?_|rw[zw]|((first|refine hK _ ?_|refine hKp _ _ ?_);clear hK hKp K Kp;try clear hanc anc)|((with_reducible refine And.intro ?_ ?_);exact zb)|((first|refine zr hE fun K Kp hK hKp=>?_|refine zd false mixed hE fun K Kp hK hKp anc hanc=>?_|(apply zm;exact zu;exact hc0;exact zs;exact zl));simp only[go_sem,lt_dec hlt,hx,Vl.av_eq,q4,u1])|(refine zg (fun hg=>?_) (fun hg=>?_)<;>simp only[go_sem,lt_dec hlt,hx,Vl.av_eq,q4,u1,hg])|(refine zc (fun hc=>?_) (fun hc=>?_)<;>try exact zh hc)|(refine K_ret ?_;refine zt hQ ?_))
   refine⟨i+1,⟨by omega,?_⟩,by omega,fun i=>i,by refine ent_mk (by simp[go_sem]) (by simp[go_sem]) (by simp) (by simp[hN])⟩
   rw[List.take_add_one,hx]
   intro c hc
   rcases List.mem_append.1 hc with hc|hc
   ·exact ht c hc
   ·simp at hc;subst hc;exact h1
  ·have q4:decide (60<sizeV x 60)=true:=by simp;omega
   have hn:¬ fewL l:=fun hf=>h1 (hf.1 x (List.mem_of_getElem? hx))
   repeat'(first|apply nx|refine zx ?_|rw[zw]|((first|refine hK _ ?_|refine hKp _ _ ?_);clear hK hKp K Kp;try clear hanc anc)|((with_reducible refine And.intro ?_ ?_);exact zb)|((first|refine zr hE fun K Kp hK hKp=>?_|refine zd false mixed hE fun K Kp hK hKp anc hanc=>?_|(apply zm;exact zu;exact hc0;exact zs;exact zl));simp only[go_sem,lt_dec hlt,hx,Vl.av_eq,q4])|(refine zg (fun hg=>?_) (fun hg=>?_)<;>simp only[go_sem,lt_dec hlt,hx,Vl.av_eq,q4,hg])|(refine zc (fun hc=>?_) (fun hc=>?_)<;>try exact zh hc)|(refine K_ret ?_;refine zt hQ ?_))
   simp[AV.snap,hn]
 ·obtain rfl:i=l.length:=by omega
  rw[List.take_length] at ht
  by_cases h8:l.length≤8
  ·have q8:decide ((l.length:Int)≤8)=true:=by simp;omega
   have hn:fewL l:=⟨ht,h8⟩
   repeat'(first|apply nx|refine zx ?_|rw[zw]|((first|refine hK _ ?_|refine hKp _ _ ?_);clear hK hKp K Kp;try clear hanc anc)|((with_reducible refine And.intro ?_ ?_);exact zb)|((first|refine zr hE fun K Kp hK hKp=>?_|refine zd false mixed hE fun K Kp hK hKp anc hanc=>?_);simp only[go_sem,ge_dec,q8])|(refine zg (fun hg=>?_) (fun hg=>?_)<;>simp only[go_sem,ge_dec,q8,hg])|(refine zc (fun hc=>?_) (fun hc=>?_)<;>try exact zh hc)|(refine K_ret ?_;refine zt hQ ?_))
   simp[AV.snap,hn]
  ·have q8:decide ((l.length:Int)≤8)=false:=by simp;omega
   have hn:¬ fewL l:=fun h=>h8 h.2
   repeat'(first|apply nx|refine zx ?_|rw[zw]|((first|refine hK _ ?_|refine hKp _ _ ?_);clear hK hKp K Kp;try clear hanc anc)|((with_reducible refine And.intro ?_ ?_);exact zb)|((first|refine zr hE fun K Kp hK hKp=>?_|refine zd false mixed hE fun K Kp hK hKp anc hanc=>?_);simp only[go_sem,ge_dec,q8])|(refine zg (fun hg=>?_) (fun hg=>?_)<;>simp only[go_sem,ge_dec,q8,hg])|(refine zc (fun hc=>?_) (fun hc=>?_)<;>try exact zh hc)|(refine K_ret ?_;refine zt hQ ?_))
   simp[AV.snap,hn]
theorem few_c (w:Wd) (hw:WG w):PCall Try.prog 10 [w.av] (.bool (decide (fewW w))):=by
 have hwt:=hw.t
 have hwc:=hw.c
 have k0:=few_call w.h (.mk 0 0 0 0 [] false [] []) (by decide) (fun c hc=>by have:=hw.h.m c hc;omega) hw.h.l
 have k6:PCall Try.prog 33 [.sl [.i w.md,.i w.dp,.i w.cd]] _:=counted_c [w.md,w.dp,w.cd] (by simp)
 rw[Wd.av_eq]
 rw[Hp.av_eq,Vl.av_eq] at k0
 by_cases e0:fewB w.h (.mk 0 0 0 0 [] false [] [])
 case neg=>
  have hn:¬ fewW w:=fun h=>e0 (h.1)
  rw[decide_eq_false e0] at k0
  refine PCall.intro Try.func10 rfl isf10 (by simp[Try.f10]) (by simp[AV.cloL,AV.clo]) fun E Q hE hN hQ=>K_start ?_
  repeat'(first|apply nx|refine zx ?_|rw[zw]|((first|refine hK _ ?_|refine hKp _ _ ?_);clear hK hKp K Kp;try clear hanc anc)|((with_reducible refine And.intro ?_ ?_);exact zb)|((first|refine zr hE fun K Kp hK hKp=>?_|refine zd false mixed hE fun K Kp hK hKp anc hanc=>?_|(apply zm;exact zu;exact k0;exact zs;exact zl));simp only[go_sem])|(refine zg (fun hg=>?_) (fun hg=>?_)<;>simp only[go_sem,hg])|(refine zc (fun hc=>?_) (fun hc=>?_)<;>try exact zh hc)|(refine K_ret ?_;refine zt hQ ?_))
  simp[AV.snap,hn]
 rw[decide_eq_true e0] at k0
 by_cases e1:w.ts.length≤8
 case neg=>
  have hn:¬ fewW w:=fun h=>e1 (h.2.1)
  have q1:decide ((8:Int)<(w.ts.length:Int))=true:=by simp;omega
  refine PCall.intro Try.func10 rfl isf10 (by simp[Try.f10]) (by simp[AV.cloL,AV.clo]) fun E Q hE hN hQ=>K_start ?_
  repeat'(first|apply nx|refine zx ?_|rw[zw]|((first|refine hK _ ?_|refine hKp _ _ ?_);clear hK hKp K Kp;try clear hanc anc)|((with_reducible refine And.intro ?_ ?_);exact zb)|((first|refine zr hE fun K Kp hK hKp=>?_|refine zd false mixed hE fun K Kp hK hKp anc hanc=>?_|(apply zm;exact zu;exact k0;exact zs;exact zl));simp only[go_sem,q1])|(refine zg (fun hg=>?_) (fun hg=>?_)<;>simp only[go_sem,q1,hg])|(refine zc (fun hc=>?_) (fun hc=>?_)<;>try exact zh hc)|(refine K_ret ?_;refine zt hQ ?_))
  simp[AV.snap,hn]
 have q1:decide ((8:Int)<(w.ts.length:Int))=false:=by simp;omega
 by_cases e2:w.D.length≤60
 case neg=>
  have hn:¬ fewW w:=fun h=>e2 (h.2.2.1)
  have q2:decide ((60:Int)<(w.D.length:Int))=true:=by simp;omega
  refine PCall.intro Try.func10 rfl isf10 (by simp[Try.f10]) (by simp[AV.cloL,AV.clo]) fun E Q hE hN hQ=>K_start ?_
  repeat'(first|apply nx|refine zx ?_|rw[zw]|((first|refine hK _ ?_|refine hKp _ _ ?_);clear hK hKp K Kp;try clear hanc anc)|((with_reducible refine And.intro ?_ ?_);exact zb)|((first|refine zr hE fun K Kp hK hKp=>?_|refine zd false mixed hE fun K Kp hK hKp anc hanc=>?_|(apply zm;exact zu;exact k0;exact zs;exact zl));simp only[go_sem,q1,q2])|(refine zg (fun hg=>?_) (fun hg=>?_)<;>simp only[go_sem,q1,q2,hg])|(refine zc (fun hc=>?_) (fun hc=>?_)<;>try exact zh hc)|(refine K_ret ?_;refine zt hQ ?_))
  simp[AV.snap,hn]
 have q2:decide ((60:Int)<(w.D.length:Int))=false:=by simp;omega
 by_cases e3:w.ou.length≤300
 case neg=>
  have hn:¬ fewW w:=fun h=>e3 (h.2.2.2.1)
  have q3:decide ((300:Int)<(w.ou.length:Int))=true:=by simp;omega
  refine PCall.intro Try.func10 rfl isf10 (by simp[Try.f10]) (by simp[AV.cloL,AV.clo]) fun E Q hE hN hQ=>K_start ?_
  repeat'(first|apply nx|refine zx ?_|rw[zw]|((first|refine hK _ ?_|refine hKp _ _ ?_);clear hK hKp K Kp;try clear hanc anc)|((with_reducible refine And.intro ?_ ?_);exact zb)|((first|refine zr hE fun K Kp hK hKp=>?_|refine zd false mixed hE fun K Kp hK hKp anc hanc=>?_|(apply zm;exact zu;exact k0;exact zs;exact zl));simp only[go_sem,q1,q2,q3])|(refine zg (fun hg=>?_) (fun hg=>?_)<;>simp only[go_sem,q1,q2,q3,hg])|(refine zc (fun hc=>?_) (fun hc=>?_)<;>try exact zh hc)|(refine K_ret ?_;refine zt hQ ?_))
  simp[AV.snap,hn]
 have q3:decide ((300:Int)<(w.ou.length:Int))=false:=by simp;omega
 by_cases e4:w.cn.length≤8
 case neg=>
  have hn:¬ fewW w:=fun h=>e4 (h.2.2.2.2.1)
  have q4:decide ((8:Int)<(w.cn.length:Int))=true:=by simp;omega
  refine PCall.intro Try.func10 rfl isf10 (by simp[Try.f10]) (by simp[AV.cloL,AV.clo]) fun E Q hE hN hQ=>K_start ?_
  repeat'(first|apply nx|refine zx ?_|rw[zw]|((first|refine hK _ ?_|refine hKp _ _ ?_);clear hK hKp K Kp;try clear hanc anc)|((with_reducible refine And.intro ?_ ?_);exact zb)|((first|refine zr hE fun K Kp hK hKp=>?_|refine zd false mixed hE fun K Kp hK hKp anc hanc=>?_|(apply zm;exact zu;exact k0;exact zs;exact zl));simp only[go_sem,q1,q2,q3,q4])|(refine zg (fun hg=>?_) (fun hg=>?_)<;>simp only[go_sem,q1,q2,q3,q4,hg])|(refine zc (fun hc=>?_) (fun hc=>?_)<;>try exact zh hc)|(refine K_ret ?_;refine zt hQ ?_))
  simp[AV.snap,hn]
 have q4:decide ((8:Int)<(w.cn.length:Int))=false:=by simp;omega
 by_cases e5:cntd [w.md,w.dp,w.cd]
 case neg=>
  have hn:¬ fewW w:=fun h=>e5 (h.2.2.2.2.2.1)
  rw[decide_eq_false e5] at k6
  refine PCall.intro Try.func10 rfl isf10 (by simp[Try.f10]) (by simp[AV.cloL,AV.clo]) fun E Q hE hN hQ=>K_start ?_
  repeat'(first|apply nx|refine zx ?_|rw[zw]|((first|refine hK _ ?_|refine hKp _ _ ?_);clear hK hKp K Kp;try clear hanc anc)|((with_reducible refine And.intro ?_ ?_);exact zb)|((first|refine zr hE fun K Kp hK hKp=>?_|refine zd false mixed hE fun K Kp hK hKp anc hanc=>?_|(apply zm;exact zu;(first|exact k0|exact k6);exact zs;exact zl));simp only[go_sem,q1,q2,q3,q4])|(refine zg (fun hg=>?_) (fun hg=>?_)<;>simp only[go_sem,q1,q2,q3,q4,hg])|(refine zc (fun hc=>?_) (fun hc=>?_)<;>try exact zh hc)|(refine K_ret ?_;refine zt hQ ?_))
  simp[AV.snap,hn]
 rw[decide_eq_true e5] at k6
 refine PCall.intro Try.func10 rfl isf10 (by simp[Try.f10]) (by simp[AV.cloL,AV.clo]) fun E Q hE hN hQ=>K_start ?_
 repeat'(first|apply nx|refine zx ?_|rw[zw]|((first|refine hK _ ?_|refine hKp _ _ ?_);clear hK hKp K Kp;try clear hanc anc)|((with_reducible refine And.intro ?_ ?_);exact zb)|((first|refine zr hE fun K Kp hK hKp=>?_|refine zd false mixed hE fun K Kp hK hKp anc hanc=>?_|(apply zm;exact zu;(first|exact k0|exact k6);exact zs;exact zl));simp only[go_sem,q1,q2,q3,q4])|(refine zg (fun hg=>?_) (fun hg=>?_)<;>simp only[go_sem,q1,q2,q3,q4,hg])|(refine zc (fun hc=>?_) (fun hc=>?_)<;>try exact zh hc)|(refine K_ret ?_;refine zt hQ ?_))
 refine K_loop (X:=Nat) (fun i=>i≤w.ts.length∧∀ t,t∈w.ts.take i→fewT t) (fun i=>mkSt [(1,.ptr 0 0),(3,AV.i i)] [(0,.cells [.sl (dl w.D),.sl w.R,.i w.mn,.sl (cl w.h.cells),.sl (bl w.h.arenas),.sl (tsl w.ts),.sl (chl w.cn),.sl (oul w.ou),.i w.md,.i w.dp,.i w.cd])] 1) (fun i=>w.ts.length - i) 0 ⟨Nat.zero_le _,by simp⟩ (fun i=>i) (by refine ent_mk (by simp[go_sem]) (by simp[go_sem]) (by simp) (by simp[hN])) ?_
 rintro i ⟨hi,ht⟩
 by_cases hlt:i<w.ts.length
 ·obtain⟨t,hx⟩:=get?_of hlt
  have hmem:=List.mem_of_getElem? hx
  obtain⟨g1,g2,g3,g4⟩:=hw.tf t hmem
  have u1:IntKind.i64.wrap ((i:Int)+1)=((i+1:Nat):Int):=by rw[wrap64 (by omega) (by omega)];omega
  have k9:PCall Try.prog 33 [.sl [.i t.al,.i t.ck,.i t.nx]] _:=counted_c [t.al,t.ck,t.nx] (by simp)
  by_cases f0:t.fs.length≤8
  case neg=>
   have hn:¬ fewW w:=fun h=>f0 ((h.2.2.2.2.2.2.1 t hmem).1)
   have q0:decide ((8:Int)<(t.fs.length:Int))=true:=by simp;omega
   repeat'(first|apply nx|refine zx ?_|rw[zw]|((first|refine hK _ ?_|refine hKp _ _ ?_);clear hK hKp K Kp;try clear hanc anc)|((with_reducible refine And.intro ?_ ?_);exact zb)|((first|refine zr hE fun K Kp hK hKp=>?_|refine zd false mixed hE fun K Kp hK hKp anc hanc=>?_);simp only[go_sem,lt_dec hlt,hx,Tsk.av_eq,q0])|(refine zg (fun hg=>?_) (fun hg=>?_)<;>simp only[go_sem,lt_dec hlt,hx,Tsk.av_eq,q0,hg])|(refine zc (fun hc=>?_) (fun hc=>?_)<;>try exact zh hc)|(refine K_ret ?_;refine zt hQ ?_))
   simp[AV.snap,hn]
  have q0:decide ((8:Int)<(t.fs.length:Int))=false:=by simp;omega
  by_cases f1:t.ls.length≤60
  case neg=>
   have hn:¬ fewW w:=fun h=>f1 ((h.2.2.2.2.2.2.1 t hmem).2.1)
   have q1:decide ((60:Int)<(t.ls.length:Int))=true:=by simp;omega
   repeat'(first|apply nx|refine zx ?_|rw[zw]|((first|refine hK _ ?_|refine hKp _ _ ?_);clear hK hKp K Kp;try clear hanc anc)|((with_reducible refine And.intro ?_ ?_);exact zb)|((first|refine zr hE fun K Kp hK hKp=>?_|refine zd false mixed hE fun K Kp hK hKp anc hanc=>?_);simp only[go_sem,lt_dec hlt,hx,Tsk.av_eq,q0,q1])|(refine zg (fun hg=>?_) (fun hg=>?_)<;>simp only[go_sem,lt_dec hlt,hx,Tsk.av_eq,q0,q1,hg])|(refine zc (fun hc=>?_) (fun hc=>?_)<;>try exact zh hc)|(refine K_ret ?_;refine zt hQ ?_))
   simp[AV.snap,hn]
  have q1:decide ((60:Int)<(t.ls.length:Int))=false:=by simp;omega
  by_cases f2:t.ce.length≤60
  case neg=>
   have hn:¬ fewW w:=fun h=>f2 ((h.2.2.2.2.2.2.1 t hmem).2.2.1)
   have q2:decide ((60:Int)<(t.ce.length:Int))=true:=by simp;omega
   repeat'(first|apply nx|refine zx ?_|rw[zw]|((first|refine hK _ ?_|refine hKp _ _ ?_);clear hK hKp K Kp;try clear hanc anc)|((with_reducible refine And.intro ?_ ?_);exact zb)|((first|refine zr hE fun K Kp hK hKp=>?_|refine zd false mixed hE fun K Kp hK hKp anc hanc=>?_);simp only[go_sem,lt_dec hlt,hx,Tsk.av_eq,q0,q1,q2])|(refine zg (fun hg=>?_) (fun hg=>?_)<;>simp only[go_sem,lt_dec hlt,hx,Tsk.av_eq,q0,q1,q2,hg])|(refine zc (fun hc=>?_) (fun hc=>?_)<;>try exact zh hc)|(refine K_ret ?_;refine zt hQ ?_))
   simp[AV.snap,hn]
  have q2:decide ((60:Int)<(t.ce.length:Int))=false:=by simp;omega
  by_cases f3:cntd [t.al,t.ck,t.nx]
  case neg=>
   have hn:¬ fewW w:=fun h=>f3 ((h.2.2.2.2.2.2.1 t hmem).2.2.2.1)
   rw[decide_eq_false f3] at k9
   repeat'(first|apply nx|refine zx ?_|rw[zw]|((first|refine hK _ ?_|refine hKp _ _ ?_);clear hK hKp K Kp;try clear hanc anc)|((with_reducible refine And.intro ?_ ?_);exact zb)|((first|refine zr hE fun K Kp hK hKp=>?_|refine zd false mixed hE fun K Kp hK hKp anc hanc=>?_|(apply zm;exact zu;exact k9;exact zs;exact zl));simp only[go_sem,lt_dec hlt,hx,Tsk.av_eq,q0,q1,q2])|(refine zg (fun hg=>?_) (fun hg=>?_)<;>simp only[go_sem,lt_dec hlt,hx,Tsk.av_eq,q0,q1,q2,hg])|(refine zc (fun hc=>?_) (fun hc=>?_)<;>try exact zh hc)|(refine K_ret ?_;refine zt hQ ?_))
   simp[AV.snap,hn]
  rw[decide_eq_true f3] at k9
  repeat'(first|apply nx|refine zx ?_|rw[zw]|((first|refine hK _ ?_|refine hKp _ _ ?_);clear hK hKp K Kp;try clear hanc anc)|((with_reducible refine And.intro ?_ ?_);exact zb)|((first|refine zr hE fun K Kp hK hKp=>?_|refine zd false mixed hE fun K Kp hK hKp anc hanc=>?_|(apply zm;exact zu;exact k9;exact zs;exact zl));simp only[go_sem,lt_dec hlt,hx,Tsk.av_eq,q0,q1,q2])|(refine zg (fun hg=>?_) (fun hg=>?_)<;>simp only[go_sem,lt_dec hlt,hx,Tsk.av_eq,q0,q1,q2,hg])|(refine zc (fun hc=>?_) (fun hc=>?_)<;>try exact zh hc)|(refine K_ret ?_;refine zt hQ ?_))
  refine K_loop (X:=Nat) (fun k=>k≤t.fs.length∧∀ a,a∈t.fs.take k→fewF a) (fun k=>mkSt [(1,.ptr 0 0),(3,AV.i i),(4,AV.i k)] [(0,.cells [.sl (dl w.D),.sl w.R,.i w.mn,.sl (cl w.h.cells),.sl (bl w.h.arenas),.sl (tsl w.ts),.sl (chl w.cn),.sl (oul w.ou),.i w.md,.i w.dp,.i w.cd])] 1) (fun k=>t.fs.length - k) 0 ⟨Nat.zero_le _,by simp⟩ (fun i=>i) (by refine ent_mk (by simp[go_sem]) (by simp[go_sem]) (by simp) (by simp[hN])) ?_
  rintro k ⟨hk,ht2⟩
  by_cases hkl:k<t.fs.length
  ·obtain⟨a,ha⟩:=get?_of hkl
   obtain⟨g5,g6,g7⟩:=g1 a (List.mem_of_getElem? ha)
   have u2:IntKind.i64.wrap ((k:Int)+1)=((k+1:Nat):Int):=by rw[wrap64 (by omega) (by omega)];omega
   have k7:=fewL_c a.sl (by omega) (fun v hv=>by have:=g5 v hv;omega)
   by_cases f4:fewL a.sl
   case neg=>
    have hn:¬ fewW w:=fun h=>f4 ((h.2.2.2.2.2.2.1 t hmem).2.2.2.2 a (List.mem_of_getElem? ha)).1
    rw[decide_eq_false f4] at k7
    repeat'(first|apply nx|refine zx ?_|rw[zw]|((first|refine hK _ ?_|refine hKp _ _ ?_);clear hK hKp K Kp;try clear hanc anc)|((with_reducible refine And.intro ?_ ?_);exact zb)|((first|refine zr hE fun K Kp hK hKp=>?_|refine zd false mixed hE fun K Kp hK hKp anc hanc=>?_|(apply zm;exact zu;exact k7;exact zs;exact zl));simp only[go_sem,lt_dec hkl,lt_dec hlt,hx,Tsk.av_eq,ha,Af.av_eq])|(refine zg (fun hg=>?_) (fun hg=>?_)<;>simp only[go_sem,lt_dec hkl,lt_dec hlt,hx,Tsk.av_eq,ha,Af.av_eq,hg])|(refine zc (fun hc=>?_) (fun hc=>?_)<;>try exact zh hc)|(refine K_ret ?_;refine zt hQ ?_))
    simp[AV.snap,hn]
   rw[decide_eq_true f4] at k7
   by_cases f5:a.si.length≤8
   case neg=>
    have hn:¬ fewW w:=fun h=>f5 ((h.2.2.2.2.2.2.1 t hmem).2.2.2.2 a (List.mem_of_getElem? ha)).2
    have q5:decide ((8:Int)<(a.si.length:Int))=true:=by simp;omega
    repeat'(first|apply nx|refine zx ?_|rw[zw]|((first|refine hK _ ?_|refine hKp _ _ ?_);clear hK hKp K Kp;try clear hanc anc)|((with_reducible refine And.intro ?_ ?_);exact zb)|((first|refine zr hE fun K Kp hK hKp=>?_|refine zd false mixed hE fun K Kp hK hKp anc hanc=>?_|(apply zm;exact zu;exact k7;exact zs;exact zl));simp only[go_sem,lt_dec hkl,lt_dec hlt,hx,Tsk.av_eq,ha,Af.av_eq,q5])|(refine zg (fun hg=>?_) (fun hg=>?_)<;>simp only[go_sem,lt_dec hkl,lt_dec hlt,hx,Tsk.av_eq,ha,Af.av_eq,q5,hg])|(refine zc (fun hc=>?_) (fun hc=>?_)<;>try exact zh hc)|(refine K_ret ?_;refine zt hQ ?_))
    simp[AV.snap,hn]
   have q5:decide ((8:Int)<(a.si.length:Int))=false:=by simp;omega
   repeat'(first|apply nx|refine zx ?_|rw[zw]|((first|refine hK _ ?_|refine hKp _ _ ?_);clear hK hKp K Kp;try clear hanc anc)|((with_reducible refine And.intro ?_ ?_);exact zb)|((first|refine zr hE fun K Kp hK hKp=>?_|refine zd false mixed hE fun K Kp hK hKp anc hanc=>?_|(apply zm;exact zu;exact k7;exact zs;exact zl));simp only[go_sem,lt_dec hkl,lt_dec hlt,hx,Tsk.av_eq,ha,Af.av_eq,q5,u2])|(refine zg (fun hg=>?_) (fun hg=>?_)<;>simp only[go_sem,lt_dec hkl,lt_dec hlt,hx,Tsk.av_eq,ha,Af.av_eq,q5,u2,hg])|(refine zc (fun hc=>?_) (fun hc=>?_)<;>try exact zh hc)|(refine K_ret ?_;refine zt hQ ?_))
   refine⟨k+1,⟨by omega,?_⟩,by omega,fun i=>i,by refine ent_mk (by simp[go_sem]) (by simp[go_sem]) (by simp) (by simp[hN])⟩
   rw[List.take_add_one,ha]
   intro c hc
   rcases List.mem_append.1 hc with hc|hc
   ·exact ht2 c hc
   ·simp at hc;subst hc;exact⟨f4,f5⟩
  ·obtain rfl:k=t.fs.length:=by omega
   rw[List.take_length] at ht2
   repeat'(first|apply nx|refine zx ?_|rw[zw]|((first|refine hK _ ?_|refine hKp _ _ ?_);clear hK hKp K Kp;try clear hanc anc)|((with_reducible refine And.intro ?_ ?_);exact zb)|((first|refine zr hE fun K Kp hK hKp=>?_|refine zd false mixed hE fun K Kp hK hKp anc hanc=>?_);simp only[go_sem,ge_dec,lt_dec hlt,hx,Tsk.av_eq,u1])|(refine zg (fun hg=>?_) (fun hg=>?_)<;>simp only[go_sem,ge_dec,lt_dec hlt,hx,Tsk.av_eq,u1,hg])|(refine zc (fun hc=>?_) (fun hc=>?_)<;>try exact zh hc)|(refine K_ret ?_;refine zt hQ ?_))
   refine⟨i+1,⟨by omega,?_⟩,by omega,fun i=>i,by refine ent_mk (by simp[go_sem]) (by simp[go_sem]) (by simp) (by simp[hN])⟩
   rw[List.take_add_one,hx]
   intro c hc
   rcases List.mem_append.1 hc with hc|hc
   ·exact ht c hc
   ·simp at hc;subst hc;exact⟨f0,f1,f2,f3,ht2⟩
 ·obtain rfl:i=w.ts.length:=by omega
  rw[List.take_length] at ht
  repeat'(first|apply nx|refine zx ?_|rw[zw]|((first|refine hK _ ?_|refine hKp _ _ ?_);clear hK hKp K Kp;try clear hanc anc)|((with_reducible refine And.intro ?_ ?_);exact zb)|((first|refine zr hE fun K Kp hK hKp=>?_|refine zd false mixed hE fun K Kp hK hKp anc hanc=>?_);simp only[go_sem,ge_dec])|(refine zg (fun hg=>?_) (fun hg=>?_)<;>simp only[go_sem,ge_dec,hg])|(refine zc (fun hc=>?_) (fun hc=>?_)<;>try exact zh hc)|(refine K_ret ?_;refine zt hQ ?_))
  refine K_loop (X:=Nat) (fun i=>i≤w.cn.length∧∀ l,l∈w.cn.take i→fewL l) (fun i=>mkSt [(1,.ptr 0 0),(5,AV.i i)] [(0,.cells [.sl (dl w.D),.sl w.R,.i w.mn,.sl (cl w.h.cells),.sl (bl w.h.arenas),.sl (tsl w.ts),.sl (chl w.cn),.sl (oul w.ou),.i w.md,.i w.dp,.i w.cd])] 1) (fun i=>w.cn.length - i) 0 ⟨Nat.zero_le _,by simp⟩ (fun i=>i) (by refine ent_mk (by simp[go_sem]) (by simp[go_sem]) (by simp) (by simp[hN])) ?_
  rintro i ⟨hi,ht2⟩
  by_cases hlt:i<w.cn.length
  ·obtain⟨l,hx⟩:=get?_of hlt
   have hmem:=List.mem_of_getElem? hx
   obtain⟨g1,g2⟩:=hw.cv l hmem
   have u1:IntKind.i64.wrap ((i:Int)+1)=((i+1:Nat):Int):=by rw[wrap64 (by omega) (by omega)];omega
   have k7:=fewL_c l (by omega) (fun v hv=>by have:=g2 v hv;omega)
   by_cases f4:fewL l
   case neg=>
    have hn:¬ fewW w:=fun h=>f4 (h.2.2.2.2.2.2.2 l hmem)
    rw[decide_eq_false f4] at k7
    repeat'(first|apply nx|refine zx ?_|rw[zw]|((first|refine hK _ ?_|refine hKp _ _ ?_);clear hK hKp K Kp;try clear hanc anc)|((with_reducible refine And.intro ?_ ?_);exact zb)|((first|refine zr hE fun K Kp hK hKp=>?_|refine zd false mixed hE fun K Kp hK hKp anc hanc=>?_|(apply zm;exact zu;exact k7;exact zs;exact zl));simp only[go_sem,lt_dec hlt,hx,chv])|(refine zg (fun hg=>?_) (fun hg=>?_)<;>simp only[go_sem,lt_dec hlt,hx,chv,hg])|(refine zc (fun hc=>?_) (fun hc=>?_)<;>try exact zh hc)|(refine K_ret ?_;refine zt hQ ?_))
    simp[AV.snap,hn]
   rw[decide_eq_true f4] at k7
   repeat'(first|apply nx|refine zx ?_|rw[zw]|((first|refine hK _ ?_|refine hKp _ _ ?_);clear hK hKp K Kp;try clear hanc anc)|((with_reducible refine And.intro ?_ ?_);exact zb)|((first|refine zr hE fun K Kp hK hKp=>?_|refine zd false mixed hE fun K Kp hK hKp anc hanc=>?_|(apply zm;exact zu;exact k7;exact zs;exact zl));simp only[go_sem,lt_dec hlt,hx,chv,u1])|(refine zg (fun hg=>?_) (fun hg=>?_)<;>simp only[go_sem,lt_dec hlt,hx,chv,u1,hg])|(refine zc (fun hc=>?_) (fun hc=>?_)<;>try exact zh hc)|(refine K_ret ?_;refine zt hQ ?_))
   refine⟨i+1,⟨by omega,?_⟩,by omega,fun i=>i,by refine ent_mk (by simp[go_sem]) (by simp[go_sem]) (by simp) (by simp[hN])⟩
   rw[List.take_add_one,hx]
   intro c hc
   rcases List.mem_append.1 hc with hc|hc
   ·exact ht2 c hc
   ·simp at hc;subst hc;exact f4
  ·obtain rfl:i=w.cn.length:=by omega
   rw[List.take_length] at ht2
   have hn:fewW w:=⟨e0,e1,e2,e3,e4,e5,ht,ht2⟩
   repeat'(first|apply nx|refine zx ?_|rw[zw]|((first|refine hK _ ?_|refine hKp _ _ ?_);clear hK hKp K Kp;try clear hanc anc)|((with_reducible refine And.intro ?_ ?_);exact zb)|((first|refine zr hE fun K Kp hK hKp=>?_|refine zd false mixed hE fun K Kp hK hKp anc hanc=>?_);simp only[go_sem,ge_dec])|(refine zg (fun hg=>?_) (fun hg=>?_)<;>simp only[go_sem,ge_dec,hg])|(refine zc (fun hc=>?_) (fun hc=>?_)<;>try exact zh hc)|(refine K_ret ?_;refine zt hQ ?_))
   simp[AV.snap,hn]
end Go.Proofs.Ytfgjjnfdcgkpoaa
