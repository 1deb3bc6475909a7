/- A part of the proof: an abstract machine for the walks, and what the walked functions compute. -/
import Derived.Test.YtfgjjnfdcgkpoaaCq
set_option linter.unusedVariables false
set_option linter.unusedSimpArgs false
set_option maxHeartbeats 4000000
set_option maxRecDepth 100000
namespace Go.Proofs.Ytfgjjnfdcgkpoaa
open Go.Am Go.Proofs Go.Hv
open Classical
attribute [local irreducible] AW CallP CallB CallY
theorem owns_iff {a:Af} {i:Nat} :i∈owns a↔∃ v,a.sl[i]? =some v∧ownB v=true:=by
 unfold owns
 rw[List.mem_filter,List.mem_range]
 constructor
 ·rintro⟨h1,h2⟩
  obtain⟨v,hv⟩:=get?_of h1
  rw[hv] at h2
  exact⟨v,hv,h2⟩
 ·rintro⟨v,hv,h⟩
  exact⟨(List.getElem?_eq_some_iff.1 hv).1,by rw[hv];exact h⟩
theorem orderL_iff {a:Af} {i:Nat} :i∈orderL a↔∃ v,a.sl[i]? =some v∧ownB v=true:=by
 rw[← owns_iff]
 exact(sortO_perm _ _).mem_iff
theorem orderL_nodup (a:Af):(orderL a).Nodup:=(sortO_perm _ _).nodup_iff.2 (List.Pairwise.filter _ List.nodup_range)
theorem orderL_sd {a:Af} {i x y:Nat} (hx:(orderL a)[i]? =some x) (hy:(orderL a)[i+1]? =some y):since a y≤since a x:=by
 have h:=sortO_sd (since a) (owns a)
 obtain⟨h1,h2⟩:=List.getElem?_eq_some_iff.1 hx
 obtain⟨h3,h4⟩:=List.getElem?_eq_some_iff.1 hy
 have:=List.pairwise_iff_getElem.1 h i (i+1) h1 h3 (by omega)
 rw[← h2, ← h4]
 exact this
theorem orderL_new {a:Af} {i x:Nat} (hx:(orderL a)[i]? =some x):x∉(orderL a).take i:=by
 intro hm
 obtain⟨j,hj⟩:=List.getElem?_of_mem hm
 rw[List.getElem?_take] at hj
 split at hj
 ·rename_i hji
  obtain⟨h1,h2⟩:=List.getElem?_eq_some_iff.1 hx
  obtain⟨h3,h4⟩:=List.getElem?_eq_some_iff.1 hj
  exact List.pairwise_iff_getElem.1 (orderL_nodup a) j i h3 h1 hji (h4.trans h2.symm)
 ·cases hj
theorem orders_c (a:Af) (hs:a.sl.length≤2 ^ 20) (hi:a.si.length≤2 ^ 20):PCall Try.prog 4 [a.av] (.bool true):=by
 have k0:=head_c
 rw[Af.av_eq]
 by_cases h1:a.sl.length≤8
 case neg=>
  have q1:decide ((8:Int)<(a.sl.length:Int))=true:=by simp;omega
  refine PCall.intro Try.func4 rfl isf4 (by simp[Try.f4]) (by simp[AV.cloL,AV.clo]) fun E Q hE hN hQ=>K_start ?_
  repeat'(first|apply nx|refine zx ?_|rw[zw]|((first|refine hK _ ?_|refine hKp _ _ ?_);clear hK hKp K Kp;try clear hanc anc)|((with_reducible refine And.intro ?_ ?_);exact zb)|((first|refine zr hE fun K Kp hK hKp=>?_|refine zd false mixed hE fun K Kp hK hKp anc hanc=>?_|(apply zm;exact zu;exact k0;exact zs;exact zl));simp only[go_sem,q1])|(refine zg (fun hg=>?_) (fun hg=>?_)<;>simp only[go_sem,q1,hg])|(refine zc (fun hc=>?_) (fun hc=>?_)<;>try exact zh hc)|(refine K_ret ?_;refine zt hQ ?_))
  all_goals simp[AV.snap]
 have q1:decide ((8:Int)<(a.sl.length:Int))=false:=by simp;omega
 by_cases h2:a.si.length=a.sl.length
 case neg=>
  have q2:((a.si.length:Int) !=(a.sl.length:Int))=true:=by simp;omega
  refine PCall.intro Try.func4 rfl isf4 (by simp[Try.f4]) (by simp[AV.cloL,AV.clo]) fun E Q hE hN hQ=>K_start ?_
  repeat'(first|apply nx|refine zx ?_|rw[zw]|((first|refine hK _ ?_|refine hKp _ _ ?_);clear hK hKp K Kp;try clear hanc anc)|((with_reducible refine And.intro ?_ ?_);exact zb)|((first|refine zr hE fun K Kp hK hKp=>?_|refine zd false mixed hE fun K Kp hK hKp anc hanc=>?_|(apply zm;exact zu;exact k0;exact zs;exact zl));simp only[go_sem,q1,q2])|(refine zg (fun hg=>?_) (fun hg=>?_)<;>simp only[go_sem,q1,q2,hg])|(refine zc (fun hc=>?_) (fun hc=>?_)<;>try exact zh hc)|(refine K_ret ?_;refine zt hQ ?_))
  all_goals simp[AV.snap]
 have q2:((a.si.length:Int) !=(a.sl.length:Int))=false:=by simp;omega
 have k1:=order_c a (by omega)
 rw[Af.av_eq] at k1
 have hol:=order_len a
 refine PCall.intro Try.func4 rfl isf4 (by simp[Try.f4]) (by simp[AV.cloL,AV.clo]) fun E Q hE hN hQ=>K_start ?_
 repeat'(first|apply nx|refine zx ?_|rw[zw]|((first|refine hK _ ?_|refine hKp _ _ ?_);clear hK hKp K Kp;try clear hanc anc)|((with_reducible refine And.intro ?_ ?_);exact zb)|((first|refine zr hE fun K Kp hK hKp=>?_|refine zd true mixed hE fun K Kp hK hKp anc hanc=>?_|refine zd false mixed hE fun K Kp hK hKp anc hanc=>?_|(apply zm;exact zu;(first|exact k0|exact k1);exact zs;exact zl));simp only[go_sem,q1,q2])|(refine zg (fun hg=>?_) (fun hg=>?_)<;>simp only[go_sem,q1,q2,hg])|(refine zc (fun hc=>?_) (fun hc=>?_)<;>try exact zh hc))
 refine K_loop (X:=Nat) (fun i=>i≤(orderL a).length) (fun i=>mkSt [(1,.ptr 0 0),(3,.bool true),(4,.sl (il (ni (orderL a)))),(5,.rw 1),(6,.i (i:Nat))] [(0,.cells [.i a.num,.i a.rt,.i a.blk,.i a.idx,.i a.dst,.sl (Vl.avL a.sl),.sl (il a.si)]),(1,.row 1 (bl (marks a.sl.length ((orderL a).take i))))] 2) (fun i=>(orderL a).length - i) 0 (Nat.zero_le _) (fun i=>if i=1 then 24117248 else i) ?_ ?_
 ·refine ent_mk (by simp[go_sem]) (by simp[go_sem,marks_nil]) (by simp) (by simp[hN])
 intro i hil
 by_cases hlt:i<(orderL a).length
 ·obtain⟨x,hx⟩:=get?_of hlt
  have hxm:=List.mem_of_getElem? hx
  obtain⟨v,hv,hown⟩:=orderL_iff.1 hxm
  have hxl:=order_mem hxm
  have k2:=rown_call v
  rw[hown,Vl.av_eq] at k2
  have hnew:=orderL_new hx
  have hmk:(marks a.sl.length ((orderL a).take i))[x]? =some false:=by rw[marks_get hxl,decide_eq_false hnew]
  have hst:(marks a.sl.length ((orderL a).take i)).set x true=marks a.sl.length ((orderL a).take (i+1)):=by
   rw[marks_set hxl,List.take_add_one,hx];rfl
  have q3:decide ((x:Int)<0)=false:=decide_eq_false (by omega)
  have q4:decide ((a.sl.length:Int)≤(x:Int))=false:=decide_eq_false (by omega)
  have u1:IntKind.i64.wrap ((i:Int)+1)=((i+1:Nat):Int):=by rw[wrap64 (by omega) (by omega)];omega
  have hML:(marks a.sl.length ((orderL a).take i)).length=a.sl.length:=marks_len ..
  generalize marks a.sl.length ((orderL a).take i)=M at hmk hst hML ⊢
  generalize hM2:marks a.sl.length ((orderL a).take (i+1))=M2 at hst
  cases i with
  |zero=>
   have q5:decide ((0:Int)<((0:Nat):Int))=false:=rfl
   repeat'(first|apply nx|refine zx ?_|rw[zw]|((first|refine hK _ ?_|refine hKp _ _ ?_);clear hK hKp K Kp;try clear hanc anc)|((with_reducible refine And.intro ?_ ?_);exact zb)|((first|refine zr hE fun K Kp hK hKp=>?_|refine zd true mixed hE fun K Kp hK hKp anc hanc=>?_|refine zd false mixed hE fun K Kp hK hKp anc hanc=>?_|(apply zm;exact zu;exact k2;exact zs;exact zl));simp only[go_sem,lt_dec hlt,il_len,ni_len,ni_get,hx,lt_dec hxl,hv,Vl.av_eq,hmk,q3,q4,q5,hML,hst,u1])|(refine zg (fun hg=>?_) (fun hg=>?_)<;>simp only[go_sem,lt_dec hlt,il_len,ni_len,ni_get,hx,lt_dec hxl,hv,Vl.av_eq,hmk,q3,q4,q5,hML,hst,u1,hg])|(refine zc (fun hc=>?_) (fun hc=>?_)<;>try exact zh hc))
   refine⟨0+1,hlt,by omega,fun i=>i,?_⟩
   rw[hM2]
   refine ent_mk (by simp[go_sem]) (by simp[go_sem]) (by simp) (by simp[hN])
  |succ i=>
   obtain⟨y,hy⟩:=get?_of (show i<(orderL a).length by omega)
   have hyl:=order_mem (List.mem_of_getElem? hy)
   obtain⟨sy,hsy⟩:=get?_of (show y<a.si.length by omega)
   obtain⟨sx,hsx⟩:=get?_of (show x<a.si.length by omega)
   have hle:=orderL_sd hy hx
   have e1:since a x=sx:=by simp[since,List.getD_eq_getElem?_getD,hsx]
   have e2:since a y=sy:=by simp[since,List.getD_eq_getElem?_getD,hsy]
   rw[e1,e2] at hle
   have hxs:x<a.si.length:=by omega
   have hys:y<a.si.length:=by omega
   have hil2:i<(orderL a).length:=by omega
   have q5:decide ((0:Int)<((i+1:Nat):Int))=true:=decide_eq_true (by omega)
   have q6:decide (sy<sx)=false:=decide_eq_false (by omega)
   have u3:IntKind.i64.wrap (((i+1:Nat):Int) - 1)=(i:Int):=by rw[wrap64 (by omega) (by omega)];omega
   repeat'(first|apply nx|refine zx ?_|rw[zw]|((first|refine hK _ ?_|refine hKp _ _ ?_);clear hK hKp K Kp;try clear hanc anc)|((with_reducible refine And.intro ?_ ?_);exact zb)|((first|refine zr hE fun K Kp hK hKp=>?_|refine zd true mixed hE fun K Kp hK hKp anc hanc=>?_|refine zd false mixed hE fun K Kp hK hKp anc hanc=>?_|(apply zm;exact zu;exact k2;exact zs;exact zl));simp only[go_sem,lt_dec hlt,il_len,ni_len,ni_get,hx,hy,hsx,hsy,lt_dec hxl,lt_dec hxs,lt_dec hys,lt_dec hil2,hv,Vl.av_eq,hmk,q3,q4,q5,q6,u3,hML,hst,u1])|(refine zg (fun hg=>?_) (fun hg=>?_)<;>simp only[go_sem,lt_dec hlt,il_len,ni_len,ni_get,hx,hy,hsx,hsy,lt_dec hxl,lt_dec hxs,lt_dec hys,lt_dec hil2,hv,Vl.av_eq,hmk,q3,q4,q5,q6,u3,hML,hst,u1,hg])|(refine zc (fun hc=>?_) (fun hc=>?_)<;>try exact zh hc))
   refine⟨i+1+1,hlt,by omega,fun i=>i,?_⟩
   rw[hM2]
   refine ent_mk (by simp[go_sem]) (by simp[go_sem]) (by simp) (by simp[hN])
 ·obtain rfl:i=(orderL a).length:=by omega
  rw[List.take_length]
  repeat'(first|apply nx|refine zx ?_|rw[zw]|((first|refine hK _ ?_|refine hKp _ _ ?_);clear hK hKp K Kp;try clear hanc anc)|((with_reducible refine And.intro ?_ ?_);exact zb)|((first|refine zr hE fun K Kp hK hKp=>?_|refine zd true mixed hE fun K Kp hK hKp anc hanc=>?_|refine zd false mixed hE fun K Kp hK hKp anc hanc=>?_);simp only[go_sem,ge_dec,il_len,ni_len])|(refine zg (fun hg=>?_) (fun hg=>?_)<;>simp only[go_sem,ge_dec,il_len,ni_len,hg])|(refine zc (fun hc=>?_) (fun hc=>?_)<;>try exact zh hc))
  refine K_loop (X:=Nat) (fun i=>i≤a.sl.length) (fun i=>mkSt [(1,.ptr 0 0),(3,.bool true),(5,.rw 1),(7,.i (i:Nat))] [(0,.cells [.i a.num,.i a.rt,.i a.blk,.i a.idx,.i a.dst,.sl (Vl.avL a.sl),.sl (il a.si)]),(1,.row 1 (bl (marks a.sl.length (orderL a))))] 2) (fun i=>a.sl.length - i) 0 (Nat.zero_le _) (fun i=>i) ?_ ?_
  ·refine ent_mk (by simp[go_sem]) (by simp[go_sem]) (by simp) (by simp[hN])
  intro i hil
  by_cases hlt:i<a.sl.length
  ·obtain⟨v,hv⟩:=get?_of hlt
   have k2:=rown_call v
   have u1:IntKind.i64.wrap ((i:Int)+1)=((i+1:Nat):Int):=by rw[wrap64 (by omega) (by omega)];omega
   rw[Vl.av_eq] at k2
   cases hown:ownB v
   ·rw[hown] at k2
    repeat'(first|apply nx|refine zx ?_|rw[zw]|((first|refine hK _ ?_|refine hKp _ _ ?_);clear hK hKp K Kp;try clear hanc anc)|((with_reducible refine And.intro ?_ ?_);exact zb)|((first|refine zr hE fun K Kp hK hKp=>?_|refine zd true mixed hE fun K Kp hK hKp anc hanc=>?_|refine zd false mixed hE fun K Kp hK hKp anc hanc=>?_|(apply zm;exact zu;exact k2;exact zs;exact zl));simp only[go_sem,lt_dec hlt,hv,Vl.av_eq,marks_len,u1])|(refine zg (fun hg=>?_) (fun hg=>?_)<;>simp only[go_sem,lt_dec hlt,hv,Vl.av_eq,marks_len,u1,hg])|(refine zc (fun hc=>?_) (fun hc=>?_)<;>try exact zh hc))
    refine⟨i+1,hlt,by omega,fun i=>i,?_⟩
    refine ent_mk (by simp[go_sem]) (by simp[go_sem]) (by simp) (by simp[hN])
   ·rw[hown] at k2
    have hmk:(marks a.sl.length (orderL a))[i]? =some true:=by rw[marks_get hlt,decide_eq_true (orderL_iff.2 ⟨v,hv,hown⟩)]
    repeat'(first|apply nx|refine zx ?_|rw[zw]|((first|refine hK _ ?_|refine hKp _ _ ?_);clear hK hKp K Kp;try clear hanc anc)|((with_reducible refine And.intro ?_ ?_);exact zb)|((first|refine zr hE fun K Kp hK hKp=>?_|refine zd true mixed hE fun K Kp hK hKp anc hanc=>?_|refine zd false mixed hE fun K Kp hK hKp anc hanc=>?_|(apply zm;exact zu;exact k2;exact zs;exact zl));simp only[go_sem,lt_dec hlt,hv,Vl.av_eq,marks_len,hmk,u1])|(refine zg (fun hg=>?_) (fun hg=>?_)<;>simp only[go_sem,lt_dec hlt,hv,Vl.av_eq,marks_len,hmk,u1,hg])|(refine zc (fun hc=>?_) (fun hc=>?_)<;>try exact zh hc))
    refine⟨i+1,hlt,by omega,fun i=>i,?_⟩
    refine ent_mk (by simp[go_sem]) (by simp[go_sem]) (by simp) (by simp[hN])
  ·obtain rfl:i=a.sl.length:=by omega
   repeat'(first|apply nx|refine zx ?_|rw[zw]|((first|refine hK _ ?_|refine hKp _ _ ?_);clear hK hKp K Kp;try clear hanc anc)|((with_reducible refine And.intro ?_ ?_);exact zb)|((first|refine zr hE fun K Kp hK hKp=>?_|refine zd false mixed hE fun K Kp hK hKp anc hanc=>?_);simp only[go_sem,ge_dec,marks_len])|(refine zg (fun hg=>?_) (fun hg=>?_)<;>simp only[go_sem,ge_dec,marks_len,hg])|(refine zc (fun hc=>?_) (fun hc=>?_)<;>try exact zh hc)|(refine K_ret ?_;refine zt hQ ?_))
   all_goals simp[AV.snap]
end Go.Proofs.Ytfgjjnfdcgkpoaa
