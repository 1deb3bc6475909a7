/- A part of the proof: an abstract machine for the walks, and what the walked functions compute. -/
import Derived.Shelf.Spec.SlicesGrow
import Derived.Test.YtffmphmiicnaeaaDoorRa
import Derived.Test.YtffmphmiicnaeaaDoorMk
set_option linter.unusedVariables false
set_option linter.unusedSimpArgs false
set_option maxHeartbeats 4000000
set_option maxRecDepth 100000
namespace Go.Proofs.YtffmphmiicnaeaaDoor
open Go.Am Go.Proofs Go.Lf
open Classical
attribute [local irreducible] AW CallP CallB
theorem get?_of {α:Type} {l:List α} {i:Nat} (h:i<l.length):∃ x,l[i]? =some x:=⟨_,List.getElem?_eq_getElem h⟩
theorem drop_of {α:Type} {l:List α} {i:Nat} {x:α} (h:l[i]? =some x):l.drop i=x::l.drop (i+1):=by
 obtain⟨hi,rfl⟩:=List.getElem?_eq_some_iff.1 h
 exact List.drop_eq_getElem_cons hi
theorem lt_dec {i n:Nat} (h:i<n):decide ((i:Int)<(n:Int))=true:=by simp;exact h
theorem ge_dec {n:Nat} :decide ((n:Int)<(n:Int))=false:=by simp
theorem le_dec {a b:Int} (h:a≤b):decide (a≤b)=true:=by simpa using h
theorem gt_dec {a b:Int} (h:¬ a≤b):decide (a≤b)=false:=by simpa using h
theorem inc_u {i n:Nat} (h:i<n) (hn:n≤2 ^ 40):IntKind.i64.wrap ((i:Int)+1)=((i+1:Nat):Int):=by rw[wrap64 (by omega) (by omega)];omega
theorem sizes_c:∀ (N:Nat) (l:List Tx) (m:Int),Tx.szL l<N→N≤2 ^ 40→0≤m→m≤2 ^ 40→PCall Tryd.prog 22 [.sl (Tx.avL l),.i m] (.i (szB l m 0)):=by
 intro N
 induction N with
 |zero=>intro l m hl;omega
 |succ N IH=>
  intro l m hl hN2 h0 h1
  have hln:=Tx.len_le l
  refine PCall.intro Tryd.func22 rfl isf22 (by simp[Tryd.f22]) (by simp[AV.cloL,AV.clo]) fun E Q hE hN hQ=>K_start ?_
  repeat'(first|apply nx|refine zx ?_|rw[zw]|((first|refine hK _ ?_|refine hKp _ _ ?_);clear hK hKp K Kp;try clear hanc anc)|((with_reducible refine And.intro ?_ ?_);exact zb)|((first|refine zr hE fun K Kp hK hKp=>?_|refine zd true mixed hE fun K Kp hK hKp anc hanc=>?_|refine zd false mixed hE fun K Kp hK hKp anc hanc=>?_);simp only[go_sem])|(refine zg (fun hg=>?_) (fun hg=>?_)<;>simp only[go_sem,hg])|(refine zc (fun hc=>?_) (fun hc=>?_)<;>try exact zh hc))
  refine K_loop (X:=Nat×Int) (fun x=>x.1≤l.length∧szB (l.drop x.1) m x.2=szB l m 0∧0≤x.2∧x.2+(Tx.szL (l.drop x.1):Int)≤(Tx.szL l:Int)) (fun x=>mkSt [(0,.sl (Tx.avL l)),(1,.i m),(5,.i x.2),(6,.i (x.1:Nat))] [] 0) (fun x=>l.length - x.1) (0,0) ⟨Nat.zero_le _,rfl,Int.le_refl _,by simp⟩ (fun i=>i) ?_ ?_
  ·refine ent_mk (by simp[go_sem]) (by simp[go_sem]) (by simp) (by simp[hN])
  rintro⟨j,n⟩ ⟨hj,he,hn0,hn1⟩
  simp only at hj he hn0 hn1
  by_cases hlt:j<l.length
  ·obtain⟨t,ht⟩:=get?_of hlt
   rw[drop_of ht,szB] at he
   rw[drop_of ht,Tx.szL] at hn1
   have u1:=inc_u hlt (by omega)
   by_cases hm:n≤m
   ·rw[if_pos hm] at he
    have h2:=szT_sp t (m - n)
    have h3:=Tx.sz_a t
    rw[szT_eq] at he h2
    have ih:=IH t.a (m - n) (by omega) (by omega) (by omega) (by omega)
    have u2:IntKind.i64.wrap (m - n)=m - n:=by rw[wrap64 (by omega) (by omega)]
    have u3:IntKind.i64.wrap (n+1)=n+1:=by rw[wrap64 (by omega) (by omega)]
    have u4:IntKind.i64.wrap (n+1+szB t.a (m - n) 0)=n+1+szB t.a (m - n) 0:=by rw[wrap64 (by omega) (by omega)]
    repeat'(first|apply nx|refine zx ?_|rw[zw]|((first|refine hK _ ?_|refine hKp _ _ ?_);clear hK hKp K Kp;try clear hanc anc)|((with_reducible refine And.intro ?_ ?_);exact zb)|((first|refine zr hE fun K Kp hK hKp=>?_|refine zd true mixed hE fun K Kp hK hKp anc hanc=>?_|refine zd false mixed hE fun K Kp hK hKp anc hanc=>?_|(apply zm;exact zu;exact ih;exact zs;exact zl));simp only[go_sem,lt_dec hlt,ht,Tx.av_eq,le_dec hm,u1,u2,u3,u4])|(refine zg (fun hg=>?_) (fun hg=>?_)<;>simp only[go_sem,lt_dec hlt,ht,Tx.av_eq,le_dec hm,u1,u2,u3,u4,hg])|(refine zc (fun hc=>?_) (fun hc=>?_)<;>try exact zh hc))
    refine⟨(j+1,n+1+szB t.a (m - n) 0),⟨hlt,he,by simp only;omega,by simp only;omega⟩,by simp only;omega,fun i=>i,?_⟩
    refine ent_mk (by simp[go_sem]) (by simp[go_sem]) (by simp) (by simp[hN])
   ·rw[if_neg hm] at he
    rw[← he] at hQ
    repeat'(first|apply nx|refine zx ?_|rw[zw]|((first|refine hK _ ?_|refine hKp _ _ ?_);clear hK hKp K Kp;try clear hanc anc)|((with_reducible refine And.intro ?_ ?_);exact zb)|((first|refine zr hE fun K Kp hK hKp=>?_|refine zd false mixed hE fun K Kp hK hKp anc hanc=>?_);simp only[go_sem,lt_dec hlt,ht,gt_dec hm])|(refine zg (fun hg=>?_) (fun hg=>?_)<;>simp only[go_sem,lt_dec hlt,ht,gt_dec hm,hg])|(refine zc (fun hc=>?_) (fun hc=>?_)<;>try exact zh hc)|(refine K_ret ?_;refine zt hQ ?_))
    simp[AV.snap]
  ·obtain rfl:j=l.length:=by omega
   rw[List.drop_length,szB] at he
   rw[← he] at hQ
   repeat'(first|apply nx|refine zx ?_|rw[zw]|((first|refine hK _ ?_|refine hKp _ _ ?_);clear hK hKp K Kp;try clear hanc anc)|((with_reducible refine And.intro ?_ ?_);exact zb)|((first|refine zr hE fun K Kp hK hKp=>?_|refine zd false mixed hE fun K Kp hK hKp anc hanc=>?_);simp only[go_sem,ge_dec])|(refine zg (fun hg=>?_) (fun hg=>?_)<;>simp only[go_sem,ge_dec,hg])|(refine zc (fun hc=>?_) (fun hc=>?_)<;>try exact zh hc)|(refine K_ret ?_;refine zt hQ ?_))
   simp[AV.snap]
theorem ad_len (l:List Ad):l.length≤adSz l:=ad_len_le l
theorem adSz_drop {l:List Ad} {j:Nat} {a:Ad} (h:l[j]? =some a):adSz (l.drop j)=a.ty.sz+adSz (l.drop (j+1)):=by
 rw[drop_of h];simp[adSz]
theorem func_c {N:Nat} (hN2:N≤2 ^ 40) (hb:∀ (l:List Lf.St) (m:Int),stSz l<N→0≤m→m≤2 ^ 40→PCall Tryd.prog 44 [.sl (stl l),.i m] (.i (bsL l m 0))):∀ (f:Lf.Fd) (m:Int),f.sz≤N→0≤m→m≤2 ^ 40→PCall Tryd.prog 23 [f.av,.i m] (.i (fsF f m))
 | .mk nm ps bs cs ag res b off,m,hs,h0,h1=>by
  have hsz:=hs
  rw[Fd.sz,Tx.sz_a] at hsz
  have hc1:=ad_len cs
  have hc2:=ad_len ag
  have c1:=hb b m (by omega) h0 h1
  have c2:=sizes_c (2 ^ 40) res.a m (by omega) (by omega) h0 h1
  have s1:=bsL_sp b m 0
  have s2:=szB_sp res.a m 0
  have ed:fsF (.mk nm ps bs cs ag res b off) m=adB cs m (adB ag m (2+ps.length+bs.length+bsL b m 0+szB res.a m 0)):=by rw[fsF]
  rw[ed,Fd.av]
  generalize hx1:bsL b m 0=x1 at s1 c1 ⊢
  generalize hx2:szB res.a m 0=x2 at s2 c2 ⊢
  have u1:IntKind.i64.wrap (2+(ps.length:Int))=2+(ps.length:Int):=by rw[wrap64 (by omega) (by omega)]
  have u2:IntKind.i64.wrap (2+(ps.length:Int)+(bs.length:Int))=2+(ps.length:Int)+(bs.length:Int):=by rw[wrap64 (by omega) (by omega)]
  have u3:IntKind.i64.wrap (2+(ps.length:Int)+(bs.length:Int)+x1)=2+(ps.length:Int)+(bs.length:Int)+x1:=by rw[wrap64 (by omega) (by omega)]
  have u4:IntKind.i64.wrap (2+(ps.length:Int)+(bs.length:Int)+x1+x2)=2+(ps.length:Int)+(bs.length:Int)+x1+x2:=by rw[wrap64 (by omega) (by omega)]
  refine PCall.intro Tryd.func23 rfl isf23 (by simp[Tryd.f23]) (by simp[AV.cloL,AV.clo]) fun E Q hE hN hQ=>K_start ?_
  repeat'(first|apply nx|refine zx ?_|rw[zw]|((first|refine hK _ ?_|refine hKp _ _ ?_);clear hK hKp K Kp;try clear hanc anc)|((with_reducible refine And.intro ?_ ?_);exact zb)|((first|refine zr hE fun K Kp hK hKp=>?_|refine zd true mixed hE fun K Kp hK hKp anc hanc=>?_|refine zd false mixed hE fun K Kp hK hKp anc hanc=>?_|(apply zm;exact zu;(first|exact c1|exact c2);exact zs;exact zl));simp only[go_sem,u1,u2,u3,u4])|(refine zg (fun hg=>?_) (fun hg=>?_)<;>simp only[go_sem,u1,u2,u3,u4,hg])|(refine zc (fun hc=>?_) (fun hc=>?_)<;>try exact zh hc))
  generalize hn1:2+(ps.length:Int)+(bs.length:Int)+x1+x2=n1 at*
  refine K_loop (X:=Nat×Int) (fun x=>x.1≤ag.length∧adB (ag.drop x.1) m x.2=adB ag m n1∧0≤x.2∧x.2+(adSz (ag.drop x.1):Int)≤n1+(adSz ag:Int)) (fun x=>mkSt [(1,.i m),(2,.ptr 0 0),(5,.i x.2),(6,.i (x.1:Nat))] [(0,.cells [.str nm,.sl (nml ps),.sl (bdl bs),.sl (adl cs),.sl (adl ag),.str res.n,.sl (Tx.avL res.a),.i res.o,.sl (stl b),.i off])] 1) (fun x=>ag.length - x.1) (0,n1) ⟨Nat.zero_le _,rfl,by simp only;omega,by simp⟩ (fun i=>i) ?_ ?_
  ·refine ent_mk (by simp[go_sem]) (by simp[go_sem]) (by simp) (by simp[hN])
  rintro⟨j,n⟩ ⟨hj,he,hn0,hn2⟩
  simp only at hj he hn0 hn2
  by_cases hlt:j<ag.length∧n≤m
  ·obtain⟨hlt,hm⟩:=hlt
   obtain⟨a,ha⟩:=get?_of hlt
   rw[drop_of ha,adB,if_pos hm] at he
   rw[adSz_drop ha,Tx.sz_a] at hn2
   have h2:=szT_sp a.ty (m - n)
   rw[szT_eq] at he h2
   have ih:=sizes_c (2 ^ 40) a.ty.a (m - n) (by omega) (by omega) (by omega) (by omega)
   have u5:=inc_u hlt (by omega)
   have u6:IntKind.i64.wrap (m - n)=m - n:=by rw[wrap64 (by omega) (by omega)]
   have u7:IntKind.i64.wrap (n+1)=n+1:=by rw[wrap64 (by omega) (by omega)]
   have u8:IntKind.i64.wrap (n+1+szB a.ty.a (m - n) 0)=n+1+szB a.ty.a (m - n) 0:=by rw[wrap64 (by omega) (by omega)]
   repeat'(first|apply nx|refine zx ?_|rw[zw]|((first|refine hK _ ?_|refine hKp _ _ ?_);clear hK hKp K Kp;try clear hanc anc)|((with_reducible refine And.intro ?_ ?_);exact zb)|((first|refine zr hE fun K Kp hK hKp=>?_|refine zd true mixed hE fun K Kp hK hKp anc hanc=>?_|refine zd false mixed hE fun K Kp hK hKp anc hanc=>?_|(apply zm;exact zu;exact ih;exact zs;exact zl));simp only[go_sem,lt_dec hlt,ha,Ad.av,le_dec hm,u5,u6,u7,u8])|(refine zg (fun hg=>?_) (fun hg=>?_)<;>simp only[go_sem,lt_dec hlt,ha,Ad.av,le_dec hm,u5,u6,u7,u8,hg])|(refine zc (fun hc=>?_) (fun hc=>?_)<;>try exact zh hc))
   refine⟨(j+1,n+1+szB a.ty.a (m - n) 0),⟨hlt,he,by simp only;omega,by simp only;omega⟩,by simp only;omega,fun i=>i,?_⟩
   refine ent_mk (by simp[go_sem]) (by simp[go_sem]) (by simp) (by simp[hN])
  have he2:n=adB ag m n1:=by
   by_cases hl2:j<ag.length
   ·obtain⟨a,ha⟩:=get?_of hl2
    rw[drop_of ha,adB,if_neg (fun h=>hlt ⟨hl2,h⟩)] at he
    exact he
   ·obtain rfl:j=ag.length:=by omega
    rw[List.drop_length,adB] at he
    exact he
  clear he
  rw[← he2] at hQ
  have hn3:n≤n1+(adSz ag:Int):=by omega
  have hlt2:j<ag.length∧¬ n≤m∨j=ag.length:=by omega
  clear hlt hn2 he2
  rcases hlt2 with ⟨hl2,hm⟩|rfl
  case' inl=>
   repeat'(first|apply nx|refine zx ?_|rw[zw]|((first|refine hK _ ?_|refine hKp _ _ ?_);clear hK hKp K Kp;try clear hanc anc)|((with_reducible refine And.intro ?_ ?_);exact zb)|((first|refine zr hE fun K Kp hK hKp=>?_|refine zd true mixed hE fun K Kp hK hKp anc hanc=>?_|refine zd false mixed hE fun K Kp hK hKp anc hanc=>?_);simp only[go_sem,lt_dec hl2,gt_dec hm])|(refine zg (fun hg=>?_) (fun hg=>?_)<;>simp only[go_sem,lt_dec hl2,gt_dec hm,hg])|(refine zc (fun hc=>?_) (fun hc=>?_)<;>try exact zh hc))
  case' inr=>
   repeat'(first|apply nx|refine zx ?_|rw[zw]|((first|refine hK _ ?_|refine hKp _ _ ?_);clear hK hKp K Kp;try clear hanc anc)|((with_reducible refine And.intro ?_ ?_);exact zb)|((first|refine zr hE fun K Kp hK hKp=>?_|refine zd true mixed hE fun K Kp hK hKp anc hanc=>?_|refine zd false mixed hE fun K Kp hK hKp anc hanc=>?_);simp only[go_sem,ge_dec])|(refine zg (fun hg=>?_) (fun hg=>?_)<;>simp only[go_sem,ge_dec,hg])|(refine zc (fun hc=>?_) (fun hc=>?_)<;>try exact zh hc))
  all_goals
   clear hj
   refine K_loop (X:=Nat×Int) (fun x=>x.1≤cs.length∧adB (cs.drop x.1) m x.2=adB cs m n∧0≤x.2∧x.2+(adSz (cs.drop x.1):Int)≤n+(adSz cs:Int)) (fun x=>mkSt [(1,.i m),(2,.ptr 0 0),(5,.i x.2),(7,.i (x.1:Nat))] [(0,.cells [.str nm,.sl (nml ps),.sl (bdl bs),.sl (adl cs),.sl (adl ag),.str res.n,.sl (Tx.avL res.a),.i res.o,.sl (stl b),.i off])] 1) (fun x=>cs.length - x.1) (0,n) ⟨Nat.zero_le _,rfl,by simp only;omega,by simp⟩ (fun i=>i) ?_ ?_
   ·refine ent_mk (by simp[go_sem]) (by simp[go_sem]) (by simp) (by simp[hN])
   rintro⟨q,p⟩ ⟨hj,he,hn0,hn2⟩
   simp only at hj he hn0 hn2
   by_cases hlt:q<cs.length∧p≤m
   ·obtain⟨hlt,hm⟩:=hlt
    obtain⟨a,ha⟩:=get?_of hlt
    rw[drop_of ha,adB,if_pos hm] at he
    rw[adSz_drop ha,Tx.sz_a] at hn2
    have h2:=szT_sp a.ty (m - p)
    rw[szT_eq] at he h2
    have ih:=sizes_c (2 ^ 40) a.ty.a (m - p) (by omega) (by omega) (by omega) (by omega)
    have u5:=inc_u hlt (by omega)
    have u6:IntKind.i64.wrap (m - p)=m - p:=by rw[wrap64 (by omega) (by omega)]
    have u7:IntKind.i64.wrap (p+1)=p+1:=by rw[wrap64 (by omega) (by omega)]
    have u8:IntKind.i64.wrap (p+1+szB a.ty.a (m - p) 0)=p+1+szB a.ty.a (m - p) 0:=by rw[wrap64 (by omega) (by omega)]
    repeat'(first|apply nx|refine zx ?_|rw[zw]|((first|refine hK _ ?_|refine hKp _ _ ?_);clear hK hKp K Kp;try clear hanc anc)|((with_reducible refine And.intro ?_ ?_);exact zb)|((first|refine zr hE fun K Kp hK hKp=>?_|refine zd true mixed hE fun K Kp hK hKp anc hanc=>?_|refine zd false mixed hE fun K Kp hK hKp anc hanc=>?_|(apply zm;exact zu;exact ih;exact zs;exact zl));simp only[go_sem,lt_dec hlt,ha,Ad.av,le_dec hm,u5,u6,u7,u8])|(refine zg (fun hg=>?_) (fun hg=>?_)<;>simp only[go_sem,lt_dec hlt,ha,Ad.av,le_dec hm,u5,u6,u7,u8,hg])|(refine zc (fun hc=>?_) (fun hc=>?_)<;>try exact zh hc))
    refine⟨(q+1,p+1+szB a.ty.a (m - p) 0),⟨hlt,he,by simp only;omega,by simp only;omega⟩,by simp only;omega,fun i=>i,?_⟩
    refine ent_mk (by simp[go_sem]) (by simp[go_sem]) (by simp) (by simp[hN])
   have he2:p=adB cs m n:=by
    by_cases hl2:q<cs.length
    ·obtain⟨a,ha⟩:=get?_of hl2
     rw[drop_of ha,adB,if_neg (fun h=>hlt ⟨hl2,h⟩)] at he
     exact he
    ·obtain rfl:q=cs.length:=by omega
     rw[List.drop_length,adB] at he
     exact he
   rw[← he2] at hQ
   have hlt2:q<cs.length∧¬ p≤m∨q=cs.length:=by omega
   clear hlt hn2 he
   rcases hlt2 with ⟨hl2,hm⟩|rfl
   ·repeat'(first|apply nx|refine zx ?_|rw[zw]|((first|refine hK _ ?_|refine hKp _ _ ?_);clear hK hKp K Kp;try clear hanc anc)|((with_reducible refine And.intro ?_ ?_);exact zb)|((first|refine zr hE fun K Kp hK hKp=>?_|refine zd false mixed hE fun K Kp hK hKp anc hanc=>?_);simp only[go_sem,lt_dec hl2,gt_dec hm])|(refine zg (fun hg=>?_) (fun hg=>?_)<;>simp only[go_sem,lt_dec hl2,gt_dec hm,hg])|(refine zc (fun hc=>?_) (fun hc=>?_)<;>try exact zh hc)|(refine K_ret ?_;refine zt hQ ?_))
    simp[AV.snap]
   ·repeat'(first|apply nx|refine zx ?_|rw[zw]|((first|refine hK _ ?_|refine hKp _ _ ?_);clear hK hKp K Kp;try clear hanc anc)|((with_reducible refine And.intro ?_ ?_);exact zb)|((first|refine zr hE fun K Kp hK hKp=>?_|refine zd false mixed hE fun K Kp hK hKp anc hanc=>?_);simp only[go_sem,ge_dec])|(refine zg (fun hg=>?_) (fun hg=>?_)<;>simp only[go_sem,ge_dec,hg])|(refine zc (fun hc=>?_) (fun hc=>?_)<;>try exact zh hc)|(refine K_ret ?_;refine zt hQ ?_))
    simp[AV.snap]
theorem block_size_c:∀ (N:Nat) (l:List Lf.St) (m:Int),stSz l<N→N≤2 ^ 40→0≤m→m≤2 ^ 40→PCall Tryd.prog 44 [.sl (stl l),.i m] (.i (bsL l m 0)):=by
 intro N
 induction N with
 |zero=>intro l m hl;omega
 |succ N IH=>
  intro l m hl hN2 h0 h1
  have hln:=st_len_le l
  have HB:∀ (l:List Lf.St) (m:Int),stSz l<N→0≤m→m≤2 ^ 40→PCall Tryd.prog 44 [.sl (stl l),.i m] (.i (bsL l m 0)):=fun l m a b c=>IH l m a (by omega) b c
  have HF:=func_c (N:=N) (by omega) HB
  refine PCall.intro Tryd.func44 rfl isf44 (by simp[Tryd.f44]) (by simp[AV.cloL,AV.clo]) fun E Q hE hN hQ=>K_start ?_
  repeat'(first|apply nx|refine zx ?_|rw[zw]|((first|refine hK _ ?_|refine hKp _ _ ?_);clear hK hKp K Kp;try clear hanc anc)|((with_reducible refine And.intro ?_ ?_);exact zb)|((first|refine zr hE fun K Kp hK hKp=>?_|refine zd true mixed hE fun K Kp hK hKp anc hanc=>?_|refine zd false mixed hE fun K Kp hK hKp anc hanc=>?_);simp only[go_sem])|(refine zg (fun hg=>?_) (fun hg=>?_)<;>simp only[go_sem,hg])|(refine zc (fun hc=>?_) (fun hc=>?_)<;>try exact zh hc))
  refine K_loop (X:=Nat×Int) (fun x=>x.1≤l.length∧bsL (l.drop x.1) m x.2=bsL l m 0∧0≤x.2∧x.2+(stSz (l.drop x.1):Int)≤(stSz l:Int)) (fun x=>mkSt [(0,.sl (stl l)),(1,.i m),(5,.i x.2),(6,.i (x.1:Nat))] [] 0) (fun x=>l.length - x.1) (0,0) ⟨Nat.zero_le _,rfl,Int.le_refl _,by simp⟩ (fun i=>i) ?_ ?_
  ·refine ent_mk (by simp[go_sem]) (by simp[go_sem]) (by simp) (by simp[hN])
  rintro⟨j,n⟩ ⟨hj,he,hn0,hn1⟩
  simp only at hj he hn0 hn1
  by_cases hlt:j<l.length
  case neg=>
   obtain rfl:j=l.length:=by omega
   rw[List.drop_length,bsL] at he
   rw[← he] at hQ
   repeat'(first|apply nx|refine zx ?_|rw[zw]|((first|refine hK _ ?_|refine hKp _ _ ?_);clear hK hKp K Kp;try clear hanc anc)|((with_reducible refine And.intro ?_ ?_);exact zb)|((first|refine zr hE fun K Kp hK hKp=>?_|refine zd false mixed hE fun K Kp hK hKp anc hanc=>?_);simp only[go_sem,ge_dec])|(refine zg (fun hg=>?_) (fun hg=>?_)<;>simp only[go_sem,ge_dec,hg])|(refine zc (fun hc=>?_) (fun hc=>?_)<;>try exact zh hc)|(refine K_ret ?_;refine zt hQ ?_))
   simp[AV.snap]
  obtain⟨t,ht⟩:=get?_of hlt
  rw[drop_of ht,bsL] at he
  rw[drop_of ht,stSz] at hn1
  have u1:=inc_u hlt (by omega)
  by_cases hm:n≤m
  case neg=>
   rw[if_neg hm] at he
   rw[← he] at hQ
   repeat'(first|apply nx|refine zx ?_|rw[zw]|((first|refine hK _ ?_|refine hKp _ _ ?_);clear hK hKp K Kp;try clear hanc anc)|((with_reducible refine And.intro ?_ ?_);exact zb)|((first|refine zr hE fun K Kp hK hKp=>?_|refine zd false mixed hE fun K Kp hK hKp anc hanc=>?_);simp only[go_sem,lt_dec hlt,ht,gt_dec hm])|(refine zg (fun hg=>?_) (fun hg=>?_)<;>simp only[go_sem,lt_dec hlt,ht,gt_dec hm,hg])|(refine zc (fun hc=>?_) (fun hc=>?_)<;>try exact zh hc)|(refine K_ret ?_;refine zt hQ ?_))
   simp[AV.snap]
  rw[if_pos hm] at he
  obtain⟨k,nm,ns,ty,ex,th,el,ar,fn,off⟩:=t
  rw[bsS] at he
  rw[St.sz,Ex.sz] at hn1
  have c1:=sizes_c (2 ^ 40) ty (m - n) (by omega) (by omega) (by omega) (by omega)
  have c2:=sizes_c (2 ^ 40) ex.ty (m - n) (by omega) (by omega) (by omega) (by omega)
  have c3:=HB th (m - n) (by omega) (by omega) (by omega)
  have c4:=HB el (m - n) (by omega) (by omega) (by omega)
  have s1:=szB_sp ty (m - n) 0
  have s2:=szB_sp ex.ty (m - n) 0
  have s3:=bsL_sp th (m - n) 0
  have s4:=bsL_sp el (m - n) 0
  generalize hx1:szB ty (m - n) 0=x1 at s1 c1 he
  generalize hx2:szB ex.ty (m - n) 0=x2 at s2 c2 he
  generalize hx3:bsL th (m - n) 0=x3 at s3 c3 he
  generalize hx4:bsL el (m - n) 0=x4 at s4 c4 he
  have v0:IntKind.i64.wrap (m - n)=m - n:=by rw[wrap64 (by omega) (by omega)]
  have v1:IntKind.i64.wrap (n+1)=n+1:=by rw[wrap64 (by omega) (by omega)]
  have v2:IntKind.i64.wrap (n+1+(ns.length:Int))=n+1+(ns.length:Int):=by rw[wrap64 (by omega) (by omega)]
  have v3:IntKind.i64.wrap (n+1+(ns.length:Int)+(ex.ns.length:Int))=n+1+(ns.length:Int)+(ex.ns.length:Int):=by rw[wrap64 (by omega) (by omega)]
  have v4:IntKind.i64.wrap (n+1+(ns.length:Int)+(ex.ns.length:Int)+x1)=n+1+(ns.length:Int)+(ex.ns.length:Int)+x1:=by rw[wrap64 (by omega) (by omega)]
  have v5:IntKind.i64.wrap (n+1+(ns.length:Int)+(ex.ns.length:Int)+x1+x2)=n+1+(ns.length:Int)+(ex.ns.length:Int)+x1+x2:=by rw[wrap64 (by omega) (by omega)]
  have v6:IntKind.i64.wrap (n+1+(ns.length:Int)+(ex.ns.length:Int)+x1+x2+x3)=n+1+(ns.length:Int)+(ex.ns.length:Int)+x1+x2+x3:=by rw[wrap64 (by omega) (by omega)]
  have v7:IntKind.i64.wrap (n+1+(ns.length:Int)+(ex.ns.length:Int)+x1+x2+x3+x4)=n+1+(ns.length:Int)+(ex.ns.length:Int)+x1+x2+x3+x4:=by rw[wrap64 (by omega) (by omega)]
  repeat'(first|apply nx|refine zx ?_|rw[zw]|((first|refine hK _ ?_|refine hKp _ _ ?_);clear hK hKp K Kp;try clear hanc anc)|((with_reducible refine And.intro ?_ ?_);exact zb)|((first|refine zr hE fun K Kp hK hKp=>?_|refine zd true mixed hE fun K Kp hK hKp anc hanc=>?_|refine zd false mixed hE fun K Kp hK hKp anc hanc=>?_|(apply zm;exact zu;(first|exact c1|exact c2|exact c3|exact c4);exact zs;exact zl));simp only[go_sem,lt_dec hlt,ht,St.av,le_dec hm,u1,v0,v1,v2,v3,v4,v5,v6,v7])|(refine zg (fun hg=>?_) (fun hg=>?_)<;>simp only[go_sem,lt_dec hlt,ht,St.av,le_dec hm,u1,v0,v1,v2,v3,v4,v5,v6,v7,hg])|(refine zc (fun hc=>?_) (fun hc=>?_)<;>try exact zh hc))
  generalize hn2:n+1+(ns.length:Int)+(ex.ns.length:Int)+x1+x2+x3+x4=n2 at he
  refine K_loop (X:=Nat×Int) (fun x=>x.1≤ar.length∧bsA (ar.drop x.1) m x.2=bsA ar m n2∧0≤x.2∧x.2+(arSz (ar.drop x.1):Int)≤n2+(arSz ar:Int)) (fun x=>mkSt [(0,.sl (stl l)),(1,.i m),(5,.i x.2),(6,.i (j:Nat)),(7,.ptr 0 0),(8,.i (x.1:Nat))] [(0,.cells [.i k,.str nm,.sl (nml ns),.sl (Tx.avL ty),.i ex.k,.str ex.op,.str ex.nm,.str ex.vr,.sl (nml ex.ns),.i ex.num,.sl (Tx.avL ex.ty),.i ex.off,.sl (stl th),.sl (stl el),.sl (arl ar),.sl (fdl fn),.i off])] 1) (fun x=>ar.length - x.1) (0,n2) ⟨Nat.zero_le _,rfl,by simp only;omega,by simp⟩ (fun i=>if i=0 then 13631488 else i) ?_ ?_
  ·refine ent_mk (by simp[go_sem]) (by simp[go_sem]) (by simp) (by simp[hN])
  clear c1 c2 c3 c4 v0 v1 v2 v3 v4 v5 v6 v7
  have hn3:0≤n2∧n2≤n+(1+ns.length+Tx.szL ty+(ex.ns.length+Tx.szL ex.ty)+stSz th+stSz el:Nat):=by omega
  clear hn2 s1 s2 s3 s4 hx1 hx2 hx3 hx4
  have har:=ar_len_le ar
  have hfn:=fd_len_le fn
  rintro⟨i1,p⟩ ⟨hi1,he1,hp0,hp1⟩
  simp only at hi1 he1 hp0 hp1
  by_cases hlt1:i1<ar.length∧p≤m
  ·obtain⟨hlt1,hm1⟩:=hlt1
   obtain⟨⟨v,ns1,b1,of1⟩,ha⟩:=get?_of hlt1
   rw[drop_of ha,bsA,if_pos hm1,bsM] at he1
   rw[drop_of ha,arSz,Ar.sz] at hp1
   have h2:=bsL_sp b1 (m - p) 0
   have ih:=HB b1 (m - p) (by omega) (by omega) (by omega)
   generalize hx1:bsL b1 (m - p) 0=x1 at*
   have u5:=inc_u hlt1 (by omega)
   have u6:IntKind.i64.wrap (m - p)=m - p:=by rw[wrap64 (by omega) (by omega)]
   have u7:IntKind.i64.wrap (p+1)=p+1:=by rw[wrap64 (by omega) (by omega)]
   have u8:IntKind.i64.wrap (p+1+(ns1.length:Int))=p+1+(ns1.length:Int):=by rw[wrap64 (by omega) (by omega)]
   have u9:IntKind.i64.wrap (p+1+(ns1.length:Int)+x1)=p+1+(ns1.length:Int)+x1:=by rw[wrap64 (by omega) (by omega)]
   repeat'(first|apply nx|refine zx ?_|rw[zw]|((first|refine hK _ ?_|refine hKp _ _ ?_);clear hK hKp K Kp;try clear hanc anc)|((with_reducible refine And.intro ?_ ?_);exact zb)|((first|refine zr hE fun K Kp hK hKp=>?_|refine zd true mixed hE fun K Kp hK hKp anc hanc=>?_|refine zd false mixed hE fun K Kp hK hKp anc hanc=>?_|(apply zm;exact zu;exact ih;exact zs;exact zl));simp only[go_sem,lt_dec hlt1,ha,Ar.av,le_dec hm1,u5,u6,u7,u8,u9])|(refine zg (fun hg=>?_) (fun hg=>?_)<;>simp only[go_sem,lt_dec hlt1,ha,Ar.av,le_dec hm1,u5,u6,u7,u8,u9,hg])|(refine zc (fun hc=>?_) (fun hc=>?_)<;>try exact zh hc))
   refine⟨(i1+1,p+1+(ns1.length:Int)+x1),⟨hlt1,he1,by simp only;omega,by simp only;omega⟩,by simp only;omega,fun i=>i,?_⟩
   refine ent_mk (by simp[go_sem]) (by simp[go_sem]) (by simp) (by simp[hN])
  have he2:p=bsA ar m n2:=by
   by_cases hl2:i1<ar.length
   ·obtain⟨a,ha⟩:=get?_of hl2
    rw[drop_of ha,bsA,if_neg (fun h=>hlt1 ⟨hl2,h⟩)] at he1
    exact he1
   ·obtain rfl:i1=ar.length:=by omega
    rw[List.drop_length,bsA] at he1
    exact he1
  rw[← he2] at he
  have hp3:p≤n2+(arSz ar:Int):=by omega
  have hlt2:i1<ar.length∧¬ p≤m∨i1=ar.length:=by omega
  clear hlt1 hp1 he2 he1
  rcases hlt2 with ⟨hl2,hm2⟩|rfl
  case' inl=>
   repeat'(first|apply nx|refine zx ?_|rw[zw]|((first|refine hK _ ?_|refine hKp _ _ ?_);clear hK hKp K Kp;try clear hanc anc)|((with_reducible refine And.intro ?_ ?_);exact zb)|((first|refine zr hE fun K Kp hK hKp=>?_|refine zd true mixed hE fun K Kp hK hKp anc hanc=>?_|refine zd false mixed hE fun K Kp hK hKp anc hanc=>?_);simp only[go_sem,lt_dec hl2,gt_dec hm2])|(refine zg (fun hg=>?_) (fun hg=>?_)<;>simp only[go_sem,lt_dec hl2,gt_dec hm2,hg])|(refine zc (fun hc=>?_) (fun hc=>?_)<;>try exact zh hc))
  case' inr=>
   repeat'(first|apply nx|refine zx ?_|rw[zw]|((first|refine hK _ ?_|refine hKp _ _ ?_);clear hK hKp K Kp;try clear hanc anc)|((with_reducible refine And.intro ?_ ?_);exact zb)|((first|refine zr hE fun K Kp hK hKp=>?_|refine zd true mixed hE fun K Kp hK hKp anc hanc=>?_|refine zd false mixed hE fun K Kp hK hKp anc hanc=>?_);simp only[go_sem,ge_dec])|(refine zg (fun hg=>?_) (fun hg=>?_)<;>simp only[go_sem,ge_dec,hg])|(refine zc (fun hc=>?_) (fun hc=>?_)<;>try exact zh hc))
  all_goals
   clear hi1
   refine K_loop (X:=Nat×Int) (fun x=>x.1≤fn.length∧bsF (fn.drop x.1) m x.2=bsF fn m p∧0≤x.2∧x.2+(fdSz (fn.drop x.1):Int)≤p+(fdSz fn:Int)) (fun x=>mkSt [(0,.sl (stl l)),(1,.i m),(5,.i x.2),(6,.i (j:Nat)),(7,.ptr 0 0),(9,.i (x.1:Nat))] [(0,.cells [.i k,.str nm,.sl (nml ns),.sl (Tx.avL ty),.i ex.k,.str ex.op,.str ex.nm,.str ex.vr,.sl (nml ex.ns),.i ex.num,.sl (Tx.avL ex.ty),.i ex.off,.sl (stl th),.sl (stl el),.sl (arl ar),.sl (fdl fn),.i off])] 1) (fun x=>fn.length - x.1) (0,p) ⟨Nat.zero_le _,rfl,by simp only;omega,by simp⟩ (fun i=>i) ?_ ?_
   ·refine ent_mk (by simp[go_sem]) (by simp[go_sem]) (by simp) (by simp[hN])
   rintro⟨i1,q⟩ ⟨hi1,he1,hp0,hp1⟩
   simp only at hi1 he1 hp0 hp1
   by_cases hlt1:i1<fn.length∧q≤m
   ·obtain⟨hlt1,hm1⟩:=hlt1
    obtain⟨f,ha⟩:=get?_of hlt1
    rw[drop_of ha,bsF,if_pos hm1] at he1
    rw[drop_of ha,fdSz] at hp1
    have h2:=fsF_sp f (m - q)
    have ih:=HF f (m - q) (by omega) (by omega) (by omega)
    generalize hx1:fsF f (m - q)=x1 at*
    have u5:=inc_u hlt1 (by omega)
    have u6:IntKind.i64.wrap (m - q)=m - q:=by rw[wrap64 (by omega) (by omega)]
    have u7:IntKind.i64.wrap (q+x1)=q+x1:=by rw[wrap64 (by omega) (by omega)]
    have hfc:=f.av_clo
    cases f with|mk a1 a2 a3 a4 a5 a6 a7 a8=>?_
    rw[Fd.av] at ih hfc
    repeat'(first|apply nx|refine zx ?_|rw[zw]|((first|refine hK _ ?_|refine hKp _ _ ?_);clear hK hKp K Kp;try clear hanc anc)|((with_reducible refine And.intro ?_ ?_);exact zb)|((first|refine zr hE fun K Kp hK hKp=>?_|refine zd true mixed hE fun K Kp hK hKp anc hanc=>?_|refine zd false mixed hE fun K Kp hK hKp anc hanc=>?_|(apply zm;exact zu;exact ih;exact zs;exact zl));simp only[go_sem,lt_dec hlt1,ha,Fd.av,le_dec hm1,u5,u6,u7])|(refine zg (fun hg=>?_) (fun hg=>?_)<;>simp only[go_sem,lt_dec hlt1,ha,Fd.av,le_dec hm1,u5,u6,u7,hg])|(refine zc (fun hc=>?_) (fun hc=>?_)<;>try exact zh hc))
    refine⟨(i1+1,q+x1),⟨hlt1,he1,by simp only;omega,by simp only;omega⟩,by simp only;omega,fun i=>i,?_⟩
    refine ent_mk (by simp[go_sem]) (by simp[go_sem]) (by simp) (by simp[hN])
   have he2:q=bsF fn m p:=by
    by_cases hl2:i1<fn.length
    ·obtain⟨a,ha⟩:=get?_of hl2
     rw[drop_of ha,bsF,if_neg (fun h=>hlt1 ⟨hl2,h⟩)] at he1
     exact he1
    ·obtain rfl:i1=fn.length:=by omega
     rw[List.drop_length,bsF] at he1
     exact he1
   rw[← he2] at he
   have hlt2:i1<fn.length∧¬ q≤m∨i1=fn.length:=by omega
   have hq3:q+(stSz (l.drop (j+1)):Int)≤(stSz l:Int):=by omega
   clear hlt1 hp1 he2 he1
   rcases hlt2 with ⟨hl2,hm2⟩|rfl
   case' inl=>
    repeat'(first|apply nx|refine zx ?_|rw[zw]|((first|refine hK _ ?_|refine hKp _ _ ?_);clear hK hKp K Kp;try clear hanc anc)|((with_reducible refine And.intro ?_ ?_);exact zb)|((first|refine zr hE fun K Kp hK hKp=>?_|refine zd true mixed hE fun K Kp hK hKp anc hanc=>?_|refine zd false mixed hE fun K Kp hK hKp anc hanc=>?_);simp only[go_sem,lt_dec hl2,gt_dec hm2,u1])|(refine zg (fun hg=>?_) (fun hg=>?_)<;>simp only[go_sem,lt_dec hl2,gt_dec hm2,u1,hg])|(refine zc (fun hc=>?_) (fun hc=>?_)<;>try exact zh hc))
   case' inr=>
    repeat'(first|apply nx|refine zx ?_|rw[zw]|((first|refine hK _ ?_|refine hKp _ _ ?_);clear hK hKp K Kp;try clear hanc anc)|((with_reducible refine And.intro ?_ ?_);exact zb)|((first|refine zr hE fun K Kp hK hKp=>?_|refine zd true mixed hE fun K Kp hK hKp anc hanc=>?_|refine zd false mixed hE fun K Kp hK hKp anc hanc=>?_);simp only[go_sem,ge_dec,u1])|(refine zg (fun hg=>?_) (fun hg=>?_)<;>simp only[go_sem,ge_dec,u1,hg])|(refine zc (fun hc=>?_) (fun hc=>?_)<;>try exact zh hc))
   all_goals
    refine⟨(j+1,q),⟨hlt,he,by simp only;omega,hq3⟩,by simp only;omega,fun i=>i,?_⟩
    refine ent_mk (by simp[go_sem]) (by simp[go_sem]) (by simp) (by simp[hN])
end Go.Proofs.YtffmphmiicnaeaaDoor

set_option maxHeartbeats 4000000
set_option maxRecDepth 100000
namespace Go.Lf
open Go Go.Am
structure Vd where
 nm:Nm
 fs:List Tx
 off:Int
structure Dt where
 nm:Nm
 ps:List Nm
 vs:List Vd
 dr:Int
 off:Int
structure Tr where
 nm:Nm
 off:Int
structure Im where
 tr:Nm
 ps:List Nm
 bs:List Bd
 ty:Tx
 fn:Nm
 off:Int
structure Md where
 nm:Nm
 us:List Nm
 ds:List Dt
 ts:List Tr
 ms:List Im
 fs:List Fd
def Vd.av (x:Vd):AV:= .agg [.str x.nm,.sl (Tx.avL x.fs),.i x.off]
def vdl (l:List Vd):List AV:=l.map Vd.av
def Dt.av (x:Dt):AV:= .agg [.str x.nm,.sl (nml x.ps),.sl (vdl x.vs),.i x.dr,.i x.off]
def dtl (l:List Dt):List AV:=l.map Dt.av
def Tr.av (x:Tr):AV:= .agg [.str x.nm,.i x.off]
def trl (l:List Tr):List AV:=l.map Tr.av
def Im.av (x:Im):AV:= .agg [.str x.tr,.sl (nml x.ps),.sl (bdl x.bs),.str x.ty.n,.sl (Tx.avL x.ty.a),.i x.ty.o,.str x.fn,.i x.off]
def iml (l:List Im):List AV:=l.map Im.av
def Md.cs (x:Md):List AV:=[.str x.nm,.sl (nml x.us),.sl (dtl x.ds),.sl (trl x.ts),.sl (iml x.ms),.sl (fdl x.fs)]
def Md.av (x:Md):AV:= .agg x.cs
@[go_sem] theorem vdl_ln (l:List Vd):(vdl l).length=l.length:=List.length_map ..
@[go_sem] theorem vdl_gt (l:List Vd) (i:Nat):(vdl l)[i]? =l[i]?.map Vd.av:=List.getElem?_map ..
@[go_sem] theorem dtl_ln (l:List Dt):(dtl l).length=l.length:=List.length_map ..
@[go_sem] theorem dtl_gt (l:List Dt) (i:Nat):(dtl l)[i]? =l[i]?.map Dt.av:=List.getElem?_map ..
@[go_sem] theorem trl_ln (l:List Tr):(trl l).length=l.length:=List.length_map ..
@[go_sem] theorem trl_gt (l:List Tr) (i:Nat):(trl l)[i]? =l[i]?.map Tr.av:=List.getElem?_map ..
@[go_sem] theorem iml_ln (l:List Im):(iml l).length=l.length:=List.length_map ..
@[go_sem] theorem iml_gt (l:List Im) (i:Nat):(iml l)[i]? =l[i]?.map Im.av:=List.getElem?_map ..
def vdSz (l:List Vd):Nat:=(l.map fun v=>1+Tx.szL v.fs).sum
def dtSz (l:List Dt):Nat:=(l.map fun d=>1+d.ps.length+vdSz d.vs).sum
def imSz (l:List Im):Nat:=(l.map fun x=>1+x.ps.length+x.bs.length+x.ty.sz).sum
def Md.sz (x:Md):Nat:=x.us.length+x.ts.length+dtSz x.ds+imSz x.ms+fdSz x.fs
theorem vdSz_cons (a:Vd) (l:List Vd):vdSz (a::l)=1+Tx.szL a.fs+vdSz l:=by simp[vdSz]
theorem dtSz_cons (a:Dt) (l:List Dt):dtSz (a::l)=1+a.ps.length+vdSz a.vs+dtSz l:=by simp[dtSz]
theorem imSz_cons (a:Im) (l:List Im):imSz (a::l)=1+a.ps.length+a.bs.length+a.ty.sz+imSz l:=by simp[imSz]
theorem vd_len (l:List Vd):l.length≤vdSz l:=sum_ge _ (fun a=>by omega) l
theorem dt_len (l:List Dt):l.length≤dtSz l:=sum_ge _ (fun a=>by omega) l
theorem im_len (l:List Im):l.length≤imSz l:=sum_ge _ (fun a=>by omega) l
def vdB:List Vd→Int→Int→Int
 | [],_,n=>n
 |v::l,m,n=>if n≤m then vdB l m (n+1+szB v.fs (m - n) 0) else n
def dtB:List Dt→Int→Int→Int
 | [],_,n=>n
 |d::l,m,n=>if n≤m then dtB l m (vdB d.vs m (n+1+d.ps.length)) else n
def imB:List Im→Int→Int→Int
 | [],_,n=>n
 |x::l,m,n=>if n≤m then imB l m (n+2+x.ps.length+x.bs.length+szB x.ty.a (m - n) 0) else n
theorem vdB_sp:∀ (l:List Vd) (m n:Int),n≤vdB l m n∧vdB l m n≤n+(vdSz l:Int)∧(vdB l m n≤m→vdB l m n=n+(vdSz l:Int))
 | [],m,n=>by rw[vdB,show vdSz []=0 from rfl];omega
 |a::l,m,n=>by
  have h1:=szB_sp a.fs (m - n) 0
  rw[vdB,vdSz_cons]
  split
  ·have h2:=vdB_sp l m (n+1+szB a.fs (m - n) 0)
   refine⟨by omega,by omega,fun q=>?_⟩
   have h3:=h2.2.2 q
   have h4:=h1.2.2 (by omega)
   omega
  ·exact⟨by omega,by omega,fun q=>by omega⟩
theorem dtB_sp:∀ (l:List Dt) (m n:Int),n≤dtB l m n∧dtB l m n≤n+(dtSz l:Int)∧(dtB l m n≤m→dtB l m n=n+(dtSz l:Int))
 | [],m,n=>by rw[dtB,show dtSz []=0 from rfl];omega
 |a::l,m,n=>by
  have h1:=vdB_sp a.vs m (n+1+a.ps.length)
  rw[dtB,dtSz_cons]
  split
  ·have h2:=dtB_sp l m (vdB a.vs m (n+1+a.ps.length))
   refine⟨by omega,by omega,fun q=>?_⟩
   have h3:=h2.2.2 q
   have h4:=h1.2.2 (by omega)
   omega
  ·exact⟨by omega,by omega,fun q=>by omega⟩
theorem imB_sp:∀ (l:List Im) (m n:Int),n≤imB l m n∧imB l m n≤n+(imSz l:Int)∧(imB l m n≤m→imB l m n=n+(imSz l:Int))
 | [],m,n=>by rw[imB,show imSz []=0 from rfl];omega
 |a::l,m,n=>by
  have h1:=szB_sp a.ty.a (m - n) 0
  rw[imB,imSz_cons,Tx.sz_a]
  split
  ·have h2:=imB_sp l m (n+2+a.ps.length+a.bs.length+szB a.ty.a (m - n) 0)
   refine⟨by omega,by omega,fun q=>?_⟩
   have h3:=h2.2.2 q
   have h4:=h1.2.2 (by omega)
   omega
  ·exact⟨by omega,by omega,fun q=>by omega⟩
def fewN (x:Md):Int:=bsF x.fs 400 (imB x.ms 400 (dtB x.ds 400 ((x.us.length:Int)+x.ts.length)))
theorem few_sz {x:Md} (h:fewN x≤400):(x.sz:Int)≤400:=by
 unfold fewN at h
 have h3:=bsF_sp x.fs 400 (imB x.ms 400 (dtB x.ds 400 ((x.us.length:Int)+x.ts.length)))
 have h2:=imB_sp x.ms 400 (dtB x.ds 400 ((x.us.length:Int)+x.ts.length))
 have h1:=dtB_sp x.ds 400 ((x.us.length:Int)+x.ts.length)
 have g3:=h3.2.2 h
 have g2:=h2.2.2 (by omega)
 have g1:=h1.2.2 (by omega)
 unfold Md.sz
 omega
end Go.Lf
namespace Go.Proofs.YtffmphmiicnaeaaDoor
open Go.Am Go.Proofs Go.Lf
open Classical
attribute [local irreducible] AW CallP CallB
theorem few_c (x:Md) (hx:x.sz<2 ^ 40):PCall Tryd.prog 8 [x.av] (.bool (decide (fewN x≤400))):=by
 obtain⟨mn,us,ds,ts,ms,fs⟩:=x
 unfold Md.sz at hx
 simp only at hx
 have hd:=dt_len ds
 have hi:=im_len ms
 have hf:=fd_len_le fs
 have u0:IntKind.i64.wrap ((us.length:Int)+(ts.length:Int))=(us.length:Int)+(ts.length:Int):=by rw[wrap64 (by omega) (by omega)]
 unfold fewN Md.av Md.cs
 simp only
 refine PCall.intro Tryd.func8 rfl isf8 (by simp[Tryd.f8]) (by simp[AV.cloL,AV.clo]) fun E Q hE hN hQ=>K_start ?_
 repeat'(first|apply nx|refine zx ?_|rw[zw]|((first|refine hK _ ?_|refine hKp _ _ ?_);clear hK hKp K Kp;try clear hanc anc)|((with_reducible refine And.intro ?_ ?_);exact zb)|((first|refine zr hE fun K Kp hK hKp=>?_|refine zd true mixed hE fun K Kp hK hKp anc hanc=>?_|refine zd false mixed hE fun K Kp hK hKp anc hanc=>?_);simp only[go_sem,u0])|(refine zg (fun hg=>?_) (fun hg=>?_)<;>simp only[go_sem,u0,hg])|(refine zc (fun hc=>?_) (fun hc=>?_)<;>try exact zh hc))
 generalize hn0:(us.length:Int)+(ts.length:Int)=n0 at*
 refine K_loop (X:=Nat×Int) (fun x=>x.1≤ds.length∧dtB (ds.drop x.1) 400 x.2=dtB ds 400 n0∧0≤x.2∧x.2+(dtSz (ds.drop x.1):Int)≤n0+(dtSz ds:Int)) (fun x=>mkSt [(1,.ptr 0 0),(3,.i 400),(4,.i x.2),(5,.i (x.1:Nat))] [(0,.cells [.str mn,.sl (nml us),.sl (dtl ds),.sl (trl ts),.sl (iml ms),.sl (fdl fs)])] 1) (fun x=>ds.length - x.1) (0,n0) ⟨Nat.zero_le _,rfl,by simp only;omega,by simp⟩ (fun i=>i) ?_ ?_
 ·refine ent_mk (by simp[go_sem]) (by simp[go_sem]) (by simp) (by simp[hN])
 rintro⟨j,n⟩ ⟨hj,he,hn1,hn2⟩
 simp only at hj he hn1 hn2
 by_cases hlt:j<ds.length∧n≤400
 ·obtain⟨hlt,hm⟩:=hlt
  obtain⟨⟨dn,dp,dv,dr,dof⟩,ha⟩:=get?_of hlt
  rw[drop_of ha,dtB,if_pos hm] at he
  rw[drop_of ha,dtSz_cons] at hn2
  simp only at he hn2
  have hvl:=vd_len dv
  have u5:=inc_u hlt (by omega)
  have u6:IntKind.i64.wrap (n+1)=n+1:=by rw[wrap64 (by omega) (by omega)]
  have u7:IntKind.i64.wrap (n+1+(dp.length:Int))=n+1+(dp.length:Int):=by rw[wrap64 (by omega) (by omega)]
  repeat'(first|apply nx|refine zx ?_|rw[zw]|((first|refine hK _ ?_|refine hKp _ _ ?_);clear hK hKp K Kp;try clear hanc anc)|((with_reducible refine And.intro ?_ ?_);exact zb)|((first|refine zr hE fun K Kp hK hKp=>?_|refine zd true mixed hE fun K Kp hK hKp anc hanc=>?_|refine zd false mixed hE fun K Kp hK hKp anc hanc=>?_);simp only[go_sem,lt_dec hlt,ha,Dt.av,le_dec hm,u6,u7])|(refine zg (fun hg=>?_) (fun hg=>?_)<;>simp only[go_sem,lt_dec hlt,ha,Dt.av,le_dec hm,u6,u7,hg])|(refine zc (fun hc=>?_) (fun hc=>?_)<;>try exact zh hc))
  refine K_loop (X:=Nat×Int) (fun x=>x.1≤dv.length∧vdB (dv.drop x.1) 400 x.2=vdB dv 400 (n+1+(dp.length:Int))∧0≤x.2∧x.2+(vdSz (dv.drop x.1):Int)≤n+1+(dp.length:Int)+(vdSz dv:Int)) (fun x=>mkSt [(1,.ptr 0 0),(3,.i 400),(4,.i x.2),(5,.i (j:Nat)),(6,.i (x.1:Nat))] [(0,.cells [.str mn,.sl (nml us),.sl (dtl ds),.sl (trl ts),.sl (iml ms),.sl (fdl fs)])] 1) (fun x=>dv.length - x.1) (0,n+1+(dp.length:Int)) ⟨Nat.zero_le _,rfl,by simp only;omega,by simp⟩ (fun i=>i) ?_ ?_
  ·refine ent_mk (by simp[go_sem]) (by simp[go_sem]) (by simp) (by simp[hN])
  rintro⟨i,p⟩ ⟨hi1,he1,hp1,hp2⟩
  simp only at hi1 he1 hp1 hp2
  by_cases hlt1:i<dv.length∧p≤400
  ·obtain⟨hlt1,hm1⟩:=hlt1
   obtain⟨v,hv⟩:=get?_of hlt1
   rw[drop_of hv,vdB,if_pos hm1] at he1
   rw[drop_of hv,vdSz_cons] at hp2
   have h2:=szB_sp v.fs (400 - p) 0
   have ih:=sizes_c (2 ^ 40) v.fs (400 - p) (by omega) (by omega) (by omega) (by omega)
   have v5:=inc_u hlt1 (by omega)
   have v6:IntKind.i64.wrap (400 - p)=400 - p:=by rw[wrap64 (by omega) (by omega)]
   have v7:IntKind.i64.wrap (p+1)=p+1:=by rw[wrap64 (by omega) (by omega)]
   have v8:IntKind.i64.wrap (p+1+szB v.fs (400 - p) 0)=p+1+szB v.fs (400 - p) 0:=by rw[wrap64 (by omega) (by omega)]
   repeat'(first|apply nx|refine zx ?_|rw[zw]|((first|refine hK _ ?_|refine hKp _ _ ?_);clear hK hKp K Kp;try clear hanc anc)|((with_reducible refine And.intro ?_ ?_);exact zb)|((first|refine zr hE fun K Kp hK hKp=>?_|refine zd true mixed hE fun K Kp hK hKp anc hanc=>?_|refine zd false mixed hE fun K Kp hK hKp anc hanc=>?_|(apply zm;exact zu;exact ih;exact zs;exact zl));simp only[go_sem,lt_dec hlt1,ha,Dt.av,hv,Vd.av,le_dec hm1,v5,v6,v7,v8])|(refine zg (fun hg=>?_) (fun hg=>?_)<;>simp only[go_sem,lt_dec hlt1,ha,Dt.av,hv,Vd.av,le_dec hm1,v5,v6,v7,v8,hg])|(refine zc (fun hc=>?_) (fun hc=>?_)<;>try exact zh hc))
   refine⟨(i+1,p+1+szB v.fs (400 - p) 0),⟨hlt1,he1,by simp only;omega,by simp only;omega⟩,by simp only;omega,fun i=>i,?_⟩
   refine ent_mk (by simp[go_sem]) (by simp[go_sem]) (by simp) (by simp[hN])
  have he2:p=vdB dv 400 (n+1+(dp.length:Int)):=by
   by_cases hl2:i<dv.length
   ·obtain⟨a,ha⟩:=get?_of hl2
    rw[drop_of ha,vdB,if_neg (fun h=>hlt1 ⟨hl2,h⟩)] at he1
    exact he1
   ·obtain rfl:i=dv.length:=by omega
    rw[List.drop_length,vdB] at he1
    exact he1
  rw[← he2] at he
  have hlt2:i<dv.length∧¬ p≤400∨i=dv.length:=by omega
  have hp3:p+(dtSz (ds.drop (j+1)):Int)≤n0+(dtSz ds:Int):=by omega
  clear hlt1 hp2 he2 he1
  rcases hlt2 with ⟨hl2,hm2⟩|rfl
  case' inl=>
   repeat'(first|apply nx|refine zx ?_|rw[zw]|((first|refine hK _ ?_|refine hKp _ _ ?_);clear hK hKp K Kp;try clear hanc anc)|((with_reducible refine And.intro ?_ ?_);exact zb)|((first|refine zr hE fun K Kp hK hKp=>?_|refine zd true mixed hE fun K Kp hK hKp anc hanc=>?_|refine zd false mixed hE fun K Kp hK hKp anc hanc=>?_);simp only[go_sem,lt_dec hl2,gt_dec hm2,u5,ha,Dt.av])|(refine zg (fun hg=>?_) (fun hg=>?_)<;>simp only[go_sem,lt_dec hl2,gt_dec hm2,u5,ha,Dt.av,hg])|(refine zc (fun hc=>?_) (fun hc=>?_)<;>try exact zh hc))
  case' inr=>
   repeat'(first|apply nx|refine zx ?_|rw[zw]|((first|refine hK _ ?_|refine hKp _ _ ?_);clear hK hKp K Kp;try clear hanc anc)|((with_reducible refine And.intro ?_ ?_);exact zb)|((first|refine zr hE fun K Kp hK hKp=>?_|refine zd true mixed hE fun K Kp hK hKp anc hanc=>?_|refine zd false mixed hE fun K Kp hK hKp anc hanc=>?_);simp only[go_sem,ge_dec,u5,ha,Dt.av])|(refine zg (fun hg=>?_) (fun hg=>?_)<;>simp only[go_sem,ge_dec,u5,ha,Dt.av,hg])|(refine zc (fun hc=>?_) (fun hc=>?_)<;>try exact zh hc))
  all_goals
   refine⟨(j+1,p),⟨hlt,he,hp1,hp3⟩,by simp only;omega,fun i=>i,?_⟩
   refine ent_mk (by simp[go_sem]) (by simp[go_sem]) (by simp) (by simp[hN])
 have he2:n=dtB ds 400 n0:=by
  by_cases hl2:j<ds.length
  ·obtain⟨a,ha⟩:=get?_of hl2
   rw[drop_of ha,dtB,if_neg (fun h=>hlt ⟨hl2,h⟩)] at he
   exact he
  ·obtain rfl:j=ds.length:=by omega
   rw[List.drop_length,dtB] at he
   exact he
 rw[← he2] at hQ
 have hlt2:j<ds.length∧¬ n≤400∨j=ds.length:=by omega
 have hn3:n≤n0+(dtSz ds:Int):=by omega
 clear hlt hn2 he2 he
 rcases hlt2 with ⟨hl2,hm2⟩|rfl
 case' inl=>
  repeat'(first|apply nx|refine zx ?_|rw[zw]|((first|refine hK _ ?_|refine hKp _ _ ?_);clear hK hKp K Kp;try clear hanc anc)|((with_reducible refine And.intro ?_ ?_);exact zb)|((first|refine zr hE fun K Kp hK hKp=>?_|refine zd true mixed hE fun K Kp hK hKp anc hanc=>?_|refine zd false mixed hE fun K Kp hK hKp anc hanc=>?_);simp only[go_sem,lt_dec hl2,gt_dec hm2])|(refine zg (fun hg=>?_) (fun hg=>?_)<;>simp only[go_sem,lt_dec hl2,gt_dec hm2,hg])|(refine zc (fun hc=>?_) (fun hc=>?_)<;>try exact zh hc))
 case' inr=>
  repeat'(first|apply nx|refine zx ?_|rw[zw]|((first|refine hK _ ?_|refine hKp _ _ ?_);clear hK hKp K Kp;try clear hanc anc)|((with_reducible refine And.intro ?_ ?_);exact zb)|((first|refine zr hE fun K Kp hK hKp=>?_|refine zd true mixed hE fun K Kp hK hKp anc hanc=>?_|refine zd false mixed hE fun K Kp hK hKp anc hanc=>?_);simp only[go_sem,ge_dec])|(refine zg (fun hg=>?_) (fun hg=>?_)<;>simp only[go_sem,ge_dec,hg])|(refine zc (fun hc=>?_) (fun hc=>?_)<;>try exact zh hc))
 all_goals
  clear hj
  refine K_loop (X:=Nat×Int) (fun x=>x.1≤ms.length∧imB (ms.drop x.1) 400 x.2=imB ms 400 n∧0≤x.2∧x.2+(imSz (ms.drop x.1):Int)≤n+(imSz ms:Int)) (fun x=>mkSt [(1,.ptr 0 0),(3,.i 400),(4,.i x.2),(7,.i (x.1:Nat))] [(0,.cells [.str mn,.sl (nml us),.sl (dtl ds),.sl (trl ts),.sl (iml ms),.sl (fdl fs)])] 1) (fun x=>ms.length - x.1) (0,n) ⟨Nat.zero_le _,rfl,by simp only;omega,by simp⟩ (fun i=>i) ?_ ?_
  ·refine ent_mk (by simp[go_sem]) (by simp[go_sem]) (by simp) (by simp[hN])
  rintro⟨i,p⟩ ⟨hi1,he1,hp1,hp2⟩
  simp only at hi1 he1 hp1 hp2
  by_cases hlt1:i<ms.length∧p≤400
  ·obtain⟨hlt1,hm1⟩:=hlt1
   obtain⟨v,hv⟩:=get?_of hlt1
   rw[drop_of hv,imB,if_pos hm1] at he1
   rw[drop_of hv,imSz_cons,Tx.sz_a] at hp2
   have h2:=szB_sp v.ty.a (400 - p) 0
   have ih:=sizes_c (2 ^ 40) v.ty.a (400 - p) (by omega) (by omega) (by omega) (by omega)
   have v5:=inc_u hlt1 (by omega)
   have v6:IntKind.i64.wrap (400 - p)=400 - p:=by rw[wrap64 (by omega) (by omega)]
   have v7:IntKind.i64.wrap (p+2)=p+2:=by rw[wrap64 (by omega) (by omega)]
   have v8:IntKind.i64.wrap (p+2+(v.ps.length:Int))=p+2+(v.ps.length:Int):=by rw[wrap64 (by omega) (by omega)]
   have v9:IntKind.i64.wrap (p+2+(v.ps.length:Int)+(v.bs.length:Int))=p+2+(v.ps.length:Int)+(v.bs.length:Int):=by rw[wrap64 (by omega) (by omega)]
   have v10:IntKind.i64.wrap (p+2+(v.ps.length:Int)+(v.bs.length:Int)+szB v.ty.a (400 - p) 0)=p+2+(v.ps.length:Int)+(v.bs.length:Int)+szB v.ty.a (400 - p) 0:=by rw[wrap64 (by omega) (by omega)]
   repeat'(first|apply nx|refine zx ?_|rw[zw]|((first|refine hK _ ?_|refine hKp _ _ ?_);clear hK hKp K Kp;try clear hanc anc)|((with_reducible refine And.intro ?_ ?_);exact zb)|((first|refine zr hE fun K Kp hK hKp=>?_|refine zd true mixed hE fun K Kp hK hKp anc hanc=>?_|refine zd false mixed hE fun K Kp hK hKp anc hanc=>?_|(apply zm;exact zu;exact ih;exact zs;exact zl));simp only[go_sem,lt_dec hlt1,hv,Im.av,le_dec hm1,v5,v6,v7,v8,v9,v10])|(refine zg (fun hg=>?_) (fun hg=>?_)<;>simp only[go_sem,lt_dec hlt1,hv,Im.av,le_dec hm1,v5,v6,v7,v8,v9,v10,hg])|(refine zc (fun hc=>?_) (fun hc=>?_)<;>try exact zh hc))
   refine⟨(i+1,p+2+(v.ps.length:Int)+(v.bs.length:Int)+szB v.ty.a (400 - p) 0),⟨hlt1,he1,by simp only;omega,by simp only;omega⟩,by simp only;omega,fun i=>i,?_⟩
   refine ent_mk (by simp[go_sem]) (by simp[go_sem]) (by simp) (by simp[hN])
  have he2:p=imB ms 400 n:=by
   by_cases hl2:i<ms.length
   ·obtain⟨a,ha⟩:=get?_of hl2
    rw[drop_of ha,imB,if_neg (fun h=>hlt1 ⟨hl2,h⟩)] at he1
    exact he1
   ·obtain rfl:i=ms.length:=by omega
    rw[List.drop_length,imB] at he1
    exact he1
  rw[← he2] at hQ
  have hlt2:i<ms.length∧¬ p≤400∨i=ms.length:=by omega
  have hp3:p≤n+(imSz ms:Int):=by omega
  clear hlt1 hp2 he2 he1
  rcases hlt2 with ⟨hl3,hm3⟩|rfl
  case' inl=>
   repeat'(first|apply nx|refine zx ?_|rw[zw]|((first|refine hK _ ?_|refine hKp _ _ ?_);clear hK hKp K Kp;try clear hanc anc)|((with_reducible refine And.intro ?_ ?_);exact zb)|((first|refine zr hE fun K Kp hK hKp=>?_|refine zd true mixed hE fun K Kp hK hKp anc hanc=>?_|refine zd false mixed hE fun K Kp hK hKp anc hanc=>?_);simp only[go_sem,lt_dec hl3,gt_dec hm3])|(refine zg (fun hg=>?_) (fun hg=>?_)<;>simp only[go_sem,lt_dec hl3,gt_dec hm3,hg])|(refine zc (fun hc=>?_) (fun hc=>?_)<;>try exact zh hc))
  case' inr=>
   repeat'(first|apply nx|refine zx ?_|rw[zw]|((first|refine hK _ ?_|refine hKp _ _ ?_);clear hK hKp K Kp;try clear hanc anc)|((with_reducible refine And.intro ?_ ?_);exact zb)|((first|refine zr hE fun K Kp hK hKp=>?_|refine zd true mixed hE fun K Kp hK hKp anc hanc=>?_|refine zd false mixed hE fun K Kp hK hKp anc hanc=>?_);simp only[go_sem,ge_dec])|(refine zg (fun hg=>?_) (fun hg=>?_)<;>simp only[go_sem,ge_dec,hg])|(refine zc (fun hc=>?_) (fun hc=>?_)<;>try exact zh hc))
  all_goals
   clear hi1
   refine K_loop (X:=Nat×Int) (fun x=>x.1≤fs.length∧bsF (fs.drop x.1) 400 x.2=bsF fs 400 p∧0≤x.2∧x.2+(fdSz (fs.drop x.1):Int)≤p+(fdSz fs:Int)) (fun x=>mkSt [(1,.ptr 0 0),(3,.i 400),(4,.i x.2),(8,.i (x.1:Nat))] [(0,.cells [.str mn,.sl (nml us),.sl (dtl ds),.sl (trl ts),.sl (iml ms),.sl (fdl fs)])] 1) (fun x=>fs.length - x.1) (0,p) ⟨Nat.zero_le _,rfl,by simp only;omega,by simp⟩ (fun i=>i) ?_ ?_
   ·refine ent_mk (by simp[go_sem]) (by simp[go_sem]) (by simp) (by simp[hN])
   rintro⟨i,q⟩ ⟨hi1,he1,hq1,hq2⟩
   simp only at hi1 he1 hq1 hq2
   by_cases hlt1:i<fs.length∧q≤400
   ·obtain⟨hlt1,hm1⟩:=hlt1
    obtain⟨f,hv⟩:=get?_of hlt1
    rw[drop_of hv,bsF,if_pos hm1] at he1
    rw[drop_of hv,fdSz] at hq2
    have h2:=fsF_sp f (400 - q)
    have ih:=func_c (N:=2 ^ 40) (by omega) (fun l m hl h0 h1=>block_size_c (2 ^ 40) l m hl (by omega) h0 h1) f (400 - q) (by omega) (by omega) (by omega)
    generalize hx1:fsF f (400 - q)=x1 at*
    have v5:=inc_u hlt1 (by omega)
    have v6:IntKind.i64.wrap (400 - q)=400 - q:=by rw[wrap64 (by omega) (by omega)]
    have v7:IntKind.i64.wrap (q+x1)=q+x1:=by rw[wrap64 (by omega) (by omega)]
    cases f with|mk a1 a2 a3 a4 a5 a6 a7 a8=>?_
    rw[Fd.av] at ih
    repeat'(first|apply nx|refine zx ?_|rw[zw]|((first|refine hK _ ?_|refine hKp _ _ ?_);clear hK hKp K Kp;try clear hanc anc)|((with_reducible refine And.intro ?_ ?_);exact zb)|((first|refine zr hE fun K Kp hK hKp=>?_|refine zd true mixed hE fun K Kp hK hKp anc hanc=>?_|refine zd false mixed hE fun K Kp hK hKp anc hanc=>?_|(apply zm;exact zu;exact ih;exact zs;exact zl));simp only[go_sem,lt_dec hlt1,hv,Fd.av,le_dec hm1,v5,v6,v7])|(refine zg (fun hg=>?_) (fun hg=>?_)<;>simp only[go_sem,lt_dec hlt1,hv,Fd.av,le_dec hm1,v5,v6,v7,hg])|(refine zc (fun hc=>?_) (fun hc=>?_)<;>try exact zh hc))
    refine⟨(i+1,q+x1),⟨hlt1,he1,by simp only;omega,by simp only;omega⟩,by simp only;omega,fun i=>i,?_⟩
    refine ent_mk (by simp[go_sem]) (by simp[go_sem]) (by simp) (by simp[hN])
   have he2:q=bsF fs 400 p:=by
    by_cases hl2:i<fs.length
    ·obtain⟨a,ha⟩:=get?_of hl2
     rw[drop_of ha,bsF,if_neg (fun h=>hlt1 ⟨hl2,h⟩)] at he1
     exact he1
    ·obtain rfl:i=fs.length:=by omega
     rw[List.drop_length,bsF] at he1
     exact he1
   rw[← he2] at hQ
   have hlt2:i<fs.length∧¬ q≤400∨i=fs.length:=by omega
   clear hlt1 hq2 he2 he1
   rcases hlt2 with ⟨hl4,hm4⟩|rfl
   ·repeat'(first|apply nx|refine zx ?_|rw[zw]|((first|refine hK _ ?_|refine hKp _ _ ?_);clear hK hKp K Kp;try clear hanc anc)|((with_reducible refine And.intro ?_ ?_);exact zb)|((first|refine zr hE fun K Kp hK hKp=>?_|refine zd false mixed hE fun K Kp hK hKp anc hanc=>?_);simp only[go_sem,lt_dec hl4,gt_dec hm4])|(refine zg (fun hg=>?_) (fun hg=>?_)<;>simp only[go_sem,lt_dec hl4,gt_dec hm4,hg])|(refine zc (fun hc=>?_) (fun hc=>?_)<;>try exact zh hc)|(refine K_ret ?_;refine zt hQ ?_))
    simp[AV.snap]
    omega
   ·repeat'(first|apply nx|refine zx ?_|rw[zw]|((first|refine hK _ ?_|refine hKp _ _ ?_);clear hK hKp K Kp;try clear hanc anc)|((with_reducible refine And.intro ?_ ?_);exact zb)|((first|refine zr hE fun K Kp hK hKp=>?_|refine zd false mixed hE fun K Kp hK hKp anc hanc=>?_);simp only[go_sem,ge_dec])|(refine zg (fun hg=>?_) (fun hg=>?_)<;>simp only[go_sem,ge_dec,hg])|(refine zc (fun hc=>?_) (fun hc=>?_)<;>try exact zh hc)|(refine K_ret ?_;refine zt hQ ?_))
    simp[AV.snap]
end Go.Proofs.YtffmphmiicnaeaaDoor

set_option maxHeartbeats 4000000
set_option maxRecDepth 100000
namespace Go.Proofs.YtffmphmiicnaeaaDoor
open Go.Am Go.Proofs Go.Lf
open Classical
attribute [local irreducible] AW CallP CallB
attribute [go_sem] bne_self_eq_false beq_self_eq_true
theorem names_same (l:List Nm) (hl:l.length≤2 ^ 40):PCall Tryd.prog 27 [.sl (nml l),.sl (nml l)] (.bool true):=by
 refine PCall.intro Tryd.func27 rfl isf27 (by simp[Tryd.f27]) (by simp[AV.cloL,AV.clo]) fun E Q hE hN hQ=>K_start ?_
 repeat'(first|apply nx|refine zx ?_|rw[zw]|((first|refine hK _ ?_|refine hKp _ _ ?_);clear hK hKp K Kp;try clear hanc anc)|((with_reducible refine And.intro ?_ ?_);exact zb)|((first|refine zr hE fun K Kp hK hKp=>?_|refine zd true mixed hE fun K Kp hK hKp anc hanc=>?_|refine zd false mixed hE fun K Kp hK hKp anc hanc=>?_);simp only[go_sem])|(refine zg (fun hg=>?_) (fun hg=>?_)<;>simp only[go_sem,hg])|(refine zc (fun hc=>?_) (fun hc=>?_)<;>try exact zh hc))
 refine K_loop (X:=Nat) (fun i=>i≤l.length) (fun i=>mkSt [(0,.sl (nml l)),(1,.sl (nml l)),(5,.i (i:Nat))] [] 0) (fun i=>l.length - i) 0 (Nat.zero_le _) (fun i=>i) ?_ ?_
 ·refine ent_mk (by simp[go_sem]) (by simp[go_sem]) (by simp) (by simp[hN])
 rintro i hi
 by_cases hlt:i<l.length
 ·obtain⟨x,hx⟩:=get?_of hlt
  have u1:=inc_u hlt hl
  repeat'(first|apply nx|refine zx ?_|rw[zw]|((first|refine hK _ ?_|refine hKp _ _ ?_);clear hK hKp K Kp;try clear hanc anc)|((with_reducible refine And.intro ?_ ?_);exact zb)|((first|refine zr hE fun K Kp hK hKp=>?_|refine zd true mixed hE fun K Kp hK hKp anc hanc=>?_|refine zd false mixed hE fun K Kp hK hKp anc hanc=>?_);simp only[go_sem,lt_dec hlt,hx,u1,id])|(refine zg (fun hg=>?_) (fun hg=>?_)<;>simp only[go_sem,lt_dec hlt,hx,u1,id,hg])|(refine zc (fun hc=>?_) (fun hc=>?_)<;>try exact zh hc))
  refine⟨i+1,hlt,by omega,fun i=>i,?_⟩
  refine ent_mk (by simp[go_sem]) (by simp[go_sem]) (by simp) (by simp[hN])
 ·obtain rfl:i=l.length:=by omega
  repeat'(first|apply nx|refine zx ?_|rw[zw]|((first|refine hK _ ?_|refine hKp _ _ ?_);clear hK hKp K Kp;try clear hanc anc)|((with_reducible refine And.intro ?_ ?_);exact zb)|((first|refine zr hE fun K Kp hK hKp=>?_|refine zd false mixed hE fun K Kp hK hKp anc hanc=>?_);simp only[go_sem,ge_dec])|(refine zg (fun hg=>?_) (fun hg=>?_)<;>simp only[go_sem,ge_dec,hg])|(refine zc (fun hc=>?_) (fun hc=>?_)<;>try exact zh hc)|(refine K_ret ?_;refine zt hQ ?_))
  simp[AV.snap]
theorem bounds_same (l:List Bd) (hl:l.length≤2 ^ 40):PCall Tryd.prog 29 [.sl (bdl l),.sl (bdl l)] (.bool true):=by
 refine PCall.intro Tryd.func29 rfl isf29 (by simp[Tryd.f29]) (by simp[AV.cloL,AV.clo]) fun E Q hE hN hQ=>K_start ?_
 repeat'(first|apply nx|refine zx ?_|rw[zw]|((first|refine hK _ ?_|refine hKp _ _ ?_);clear hK hKp K Kp;try clear hanc anc)|((with_reducible refine And.intro ?_ ?_);exact zb)|((first|refine zr hE fun K Kp hK hKp=>?_|refine zd true mixed hE fun K Kp hK hKp anc hanc=>?_|refine zd false mixed hE fun K Kp hK hKp anc hanc=>?_);simp only[go_sem])|(refine zg (fun hg=>?_) (fun hg=>?_)<;>simp only[go_sem,hg])|(refine zc (fun hc=>?_) (fun hc=>?_)<;>try exact zh hc))
 refine K_loop (X:=Nat) (fun i=>i≤l.length) (fun i=>mkSt [(0,.sl (bdl l)),(1,.sl (bdl l)),(5,.i (i:Nat))] [] 0) (fun i=>l.length - i) 0 (Nat.zero_le _) (fun i=>i) ?_ ?_
 ·refine ent_mk (by simp[go_sem]) (by simp[go_sem]) (by simp) (by simp[hN])
 rintro i hi
 by_cases hlt:i<l.length
 ·obtain⟨x,hx⟩:=get?_of hlt
  have u1:=inc_u hlt hl
  repeat'(first|apply nx|refine zx ?_|rw[zw]|((first|refine hK _ ?_|refine hKp _ _ ?_);clear hK hKp K Kp;try clear hanc anc)|((with_reducible refine And.intro ?_ ?_);exact zb)|((first|refine zr hE fun K Kp hK hKp=>?_|refine zd true mixed hE fun K Kp hK hKp anc hanc=>?_|refine zd false mixed hE fun K Kp hK hKp anc hanc=>?_);simp only[go_sem,lt_dec hlt,hx,u1,Bd.av])|(refine zg (fun hg=>?_) (fun hg=>?_)<;>simp only[go_sem,lt_dec hlt,hx,u1,Bd.av,hg])|(refine zc (fun hc=>?_) (fun hc=>?_)<;>try exact zh hc))
  refine⟨i+1,hlt,by omega,fun i=>i,?_⟩
  refine ent_mk (by simp[go_sem]) (by simp[go_sem]) (by simp) (by simp[hN])
 ·obtain rfl:i=l.length:=by omega
  repeat'(first|apply nx|refine zx ?_|rw[zw]|((first|refine hK _ ?_|refine hKp _ _ ?_);clear hK hKp K Kp;try clear hanc anc)|((with_reducible refine And.intro ?_ ?_);exact zb)|((first|refine zr hE fun K Kp hK hKp=>?_|refine zd false mixed hE fun K Kp hK hKp anc hanc=>?_);simp only[go_sem,ge_dec])|(refine zg (fun hg=>?_) (fun hg=>?_)<;>simp only[go_sem,ge_dec,hg])|(refine zc (fun hc=>?_) (fun hc=>?_)<;>try exact zh hc)|(refine K_ret ?_;refine zt hQ ?_))
  simp[AV.snap]
theorem type_same {N:Nat} (h:∀ l:List Tx,Tx.szL l<N→PCall Tryd.prog 54 [.sl (Tx.avL l),.sl (Tx.avL l)] (.bool true)) (t:Tx) (ht:t.sz≤N):PCall Tryd.prog 30 [t.av,t.av] (.bool true):=by
 rw[Tx.sz_a] at ht
 have c:=h t.a (by omega)
 rw[Tx.av_eq]
 refine PCall.intro Tryd.func30 rfl isf30 (by simp[Tryd.f30]) (by simp[AV.cloL,AV.clo]) fun E Q hE hN hQ=>K_start ?_
 repeat'(first|apply nx|refine zx ?_|rw[zw]|((first|refine hK _ ?_|refine hKp _ _ ?_);clear hK hKp K Kp;try clear hanc anc)|((with_reducible refine And.intro ?_ ?_);exact zb)|((first|refine zr hE fun K Kp hK hKp=>?_|refine zd false mixed hE fun K Kp hK hKp anc hanc=>?_|(apply zm;exact zu;exact c;exact zs;exact zl));simp only[go_sem])|(refine zg (fun hg=>?_) (fun hg=>?_)<;>simp only[go_sem,hg])|(refine zc (fun hc=>?_) (fun hc=>?_)<;>try exact zh hc)|(refine K_ret ?_;refine zt hQ ?_))
 simp[AV.snap]
theorem types_same:∀ (N:Nat) (l:List Tx),Tx.szL l<N→N≤2 ^ 40→PCall Tryd.prog 54 [.sl (Tx.avL l),.sl (Tx.avL l)] (.bool true):=by
 intro N
 induction N with
 |zero=>intro l hl;omega
 |succ N IH=>
  intro l hl hN2
  have hln:=Tx.len_le l
  refine PCall.intro Tryd.func54 rfl isf54 (by simp[Tryd.f54]) (by simp[AV.cloL,AV.clo]) fun E Q hE hN hQ=>K_start ?_
  repeat'(first|apply nx|refine zx ?_|rw[zw]|((first|refine hK _ ?_|refine hKp _ _ ?_);clear hK hKp K Kp;try clear hanc anc)|((with_reducible refine And.intro ?_ ?_);exact zb)|((first|refine zr hE fun K Kp hK hKp=>?_|refine zd true mixed hE fun K Kp hK hKp anc hanc=>?_|refine zd false mixed hE fun K Kp hK hKp anc hanc=>?_);simp only[go_sem])|(refine zg (fun hg=>?_) (fun hg=>?_)<;>simp only[go_sem,hg])|(refine zc (fun hc=>?_) (fun hc=>?_)<;>try exact zh hc))
  refine K_loop (X:=Nat) (fun i=>i≤l.length) (fun i=>mkSt [(0,.sl (Tx.avL l)),(1,.sl (Tx.avL l)),(5,.i (i:Nat))] [] 0) (fun i=>l.length - i) 0 (Nat.zero_le _) (fun i=>i) ?_ ?_
  ·refine ent_mk (by simp[go_sem]) (by simp[go_sem]) (by simp) (by simp[hN])
  rintro i hi
  by_cases hlt:i<l.length
  ·obtain⟨x,hx⟩:=get?_of hlt
   have u1:=inc_u hlt (by omega)
   have hm:=Tx.mem_le (List.mem_of_getElem? hx)
   have c:=type_same (N:=N) (fun l h=>IH l h (by omega)) x (by omega)
   rw[Tx.av_eq] at c
   repeat'(first|apply nx|refine zx ?_|rw[zw]|((first|refine hK _ ?_|refine hKp _ _ ?_);clear hK hKp K Kp;try clear hanc anc)|((with_reducible refine And.intro ?_ ?_);exact zb)|((first|refine zr hE fun K Kp hK hKp=>?_|refine zd true mixed hE fun K Kp hK hKp anc hanc=>?_|refine zd false mixed hE fun K Kp hK hKp anc hanc=>?_|(apply zm;exact zu;exact c;exact zs;exact zl));simp only[go_sem,lt_dec hlt,hx,u1,Tx.av_eq])|(refine zg (fun hg=>?_) (fun hg=>?_)<;>simp only[go_sem,lt_dec hlt,hx,u1,Tx.av_eq,hg])|(refine zc (fun hc=>?_) (fun hc=>?_)<;>try exact zh hc))
   refine⟨i+1,hlt,by omega,fun i=>i,?_⟩
   refine ent_mk (by simp[go_sem]) (by simp[go_sem]) (by simp) (by simp[hN])
  ·obtain rfl:i=l.length:=by omega
   repeat'(first|apply nx|refine zx ?_|rw[zw]|((first|refine hK _ ?_|refine hKp _ _ ?_);clear hK hKp K Kp;try clear hanc anc)|((with_reducible refine And.intro ?_ ?_);exact zb)|((first|refine zr hE fun K Kp hK hKp=>?_|refine zd false mixed hE fun K Kp hK hKp anc hanc=>?_);simp only[go_sem,ge_dec])|(refine zg (fun hg=>?_) (fun hg=>?_)<;>simp only[go_sem,ge_dec,hg])|(refine zc (fun hc=>?_) (fun hc=>?_)<;>try exact zh hc)|(refine K_ret ?_;refine zt hQ ?_))
   simp[AV.snap]
theorem types_same' (l:List Tx) (h:Tx.szL l<2 ^ 40):PCall Tryd.prog 54 [.sl (Tx.avL l),.sl (Tx.avL l)] (.bool true):=types_same (2 ^ 40) l h (by omega)
theorem type_same' (t:Tx) (h:t.sz≤2 ^ 40):PCall Tryd.prog 30 [t.av,t.av] (.bool true):=type_same types_same' t h
theorem args_same (l:List Ad) (hl:adSz l≤2 ^ 40):PCall Tryd.prog 55 [.sl (adl l),.sl (adl l)] (.bool true):=by
 have hln:=ad_len l
 refine PCall.intro Tryd.func55 rfl isf55 (by simp[Tryd.f55]) (by simp[AV.cloL,AV.clo]) fun E Q hE hN hQ=>K_start ?_
 repeat'(first|apply nx|refine zx ?_|rw[zw]|((first|refine hK _ ?_|refine hKp _ _ ?_);clear hK hKp K Kp;try clear hanc anc)|((with_reducible refine And.intro ?_ ?_);exact zb)|((first|refine zr hE fun K Kp hK hKp=>?_|refine zd true mixed hE fun K Kp hK hKp anc hanc=>?_|refine zd false mixed hE fun K Kp hK hKp anc hanc=>?_);simp only[go_sem])|(refine zg (fun hg=>?_) (fun hg=>?_)<;>simp only[go_sem,hg])|(refine zc (fun hc=>?_) (fun hc=>?_)<;>try exact zh hc))
 refine K_loop (X:=Nat) (fun i=>i≤l.length) (fun i=>mkSt [(0,.sl (adl l)),(1,.sl (adl l)),(5,.i (i:Nat))] [] 0) (fun i=>l.length - i) 0 (Nat.zero_le _) (fun i=>i) ?_ ?_
 ·refine ent_mk (by simp[go_sem]) (by simp[go_sem]) (by simp) (by simp[hN])
 rintro i hi
 by_cases hlt:i<l.length
 ·obtain⟨x,hx⟩:=get?_of hlt
  have u1:=inc_u hlt (by omega)
  have hm:x.ty.sz≤adSz l:=sum_mem (f:=fun a:Ad=>a.ty.sz) (List.mem_of_getElem? hx)
  have c:=type_same' x.ty (by omega)
  rw[Tx.av_eq] at c
  repeat'(first|apply nx|refine zx ?_|rw[zw]|((first|refine hK _ ?_|refine hKp _ _ ?_);clear hK hKp K Kp;try clear hanc anc)|((with_reducible refine And.intro ?_ ?_);exact zb)|((first|refine zr hE fun K Kp hK hKp=>?_|refine zd true mixed hE fun K Kp hK hKp anc hanc=>?_|refine zd false mixed hE fun K Kp hK hKp anc hanc=>?_|(apply zm;exact zu;exact c;exact zs;exact zl));simp only[go_sem,lt_dec hlt,hx,u1,Ad.av])|(refine zg (fun hg=>?_) (fun hg=>?_)<;>simp only[go_sem,lt_dec hlt,hx,u1,Ad.av,hg])|(refine zc (fun hc=>?_) (fun hc=>?_)<;>try exact zh hc))
  refine⟨i+1,hlt,by omega,fun i=>i,?_⟩
  refine ent_mk (by simp[go_sem]) (by simp[go_sem]) (by simp) (by simp[hN])
 ·obtain rfl:i=l.length:=by omega
  repeat'(first|apply nx|refine zx ?_|rw[zw]|((first|refine hK _ ?_|refine hKp _ _ ?_);clear hK hKp K Kp;try clear hanc anc)|((with_reducible refine And.intro ?_ ?_);exact zb)|((first|refine zr hE fun K Kp hK hKp=>?_|refine zd false mixed hE fun K Kp hK hKp anc hanc=>?_);simp only[go_sem,ge_dec])|(refine zg (fun hg=>?_) (fun hg=>?_)<;>simp only[go_sem,ge_dec,hg])|(refine zc (fun hc=>?_) (fun hc=>?_)<;>try exact zh hc)|(refine K_ret ?_;refine zt hQ ?_))
  simp[AV.snap]
theorem expr_same (x:Ex) (hx:x.sz<2 ^ 40):PCall Tryd.prog 82 [x.av,x.av] (.bool true):=by
 unfold Ex.sz at hx
 have c1:=names_same x.ns (by omega)
 have c2:=types_same' x.ty (by omega)
 unfold Ex.av Ex.cs
 refine PCall.intro Tryd.func82 rfl isf82 (by simp[Tryd.f82]) (by simp[AV.cloL,AV.clo]) fun E Q hE hN hQ=>K_start ?_
 repeat'(first|apply nx|refine zx ?_|rw[zw]|((first|refine hK _ ?_|refine hKp _ _ ?_);clear hK hKp K Kp;try clear hanc anc)|((with_reducible refine And.intro ?_ ?_);exact zb)|((first|refine zr hE fun K Kp hK hKp=>?_|refine zd false mixed hE fun K Kp hK hKp anc hanc=>?_|(apply zm;exact zu;(first|exact c1|exact c2);exact zs;exact zl));simp only[go_sem])|(refine zg (fun hg=>?_) (fun hg=>?_)<;>simp only[go_sem,hg])|(refine zc (fun hc=>?_) (fun hc=>?_)<;>try exact zh hc)|(refine K_ret ?_;refine zt hQ ?_))
 simp[AV.snap]
theorem func_same {N:Nat} (h2:N≤2 ^ 40) (h:∀ l:List Lf.St,stSz l<N→PCall Tryd.prog 56 [.sl (stl l),.sl (stl l)] (.bool true)):∀ (f:Lf.Fd),f.sz≤N→PCall Tryd.prog 31 [f.av,f.av] (.bool true)
 | .mk nm ps bs cs ag res b off,ht=>by
  rw[Fd.sz,Tx.sz_a] at ht
  have c1:=names_same ps (by omega)
  have c2:=bounds_same bs (by omega)
  have c3:=args_same cs (by omega)
  have c4:=args_same ag (by omega)
  have c5:=type_same' res (by rw[Tx.sz_a];omega)
  rw[Tx.av_eq] at c5
  have c6:=h b (by omega)
  rw[Fd.av]
  refine PCall.intro Tryd.func31 rfl isf31 (by simp[Tryd.f31]) (by simp[AV.cloL,AV.clo]) fun E Q hE hN hQ=>K_start ?_
  repeat'(first|apply nx|refine zx ?_|rw[zw]|((first|refine hK _ ?_|refine hKp _ _ ?_);clear hK hKp K Kp;try clear hanc anc)|((with_reducible refine And.intro ?_ ?_);exact zb)|((first|refine zr hE fun K Kp hK hKp=>?_|refine zd false mixed hE fun K Kp hK hKp anc hanc=>?_|(apply zm;exact zu;(first|exact c1|exact c2|exact c3|exact c4|exact c5|exact c6);exact zs;exact zl));simp only[go_sem])|(refine zg (fun hg=>?_) (fun hg=>?_)<;>simp only[go_sem,hg])|(refine zc (fun hc=>?_) (fun hc=>?_)<;>try exact zh hc)|(refine K_ret ?_;refine zt hQ ?_))
  simp[AV.snap]
theorem stmt_same {N:Nat} (h2:N≤2 ^ 40) (h:∀ l:List Lf.St,stSz l<N→PCall Tryd.prog 56 [.sl (stl l),.sl (stl l)] (.bool true)):∀ (s:Lf.St),s.sz≤N→PCall Tryd.prog 72 [s.av,s.av] (.bool true)
 | .mk k nm ns ty ex th el ar fn off,hs=>by
  rw[St.sz,Ex.sz] at hs
  have har:=ar_len_le ar
  have hfn:=fd_len_le fn
  have c1:=names_same ns (by omega)
  have c2:=types_same' ty (by omega)
  have c3:=expr_same ex (by unfold Ex.sz;omega)
  unfold Ex.av Ex.cs at c3
  have c4:=h th (by omega)
  have c5:=h el (by omega)
  rw[St.av]
  refine PCall.intro Tryd.func72 rfl isf72 (by simp[Tryd.f72]) (by simp[AV.cloL,AV.clo]) fun E Q hE hN hQ=>K_start ?_
  simp only[List.append]
  repeat'(first|apply nx|refine zx ?_|rw[zw]|((first|refine hK _ ?_|refine hKp _ _ ?_);clear hK hKp K Kp;try clear hanc anc)|((with_reducible refine And.intro ?_ ?_);exact zb)|((first|refine zr hE fun K Kp hK hKp=>?_|refine zd true mixed hE fun K Kp hK hKp anc hanc=>?_|refine zd false mixed hE fun K Kp hK hKp anc hanc=>?_|(apply zm;exact zu;(first|exact c1|exact c2|exact c3|exact c4|exact c5);exact zs;exact zl));simp only[go_sem])|(refine zg (fun hg=>?_) (fun hg=>?_)<;>simp only[go_sem,hg])|(refine zc (fun hc=>?_) (fun hc=>?_)<;>try exact zh hc))
  refine K_loop (X:=Nat) (fun i=>i≤ar.length) (fun i=>mkSt [(2,.ptr 0 0),(3,.ptr 1 0),(5,.i (i:Nat))] [(0,.cells [.i k,.str nm,.sl (nml ns),.sl (Tx.avL ty),.i ex.k,.str ex.op,.str ex.nm,.str ex.vr,.sl (nml ex.ns),.i ex.num,.sl (Tx.avL ex.ty),.i ex.off,.sl (stl th),.sl (stl el),.sl (arl ar),.sl (fdl fn),.i off]),(1,.cells [.i k,.str nm,.sl (nml ns),.sl (Tx.avL ty),.i ex.k,.str ex.op,.str ex.nm,.str ex.vr,.sl (nml ex.ns),.i ex.num,.sl (Tx.avL ex.ty),.i ex.off,.sl (stl th),.sl (stl el),.sl (arl ar),.sl (fdl fn),.i off])] 2) (fun i=>ar.length - i) 0 (Nat.zero_le _) (fun i=>if i=1 then 1048576 else i) ?_ ?_
  ·refine ent_mk (by simp[go_sem]) (by simp[go_sem]) (by simp) (by simp[hN])
  rintro i hi
  by_cases hlti:i<ar.length
  case neg=>
   obtain rfl:i=ar.length:=by omega
   repeat'(first|apply nx|refine zx ?_|rw[zw]|((first|refine hK _ ?_|refine hKp _ _ ?_);clear hK hKp K Kp;try clear hanc anc)|((with_reducible refine And.intro ?_ ?_);exact zb)|((first|refine zr hE fun K Kp hK hKp=>?_|refine zd true mixed hE fun K Kp hK hKp anc hanc=>?_|refine zd false mixed hE fun K Kp hK hKp anc hanc=>?_);simp only[go_sem,ge_dec])|(refine zg (fun hg=>?_) (fun hg=>?_)<;>simp only[go_sem,ge_dec,hg])|(refine zc (fun hc=>?_) (fun hc=>?_)<;>try exact zh hc))
   refine K_loop (X:=Nat) (fun q=>q≤fn.length) (fun q=>mkSt [(2,.ptr 0 0),(3,.ptr 1 0),(6,.i (q:Nat))] [(0,.cells [.i k,.str nm,.sl (nml ns),.sl (Tx.avL ty),.i ex.k,.str ex.op,.str ex.nm,.str ex.vr,.sl (nml ex.ns),.i ex.num,.sl (Tx.avL ex.ty),.i ex.off,.sl (stl th),.sl (stl el),.sl (arl ar),.sl (fdl fn),.i off]),(1,.cells [.i k,.str nm,.sl (nml ns),.sl (Tx.avL ty),.i ex.k,.str ex.op,.str ex.nm,.str ex.vr,.sl (nml ex.ns),.i ex.num,.sl (Tx.avL ex.ty),.i ex.off,.sl (stl th),.sl (stl el),.sl (arl ar),.sl (fdl fn),.i off])] 2) (fun q=>fn.length - q) 0 (Nat.zero_le _) (fun i=>i) ?_ ?_
   ·refine ent_mk (by simp[go_sem]) (by simp[go_sem]) (by simp) (by simp[hN])
   rintro q hq
   by_cases hltq:q<fn.length
   case neg=>
    obtain rfl:q=fn.length:=by omega
    repeat'(first|apply nx|refine zx ?_|rw[zw]|((first|refine hK _ ?_|refine hKp _ _ ?_);clear hK hKp K Kp;try clear hanc anc)|((with_reducible refine And.intro ?_ ?_);exact zb)|((first|refine zr hE fun K Kp hK hKp=>?_|refine zd false mixed hE fun K Kp hK hKp anc hanc=>?_);simp only[go_sem,ge_dec])|(refine zg (fun hg=>?_) (fun hg=>?_)<;>simp only[go_sem,ge_dec,hg])|(refine zc (fun hc=>?_) (fun hc=>?_)<;>try exact zh hc)|(refine K_ret ?_;refine zt hQ ?_))
    simp[AV.snap]
   obtain⟨f,hf⟩:=get?_of hltq
   have v1:=inc_u hltq (by omega)
   have hm:=fd_mem_le (List.mem_of_getElem? hf)
   have cf:=func_same h2 h f (by omega)
   cases f with|mk a1 a2 a3 a4 a5 a6 a7 a8=>?_
   rw[Fd.av] at cf
   repeat'(first|apply nx|refine zx ?_|rw[zw]|((first|refine hK _ ?_|refine hKp _ _ ?_);clear hK hKp K Kp;try clear hanc anc)|((with_reducible refine And.intro ?_ ?_);exact zb)|((first|refine zr hE fun K Kp hK hKp=>?_|refine zd true mixed hE fun K Kp hK hKp anc hanc=>?_|refine zd false mixed hE fun K Kp hK hKp anc hanc=>?_|(apply zm;exact zu;exact cf;exact zs;exact zl));simp only[go_sem,lt_dec hltq,hf,Fd.av,v1])|(refine zg (fun hg=>?_) (fun hg=>?_)<;>simp only[go_sem,lt_dec hltq,hf,Fd.av,v1,hg])|(refine zc (fun hc=>?_) (fun hc=>?_)<;>try exact zh hc))
   refine⟨q+1,hltq,by omega,fun i=>i,?_⟩
   refine ent_mk (by simp[go_sem]) (by simp[go_sem]) (by simp) (by simp[hN])
  obtain⟨⟨v,ns1,b1,of1⟩,ha⟩:=get?_of hlti
  have u1:=inc_u hlti (by omega)
  have hm:=ar_mem_le (List.mem_of_getElem? ha)
  rw[Ar.sz] at hm
  have d1:=names_same ns1 (by omega)
  have d2:=h b1 (by omega)
  repeat'(first|apply nx|refine zx ?_|rw[zw]|((first|refine hK _ ?_|refine hKp _ _ ?_);clear hK hKp K Kp;try clear hanc anc)|((with_reducible refine And.intro ?_ ?_);exact zb)|((first|refine zr hE fun K Kp hK hKp=>?_|refine zd true mixed hE fun K Kp hK hKp anc hanc=>?_|refine zd false mixed hE fun K Kp hK hKp anc hanc=>?_|(apply zm;exact zu;(first|exact d1|exact d2);exact zs;exact zl));simp only[go_sem,lt_dec hlti,ha,Ar.av,u1])|(refine zg (fun hg=>?_) (fun hg=>?_)<;>simp only[go_sem,lt_dec hlti,ha,Ar.av,u1,hg])|(refine zc (fun hc=>?_) (fun hc=>?_)<;>try exact zh hc))
  refine⟨i+1,hlti,by omega,fun i=>i,?_⟩
  refine ent_mk (by simp[go_sem]) (by simp[go_sem]) (by simp) (by simp[hN])
theorem block_same:∀ (N:Nat) (l:List Lf.St),stSz l<N→N≤2 ^ 40→PCall Tryd.prog 56 [.sl (stl l),.sl (stl l)] (.bool true):=by
 intro N
 induction N with
 |zero=>intro l hl;omega
 |succ N IH=>
  intro l hl hN2
  have hln:=st_len_le l
  refine PCall.intro Tryd.func56 rfl isf56 (by simp[Tryd.f56]) (by simp[AV.cloL,AV.clo]) fun E Q hE hN hQ=>K_start ?_
  repeat'(first|apply nx|refine zx ?_|rw[zw]|((first|refine hK _ ?_|refine hKp _ _ ?_);clear hK hKp K Kp;try clear hanc anc)|((with_reducible refine And.intro ?_ ?_);exact zb)|((first|refine zr hE fun K Kp hK hKp=>?_|refine zd true mixed hE fun K Kp hK hKp anc hanc=>?_|refine zd false mixed hE fun K Kp hK hKp anc hanc=>?_);simp only[go_sem])|(refine zg (fun hg=>?_) (fun hg=>?_)<;>simp only[go_sem,hg])|(refine zc (fun hc=>?_) (fun hc=>?_)<;>try exact zh hc))
  refine K_loop (X:=Nat) (fun i=>i≤l.length) (fun i=>mkSt [(0,.sl (stl l)),(1,.sl (stl l)),(5,.i (i:Nat))] [] 0) (fun i=>l.length - i) 0 (Nat.zero_le _) (fun i=>i) ?_ ?_
  ·refine ent_mk (by simp[go_sem]) (by simp[go_sem]) (by simp) (by simp[hN])
  rintro i hi
  by_cases hlti:i<l.length
  case neg=>
   obtain rfl:i=l.length:=by omega
   repeat'(first|apply nx|refine zx ?_|rw[zw]|((first|refine hK _ ?_|refine hKp _ _ ?_);clear hK hKp K Kp;try clear hanc anc)|((with_reducible refine And.intro ?_ ?_);exact zb)|((first|refine zr hE fun K Kp hK hKp=>?_|refine zd false mixed hE fun K Kp hK hKp anc hanc=>?_);simp only[go_sem,ge_dec])|(refine zg (fun hg=>?_) (fun hg=>?_)<;>simp only[go_sem,ge_dec,hg])|(refine zc (fun hc=>?_) (fun hc=>?_)<;>try exact zh hc)|(refine K_ret ?_;refine zt hQ ?_))
   simp[AV.snap]
  obtain⟨s,hs⟩:=get?_of hlti
  have u1:=inc_u hlti (by omega)
  have hm:=st_mem_le (List.mem_of_getElem? hs)
  have c:=stmt_same (N:=N) (by omega) (fun l h=>IH l h (by omega)) s (by omega)
  cases s with|mk a1 a2 a3 a4 a5 a6 a7 a8 a9 a10=>?_
  rw[St.av] at c
  repeat'(first|apply nx|refine zx ?_|rw[zw]|((first|refine hK _ ?_|refine hKp _ _ ?_);clear hK hKp K Kp;try clear hanc anc)|((with_reducible refine And.intro ?_ ?_);exact zb)|((first|refine zr hE fun K Kp hK hKp=>?_|refine zd true mixed hE fun K Kp hK hKp anc hanc=>?_|refine zd false mixed hE fun K Kp hK hKp anc hanc=>?_|(apply zm;exact zu;exact c;exact zs;exact zl));simp only[go_sem,lt_dec hlti,hs,St.av,u1])|(refine zg (fun hg=>?_) (fun hg=>?_)<;>simp only[go_sem,lt_dec hlti,hs,St.av,u1,hg])|(refine zc (fun hc=>?_) (fun hc=>?_)<;>try exact zh hc))
  refine⟨i+1,hlti,by omega,fun i=>i,?_⟩
  refine ent_mk (by simp[go_sem]) (by simp[go_sem]) (by simp) (by simp[hN])
theorem func_same' (f:Lf.Fd) (h:f.sz≤2 ^ 40):PCall Tryd.prog 31 [f.av,f.av] (.bool true):=func_same (Nat.le_refl _) (fun l hl=>block_same _ l hl (Nat.le_refl _)) f h
theorem data_same (d:Dt) (h:1+d.ps.length+vdSz d.vs≤2 ^ 40):PCall Tryd.prog 28 [d.av,d.av] (.bool true):=by
 obtain⟨nm,ps,vs,dr,off⟩:=d
 simp only at h
 have hv:=vd_len vs
 have c1:=names_same ps (by omega)
 unfold Dt.av
 simp only
 refine PCall.intro Tryd.func28 rfl isf28 (by simp[Tryd.f28]) (by simp[AV.cloL,AV.clo]) fun E Q hE hN hQ=>K_start ?_
 repeat'(first|apply nx|refine zx ?_|rw[zw]|((first|refine hK _ ?_|refine hKp _ _ ?_);clear hK hKp K Kp;try clear hanc anc)|((with_reducible refine And.intro ?_ ?_);exact zb)|((first|refine zr hE fun K Kp hK hKp=>?_|refine zd true mixed hE fun K Kp hK hKp anc hanc=>?_|refine zd false mixed hE fun K Kp hK hKp anc hanc=>?_|(apply zm;exact zu;exact c1;exact zs;exact zl));simp only[go_sem])|(refine zg (fun hg=>?_) (fun hg=>?_)<;>simp only[go_sem,hg])|(refine zc (fun hc=>?_) (fun hc=>?_)<;>try exact zh hc))
 refine K_loop (X:=Nat) (fun i=>i≤vs.length) (fun i=>mkSt [(2,.ptr 0 0),(3,.ptr 1 0),(5,.i (i:Nat))] [(0,.cells [.str nm,.sl (nml ps),.sl (vdl vs),.i dr,.i off]),(1,.cells [.str nm,.sl (nml ps),.sl (vdl vs),.i dr,.i off])] 2) (fun i=>vs.length - i) 0 (Nat.zero_le _) (fun i=>if i=1 then 1048576 else i) ?_ ?_
 ·refine ent_mk (by simp[go_sem]) (by simp[go_sem]) (by simp) (by simp[hN])
 rintro i hi
 by_cases hlti:i<vs.length
 case neg=>
  obtain rfl:i=vs.length:=by omega
  repeat'(first|apply nx|refine zx ?_|rw[zw]|((first|refine hK _ ?_|refine hKp _ _ ?_);clear hK hKp K Kp;try clear hanc anc)|((with_reducible refine And.intro ?_ ?_);exact zb)|((first|refine zr hE fun K Kp hK hKp=>?_|refine zd false mixed hE fun K Kp hK hKp anc hanc=>?_);simp only[go_sem,ge_dec])|(refine zg (fun hg=>?_) (fun hg=>?_)<;>simp only[go_sem,ge_dec,hg])|(refine zc (fun hc=>?_) (fun hc=>?_)<;>try exact zh hc)|(refine K_ret ?_;refine zt hQ ?_))
  simp[AV.snap]
 obtain⟨v,hv1⟩:=get?_of hlti
 have u1:=inc_u hlti (by omega)
 have hm:1+Tx.szL v.fs≤vdSz vs:=sum_mem (f:=fun v:Vd=>1+Tx.szL v.fs) (List.mem_of_getElem? hv1)
 have d1:=types_same' v.fs (by omega)
 repeat'(first|apply nx|refine zx ?_|rw[zw]|((first|refine hK _ ?_|refine hKp _ _ ?_);clear hK hKp K Kp;try clear hanc anc)|((with_reducible refine And.intro ?_ ?_);exact zb)|((first|refine zr hE fun K Kp hK hKp=>?_|refine zd true mixed hE fun K Kp hK hKp anc hanc=>?_|refine zd false mixed hE fun K Kp hK hKp anc hanc=>?_|(apply zm;exact zu;exact d1;exact zs;exact zl));simp only[go_sem,lt_dec hlti,hv1,Vd.av,u1])|(refine zg (fun hg=>?_) (fun hg=>?_)<;>simp only[go_sem,lt_dec hlti,hv1,Vd.av,u1,hg])|(refine zc (fun hc=>?_) (fun hc=>?_)<;>try exact zh hc))
 refine⟨i+1,hlti,by omega,fun i=>i,?_⟩
 refine ent_mk (by simp[go_sem]) (by simp[go_sem]) (by simp) (by simp[hN])
theorem module_same (x:Md) (hx:x.sz<2 ^ 40):PCall Tryd.prog 11 [x.av,x.av] (.bool true):=by
 obtain⟨nm,us,ds,ts,ms,fs⟩:=x
 unfold Md.sz at hx
 simp only at hx
 have hd:=dt_len ds
 have hi:=im_len ms
 have hf:=fd_len_le fs
 have c1:=names_same us (by omega)
 unfold Md.av Md.cs
 simp only
 refine PCall.intro Tryd.func11 rfl isf11 (by simp[Tryd.f11]) (by simp[AV.cloL,AV.clo]) fun E Q hE hN hQ=>K_start ?_
 repeat'(first|apply nx|refine zx ?_|rw[zw]|((first|refine hK _ ?_|refine hKp _ _ ?_);clear hK hKp K Kp;try clear hanc anc)|((with_reducible refine And.intro ?_ ?_);exact zb)|((first|refine zr hE fun K Kp hK hKp=>?_|refine zd true mixed hE fun K Kp hK hKp anc hanc=>?_|refine zd false mixed hE fun K Kp hK hKp anc hanc=>?_|(apply zm;exact zu;exact c1;exact zs;exact zl));simp only[go_sem])|(refine zg (fun hg=>?_) (fun hg=>?_)<;>simp only[go_sem,hg])|(refine zc (fun hc=>?_) (fun hc=>?_)<;>try exact zh hc))
 refine K_loop (X:=Nat) (fun i=>i≤ds.length) (fun i=>mkSt [(2,.ptr 0 0),(3,.ptr 1 0),(5,.i (i:Nat))] [(0,.cells [.str nm,.sl (nml us),.sl (dtl ds),.sl (trl ts),.sl (iml ms),.sl (fdl fs)]),(1,.cells [.str nm,.sl (nml us),.sl (dtl ds),.sl (trl ts),.sl (iml ms),.sl (fdl fs)])] 2) (fun i=>ds.length - i) 0 (Nat.zero_le _) (fun i=>if i=1 then 1048576 else i) ?_ ?_
 ·refine ent_mk (by simp[go_sem]) (by simp[go_sem]) (by simp) (by simp[hN])
 rintro i hi
 by_cases hlti:i<ds.length
 case neg=>
  obtain rfl:i=ds.length:=by omega
  repeat'(first|apply nx|refine zx ?_|rw[zw]|((first|refine hK _ ?_|refine hKp _ _ ?_);clear hK hKp K Kp;try clear hanc anc)|((with_reducible refine And.intro ?_ ?_);exact zb)|((first|refine zr hE fun K Kp hK hKp=>?_|refine zd true mixed hE fun K Kp hK hKp anc hanc=>?_|refine zd false mixed hE fun K Kp hK hKp anc hanc=>?_);simp only[go_sem,ge_dec])|(refine zg (fun hg=>?_) (fun hg=>?_)<;>simp only[go_sem,ge_dec,hg])|(refine zc (fun hc=>?_) (fun hc=>?_)<;>try exact zh hc))
  refine K_loop (X:=Nat) (fun j=>j≤ts.length) (fun j=>mkSt [(2,.ptr 0 0),(3,.ptr 1 0),(6,.i (j:Nat))] [(0,.cells [.str nm,.sl (nml us),.sl (dtl ds),.sl (trl ts),.sl (iml ms),.sl (fdl fs)]),(1,.cells [.str nm,.sl (nml us),.sl (dtl ds),.sl (trl ts),.sl (iml ms),.sl (fdl fs)])] 2) (fun j=>ts.length - j) 0 (Nat.zero_le _) (fun i=>i) ?_ ?_
  ·refine ent_mk (by simp[go_sem]) (by simp[go_sem]) (by simp) (by simp[hN])
  rintro j hj
  by_cases hltj:j<ts.length
  case neg=>
   obtain rfl:j=ts.length:=by omega
   repeat'(first|apply nx|refine zx ?_|rw[zw]|((first|refine hK _ ?_|refine hKp _ _ ?_);clear hK hKp K Kp;try clear hanc anc)|((with_reducible refine And.intro ?_ ?_);exact zb)|((first|refine zr hE fun K Kp hK hKp=>?_|refine zd true mixed hE fun K Kp hK hKp anc hanc=>?_|refine zd false mixed hE fun K Kp hK hKp anc hanc=>?_);simp only[go_sem,ge_dec])|(refine zg (fun hg=>?_) (fun hg=>?_)<;>simp only[go_sem,ge_dec,hg])|(refine zc (fun hc=>?_) (fun hc=>?_)<;>try exact zh hc))
   refine K_loop (X:=Nat) (fun p=>p≤ms.length) (fun p=>mkSt [(2,.ptr 0 0),(3,.ptr 1 0),(7,.i (p:Nat))] [(0,.cells [.str nm,.sl (nml us),.sl (dtl ds),.sl (trl ts),.sl (iml ms),.sl (fdl fs)]),(1,.cells [.str nm,.sl (nml us),.sl (dtl ds),.sl (trl ts),.sl (iml ms),.sl (fdl fs)])] 2) (fun p=>ms.length - p) 0 (Nat.zero_le _) (fun i=>i) ?_ ?_
   ·refine ent_mk (by simp[go_sem]) (by simp[go_sem]) (by simp) (by simp[hN])
   rintro p hp
   by_cases hltp:p<ms.length
   case neg=>
    obtain rfl:p=ms.length:=by omega
    repeat'(first|apply nx|refine zx ?_|rw[zw]|((first|refine hK _ ?_|refine hKp _ _ ?_);clear hK hKp K Kp;try clear hanc anc)|((with_reducible refine And.intro ?_ ?_);exact zb)|((first|refine zr hE fun K Kp hK hKp=>?_|refine zd true mixed hE fun K Kp hK hKp anc hanc=>?_|refine zd false mixed hE fun K Kp hK hKp anc hanc=>?_);simp only[go_sem,ge_dec])|(refine zg (fun hg=>?_) (fun hg=>?_)<;>simp only[go_sem,ge_dec,hg])|(refine zc (fun hc=>?_) (fun hc=>?_)<;>try exact zh hc))
    refine K_loop (X:=Nat) (fun q=>q≤fs.length) (fun q=>mkSt [(2,.ptr 0 0),(3,.ptr 1 0),(10,.i (q:Nat))] [(0,.cells [.str nm,.sl (nml us),.sl (dtl ds),.sl (trl ts),.sl (iml ms),.sl (fdl fs)]),(1,.cells [.str nm,.sl (nml us),.sl (dtl ds),.sl (trl ts),.sl (iml ms),.sl (fdl fs)])] 2) (fun q=>fs.length - q) 0 (Nat.zero_le _) (fun i=>i) ?_ ?_
    ·refine ent_mk (by simp[go_sem]) (by simp[go_sem]) (by simp) (by simp[hN])
    rintro q hq
    by_cases hltq:q<fs.length
    case neg=>
     obtain rfl:q=fs.length:=by omega
     repeat'(first|apply nx|refine zx ?_|rw[zw]|((first|refine hK _ ?_|refine hKp _ _ ?_);clear hK hKp K Kp;try clear hanc anc)|((with_reducible refine And.intro ?_ ?_);exact zb)|((first|refine zr hE fun K Kp hK hKp=>?_|refine zd false mixed hE fun K Kp hK hKp anc hanc=>?_);simp only[go_sem,ge_dec])|(refine zg (fun hg=>?_) (fun hg=>?_)<;>simp only[go_sem,ge_dec,hg])|(refine zc (fun hc=>?_) (fun hc=>?_)<;>try exact zh hc)|(refine K_ret ?_;refine zt hQ ?_))
     simp[AV.snap]
    obtain⟨f,hf⟩:=get?_of hltq
    have v1:=inc_u hltq (by omega)
    have hm:=fd_mem_le (List.mem_of_getElem? hf)
    have cf:=func_same' f (by omega)
    cases f with|mk a1 a2 a3 a4 a5 a6 a7 a8=>?_
    rw[Fd.av] at cf
    repeat'(first|apply nx|refine zx ?_|rw[zw]|((first|refine hK _ ?_|refine hKp _ _ ?_);clear hK hKp K Kp;try clear hanc anc)|((with_reducible refine And.intro ?_ ?_);exact zb)|((first|refine zr hE fun K Kp hK hKp=>?_|refine zd true mixed hE fun K Kp hK hKp anc hanc=>?_|refine zd false mixed hE fun K Kp hK hKp anc hanc=>?_|(apply zm;exact zu;exact cf;exact zs;exact zl));simp only[go_sem,lt_dec hltq,hf,Fd.av,v1])|(refine zg (fun hg=>?_) (fun hg=>?_)<;>simp only[go_sem,lt_dec hltq,hf,Fd.av,v1,hg])|(refine zc (fun hc=>?_) (fun hc=>?_)<;>try exact zh hc))
    refine⟨q+1,hltq,by omega,fun i=>i,?_⟩
    refine ent_mk (by simp[go_sem]) (by simp[go_sem]) (by simp) (by simp[hN])
   obtain⟨x,hx⟩:=get?_of hltp
   have v1:=inc_u hltp (by omega)
   have hm:1+x.ps.length+x.bs.length+x.ty.sz≤imSz ms:=sum_mem (f:=fun x:Im=>1+x.ps.length+x.bs.length+x.ty.sz) (List.mem_of_getElem? hx)
   have d1:=names_same x.ps (by omega)
   have d2:=bounds_same x.bs (by omega)
   have d3:=type_same' x.ty (by omega)
   rw[Tx.av_eq] at d3
   repeat'(first|apply nx|refine zx ?_|rw[zw]|((first|refine hK _ ?_|refine hKp _ _ ?_);clear hK hKp K Kp;try clear hanc anc)|((with_reducible refine And.intro ?_ ?_);exact zb)|((first|refine zr hE fun K Kp hK hKp=>?_|refine zd true mixed hE fun K Kp hK hKp anc hanc=>?_|refine zd false mixed hE fun K Kp hK hKp anc hanc=>?_|(apply zm;exact zu;(first|exact d1|exact d2|exact d3);exact zs;exact zl));simp only[go_sem,lt_dec hltp,hx,Im.av,v1])|(refine zg (fun hg=>?_) (fun hg=>?_)<;>simp only[go_sem,lt_dec hltp,hx,Im.av,v1,hg])|(refine zc (fun hc=>?_) (fun hc=>?_)<;>try exact zh hc))
   refine⟨p+1,hltp,by omega,fun i=>i,?_⟩
   refine ent_mk (by simp[go_sem]) (by simp[go_sem]) (by simp) (by simp[hN])
  obtain⟨x,hx⟩:=get?_of hltj
  have v1:=inc_u hltj (by omega)
  repeat'(first|apply nx|refine zx ?_|rw[zw]|((first|refine hK _ ?_|refine hKp _ _ ?_);clear hK hKp K Kp;try clear hanc anc)|((with_reducible refine And.intro ?_ ?_);exact zb)|((first|refine zr hE fun K Kp hK hKp=>?_|refine zd true mixed hE fun K Kp hK hKp anc hanc=>?_|refine zd false mixed hE fun K Kp hK hKp anc hanc=>?_);simp only[go_sem,lt_dec hltj,hx,Tr.av,v1])|(refine zg (fun hg=>?_) (fun hg=>?_)<;>simp only[go_sem,lt_dec hltj,hx,Tr.av,v1,hg])|(refine zc (fun hc=>?_) (fun hc=>?_)<;>try exact zh hc))
  refine⟨j+1,hltj,by omega,fun i=>i,?_⟩
  refine ent_mk (by simp[go_sem]) (by simp[go_sem]) (by simp) (by simp[hN])
 obtain⟨x,hx⟩:=get?_of hlti
 have v1:=inc_u hlti (by omega)
 have hm:1+x.ps.length+vdSz x.vs≤dtSz ds:=sum_mem (f:=fun x:Dt=>1+x.ps.length+vdSz x.vs) (List.mem_of_getElem? hx)
 have d1:=data_same x (by omega)
 unfold Dt.av at d1
 repeat'(first|apply nx|refine zx ?_|rw[zw]|((first|refine hK _ ?_|refine hKp _ _ ?_);clear hK hKp K Kp;try clear hanc anc)|((with_reducible refine And.intro ?_ ?_);exact zb)|((first|refine zr hE fun K Kp hK hKp=>?_|refine zd true mixed hE fun K Kp hK hKp anc hanc=>?_|refine zd false mixed hE fun K Kp hK hKp anc hanc=>?_|(apply zm;exact zu;exact d1;exact zs;exact zl));simp only[go_sem,lt_dec hlti,hx,Dt.av,v1])|(refine zg (fun hg=>?_) (fun hg=>?_)<;>simp only[go_sem,lt_dec hlti,hx,Dt.av,v1,hg])|(refine zc (fun hc=>?_) (fun hc=>?_)<;>try exact zh hc))
 refine⟨i+1,hlti,by omega,fun i=>i,?_⟩
 refine ent_mk (by simp[go_sem]) (by simp[go_sem]) (by simp) (by simp[hN])
end Go.Proofs.YtffmphmiicnaeaaDoor

namespace Go.Lf
open Go Go.Am
theorem cloRow_of {α:Type} {f:α→AV} (h:∀ x,∀ c,c∈(f x).cells→c.clo=true) (l:List α):CloRow (l.map f):=by
 intro x hx c hc
 obtain⟨p,_,rfl⟩:=List.mem_map.1 hx
 exact h p c hc
theorem cloL_mem:∀ {l:List AV},AV.cloL l=true→∀ c,c∈l→c.clo=true
 |a::l,h,c,hc=>by
  rw[cloL_cons,Bool.and_eq_true] at h
  rcases List.mem_cons.1 hc with rfl|hc
  ·exact h.1
  ·exact cloL_mem h.2 c hc
theorem cells_clo {x:AV} (h:x.clo=true):∀ c,c∈x.cells→c.clo=true:=by
 intro c hc
 cases x with
 |agg l=>
  simp only[AV.cells] at hc
  simp only[AV.clo] at h
  exact cloL_mem h c hc
 |_=>simp only[AV.cells,List.mem_cons,List.not_mem_nil,or_false] at hc;subst hc;exact h
theorem szOk_of {α:Type} {f:α→AV} {n:Nat} (h:∀ x,(f x).cells.length=n) (l:List α):SzOk (l.map f) n:=by
 intro x hx
 obtain⟨p,_,rfl⟩:=List.mem_map.1 hx
 exact h p
theorem Tx.av_sz (t:Tx):t.av.cells.length=3:=by cases t;rw[Tx.av];rfl
theorem St.av_sz (t:St):t.av.cells.length=17:=by cases t;rw[St.av];rfl
theorem Ar.av_sz (t:Ar):t.av.cells.length=4:=by cases t;rw[Ar.av];rfl
theorem Fd.av_sz (t:Fd):t.av.cells.length=10:=by cases t;rw[Fd.av];rfl
theorem stl_clor (l:List St):CloRow (stl l):=by rw[stl_eq];exact cloRow_of (fun x=>cells_clo x.av_clo) l
@[go_sem] theorem stl_clort (l:List St):CloRow (stl l)=True:=eq_true (stl_clor l)
theorem stl_szok (l:List St):SzOk (stl l) 17:=by rw[stl_eq];exact szOk_of (fun x=>x.av_sz) l
theorem arl_clor (l:List Ar):CloRow (arl l):=by rw[arl_eq];exact cloRow_of (fun x=>cells_clo x.av_clo) l
theorem arl_szok (l:List Ar):SzOk (arl l) 4:=by rw[arl_eq];exact szOk_of (fun x=>x.av_sz) l
theorem fdl_clor (l:List Fd):CloRow (fdl l):=by rw[fdl_eq];exact cloRow_of (fun x=>cells_clo x.av_clo) l
theorem adl_clor (l:List Ad):CloRow (adl l):=cloRow_of (fun x=>cells_clo (Ad.av_clo x)) l
@[go_sem] theorem adl_clort (l:List Ad):CloRow (adl l)=True:=eq_true (adl_clor l)
theorem adl_szok (l:List Ad):SzOk (adl l) 6:=szOk_of (f:=Ad.av) (fun x=>rfl) l
theorem bdl_clor (l:List Bd):CloRow (bdl l):=cloRow_of (fun x=>cells_clo (Bd.av_clo x)) l
theorem nml_clor (l:List Nm):CloRow (nml l):=cloRow_of (f:=AV.str) (fun x=>cells_clo rfl) l
@[go_sem] theorem nml_clort (l:List Nm):CloRow (nml l)=True:=eq_true (nml_clor l)
theorem nml_szok (l:List Nm):SzOk (nml l) 1:=szOk_of (f:=AV.str) (fun x=>rfl) l
@[go_sem] theorem ba_eqB (a b:ByteArray):(a.toList==b.toList)=decide (a=b):=by
 by_cases h:a=b
 ·subst h;simp
 ·have h2:a.toList≠b.toList:=fun e=>h (by rw[ByteArray.toList_eq,ByteArray.toList_eq] at e;exact ByteArray.ext (Array.ext' e))
  rw[decide_eq_false h]
  simpa using h2
@[go_sem] theorem nml_nil:nml []=[]:=rfl
@[go_sem] theorem adl_nil:adl []=[]:=rfl
@[go_sem] theorem bdl_nil:bdl []=[]:=rfl
@[go_sem] theorem txl_nil:Tx.avL []=[]:=by rw[Tx.avL]
@[go_sem] theorem stl_nil:stl []=[]:=by rw[stl]
@[go_sem] theorem arl_nil:arl []=[]:=by rw[arl]
@[go_sem] theorem fdl_nil:fdl []=[]:=by rw[fdl]
theorem nml_snoc (l:List Nm) (x:Nm):nml l++[.str x]=nml (l++[x]):=by simp[nml]
theorem adl_snoc (l:List Ad) (x:Ad):adl l++[x.av]=adl (l++[x]):=by simp[adl]
theorem bdl_snoc (l:List Bd) (x:Bd):bdl l++[x.av]=bdl (l++[x]):=by simp[bdl]
end Go.Lf

set_option maxRecDepth 100000
namespace Go.Proofs.YtffmphmiicnaeaaDoor
open Go.Am Go.Proofs Go.Shelf
def growA_ren:Ren:=
{
 f:=fun x=>
  match x with
  |4=>67
  |n=>n,
 t:=fun x=>
  match x with
  |22=>22
  |25=>9
  |3=>3
  |4=>4
  |9=>9
  |20=>20
  |0=>0
  |n=>n,
 g:=fun n=>n }
theorem growA:Lays8.n4 Tryd.prog growA_ren where
 mixed:=by kernel_rfl
 f4:=⟨"slices.Grow[[]string,string]",of_decide_eq_true (id (Eq.refl true)),Tryd.func67⟩
 t0:=Tryd.underlying0
 a0:=Tryd.isAgg0
 z0:=Tryd.sizeOf0
 v0:=Tryd.zeroValue0
 t3:=Tryd.underlying3
 a3:=Tryd.isAgg3
 z3:=Tryd.sizeOf3
 v3:=Tryd.zeroValue3
 t4:=Tryd.underlying4
 a4:=Tryd.isAgg4
 z4:=Tryd.sizeOf4
 v4:=Tryd.zeroValue4
 t9:=Tryd.underlying9
 a9:=Tryd.isAgg9
 z9:=Tryd.sizeOf9
 v9:=Tryd.zeroValue9
 t20:=Tryd.underlying20
 a20:=Tryd.isAgg20
 z20:=Tryd.sizeOf20
 v20:=Tryd.zeroValue20
 t22:=Tryd.underlying22
 a22:=Tryd.isAgg22
 z22:=Tryd.sizeOf22
 v22:=Tryd.zeroValue22
def growB_ren:Ren:=
{
 f:=fun x=>
  match x with
  |4=>85
  |n=>n,
 t:=fun x=>
  match x with
  |22=>38
  |25=>55
  |3=>3
  |4=>4
  |9=>9
  |20=>20
  |0=>0
  |n=>n,
 g:=fun n=>n }
theorem growB:Lays8.n4 Tryd.prog growB_ren where
 mixed:=by kernel_rfl
 f4:=⟨"slices.Grow[[]leasehold/api.ArgDef,leasehold/api.ArgDef]",of_decide_eq_true (id (Eq.refl true)),Tryd.func85⟩
 t0:=Tryd.underlying0
 a0:=Tryd.isAgg0
 z0:=Tryd.sizeOf0
 v0:=Tryd.zeroValue0
 t3:=Tryd.underlying3
 a3:=Tryd.isAgg3
 z3:=Tryd.sizeOf3
 v3:=Tryd.zeroValue3
 t4:=Tryd.underlying4
 a4:=Tryd.isAgg4
 z4:=Tryd.sizeOf4
 v4:=Tryd.zeroValue4
 t9:=Tryd.underlying9
 a9:=Tryd.isAgg9
 z9:=Tryd.sizeOf9
 v9:=Tryd.zeroValue9
 t20:=Tryd.underlying20
 a20:=Tryd.isAgg20
 z20:=Tryd.sizeOf20
 v20:=Tryd.zeroValue20
 t22:=Tryd.underlying38
 a22:=Tryd.isAgg38
 z22:=Tryd.sizeOf38
 v22:=Tryd.zeroValue38
theorem mapM_len {α β:Type} {f:α→Option β} :∀ {l:List α} {m:List β},l.mapM f=some m→m.length=l.length
 | [],m,h=>by cases h;rfl
 |a::l,m,h=>by
  rw[List.mapM_cons] at h
  cases h1:f a with
  |none=>rw[h1] at h;cases h
  |some b=>
   cases h2:l.mapM f with
   |none=>rw[h1,h2] at h;cases h
   |some bs=>
    rw[h1,h2] at h
    cases h
    simp[mapM_len h2]
theorem grow_c {ρ0 : Ren} {F : Nat} (L : Lays8.n4 Tryd.prog ρ0) (hf : ρ0.f 4 = F) (hfn : isFn Tryd.prog F = true) {T : TI} (hT : ti Tryd.prog (ρ0.t 25) = some T) {zs : List AV} (hz : T.zero = some zs) (hzl : zs.length = T.size) (hs0 : 0 < T.size) (n : Nat) (hn : n * T.bytes ≤ 140737488355328) (hn2 : n ≤ 4611686018427387904) :
    ACall Tryd.prog F [.nilsl,.i n] (fun _=>none) 0 0 (fun r hp'=>r= .rw 0∧hp'=mkHp [(0,.row T.size [])]) (fun _ _=>False):=by
  refine⟨hfn,fun ρ V Z w args hs hnp hlt hsz hrel=>?_⟩
  have hV:∀ i,¬ V i:=fun i h=>absurd (hlt i h) (Nat.not_lt_zero i)
  have e1:args= #[.slice none 0 0,.int .i64 n]:=by
    have g0:=hrel 0 (by simp)
    have g1:=hrel 1 (by simp)
    have h3:args.size=2:=by simpa using hsz
    have h4:args.getD 0 undef= .slice none 0 0:=by
      generalize args.getD 0 undef=v at g0
      simp only[List.getD_cons_zero] at g0
      cases g0
      rfl
    have h5:args.getD 1 undef= .int .i64 n:=Rel.int_inv' (by simpa using g1)
    apply Array.ext
    · simpa using h3
    · intro i k1 k2
      rcases(by omega:i=0∨i=1) with rfl|rfl
      · simpa [Array.getD,h3] using h4
      · simpa [Array.getD,h3] using h5
  subst e1
  obtain⟨i0,u,hi,hu,hk,hsz0,hby,hzz⟩:=ti_spec hT
  have one:∀ id o,mkHp [(0,AObj.row T.size [])] id=some o→id=0∧o= .row T.size []:=by
    intro id o h
    simp only[mkHp,updo] at h
    split at h
    · rename_i e;cases h;exact⟨e,rfl⟩
    · cases h
  by_cases h0:n=0
  · subst h0
    have c:=Any8.slices_Grow_room L none 0 0 0 w (Nat.le_refl _) (by decide) (by decide) (Nat.le_refl _)
    rw[hf] at c
    refine c.mono ?_
    rintro e w' ⟨rfl,rfl⟩
    let r1:Ref:=⟨0,0,0,true,0⟩
    refine⟨fun i=>if i=0 then r1 else ρ i,fun i=>V i∨i=0,Z,mkHp [(0,.row T.size [])],⟨?_,?_,?_,?_,?_⟩,⟨fun _ _ _=>rfl,Nat.le_refl _,rfl,rfl,trivial⟩,fun id hid=>absurd hid (Nat.not_lt_zero _),fun _ _ h=>h,fun _ _ h=> .inl h,?_,.inl ⟨_,.rw 0,rfl,?_,rfl,rfl⟩⟩
    · intro id o ho
      obtain⟨rfl,rfl⟩:=one id o ho
      exact⟨.inr rfl,.inl ⟨rfl,rfl⟩⟩
    · intro id id' o o' b ho ho' _ _
      rw[(one id o ho).1,(one id' o' ho').1]
    · intro id o b ho hb off
      obtain⟨rfl,rfl⟩:=one id o ho
      have hb1:true=false:=hb.1
      cases hb1
    · exact hs.lt
    · exact hs.gl
    · intro id o b ho hb
      obtain⟨rfl,rfl⟩:=one id o ho
      have hb1:true=false:=hb.1
      cases hb1
    · exact Rel.rw (ρ:=fun i=>if i=0 then r1 else ρ i) 0 (.inr rfl)
  · obtain ⟨z, hz1, hz2⟩ : ∃ z, i0.zero = some z ∧ z.cells.toList.mapM avOf1 = some zs := by
      rw[hz] at hzz
      cases hz0:i0.zero with
      |none=>rw[hz0] at hzz;cases hzz
      |some z=>rw[hz0] at hzz;exact⟨z,rfl,hzz⟩
    have hzs:z.cells.size=T.size:=by
      have:=mapM_len hz2
      rw[hzl] at this
      simpa using this.symm
    have c:=Any8.slices_Grow_grow L i0 z hi hz1 (by omega) none 0 0 n [] w (Nat.le_refl _) (by omega) (by rw[hby,Nat.zero_add];exact hn) (by omega) (by simp) (fun _=>rfl) (fun a h=>by cases h)
    rw[hf] at c
    refine c.mono ?_
    rintro e w' ⟨rfl,rfl⟩
    have hG:=grownCap_ge w (0+n) 0 (ρ0.t 25)
    generalize grownCap w (0+n) 0 (ρ0.t 25)=G at hG ⊢
    generalize hcs:(#[]++Builtin.zeroCells z.cells (0+n - 0)++Builtin.zeroCells z.cells (G - (0+n)):Array Value)=cs
    have hcs2:cs.size=G*T.size:=by
      rw[← hcs]
      simp only[Array.size_append,size_zeroCells,hzs,List.size_toArray,List.length_nil]
      rw[Nat.zero_add, ← Nat.add_mul]
      congr 1
      omega
    let r1:Ref:=⟨w.heap.size,0,G,false,0⟩
    have hold:∀ b,b<w.heap.size→(w.drew.alloc (.cells cs (ρ0.t 25))).heap[b]? =w.heap[b]? :=fun b hb=>by
      show(w.heap.push _)[b]? =_
      rw[Array.getElem?_push,if_neg (by omega)]
    refine⟨fun i=>if i=0 then r1 else ρ i,fun i=>V i∨i=0,Z,mkHp [(0,.row T.size [])],⟨?_,?_,?_,?_,?_⟩,⟨fun b hb _=>hold b hb,?_,rfl,rfl,trivial⟩,fun id hid=>absurd hid (Nat.not_lt_zero _),fun _ _ h=>h,fun _ _ h=> .inl h,?_,.inl ⟨_,.rw 0,rfl,?_,rfl,rfl⟩⟩
    · intro id o ho
      obtain⟨rfl,rfl⟩:=one id o ho
      refine⟨.inr rfl,.inr ⟨rfl,cs,ρ0.t 25,?_,rfl,Nat.zero_le _,?_,fun i hi=>absurd hi (Nat.not_lt_zero _),fun i j hi=>absurd hi (Nat.not_lt_zero _)⟩⟩
      · show(w.heap.push _)[w.heap.size]? =_
        simp
      · show 0+G*T.size≤cs.size
        omega
    · intro id id' o o' b ho ho' _ _
      rw[(one id o ho).1,(one id' o' ho').1]
    · intro id o b ho hb off hz'
      obtain⟨rfl,rfl⟩:=one id o ho
      have a2:w.heap.size=b:=hb.2
      have:=hs.lt b off hz'
      omega
    · intro b off hz'
      have:=hs.lt b off hz'
      show b<(w.heap.push _).size
      simp
      omega
    · exact hs.gl.mono (fun b ⟨o,hz'⟩ _=>hold b (hs.lt b o hz')) fun _ _ h=>h
    · show w.heap.size≤(w.heap.push _).size
      simp
    · intro id o b ho hb hlt1
      obtain⟨rfl,rfl⟩:=one id o ho
      have a2:w.heap.size=b:=hb.2
      omega
    · exact Rel.rw (ρ:=fun i=>if i=0 then r1 else ρ i) 0 (.inr rfl)
theorem growA_c (n:Nat) (hn:n≤2 ^ 40):ACall Tryd.prog 67 [.nilsl,.i n] (fun _=>none) 0 0 (fun r hp'=>r= .rw 0∧hp'=mkHp [(0,.row 1 [])]) (fun _ _=>False):=
 grow_c growA rfl isf67 ti9 rfl rfl (by decide) n (by show n*16≤_;omega) (by omega)
theorem growB_c (n:Nat) (hn:n≤2 ^ 40):ACall Tryd.prog 85 [.nilsl,.i n] (fun _=>none) 0 0 (fun r hp'=>r= .rw 0∧hp'=mkHp [(0,.row 6 [])]) (fun _ _=>False):=
 grow_c growB rfl isf85 ti55 rfl rfl (by decide) n (by show n*80≤_;omega) (by omega)
end Go.Proofs.YtffmphmiicnaeaaDoor

set_option maxHeartbeats 4000000
set_option maxRecDepth 100000
namespace Go.Proofs.YtffmphmiicnaeaaDoor
open Go.Am Go.Proofs Go.Lf
open Classical
attribute [local irreducible] AW CallP CallB
theorem argument_c (a:Ad):PCall Tryd.prog 66 [a.av] ((argOf a).av):=by
 obtain⟨nm,⟨tn,ta,to⟩,cp,off⟩:=a
 unfold argOf
 simp only[Tx.o]
 by_cases h1:cp=1
 ·subst h1
  rw[if_pos rfl]
  simp only[Ad.av,Tx.n,Tx.a,Tx.o]
  refine PCall.intro Tryd.func66 rfl isf66 (by simp[Tryd.f66]) (by simp[AV.cloL,AV.clo]) fun E Q hE hN hQ=>K_start ?_
  repeat'(first|apply nx|refine zx ?_|rw[zw]|((first|refine hK _ ?_|refine hKp _ _ ?_);clear hK hKp K Kp;try clear hanc anc)|((with_reducible refine And.intro ?_ ?_);exact zb)|((first|refine zr hE fun K Kp hK hKp=>?_|refine zd true mixed hE fun K Kp hK hKp anc hanc=>?_|refine zd false mixed hE fun K Kp hK hKp anc hanc=>?_);simp only[go_sem])|(refine zg (fun hg=>?_) (fun hg=>?_)<;>simp only[go_sem,hg])|(refine zc (fun hc=>?_) (fun hc=>?_)<;>try exact zh hc))
  refine K_ret (hQ _ ⟨_,resA_cell (id:=1048576) (off:=0) (by simp only[go_sem]) ti55 (by simp only[go_sem];rfl) rfl,?_,?_,rfl⟩).1
  ·simp[AV.snapOk,AV.snapOkL,go_sem,updo,CloRow,AV.cells,AV.clo,Tx.avL_clo]
  ·simp[AV.snap,AV.snapL,updo,Tx.avL,Tx.av]
 rw[if_neg h1]
 by_cases h2:cp=2
 ·subst h2
  rw[if_pos rfl]
  simp only[Ad.av,Tx.n,Tx.a,Tx.o]
  refine PCall.intro Tryd.func66 rfl isf66 (by simp[Tryd.f66]) (by simp[AV.cloL,AV.clo]) fun E Q hE hN hQ=>K_start ?_
  repeat'(first|apply nx|refine zx ?_|rw[zw]|((first|refine hK _ ?_|refine hKp _ _ ?_);clear hK hKp K Kp;try clear hanc anc)|((with_reducible refine And.intro ?_ ?_);exact zb)|((first|refine zr hE fun K Kp hK hKp=>?_|refine zd true mixed hE fun K Kp hK hKp anc hanc=>?_|refine zd false mixed hE fun K Kp hK hKp anc hanc=>?_);simp only[go_sem])|(refine zg (fun hg=>?_) (fun hg=>?_)<;>simp only[go_sem,hg])|(refine zc (fun hc=>?_) (fun hc=>?_)<;>try exact zh hc))
  refine K_ret (hQ _ ⟨_,resA_cell (id:=1048576) (off:=0) (by simp only[go_sem]) ti55 (by simp only[go_sem];rfl) rfl,?_,?_,rfl⟩).1
  ·simp[AV.snapOk,AV.snapOkL,go_sem,updo,CloRow,AV.cells,AV.clo,Tx.avL_clo]
  ·simp[AV.snap,AV.snapL,updo,Tx.avL,Tx.av]
 rw[if_neg h2]
 have e1:(cp==1)=false:=by simpa using h1
 have e2:(cp==2)=false:=by simpa using h2
 simp only[Ad.av,Tx.n,Tx.a,Tx.o]
 refine PCall.intro Tryd.func66 rfl isf66 (by simp[Tryd.f66]) (by simp[AV.cloL,AV.clo]) fun E Q hE hN hQ=>K_start ?_
 repeat'(first|apply nx|refine zx ?_|rw[zw]|((first|refine hK _ ?_|refine hKp _ _ ?_);clear hK hKp K Kp;try clear hanc anc)|((with_reducible refine And.intro ?_ ?_);exact zb)|((first|refine zr hE fun K Kp hK hKp=>?_|refine zd true mixed hE fun K Kp hK hKp anc hanc=>?_|refine zd false mixed hE fun K Kp hK hKp anc hanc=>?_);simp only[go_sem,e1,e2,h1,h2])|(refine zg (fun hg=>?_) (fun hg=>?_)<;>simp only[go_sem,e1,e2,h1,h2,hg])|(refine zc (fun hc=>?_) (fun hc=>?_)<;>try exact zh hc))
 refine K_ret (hQ _ ⟨_,resA_cell (id:=1048576) (off:=0) (by simp only[go_sem]) ti55 (by simp only[go_sem];rfl) rfl,?_,?_,rfl⟩).1
 ·simp[AV.snapOk,AV.snapOkL,go_sem,updo,CloRow,AV.cells,AV.clo,Tx.avL_clo]
 ·simp[AV.snap,AV.snapL,updo,Tx.avL,Tx.av]
theorem concatS_c (a b:List Nm) (ha:a.length≤2 ^ 30) (hb:b.length≤2 ^ 30):PCall Tryd.prog 49 [.sl [.sl (nml a),.sl (nml b)]] (.sl (nml (a++b))):=by
 have u1:IntKind.i64.wrap ((a.length:Int)+(b.length:Int))=(a.length:Int)+(b.length:Int):=by rw[wrap64 (by omega) (by omega)]
 have u0:IntKind.i64.wrap (0+(a.length:Int))=(a.length:Int):=by rw[Int.zero_add,wrap64 (by omega) (by omega)]
 have hneg1:decide ((a.length:Int)<0)=false:=decide_eq_false (by omega)
 have hneg2:decide ((a.length:Int)+(b.length:Int)<0)=false:=decide_eq_false (by omega)
 refine PCall.intro Tryd.func49 rfl isf49 (by simp[Tryd.f49]) (by simp[AV.cloL,AV.clo]) fun E Q hE hN hQ=>K_start ?_
 repeat'(first|apply nx|refine zx ?_|rw[zw]|((first|refine hK _ ?_|refine hKp _ _ ?_);clear hK hKp K Kp;try clear hanc anc)|((with_reducible refine And.intro ?_ ?_);exact zb)|((first|refine zr hE fun K Kp hK hKp=>?_|refine zd true mixed hE fun K Kp hK hKp anc hanc=>?_|refine zd false mixed hE fun K Kp hK hKp anc hanc=>?_);simp only[go_sem])|(refine zg (fun hg=>?_) (fun hg=>?_)<;>simp only[go_sem,hg])|(refine zc (fun hc=>?_) (fun hc=>?_)<;>try exact zh hc))
 refine K_loop (X:=Nat×Int) (fun x=>x=(0,0)∨x=(1,(a.length:Int))∨x=(2,(a.length:Int)+(b.length:Int))) (fun x=>mkSt [(0,.sl [.sl (nml a),.sl (nml b)]),(3,.i x.2),(9,.sl [.sl (nml a),.sl (nml b)]),(10,.i 2),(11,.i (x.1:Nat))] [] 0) (fun x=>2 - x.1) (0,0) (.inl rfl) (fun i=>i) ?_ ?_
 ·refine ent_mk (by simp[go_sem]) (by simp[go_sem]) (by simp) (by simp[hN])
 rintro x (rfl|rfl|rfl)
 ·repeat'(first|apply nx|refine zx ?_|rw[zw]|((first|refine hK _ ?_|refine hKp _ _ ?_);clear hK hKp K Kp;try clear hanc anc)|((with_reducible refine And.intro ?_ ?_);exact zb)|((first|refine zr hE fun K Kp hK hKp=>?_|refine zd true mixed hE fun K Kp hK hKp anc hanc=>?_|refine zd false mixed hE fun K Kp hK hKp anc hanc=>?_);simp only[go_sem,u0,hneg1])|(refine zg (fun hg=>?_) (fun hg=>?_)<;>simp only[go_sem,u0,hneg1,hg])|(refine zc (fun hc=>?_) (fun hc=>?_)<;>try exact zh hc))
  refine⟨(1,(a.length:Int)),.inr (.inl rfl),(by show 2 - 1<2 - 0;decide),fun i=>i,?_⟩
  refine ent_mk (by simp[go_sem]) (by simp[go_sem]) (by simp) (by simp[hN])
 ·repeat'(first|apply nx|refine zx ?_|rw[zw]|((first|refine hK _ ?_|refine hKp _ _ ?_);clear hK hKp K Kp;try clear hanc anc)|((with_reducible refine And.intro ?_ ?_);exact zb)|((first|refine zr hE fun K Kp hK hKp=>?_|refine zd true mixed hE fun K Kp hK hKp anc hanc=>?_|refine zd false mixed hE fun K Kp hK hKp anc hanc=>?_);simp only[go_sem,u1,hneg2])|(refine zg (fun hg=>?_) (fun hg=>?_)<;>simp only[go_sem,u1,hneg2,hg])|(refine zc (fun hc=>?_) (fun hc=>?_)<;>try exact zh hc))
  refine⟨(2,(a.length:Int)+(b.length:Int)),.inr (.inr rfl),(by show 2 - 2<2 - 1;decide),fun i=>i,?_⟩
  refine ent_mk (by simp[go_sem]) (by simp[go_sem]) (by simp) (by simp[hN])
 repeat'(first|apply nx|refine zx ?_|rw[zw]|((first|refine hK _ ?_|refine hKp _ _ ?_);clear hK hKp K Kp;try clear hanc anc)|((with_reducible refine And.intro ?_ ?_);exact zb)|((first|refine zr hE fun K Kp hK hKp=>?_|refine zd true mixed hE fun K Kp hK hKp anc hanc=>?_|refine zd false mixed hE fun K Kp hK hKp anc hanc=>?_);simp only[go_sem])|(refine zg (fun hg=>?_) (fun hg=>?_)<;>simp only[go_sem,hg])|(refine zc (fun hc=>?_) (fun hc=>?_)<;>try exact zh hc))
 have hg:=growA_c (a.length+b.length) (by omega)
 rw[Int.natCast_add] at hg
 refine Hold.mk (CallB.newRow hg (by simp[AV.cloL,AV.clo]) (by rfl) ?_)
 simp only[go_sem]
 repeat'(first|apply nx|refine zx ?_|rw[zw]|((first|refine hK _ ?_|refine hKp _ _ ?_);clear hK hKp K Kp;try clear hanc anc)|((with_reducible refine And.intro ?_ ?_);exact zb)|((first|refine zr hE fun K Kp hK hKp=>?_|refine zd true mixed hE fun K Kp hK hKp anc hanc=>?_|refine zd false mixed hE fun K Kp hK hKp anc hanc=>?_);simp only[go_sem])|(refine zg (fun hg=>?_) (fun hg=>?_)<;>simp only[go_sem,hg])|(refine zc (fun hc=>?_) (fun hc=>?_)<;>try exact zh hc))
 have hF1:Fits a.length 16:=⟨by omega,by omega⟩
 have hF2:Fits (a.length+b.length) 16:=⟨by omega,by omega⟩
 refine K_loop (X:=Nat×List Nm) (fun x=>x=(0,[])∨x=(1,a)∨x=(2,a++b)) (fun x=>mkSt [(6,.rw 0),(25,.sl [.sl (nml a),.sl (nml b)]),(26,.i 2),(27,.i (x.1:Nat))] [(0,.row 1 (nml x.2))] 1) (fun x=>2 - x.1) (0,[]) (.inl rfl) (fun i=>if i=0 then 2097152 else i) ?_ ?_
 ·refine ent_mk (by simp[go_sem]) (by simp[go_sem]) (by simp) (by simp[hN])
 rintro x (rfl|rfl|rfl)
 ·repeat'(first|apply nx|refine zx ?_|rw[zw]|((first|refine hK _ ?_|refine hKp _ _ ?_);clear hK hKp K Kp;try clear hanc anc)|((with_reducible refine And.intro ?_ ?_);exact zb)|((first|refine zr hE fun K Kp hK hKp=>?_|refine zd true mixed hE fun K Kp hK hKp anc hanc=>?_|refine zd false mixed hE fun K Kp hK hKp anc hanc=>?_);simp only[go_sem])|(refine zg (fun hg=>?_) (fun hg=>?_)<;>simp only[go_sem,hg])|(refine zc (fun hc=>?_) (fun hc=>?_)<;>try exact zh hc))
  refine⟨⟨nml_szok a,by rw[Nat.zero_add];exact hF1⟩,?_⟩
  repeat'(first|apply nx|refine zx ?_|rw[zw]|((first|refine hK _ ?_|refine hKp _ _ ?_);clear hK hKp K Kp;try clear hanc anc)|((with_reducible refine And.intro ?_ ?_);exact zb)|((first|refine zr hE fun K Kp hK hKp=>?_|refine zd true mixed hE fun K Kp hK hKp anc hanc=>?_|refine zd false mixed hE fun K Kp hK hKp anc hanc=>?_);simp only[go_sem])|(refine zg (fun hg=>?_) (fun hg=>?_)<;>simp only[go_sem,hg])|(refine zc (fun hc=>?_) (fun hc=>?_)<;>try exact zh hc))
  refine⟨(1,a),.inr (.inl rfl),(by show 2 - 1<2 - 0;decide),fun i=>if i=0 then 6291457 else i,?_⟩
  refine ent_mk (by simp[go_sem]) (by simp[go_sem]) (by simp) (by simp[hN])
 ·repeat'(first|apply nx|refine zx ?_|rw[zw]|((first|refine hK _ ?_|refine hKp _ _ ?_);clear hK hKp K Kp;try clear hanc anc)|((with_reducible refine And.intro ?_ ?_);exact zb)|((first|refine zr hE fun K Kp hK hKp=>?_|refine zd true mixed hE fun K Kp hK hKp anc hanc=>?_|refine zd false mixed hE fun K Kp hK hKp anc hanc=>?_);simp only[go_sem])|(refine zg (fun hg=>?_) (fun hg=>?_)<;>simp only[go_sem,hg])|(refine zc (fun hc=>?_) (fun hc=>?_)<;>try exact zh hc))
  refine⟨⟨nml_szok b,hF2⟩,?_⟩
  repeat'(first|apply nx|refine zx ?_|rw[zw]|((first|refine hK _ ?_|refine hKp _ _ ?_);clear hK hKp K Kp;try clear hanc anc)|((with_reducible refine And.intro ?_ ?_);exact zb)|((first|refine zr hE fun K Kp hK hKp=>?_|refine zd true mixed hE fun K Kp hK hKp anc hanc=>?_|refine zd false mixed hE fun K Kp hK hKp anc hanc=>?_);simp only[go_sem])|(refine zg (fun hg=>?_) (fun hg=>?_)<;>simp only[go_sem,hg])|(refine zc (fun hc=>?_) (fun hc=>?_)<;>try exact zh hc))
  refine⟨(2,a++b),.inr (.inr rfl),(by show 2 - 2<2 - 1;decide),fun i=>if i=0 then 6291457 else i,?_⟩
  refine ent_mk (by simp[go_sem]) (by simp[go_sem, ← nml_app]) (by simp) (by simp[hN])
 ·repeat'(first|apply nx|refine zx ?_|rw[zw]|((first|refine hK _ ?_|refine hKp _ _ ?_);clear hK hKp K Kp;try clear hanc anc)|((with_reducible refine And.intro ?_ ?_);exact zb)|((first|refine zr hE fun K Kp hK hKp=>?_|refine zd false mixed hE fun K Kp hK hKp anc hanc=>?_);simp only[go_sem])|(refine zg (fun hg=>?_) (fun hg=>?_)<;>simp only[go_sem,hg])|(refine zc (fun hc=>?_) (fun hc=>?_)<;>try exact zh hc)|(refine K_ret ?_;refine zt hQ ?_))
  simp[AV.snap,updo]
theorem concatA_c (a b:List Ad) (ha:a.length≤2 ^ 30) (hb:b.length≤2 ^ 30):PCall Tryd.prog 74 [.sl [.sl (adl a),.sl (adl b)]] (.sl (adl (a++b))):=by
 have u1:IntKind.i64.wrap ((a.length:Int)+(b.length:Int))=(a.length:Int)+(b.length:Int):=by rw[wrap64 (by omega) (by omega)]
 have u0:IntKind.i64.wrap (0+(a.length:Int))=(a.length:Int):=by rw[Int.zero_add,wrap64 (by omega) (by omega)]
 have hneg1:decide ((a.length:Int)<0)=false:=decide_eq_false (by omega)
 have hneg2:decide ((a.length:Int)+(b.length:Int)<0)=false:=decide_eq_false (by omega)
 refine PCall.intro Tryd.func74 rfl isf74 (by simp[Tryd.f74]) (by simp[AV.cloL,AV.clo]) fun E Q hE hN hQ=>K_start ?_
 repeat'(first|apply nx|refine zx ?_|rw[zw]|((first|refine hK _ ?_|refine hKp _ _ ?_);clear hK hKp K Kp;try clear hanc anc)|((with_reducible refine And.intro ?_ ?_);exact zb)|((first|refine zr hE fun K Kp hK hKp=>?_|refine zd true mixed hE fun K Kp hK hKp anc hanc=>?_|refine zd false mixed hE fun K Kp hK hKp anc hanc=>?_);simp only[go_sem])|(refine zg (fun hg=>?_) (fun hg=>?_)<;>simp only[go_sem,hg])|(refine zc (fun hc=>?_) (fun hc=>?_)<;>try exact zh hc))
 refine K_loop (X:=Nat×Int) (fun x=>x=(0,0)∨x=(1,(a.length:Int))∨x=(2,(a.length:Int)+(b.length:Int))) (fun x=>mkSt [(0,.sl [.sl (adl a),.sl (adl b)]),(3,.i x.2),(9,.sl [.sl (adl a),.sl (adl b)]),(10,.i 2),(11,.i (x.1:Nat))] [] 0) (fun x=>2 - x.1) (0,0) (.inl rfl) (fun i=>i) ?_ ?_
 ·refine ent_mk (by simp[go_sem]) (by simp[go_sem]) (by simp) (by simp[hN])
 rintro x (rfl|rfl|rfl)
 ·repeat'(first|apply nx|refine zx ?_|rw[zw]|((first|refine hK _ ?_|refine hKp _ _ ?_);clear hK hKp K Kp;try clear hanc anc)|((with_reducible refine And.intro ?_ ?_);exact zb)|((first|refine zr hE fun K Kp hK hKp=>?_|refine zd true mixed hE fun K Kp hK hKp anc hanc=>?_|refine zd false mixed hE fun K Kp hK hKp anc hanc=>?_);simp only[go_sem,u0,hneg1])|(refine zg (fun hg=>?_) (fun hg=>?_)<;>simp only[go_sem,u0,hneg1,hg])|(refine zc (fun hc=>?_) (fun hc=>?_)<;>try exact zh hc))
  refine⟨(1,(a.length:Int)),.inr (.inl rfl),(by show 2 - 1<2 - 0;decide),fun i=>i,?_⟩
  refine ent_mk (by simp[go_sem]) (by simp[go_sem]) (by simp) (by simp[hN])
 ·repeat'(first|apply nx|refine zx ?_|rw[zw]|((first|refine hK _ ?_|refine hKp _ _ ?_);clear hK hKp K Kp;try clear hanc anc)|((with_reducible refine And.intro ?_ ?_);exact zb)|((first|refine zr hE fun K Kp hK hKp=>?_|refine zd true mixed hE fun K Kp hK hKp anc hanc=>?_|refine zd false mixed hE fun K Kp hK hKp anc hanc=>?_);simp only[go_sem,u1,hneg2])|(refine zg (fun hg=>?_) (fun hg=>?_)<;>simp only[go_sem,u1,hneg2,hg])|(refine zc (fun hc=>?_) (fun hc=>?_)<;>try exact zh hc))
  refine⟨(2,(a.length:Int)+(b.length:Int)),.inr (.inr rfl),(by show 2 - 2<2 - 1;decide),fun i=>i,?_⟩
  refine ent_mk (by simp[go_sem]) (by simp[go_sem]) (by simp) (by simp[hN])
 repeat'(first|apply nx|refine zx ?_|rw[zw]|((first|refine hK _ ?_|refine hKp _ _ ?_);clear hK hKp K Kp;try clear hanc anc)|((with_reducible refine And.intro ?_ ?_);exact zb)|((first|refine zr hE fun K Kp hK hKp=>?_|refine zd true mixed hE fun K Kp hK hKp anc hanc=>?_|refine zd false mixed hE fun K Kp hK hKp anc hanc=>?_);simp only[go_sem])|(refine zg (fun hg=>?_) (fun hg=>?_)<;>simp only[go_sem,hg])|(refine zc (fun hc=>?_) (fun hc=>?_)<;>try exact zh hc))
 have hg:=growB_c (a.length+b.length) (by omega)
 rw[Int.natCast_add] at hg
 refine Hold.mk (CallB.newRow hg (by simp[AV.cloL,AV.clo]) (by rfl) ?_)
 simp only[go_sem]
 repeat'(first|apply nx|refine zx ?_|rw[zw]|((first|refine hK _ ?_|refine hKp _ _ ?_);clear hK hKp K Kp;try clear hanc anc)|((with_reducible refine And.intro ?_ ?_);exact zb)|((first|refine zr hE fun K Kp hK hKp=>?_|refine zd true mixed hE fun K Kp hK hKp anc hanc=>?_|refine zd false mixed hE fun K Kp hK hKp anc hanc=>?_);simp only[go_sem])|(refine zg (fun hg=>?_) (fun hg=>?_)<;>simp only[go_sem,hg])|(refine zc (fun hc=>?_) (fun hc=>?_)<;>try exact zh hc))
 have hF1:Fits a.length 80:=⟨by omega,by omega⟩
 have hF2:Fits (a.length+b.length) 80:=⟨by omega,by omega⟩
 refine K_loop (X:=Nat×List Ad) (fun x=>x=(0,[])∨x=(1,a)∨x=(2,a++b)) (fun x=>mkSt [(6,.rw 0),(25,.sl [.sl (adl a),.sl (adl b)]),(26,.i 2),(27,.i (x.1:Nat))] [(0,.row 6 (adl x.2))] 1) (fun x=>2 - x.1) (0,[]) (.inl rfl) (fun i=>if i=0 then 2097152 else i) ?_ ?_
 ·refine ent_mk (by simp[go_sem]) (by simp[go_sem]) (by simp) (by simp[hN])
 rintro x (rfl|rfl|rfl)
 ·repeat'(first|apply nx|refine zx ?_|rw[zw]|((first|refine hK _ ?_|refine hKp _ _ ?_);clear hK hKp K Kp;try clear hanc anc)|((with_reducible refine And.intro ?_ ?_);exact zb)|((first|refine zr hE fun K Kp hK hKp=>?_|refine zd true mixed hE fun K Kp hK hKp anc hanc=>?_|refine zd false mixed hE fun K Kp hK hKp anc hanc=>?_);simp only[go_sem])|(refine zg (fun hg=>?_) (fun hg=>?_)<;>simp only[go_sem,hg])|(refine zc (fun hc=>?_) (fun hc=>?_)<;>try exact zh hc))
  refine⟨⟨adl_szok a,by rw[Nat.zero_add];exact hF1⟩,?_⟩
  repeat'(first|apply nx|refine zx ?_|rw[zw]|((first|refine hK _ ?_|refine hKp _ _ ?_);clear hK hKp K Kp;try clear hanc anc)|((with_reducible refine And.intro ?_ ?_);exact zb)|((first|refine zr hE fun K Kp hK hKp=>?_|refine zd true mixed hE fun K Kp hK hKp anc hanc=>?_|refine zd false mixed hE fun K Kp hK hKp anc hanc=>?_);simp only[go_sem])|(refine zg (fun hg=>?_) (fun hg=>?_)<;>simp only[go_sem,hg])|(refine zc (fun hc=>?_) (fun hc=>?_)<;>try exact zh hc))
  refine⟨(1,a),.inr (.inl rfl),(by show 2 - 1<2 - 0;decide),fun i=>if i=0 then 6291457 else i,?_⟩
  refine ent_mk (by simp[go_sem]) (by simp[go_sem]) (by simp) (by simp[hN])
 ·repeat'(first|apply nx|refine zx ?_|rw[zw]|((first|refine hK _ ?_|refine hKp _ _ ?_);clear hK hKp K Kp;try clear hanc anc)|((with_reducible refine And.intro ?_ ?_);exact zb)|((first|refine zr hE fun K Kp hK hKp=>?_|refine zd true mixed hE fun K Kp hK hKp anc hanc=>?_|refine zd false mixed hE fun K Kp hK hKp anc hanc=>?_);simp only[go_sem])|(refine zg (fun hg=>?_) (fun hg=>?_)<;>simp only[go_sem,hg])|(refine zc (fun hc=>?_) (fun hc=>?_)<;>try exact zh hc))
  refine⟨⟨adl_szok b,hF2⟩,?_⟩
  repeat'(first|apply nx|refine zx ?_|rw[zw]|((first|refine hK _ ?_|refine hKp _ _ ?_);clear hK hKp K Kp;try clear hanc anc)|((with_reducible refine And.intro ?_ ?_);exact zb)|((first|refine zr hE fun K Kp hK hKp=>?_|refine zd true mixed hE fun K Kp hK hKp anc hanc=>?_|refine zd false mixed hE fun K Kp hK hKp anc hanc=>?_);simp only[go_sem])|(refine zg (fun hg=>?_) (fun hg=>?_)<;>simp only[go_sem,hg])|(refine zc (fun hc=>?_) (fun hc=>?_)<;>try exact zh hc))
  refine⟨(2,a++b),.inr (.inr rfl),(by show 2 - 2<2 - 1;decide),fun i=>if i=0 then 6291457 else i,?_⟩
  refine ent_mk (by simp[go_sem]) (by simp[go_sem, ← adl_app]) (by simp) (by simp[hN])
 ·repeat'(first|apply nx|refine zx ?_|rw[zw]|((first|refine hK _ ?_|refine hKp _ _ ?_);clear hK hKp K Kp;try clear hanc anc)|((with_reducible refine And.intro ?_ ?_);exact zb)|((first|refine zr hE fun K Kp hK hKp=>?_|refine zd false mixed hE fun K Kp hK hKp anc hanc=>?_);simp only[go_sem])|(refine zg (fun hg=>?_) (fun hg=>?_)<;>simp only[go_sem,hg])|(refine zc (fun hc=>?_) (fun hc=>?_)<;>try exact zh hc)|(refine K_ret ?_;refine zt hQ ?_))
  simp[AV.snap,updo]
end Go.Proofs.YtffmphmiicnaeaaDoor

set_option maxHeartbeats 4000000
set_option maxRecDepth 100000
namespace Go.Lf
open Go Go.Am
def Vs.av (v:Vs):AV:= .agg [.str v.nm,.str v.li,.sl (adl v.cs)]
def vsl (l:List Vs):List AV:=l.map Vs.av
theorem vsl_clo (l:List Vs):AV.cloL (vsl l)=true:=cloLeq _ fun x hx=>by obtain⟨p,_,rfl⟩:=List.mem_map.1 hx;rfl
@[go_sem] theorem vsl_ren (m:Nat→Nat) (l:List Vs):AV.renL m (vsl l)=vsl l:=cloL_renL (vsl_clo l)
@[go_sem] theorem vsl_ids (p:Nat→Prop) (l:List Vs):AV.idsL p (vsl l)=True:=eq_true (cloL_idsL (vsl_clo l))
@[go_sem] theorem vsl_nil:vsl []=[]:=rfl
end Go.Lf
namespace Go.Proofs.YtffmphmiicnaeaaDoor
open Go.Am Go.Proofs Go.Lf
open Classical
attribute [local irreducible] AW CallP CallB
theorem index_c (l:List Nm) (n:Nm) (hl:l.length≤2 ^ 40):∃ i:Int,PCall Tryd.prog 78 [.sl (nml l),.str n] (.i i)∧decide (0≤i)=inN n l:=by
 refine⟨(match l.findIdx? (fun m=>decide (m=n)) with|some k=>(k:Int)|none=> -1),?_,?_⟩
 ·refine PCall.intro Tryd.func78 rfl isf78 (by simp[Tryd.f78]) (by simp[AV.cloL,AV.clo]) fun E Q hE hN hQ=>K_start ?_
  repeat'(first|apply nx|refine zx ?_|rw[zw]|((first|refine hK _ ?_|refine hKp _ _ ?_);clear hK hKp K Kp;try clear hanc anc)|((with_reducible refine And.intro ?_ ?_);exact zb)|((first|refine zr hE fun K Kp hK hKp=>?_|refine zd true mixed hE fun K Kp hK hKp anc hanc=>?_|refine zd false mixed hE fun K Kp hK hKp anc hanc=>?_);simp only[go_sem])|(refine zg (fun hg=>?_) (fun hg=>?_)<;>simp only[go_sem,hg])|(refine zc (fun hc=>?_) (fun hc=>?_)<;>try exact zh hc))
  refine K_loop (X:=Nat) (fun i=>i≤l.length∧∀ m,m∈l.take i→m≠n) (fun i=>mkSt [(0,.sl (nml l)),(1,.str n),(7,.i l.length),(8,.i (i:Nat))] [] 0) (fun i=>l.length - i) 0 ⟨Nat.zero_le _,by simp⟩ (fun i=>i) ?_ ?_
  ·refine ent_mk (by simp[go_sem]) (by simp[go_sem]) (by simp) (by simp[hN])
  rintro i ⟨hi,hne⟩
  by_cases hlt:i<l.length
  ·obtain⟨x,hx⟩:=get?_of hlt
   have u1:=inc_u hlt hl
   obtain⟨hx1,hx2⟩:=List.getElem?_eq_some_iff.1 hx
   by_cases hxn:n=x
   ·have e:l.findIdx? (fun m=>decide (m=n))=some i:=by
     rw[List.findIdx?_eq_some_iff_getElem]
     refine⟨hlt,by simp[hx2,hxn],fun j hj=>?_⟩
     have hjl:j<l.length:=by omega
     have:=hne l[j] (by rw[List.mem_take_iff_getElem];exact⟨j,by omega,rfl⟩)
     simpa using this
    rw[e] at hQ
    have q:decide (n=x)=true:=decide_eq_true hxn
    repeat'(first|apply nx|refine zx ?_|rw[zw]|((first|refine hK _ ?_|refine hKp _ _ ?_);clear hK hKp K Kp;try clear hanc anc)|((with_reducible refine And.intro ?_ ?_);exact zb)|((first|refine zr hE fun K Kp hK hKp=>?_|refine zd false mixed hE fun K Kp hK hKp anc hanc=>?_);simp only[go_sem,lt_dec hlt,hx,u1,q])|(refine zg (fun hg=>?_) (fun hg=>?_)<;>simp only[go_sem,lt_dec hlt,hx,u1,q,hg])|(refine zc (fun hc=>?_) (fun hc=>?_)<;>try exact zh hc)|(refine K_ret ?_;refine zt hQ ?_))
    simp[AV.snap]
   ·have q:decide (n=x)=false:=decide_eq_false hxn
    repeat'(first|apply nx|refine zx ?_|rw[zw]|((first|refine hK _ ?_|refine hKp _ _ ?_);clear hK hKp K Kp;try clear hanc anc)|((with_reducible refine And.intro ?_ ?_);exact zb)|((first|refine zr hE fun K Kp hK hKp=>?_|refine zd true mixed hE fun K Kp hK hKp anc hanc=>?_|refine zd false mixed hE fun K Kp hK hKp anc hanc=>?_);simp only[go_sem,lt_dec hlt,hx,u1,q])|(refine zg (fun hg=>?_) (fun hg=>?_)<;>simp only[go_sem,lt_dec hlt,hx,u1,q,hg])|(refine zc (fun hc=>?_) (fun hc=>?_)<;>try exact zh hc))
    refine⟨i+1,⟨hlt,fun m hm=>?_⟩,by omega,fun i=>i,?_⟩
    ·rw[List.take_add_one,hx] at hm
     rcases List.mem_append.1 hm with hm|hm
     ·exact hne m hm
     ·simp at hm;subst hm;exact fun e=>hxn e.symm
    refine ent_mk (by simp[go_sem]) (by simp[go_sem]) (by simp) (by simp[hN])
  ·obtain rfl:i=l.length:=by omega
   rw[List.take_length] at hne
   have e:l.findIdx? (fun m=>decide (m=n))=none:=by
    rw[List.findIdx?_eq_none_iff]
    intro m hm
    simpa using hne m hm
   rw[e] at hQ
   repeat'(first|apply nx|refine zx ?_|rw[zw]|((first|refine hK _ ?_|refine hKp _ _ ?_);clear hK hKp K Kp;try clear hanc anc)|((with_reducible refine And.intro ?_ ?_);exact zb)|((first|refine zr hE fun K Kp hK hKp=>?_|refine zd false mixed hE fun K Kp hK hKp anc hanc=>?_);simp only[go_sem,ge_dec])|(refine zg (fun hg=>?_) (fun hg=>?_)<;>simp only[go_sem,ge_dec,hg])|(refine zc (fun hc=>?_) (fun hc=>?_)<;>try exact zh hc)|(refine K_ret ?_;refine zt hQ ?_))
   simp[AV.snap]
 ·cases e:l.findIdx? (fun m=>decide (m=n)) with
  |none=>
   rw[List.findIdx?_eq_none_iff] at e
   have:inN n l=false:=by
    rw[inN,List.any_eq_false]
    intro m hm
    simpa using e m hm
   rw[this];rfl
  |some k=>
   rw[List.findIdx?_eq_some_iff_getElem] at e
   obtain⟨h1,h2,_⟩:=e
   have:inN n l=true:=by
    rw[inN,List.any_eq_true]
    exact⟨l[k],List.getElem_mem h1,h2⟩
   rw[this]
   exact decide_eq_true (by simp only;omega)
theorem contains_c (l:List Nm) (n:Nm) (hl:l.length≤2 ^ 40):PCall Tryd.prog 65 [.sl (nml l),.str n] (.bool (inN n l)):=by
 obtain⟨i,c,e⟩:=index_c l n hl
 rw[← e]
 refine PCall.intro Tryd.func65 rfl isf65 (by simp[Tryd.f65]) (by simp[AV.cloL,AV.clo]) fun E Q hE hN hQ=>K_start ?_
 repeat'(first|apply nx|refine zx ?_|rw[zw]|((first|refine hK _ ?_|refine hKp _ _ ?_);clear hK hKp K Kp;try clear hanc anc)|((with_reducible refine And.intro ?_ ?_);exact zb)|((first|refine zr hE fun K Kp hK hKp=>?_|refine zd false mixed hE fun K Kp hK hKp anc hanc=>?_|(apply zm;exact zu;exact c;exact zs;exact zl));simp only[go_sem])|(refine zg (fun hg=>?_) (fun hg=>?_)<;>simp only[go_sem,hg])|(refine zc (fun hc=>?_) (fun hc=>?_)<;>try exact zh hc)|(refine K_ret ?_;refine zt hQ ?_))
 simp[AV.snap]
theorem clone47_nc (l:List Ar) (hl:l.length≤2 ^ 30):ACall Tryd.prog 47 [.sl (arl l)] (fun _=>none) 0 0 (fun r hp'=>r= .rw 0∧hp'=mkHp [(0,.row 4 (arl l))]) (fun _ _=>False):=by
 refine ACall.of_bodyR Tryd.func47 isf47 rfl (by simp[Tryd.f47]) fun E Q hE hN hQ hQp=>K_start ?_
 have hsz:=arl_szok l
 cases l with
 |nil=>
  repeat(first|refine K_seq ?_|refine K_blk ?_|refine AW_skip ?_|refine Kq_norm_code ?_|refine Kq_norm_blk ?_)
  refine zr hE fun K Kp hK hKp=>?_
  simp only[go_sem]
  refine hK _ ?_;clear hK hKp K Kp;try clear hanc anc
  repeat(first|refine Kq_norm_code ?_|refine Kq_norm_blk ?_|refine Kq_norm_lp ?_)
  repeat(first|refine K_seq ?_|refine K_blk ?_|refine AW_skip ?_|refine Kq_norm_code ?_|refine Kq_norm_blk ?_)
  refine AW_nilq Tryd.underlying58 (by rw[hE];decide) (by rw[hE];decide) (by decide) (by simp only[go_sem]) fun b=>?_
  cases b
  ·repeat'(first|apply nx|refine zx ?_|rw[zw]|((first|refine hK _ ?_|refine hKp _ _ ?_);clear hK hKp K Kp;try clear hanc anc)|((with_reducible refine And.intro ?_ ?_);exact zb)|((first|refine zr hE fun K Kp hK hKp=>?_|refine zd true mixed hE fun K Kp hK hKp anc hanc=>?_|refine zd false mixed hE fun K Kp hK hKp anc hanc=>?_);simp only[go_sem])|(refine zg (fun hg=>?_) (fun hg=>?_)<;>simp only[go_sem,hg])|(refine zc (fun hc=>?_) (fun hc=>?_)<;>try exact zh hc))
   refine K_ret (hQ _ ⟨.rw 0,fun _=>3145728,_,1,resA_tmp (by simp only[go_sem,arl_nil]),(by simp[AV.ids,AV.idsL]),?_,rfl,rfl⟩).1
   show Ent _ _ _ (mkSt [] [(0,.row 4 (arl []))] 1)
   refine ent_mk (by simp[go_sem,arl_nil]) (by simp[go_sem,arl_nil]) (by simp) (by simp[hN])
  ·repeat'(first|apply nx|refine zx ?_|rw[zw]|((first|refine hK _ ?_|refine hKp _ _ ?_);clear hK hKp K Kp;try clear hanc anc)|((with_reducible refine And.intro ?_ ?_);exact zb)|((first|refine zr hE fun K Kp hK hKp=>?_|refine zd true mixed hE fun K Kp hK hKp anc hanc=>?_|refine zd false mixed hE fun K Kp hK hKp anc hanc=>?_);simp only[go_sem])|(refine zg (fun hg=>?_) (fun hg=>?_)<;>simp only[go_sem,hg])|(refine zc (fun hc=>?_) (fun hc=>?_)<;>try exact zh hc))
   refine AW_nil 2 4 (by rw[hE];decide) (by simp only[go_sem]) ?_
   refine K_ret (hQ _ ⟨.rw 0,fun _=>2097152,_,1,resA_tmp (by simp only[go_sem,arl_nil]),(by simp[AV.ids,AV.idsL]),?_,rfl,rfl⟩).1
   show Ent _ _ _ (mkSt [] [(0,.row 4 (arl []))] 1)
   refine ent_mk (by simp[go_sem,arl_nil]) (by simp[go_sem,arl_nil]) (by simp) (by simp[hN])
 |cons x l=>
  have e:arl (x::l)=x.av::arl l:=by rw[arl]
  repeat'(first|apply nx|refine zx ?_|rw[zw]|((first|refine hK _ ?_|refine hKp _ _ ?_);clear hK hKp K Kp;try clear hanc anc)|((with_reducible refine And.intro ?_ ?_);exact zb)|((first|refine zr hE fun K Kp hK hKp=>?_|refine zd true mixed hE fun K Kp hK hKp anc hanc=>?_|refine zd false mixed hE fun K Kp hK hKp anc hanc=>?_);simp only[go_sem,e])|(refine zg (fun hg=>?_) (fun hg=>?_)<;>simp only[go_sem,e,hg])|(refine zc (fun hc=>?_) (fun hc=>?_)<;>try exact zh hc))
  refine⟨⟨by rw[← e];exact hsz,(by simp only[List.length_cons] at hl;simp only[Fits];omega)⟩,?_⟩
  repeat'(first|apply nx|refine zx ?_|rw[zw]|((first|refine hK _ ?_|refine hKp _ _ ?_);clear hK hKp K Kp;try clear hanc anc)|((with_reducible refine And.intro ?_ ?_);exact zb)|((first|refine zr hE fun K Kp hK hKp=>?_|refine zd true mixed hE fun K Kp hK hKp anc hanc=>?_|refine zd false mixed hE fun K Kp hK hKp anc hanc=>?_);simp only[go_sem,e])|(refine zg (fun hg=>?_) (fun hg=>?_)<;>simp only[go_sem,e,hg])|(refine zc (fun hc=>?_) (fun hc=>?_)<;>try exact zh hc))
  refine K_ret (hQ _ ⟨.rw 0,fun _=>5242880,_,1,resA_tmp (by simp only[go_sem,e]),(by simp[AV.ids,AV.idsL]),?_,rfl,rfl⟩).1
  show Ent _ _ _ (mkSt [] [(0,.row 4 (arl (x::l)))] 1)
  refine ent_mk (by simp[go_sem,e]) (by simp[go_sem,e]) (by simp) (by simp[hN])
end Go.Proofs.YtffmphmiicnaeaaDoor
