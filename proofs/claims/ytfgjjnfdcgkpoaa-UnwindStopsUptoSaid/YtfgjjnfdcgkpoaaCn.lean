/- A part of the proof: an abstract machine for the walks, and what the walked functions compute. -/
import Derived.Test.YtfgjjnfdcgkpoaaCm
import Derived.Test.YtfgjjnfdcgkpoaaMr
set_option linter.unusedVariables false
set_option linter.unusedSimpArgs false
set_option maxHeartbeats 4000000
set_option maxRecDepth 100000
namespace Go.Proofs.Ytfgjjnfdcgkpoaa
open Go.Am Go.Proofs Go.Hv
open Classical
attribute [local irreducible] AW CallP CallB
structure TB (t:Tsk):Prop where
 f:t.fs.length≤8
 s:∀ a,a∈t.fs→a.sl.length≤8
theorem order_mem {a:Af} {i:Nat} (h:i∈orderL a):i<a.sl.length:=by
 have:=(sortO_perm (since a) (owns a)).mem_iff.1 h
 have:=(List.mem_filter.1 this).1
 simpa using this
theorem order_len (a:Af):(orderL a).length≤a.sl.length:=by
 rw[orderL,sortO_len];exact ownsT_len a a.sl.length
theorem valsA_len (a:Af):(valsA a).length≤a.sl.length:=Nat.le_trans (List.length_filterMap_le _ _) (order_len a)
def valsF (l:List Af) (j:Nat):List Vl:=(l.drop j).reverse.flatMap valsA
theorem valsF_step {l:List Af} {j:Nat} {a:Af} (h:l[j]? =some a):valsF l j=valsF l (j+1)++valsA a:=by
 unfold valsF
 rw[drop_of h];simp
theorem valsF_len {l:List Af} (h:∀ a,a∈l→a.sl.length≤8) (j:Nat):(valsF l j).length≤8*l.length:=by
 have key:∀ m:List Af,(∀ a,a∈m→a.sl.length≤8)→(m.reverse.flatMap valsA).length≤8*m.length:=by
  intro m
  induction m with
  |nil=>intro _;simp
  |cons a m ih=>
   intro hm
   have h1:=ih fun x hx=>hm x (by simp[hx])
   have h2:=valsA_len a
   have h3:=hm a (by simp)
   simp only[List.reverse_cons,List.flatMap_append,List.flatMap_cons,List.flatMap_nil,List.append_nil,List.length_append,List.length_cons]
   omega
 have:=key (l.drop j) fun a ha=>h a (List.mem_of_mem_drop ha)
 rw[List.length_drop] at this
 unfold valsF
 omega
theorem valsT_eq (t:Tsk):valsT t=valsF t.fs 0:=by simp[valsT,valsF]
theorem values_c (t:Tsk) (ht:TB t):PCall Try.prog 22 [t.av] (.sl (Vl.avL (valsT t))):=by
 have hf:=ht.f
 rw[Tsk.av_eq]
 have u0:IntKind.i64.wrap ((t.fs.length:Int) - 1)=(t.fs.length:Int) - 1:=by rw[wrap64 (by omega) (by omega)]
 refine PCall.intro Try.func22 rfl isf22 (by simp[Try.f22]) (by simp[AV.cloL,AV.clo]) fun E Q hE hN hQ=>K_start ?_
 repeat'(first|apply nx|refine zx ?_|rw[zw]|((first|refine hK _ ?_|refine hKp _ _ ?_);clear hK hKp K Kp;try clear hanc anc)|((with_reducible refine And.intro ?_ ?_);exact zb)|((first|refine zr hE fun K Kp hK hKp=>?_|refine zd false mixed hE fun K Kp hK hKp anc hanc=>?_);simp only[go_sem,u0])|(refine zg (fun hg=>?_) (fun hg=>?_)<;>simp only[go_sem,u0,hg])|(refine zc (fun hc=>?_) (fun hc=>?_)<;>try exact zh hc)|(refine K_ret ?_;refine zt hQ ?_))
 refine AW_nil 3 8 (by rw[hE];decide) (by simp only[go_sem]) ?_
 simp only[go_sem]
 refine K_loop (X:=Nat) (fun j=>j≤t.fs.length) (fun j=>mkSt [(1,.ptr 0 0),(3,.rw 1),(4,.i ((j:Nat) - 1:Int))] [(0,.cells t.cs),(1,.row 8 (Vl.avL (valsF t.fs j)))] 2) (fun j=>j) t.fs.length (Nat.le_refl _) (fun i=>if i=1 then 8388608 else i) ?_ ?_
 ·refine ent_mk (by simp[go_sem]) (by simp[go_sem,Tsk.cs,valsF,Vl.avL]) (by simp) (by simp[hN])
 intro j hj
 cases j with
 |zero=>
  repeat'(first|apply nx|refine zx ?_|rw[zw]|((first|refine hK _ ?_|refine hKp _ _ ?_);clear hK hKp K Kp;try clear hanc anc)|((with_reducible refine And.intro ?_ ?_);exact zb)|((first|refine zr hE fun K Kp hK hKp=>?_|refine zd false mixed hE fun K Kp hK hKp anc hanc=>?_);simp only[go_sem])|(refine zg (fun hg=>?_) (fun hg=>?_)<;>simp only[go_sem,hg])|(refine zc (fun hc=>?_) (fun hc=>?_)<;>try exact zh hc)|(refine K_ret ?_;refine zt hQ ?_))
  simp[AV.snap,valsT_eq,go_sem]
 |succ j=>
 obtain⟨a,ha⟩:=get?_of hj
 have c1:=rorder_c a (by have:=ht.s a (List.mem_of_getElem? ha);omega)
 have e1:((j+1:Nat) - 1:Int)=(j:Nat):=by omega
 have q:decide ((j:Int)≥0)=true:=decide_eq_true (by omega)
 rw[Af.av_eq] at c1
 simp only[e1]
 repeat'(first|apply nx|refine zx ?_|rw[zw]|((first|refine hK _ ?_|refine hKp _ _ ?_);clear hK hKp K Kp;try clear hanc anc)|((with_reducible refine And.intro ?_ ?_);exact zb)|((first|refine zr hE fun K Kp hK hKp=>?_|refine zd false mixed hE fun K Kp hK hKp anc hanc=>?_|(apply zm;exact zu;exact c1;exact zs;exact zl));simp only[go_sem,lt_dec hj,ha,Tsk.cs,Af.av_eq,q])|(refine zg (fun hg=>?_) (fun hg=>?_)<;>simp only[go_sem,lt_dec hj,ha,Tsk.cs,Af.av_eq,q,hg])|(refine zc (fun hc=>?_) (fun hc=>?_)<;>try exact zh hc)|(refine K_ret ?_;refine zt hQ ?_))
 have hol:=order_len a
 have has:=ht.s a (List.mem_of_getElem? ha)
 have hvl:=valsF_len ht.s (j+1)
 refine K_loop (X:=Nat) (fun k=>k≤(orderL a).length) (fun k=>mkSt [(1,.ptr 0 0),(3,.rw 1),(4,.i (j:Nat)),(5,.sl (il (ni (orderL a)))),(6,.i (k:Nat))] [(0,.cells t.cs),(1,.row 8 (Vl.avL (valsF t.fs (j+1)++((orderL a).take k).filterMap fun i=>a.sl[i]?)))] 2) (fun k=>(orderL a).length - k) 0 (Nat.zero_le _) (fun i=>i) ?_ ?_
 ·refine ent_mk (by simp[go_sem]) (by simp[go_sem,Tsk.cs]) (by simp) (by simp[hN])
 intro k hk
 by_cases hkl:k<(orderL a).length
 ·obtain⟨x,hx⟩:=get?_of hkl
  have hxl:=order_mem (List.mem_of_getElem? hx)
  obtain⟨v,hv⟩:=get?_of hxl
  have hst:((orderL a).take (k+1)).filterMap (fun i=>a.sl[i]?)=((orderL a).take k).filterMap (fun i=>a.sl[i]?)++[v]:=by
   rw[List.take_add_one,hx,List.filterMap_append];simp[hv]
  have hpl:(((orderL a).take k).filterMap fun i=>a.sl[i]?).length≤8:=by
   have:=List.length_filterMap_le (fun i=>a.sl[i]?) ((orderL a).take k)
   rw[List.length_take] at this
   omega
  have u1:IntKind.i64.wrap ((k:Int)+1)=((k+1:Nat):Int):=by rw[wrap64 (by omega) (by omega)];omega
  repeat'(first|apply nx|refine zx ?_|rw[zw]|((first|refine hK _ ?_|refine hKp _ _ ?_);clear hK hKp K Kp;try clear hanc anc)|((with_reducible refine And.intro ?_ ?_);exact zb)|((first|refine zr hE fun K Kp hK hKp=>?_|refine zd false mixed hE fun K Kp hK hKp anc hanc=>?_);simp only[go_sem,lt_dec hkl,lt_dec hj,il_len,ni_len,ni_get,hx,ha,hv,lt_dec hxl,Tsk.cs,Af.av_eq,Vl.av_eq,u1])|(refine zg (fun hg=>?_) (fun hg=>?_)<;>simp only[go_sem,lt_dec hkl,lt_dec hj,il_len,ni_len,ni_get,hx,ha,hv,lt_dec hxl,Tsk.cs,Af.av_eq,Vl.av_eq,u1,hg])|(refine zc (fun hc=>?_) (fun hc=>?_)<;>try exact zh hc)|(refine K_ret ?_;refine zt hQ ?_))
  refine⟨k+1,hkl,by omega,fun i=>if i=1 then 18874370 else i,?_⟩
  have e2:∀ l m:List Vl,Vl.avL (l++m)++[.agg [.i v.kind,.i v.id,.i v.var,.i v.n,.sl (Vl.avL v.fs),.bool v.excl,.sl (il v.path),.sl (il v.loans)]]=Vl.avL (l++(m++[v])):=fun l m=>by simp[Vl.avL_eq,Vl.av_eq]
  rw[hst]
  refine ent_mk (by simp[go_sem]) (by simp[go_sem,Tsk.cs,e2]) (by simp) (by simp[hN])
 ·obtain rfl:k=(orderL a).length:=by omega
  have u2:IntKind.i64.wrap ((j:Int) - 1)=(j:Int) - 1:=by rw[wrap64 (by omega) (by omega)]
  repeat'(first|apply nx|refine zx ?_|rw[zw]|((first|refine hK _ ?_|refine hKp _ _ ?_);clear hK hKp K Kp;try clear hanc anc)|((with_reducible refine And.intro ?_ ?_);exact zb)|((first|refine zr hE fun K Kp hK hKp=>?_|refine zd false mixed hE fun K Kp hK hKp anc hanc=>?_);simp only[go_sem,ge_dec,il_len,ni_len,u2])|(refine zg (fun hg=>?_) (fun hg=>?_)<;>simp only[go_sem,ge_dec,il_len,ni_len,u2,hg])|(refine zc (fun hc=>?_) (fun hc=>?_)<;>try exact zh hc)|(refine K_ret ?_;refine zt hQ ?_))
  refine⟨j,by omega,by omega,fun i=>i,?_⟩
  rw[List.take_length,valsF_step ha]
  refine ent_mk (by simp[go_sem]) (by simp[go_sem,Tsk.cs,valsA]) (by simp) (by simp[hN])
end Go.Proofs.Ytfgjjnfdcgkpoaa

set_option maxHeartbeats 4000000
set_option maxRecDepth 100000
namespace Go.Proofs.Ytfgjjnfdcgkpoaa
open Go.Am Go.Proofs Go.Hv
open Classical
attribute [local irreducible] AW CallP CallB CallY
def bk (l:List Af):Nat→List (List AV)
 |0=>[]
 |j+1=>(match l[j]? with|some a=>[.i (j:Nat),a.av]|none=>[.i (j:Nat),.nilp])::bk l j
theorem bk_len (l:List Af):∀ j,(bk l j).length=j
 |0=>rfl
 |j+1=>by rw[bk,List.length_cons,bk_len l j]
theorem bk_get {l:List Af} {a:Af} :∀ {j k:Nat},k<j→l[k]? =some a→(bk l j)[j - 1 - k]? =some [.i (k:Nat),a.av]
 |0,k,h,_=>by omega
 |j+1,k,h,ha=>by
  rw[bk]
  by_cases hk:k=j
  ·subst hk
   rw[show k+1 - 1 - k=0 by omega,ha];rfl
  ·rw[show j+1 - 1 - k=(j - 1 - k)+1 by omega,List.getElem?_cons_succ]
   exact bk_get (by omega) ha
theorem back_iter {l:List Af} (hl:l.length≤2 ^ 30) {a:Nat} :IterC Try.prog 87 [.ptr a 0] [(a,.cells [.sl (acl l)])] (bk l l.length):=by
 intro ln S objs np hn1 hcaps hL hob hnp Inv Fin IP hIP hround s h0
 simp only[AV.idsL,AV.ids] at hcaps
 obtain⟨ha1,_⟩:=hcaps
 have hca:∀ s,objs s a=some (.cells [.sl (acl l)]):=fun s=>hL s (a,.cells [.sl (acl l)]) (by simp)
 have a2:a<1000000:=by omega
 have ga:=hca s
 have u0:IntKind.i64.wrap ((l.length:Int) - 1)=(l.length:Int) - 1:=by rw[wrap64 (by omega) (by omega)]
 refine ACall.of_bodyR Try.func87 isf87 rfl (by simp[Try.f87]) fun E Q hE hN hQ hQp=>K_start ?_
 repeat'(first|apply nx|refine zx ?_|rw[zw]|((first|refine hK _ ?_|refine hKp _ _ ?_);clear hK hKp K Kp;try clear hanc anc)|((with_reducible refine And.intro ?_ ?_);exact zb)|((first|refine zr hE fun K Kp hK hKp=>?_|refine zd true mixed hE fun K Kp hK hKp anc hanc=>?_|refine zd false mixed hE fun K Kp hK hKp anc hanc=>?_);simp only[go_sem,ga,u0])|(refine zg (fun hg=>?_) (fun hg=>?_)<;>simp only[go_sem,ga,u0,hg])|(refine zc (fun hc=>?_) (fun hc=>?_)<;>try exact zh hc))
 refine K_loop (X:=Nat×S) (fun z=>z.1≤l.length∧Inv (l.length - z.1) z.2) (fun z=>⟨mkFr [(0,.fn (.yield ln) [] []),(1,.ptr a 0),(3,.i ((z.1:Nat) - 1:Int))],objs z.2,1000000⟩) (fun z=>z.1) (l.length,s) ⟨Nat.le_refl _,by simpa using h0⟩ (fun i=>i) ?_ ?_
 ·exact ent_idG (by simp[go_sem,a2]) (fun id o ho=>⟨ho,hob s id o ho⟩) (by rw[hN];exact hn1)
 rintro⟨j,s⟩ ⟨hj,hinv⟩
 simp only at hj hinv
 have ga:=hca s
 cases j with
 |zero=>
  have q:decide (((0:Nat):Int) - 1≥0)=false:=rfl
  repeat'(first|apply nx|refine zx ?_|rw[zw]|((first|refine hK _ ?_|refine hKp _ _ ?_);clear hK hKp K Kp;try clear hanc anc)|((with_reducible refine And.intro ?_ ?_);exact zb)|((first|refine zr hE fun K Kp hK hKp=>?_|refine zd true mixed hE fun K Kp hK hKp anc hanc=>?_|refine zd false mixed hE fun K Kp hK hKp anc hanc=>?_);simp only[go_sem,ga,q])|(refine zg (fun hg=>?_) (fun hg=>?_)<;>simp only[go_sem,ga,q,hg])|(refine zc (fun hc=>?_) (fun hc=>?_)<;>try exact zh hc))
  refine Kq_norm_nil ?_
  refine(hQ _ ⟨.tup [],fun i=>i,objs s,1000000,rfl,trivial,?_,rfl,s,.inl (by rw[bk_len];exact hinv),rfl⟩).2
  exact ent_idG (fr:=[]) (by simp) (fun id o ho=>⟨ho,hob s id o ho⟩) hn1
 |succ j=>
 obtain⟨f,hf⟩:=get?_of hj
 have hy:=bk_get (by omega:j<l.length) hf
 have hii:l.length - 1 - j=l.length - (j+1):=by omega
 rw[hii] at hy
 have hro:=hround _ _ s hinv hy
 have e1:((j+1:Nat) - 1:Int)=(j:Nat):=by omega
 have q:decide ((j:Int)≥0)=true:=decide_eq_true (by omega)
 rw[Af.av_eq] at hro
 simp only[e1]
 repeat'(first|apply nx|refine zx ?_|rw[zw]|((first|refine hK _ ?_|refine hKp _ _ ?_);clear hK hKp K Kp;try clear hanc anc)|((with_reducible refine And.intro ?_ ?_);exact zb)|((first|refine zr hE fun K Kp hK hKp=>?_|refine zd true mixed hE fun K Kp hK hKp anc hanc=>?_|refine zd false mixed hE fun K Kp hK hKp anc hanc=>?_);simp only[go_sem,ga,q,lt_dec hj,hf,Af.av_eq])|(refine zg (fun hg=>?_) (fun hg=>?_)<;>simp only[go_sem,ga,q,lt_dec hj,hf,Af.av_eq,hg])|(refine zc (fun hc=>?_) (fun hc=>?_)<;>try exact zh hc))
 refine Hold.mk (CallY.use hro (fun i=>i) (by rw[renL_id]) (by simp[AV.ids,AV.idsL,go_sem]) (fun id o ho=>⟨by rw[oren_id];exact ho,hob s id o ho⟩) (fun id id' o o' _ _ e=>e) (fun id hid=>⟨by omega,hnp s id hid⟩) ?_ ?_ ?_ ?_)
 ·rintro r hp' ⟨s',hr,rfl⟩
  refine⟨by rcases hr with ⟨rfl,_⟩|⟨rfl,_⟩<;>trivial,fun id o ho=>⟨by have:=(hob s' id o ho).1;omega,?_⟩⟩
  exact objids_mono _ (fun j hj=>by omega) (hob s' id o ho).2
 ·rintro r hp' ⟨s',hr,rfl⟩
  refine⟨clo_ids (hIP _ s' hr),fun id o ho=>⟨by have:=(hob s' id o ho).1;omega,?_⟩⟩
  exact objids_mono _ (fun j hj=>by omega) (hob s' id o ho).2
 ·rintro r hp' fr' hpn2 ⟨s',hr,rfl⟩ hfr hobj hold2
  simp only[St.put,putf] at hfr
  clear hQp
  subst hfr
  have hba:backM (fun i=>i) np (3097152+1048576*6) a=a:=backM_lt ha1
  have ga':=hobj a _ (hca s')
  rw[hba,AObj.ren] at ga'
  simp only[AV.renL,AV.ren,acl_ren] at ga'
  have hback:∀ fr0 nx0,Ent np (backM (fun i=>i) np (3097152+1048576*6)) ⟨fr0,hpn2,nx0⟩ ⟨mkFr [],objs s',1000000⟩:=fun fr0 nx0=>
   ent_gen (fr:=[]) (by simp) (fun id o ho=>⟨hobj id o ho,hob s' id o ho⟩) (fun id id' o o' _ _ e=>backM_id_inj (by omega) e) (fun id hid=>⟨backM_lt hid,by omega⟩)
  rcases hr with ⟨rfl,hi'⟩|⟨rfl,hf'⟩
  ·have u1:IntKind.i64.wrap ((j:Int) - 1)=(j:Int) - 1:=by rw[wrap64 (by omega) (by omega)]
   simp only[go_sem]
   refine hK _ ?_
   clear hK hKp K Kp
   repeat'(first|apply nx|refine zx ?_|rw[zw]|((first|refine hK _ ?_|refine hKp _ _ ?_);clear hK hKp K Kp;try clear hanc anc)|((with_reducible refine And.intro ?_ ?_);exact zb)|((first|refine zr hE fun K Kp hK hKp=>?_|refine zd true mixed hE fun K Kp hK hKp anc hanc=>?_|refine zd false mixed hE fun K Kp hK hKp anc hanc=>?_);simp only[go_sem,u1])|(refine zg (fun hg=>?_) (fun hg=>?_)<;>simp only[go_sem,u1,hg])|(refine zc (fun hc=>?_) (fun hc=>?_)<;>try exact zh hc))
   refine⟨(j,s'),⟨by omega,by rw[show l.length - j=l.length - (j+1)+1 by omega];exact hi'⟩,by simp only;omega,backM (fun i=>i) np (3097152+1048576*6),?_⟩
   rw[hN]
   exact ent_gen (by simp[go_sem,a2,hba]) (fun id o ho=>⟨hobj id o ho,hob s' id o ho⟩) (fun id id' o o' _ _ e=>backM_id_inj (by omega) e) (fun id hid=>⟨backM_lt hid,by omega⟩)
  ·simp only[go_sem]
   refine hK _ ?_
   clear hK hKp K Kp
   repeat'(first|apply nx|refine zx ?_|rw[zw]|((first|refine hK _ ?_|refine hKp _ _ ?_);clear hK hKp K Kp;try clear hanc anc)|((with_reducible refine And.intro ?_ ?_);exact zb)|((first|refine zr hE fun K Kp hK hKp=>?_|refine zd true mixed hE fun K Kp hK hKp anc hanc=>?_|refine zd false mixed hE fun K Kp hK hKp anc hanc=>?_);simp only[go_sem])|(refine zg (fun hg=>?_) (fun hg=>?_)<;>simp only[go_sem,hg])|(refine zc (fun hc=>?_) (fun hc=>?_)<;>try exact zh hc))
   exact K_ret (hQ _ ⟨.tup [],_,objs s',1000000,rfl,trivial,hback _ _,rfl,s',.inr hf',rfl⟩).1
 ·rintro x hp' hpn2 ⟨s',hx,rfl⟩ hobj _
  refine hKp _ _ (hQp _ _ ⟨x,_,_,1000000,rfl,clo_ids (hIP x s' hx),?_,s',hx,rfl⟩)
  refine ent_gen (fr:=[]) (by simp) (fun id o ho=>⟨hobj id o ho,hob s' id o ho⟩) (fun id id' o o' _ _ e=>backM_id_inj (by omega) e) (fun id hid=>⟨backM_lt hid,by omega⟩)

theorem bk_two:∀ (l:List Af) (j k:Nat) (y:List AV),(bk l j)[k]? =some y→y.length=2
 |l,0,k,y,h=>by simp[bk] at h
 |l,j+1,0,y,h=>by
  rw[bk,List.getElem?_cons_zero] at h
  cases h
  split<;>rfl
 |l,j+1,k+1,y,h=>bk_two l j k y (by simpa [bk] using h)
theorem bk_inv {l:List Af} {i:Nat} {y:List AV} (h:(bk l l.length)[i]? =some y):∃ k a,k+1+i=l.length∧l[k]? =some a∧y=[.i (k:Nat),a.av]:=by
 have hi:i<l.length:=by have:=(List.getElem?_eq_some_iff.1 h).1;rwa [bk_len] at this
 obtain⟨a,ha⟩:=get?_of (show l.length - 1 - i<l.length by omega)
 have:=bk_get (j:=l.length) (by omega:l.length - 1 - i<l.length) ha
 rw[show l.length - 1 - (l.length - 1 - i)=i by omega,h] at this
 exact⟨_,a,by omega,ha,by cases this;rfl⟩
theorem back_nc (l:List Af):ACall Try.prog 71 [.sl (acl l)] (fun _=>none) 0 0 (fun r hp'=>r= .fn (.func 87) [] [.ptr 0 0]∧hp'=mkHp [(0,.cells [.sl (acl l)])]) (fun _ _=>False):=by
 refine ACall.of_bodyR Try.func71 isf71 rfl (by simp[Try.f71]) fun E Q hE hN hQ hQp=>K_start ?_
 repeat'(first|apply nx|refine zx ?_|rw[zw]|((first|refine hK _ ?_|refine hKp _ _ ?_);clear hK hKp K Kp;try clear hanc anc)|((with_reducible refine And.intro ?_ ?_);exact zb)|((first|refine zr hE fun K Kp hK hKp=>?_|refine zd true mixed hE fun K Kp hK hKp anc hanc=>?_|refine zd false mixed hE fun K Kp hK hKp anc hanc=>?_);simp only[go_sem])|(refine zg (fun hg=>?_) (fun hg=>?_)<;>simp only[go_sem,hg])|(refine zc (fun hc=>?_) (fun hc=>?_)<;>try exact zh hc))
 refine K_ret (hQ _ ⟨.fn (.func 87) [] [.ptr 0 0],fun i=>i,_,1,resA_tmp (by simp only[go_sem]),(by simp[AV.ids,AV.idsL]),?_,rfl,rfl⟩).1
 show Ent _ _ _ (mkSt [] [(0,.cells [.sl (acl l)])] 1)
 refine ent_mk (by simp[go_sem]) (by simp[go_sem]) (by simp) (by simp[hN])
def objV (l:List Af) (ln np:Nat) (ob:Nat→Option AObj):Nat→Option AObj:=updo (updo ob np (some (.cells [.fn (.yield ln) [] []]))) (np+1) (some (.cells [.sl (acl l)]))
theorem objV_np (l:List Af) (ln np:Nat) (ob:Nat→Option AObj):objV l ln np ob np=some (.cells [.fn (.yield ln) [] []]):=by simp[objV,updo]
theorem objV_np1 (l:List Af) (ln np:Nat) (ob:Nat→Option AObj):objV l ln np ob (np+1)=some (.cells [.sl (acl l)]):=by simp[objV,updo]
theorem objV_old {l:List Af} {ln np:Nat} {ob:Nat→Option AObj} {id:Nat} {o:AObj} (ho:ob id=some o) (h1:∀ id o,ob id=some o→¬ (np≤id∧id<np+3)):objV l ln np ob id=some o:=by
 have:=h1 id o ho
 simp only[objV,updo]
 rw[if_neg (by omega),if_neg (by omega)];exact ho
theorem objV_inv {l:List Af} {ln np:Nat} {ob:Nat→Option AObj} {id:Nat} {o:AObj} (ho:objV l ln np ob id=some o):(id=np∧o= .cells [.fn (.yield ln) [] []])∨(id=np+1∧o= .cells [.sl (acl l)])∨(id≠np∧id≠np+1∧ob id=some o):=by
 simp only[objV,updo] at ho
 split at ho
 ·cases ho;exact .inr (.inl ⟨by assumption,rfl⟩)
 ·split at ho
  ·cases ho;exact .inl ⟨by assumption,rfl⟩
  ·exact .inr (.inr ⟨by assumption,by assumption,ho⟩)
theorem ren_hole {np B:Nat} {m:Nat→Nat} (hm:∀ j,j<B→¬ (np≤j∧j<np+3)→m j=j) {o:AObj} (ho:o.ids (fun j=>j<B∧¬ (np≤j∧j<np+3))):o.ren m=o:=by
 rw[oren_congr (m':=fun i=>i) (fun j hj=>hm j hj.1 hj.2) ho,oren_id]
def mY (np B:Nat) (id:Nat):Nat:=if(np≤id∧id<np+3)∨id=1000000 then id else backM (fun i=>i) np B id
theorem mY_in {np B id:Nat} (h:(np≤id∧id<np+3)∨id=1000000):mY np B id=id:=if_pos h
theorem mY_out {np B id:Nat} (h:¬ (np≤id∧id<np+3)) (h2:id<1000000):mY np B id=backM (fun i=>i) np B id:=if_neg (by omega)
theorem ent_yv {l : List Af} {ln np B : Nat} (hB : 1000000 < B) (hnp : np + 3 ≤ 900000) {ob : Nat → Option AObj} (hob : ∀ id o, ob id = some o → (id < 1000000 ∧ ¬ (np ≤ id ∧ id < np + 3)) ∧ o.ids (fun j => j < 1000000 ∧ ¬ (np ≤ j ∧ j < np + 3)))
    {fr':Nat→Option AV} {hpn:Nat→Option AObj} {n':Nat} {q:Lp} {X:AObj} (hX:X.ids (fun _=>False)) (hobj:∀ j o,ob j=some o→hpn (backM (fun i=>i) np B j)=some (o.ren (backM (fun i=>i) np B)))
    (h0:hpn np=some (.cells [.fn (.yield ln) [] []])) (h1:hpn (np+1)=some (.cells [.sl (acl l)])) (h2:hpn (np+2)=some (.lp q [.ptr np 0])) (h3:hpn 1000000=some X) {fr:List (Nat×AV)} (hfr:∀ p,p∈fr→fr' p.1=some p.2∧p.2.ids (fun j=>j=np∨j=1000000)):
    Ent (np+3) (mY np B) ⟨fr',hpn,n'⟩ ⟨mkFr fr,updo (updo (objV l ln np ob) (np+2) (some (.lp q [.ptr np 0]))) 1000000 (some X),1000001⟩:=by
  have hinv:∀ id o,updo (updo (objV l ln np ob) (np+2) (some (.lp q [.ptr np 0]))) 1000000 (some X) id=some o→(id=np∧o= .cells [.fn (.yield ln) [] []])∨(id=np+1∧o= .cells [.sl (acl l)])∨(id=np+2∧o= .lp q [.ptr np 0])∨(id=1000000∧o=X)∨(id<1000000∧¬ (np≤id∧id<np+3)∧ob id=some o):=by
    intro id o ho
    simp only[updo] at ho
    split at ho
    · cases ho;right;right;right;left;exact⟨by assumption,rfl⟩
    · split at ho
      · cases ho;right;right;left;exact⟨by assumption,rfl⟩
      · rcases objV_inv ho with ⟨h,h'⟩|⟨h,h'⟩|⟨_,_,h⟩
        · exact .inl ⟨h,h'⟩
        · exact .inr (.inl ⟨h,h'⟩)
        · have:=(hob id o h).1
          exact .inr (.inr (.inr (.inr ⟨this.1,this.2,h⟩)))
  have hback:∀ id,id<1000000→backM (fun i=>i) np B id=id∧id<np∨(backM (fun i=>i) np B id>1000000∧np≤id):=by
    intro id hid
    by_cases h:id<np
    · exact .inl ⟨backM_lt h,h⟩
    · right;rw[backM_ge (by omega)];omega
  refine ent_gen (fun p hp=>?_) (fun id o ho=>?_) (fun id id' o o' ho ho' e=>?_) (fun id hid=>⟨?_,by omega⟩)
  · obtain⟨g1,g2⟩:=hfr p hp
    rw[ren_cong (m':=fun i=>i) (fun j hj=>by rcases hj with rfl|rfl<;>exact mY_in (by omega)) g2,ren_id]
    exact⟨g1,ids_imp (fun j hj=>by rcases hj with rfl|rfl<;>omega) g2⟩
  · rcases hinv id o ho with ⟨rfl,rfl⟩|⟨rfl,rfl⟩|⟨rfl,rfl⟩|⟨rfl,rfl⟩|⟨g1,g2,g3⟩
    · rw[mY_in (by omega)];exact⟨by simpa [AObj.ren,AV.renL,AV.ren] using h0,by omega,by simp[AObj.ids,AV.idsL,AV.ids]⟩
    · rw[mY_in (by omega)];exact⟨by simpa [AObj.ren,AV.renL,AV.ren,acl_ren] using h1,by omega,by simp[AObj.ids,AV.idsL,AV.ids,go_sem]⟩
    · rw[mY_in (by omega)];exact⟨by simpa [AObj.ren,AV.renL,AV.ren,mY_in (np:=np) (B:=B) (id:=np) (by omega)] using h2,by omega,by simp[AObj.ids,AV.idsL,AV.ids];omega⟩
    · rw[mY_in (by omega)]
      refine⟨?_,by omega,objids_mono _ (fun j hj=>hj.elim) hX⟩
      rw[oren_congr (m':=fun i=>i) (fun j hj=>hj.elim) hX,oren_id];exact h3
    · rw[mY_out g2 g1]
      have g4:=(hob id o g3).2
      refine⟨?_,by omega,objids_mono _ (fun j hj=>by omega) g4⟩
      rw[oren_congr (m':=backM (fun i=>i) np B) (fun j hj=>mY_out hj.2 hj.1) g4]
      exact hobj id o g3
  · have key : ∀ id o, updo (updo (objV l ln np ob) (np + 2) (some (.lp q [.ptr np 0]))) 1000000 (some X) id = some o → (mY np B id = id ∧ ((np ≤ id ∧ id < np + 3) ∨ id = 1000000)) ∨ (mY np B id = backM (fun i => i) np B id ∧ id < 1000000 ∧ ¬ (np ≤ id ∧ id < np + 3)) := by
      intro id o ho
      rcases hinv id o ho with ⟨rfl,rfl⟩|⟨rfl,rfl⟩|⟨rfl,rfl⟩|⟨rfl,rfl⟩|⟨g1,g2,g3⟩
      · exact .inl ⟨mY_in (by omega),by omega⟩
      · exact .inl ⟨mY_in (by omega),by omega⟩
      · exact .inl ⟨mY_in (by omega),by omega⟩
      · exact .inl ⟨mY_in (by omega),by omega⟩
      · exact .inr ⟨mY_out g2 g1,g1,g2⟩
    rcases key id o ho with ⟨a1,a2⟩|⟨a1,a2,a3⟩<;>rcases key id' o' ho' with ⟨b1,b2⟩|⟨b1,b2,b3⟩
    · omega
    · rcases hback id' b2 with h|h<;>omega
    · rcases hback id a2 with h|h<;>omega
    · rw[a1,b1] at e;exact backM_id_inj (by omega) e
  · by_cases h:id<np
    · rw[mY_out (by omega) (by omega),backM_lt h]
    · exact mY_in (by omega)
theorem fm_all {α β:Type} {f:α→Option β} :∀ {l:List α},(∀ x,x∈l→f x≠none)→(l.filterMap f).length=l.length∧∀ j:Nat,(l.filterMap f)[j]? =(l[j]?).bind f
 | [],_=>⟨rfl,fun j=>by simp⟩
 |x::l,h=>by
  obtain⟨g1,g2⟩:=fm_all (l:=l) fun y hy=>h y (by simp[hy])
  cases hx:f x with
  |none=>exact absurd hx (h x (by simp))
  |some y=>
   rw[List.filterMap_cons_some hx]
   refine⟨by simp[g1],fun j=>?_⟩
   cases j with
   |zero=>simp[hx]
   |succ j=>simpa using g2 j
theorem order_some (a:Af):∀ x,x∈orderL a→a.sl[x]? ≠none:=fun x hx=>by
 have:=order_mem hx
 rw[List.getElem?_eq_getElem this];simp
theorem valsA_len2 (a:Af):(valsA a).length=(orderL a).length:=(fm_all (order_some a)).1
theorem valsA_get {a:Af} {j x:Nat} {v:Vl} (hx:(orderL a)[j]? =some x) (hv:a.sl[x]? =some v):(valsA a)[j]? =some v:=by
 rw[valsA,(fm_all (order_some a)).2,hx];exact hv
theorem valsF_pre (l:List Af):∀ k,k≤l.length→∃ r,valsF l 0=valsF l k++r
 |0,_=>⟨[],by simp⟩
 |k+1,hk=>by
  obtain⟨r,hr⟩:=valsF_pre l k (by omega)
  obtain⟨a,ha⟩:=get?_of (show k<l.length by omega)
  exact⟨valsA a++r,by rw[hr,valsF_step ha,List.append_assoc]⟩
theorem ent_drop {l : List Af} {ln np : Nat} {m : Nat → Nat} {σ : St} {fr : Nat → Option AV} {ob : Nat → Option AObj} (hnp : np ≤ 1000000) (hob : ∀ id o, ob id = some o → (id < 1000000 ∧ ¬ (np ≤ id ∧ id < np + 3)) ∧ o.ids (fun j => j < 1000000 ∧ ¬ (np ≤ j ∧ j < np + 3))) (he : Ent np m σ ⟨fr, objV l ln np ob, 1000000⟩) (fr' : Nat → Option AV) (n' : Nat) :
    Ent np m ⟨fr',σ.hp,n'⟩ ⟨fun _=>none,ob,1000000⟩:=by
  obtain⟨_,h2,h3,h4⟩:=he
  have ho:∀ id o,ob id=some o→objV l ln np ob id=some o:=fun id o ho=>objV_old ho fun id o ho=>(hob id o ho).1.2
  exact⟨fun t x hx=>(by cases hx),fun id o h=>h2 id o (ho id o h),fun id id' o o' h h' e=>h3 id id' o o' (ho _ _ h) (ho _ _ h') e,fun id hid=>⟨(h4 id hid).1,by show id<1000000;omega⟩⟩
def objVR (l:List Af) (ln np:Nat) (q:Lp) (X:AObj) (ob:Nat→Option AObj):Nat→Option AObj:=updo (updo (objV l ln np ob) (np+2) (some (.lp q [.ptr np 0]))) 1000000 (some X)
theorem objVR_X (l:List Af) (ln np:Nat) (q:Lp) (X:AObj) (ob:Nat→Option AObj):objVR l ln np q X ob 1000000=some X:=by simp[objVR,updo]
theorem objVR_np {l:List Af} {ln np:Nat} (hnp:np<900000) (q:Lp) (X:AObj) (ob:Nat→Option AObj):objVR l ln np q X ob np=some (.cells [.fn (.yield ln) [] []]):=by
 simp only[objVR,updo];rw[if_neg (by omega),if_neg (by omega)];exact objV_np _ _ _ _
theorem objVR_np1 {l:List Af} {ln np:Nat} (hnp:np<900000) (q:Lp) (X:AObj) (ob:Nat→Option AObj):objVR l ln np q X ob (np+1)=some (.cells [.sl (acl l)]):=by
 simp only[objVR,updo];rw[if_neg (by omega),if_neg (by omega)];exact objV_np1 _ _ _ _
theorem objVR_np2 {l:List Af} {ln np:Nat} (hnp:np<900000) (q:Lp) (X:AObj) (ob:Nat→Option AObj):objVR l ln np q X ob (np+2)=some (.lp q [.ptr np 0]):=by
 simp only[objVR,updo];rw[if_neg (by omega)];simp
theorem objVR_old {l:List Af} {ln np:Nat} {q:Lp} {X:AObj} {ob:Nat→Option AObj} {id:Nat} {o:AObj} (ho:ob id=some o) (h1:∀ id o,ob id=some o→(id<1000000∧¬ (np≤id∧id<np+3))∧o.ids (fun j=>j<1000000∧¬ (np≤j∧j<np+3))):objVR l ln np q X ob id=some o:=by
 have:=(h1 id o ho).1
 simp only[objVR,updo];rw[if_neg (by omega),if_neg (by omega)];exact objV_old ho fun id o h=>(h1 id o h).1.2
theorem objVR_lt {l:List Af} {ln np:Nat} (hnp:np+3≤900000) {q:Lp} {X:AObj} {ob:Nat→Option AObj} (hob:∀ id o,ob id=some o→(id<1000000∧¬ (np≤id∧id<np+3))∧o.ids (fun j=>j<1000000∧¬ (np≤j∧j<np+3))) (hX:X.ids (fun _=>False)) {id:Nat} {o:AObj} (ho:objVR l ln np q X ob id=some o):id<1000001∧o.ids (· <1000001):=by
 simp only[objVR,updo] at ho
 split at ho
 ·cases ho;exact⟨by omega,objids_mono _ (fun _ h=>h.elim) hX⟩
 ·split at ho
  ·cases ho;exact⟨by omega,by simp[AObj.ids,AV.idsL,AV.ids];omega⟩
  ·rcases objV_inv ho with ⟨rfl,rfl⟩|⟨rfl,rfl⟩|⟨g1,g2,g3⟩
   ·exact⟨by omega,by simp[AObj.ids,AV.idsL,AV.ids]⟩
   ·exact⟨by omega,by simp[AObj.ids,AV.idsL,AV.ids,go_sem]⟩
   ·have:=hob id o g3
    exact⟨by omega,objids_mono _ (fun j hj=>by omega) this.2⟩
theorem ent_vst {l : List Af} {ln np k : Nat} (hnp : np + 3 ≤ 900000) {ob : Nat → Option AObj} (hob : ∀ id o, ob id = some o → (id < 1000000 ∧ ¬ (np ≤ id ∧ id < np + 3)) ∧ o.ids (fun j => j < 1000000 ∧ ¬ (np ≤ j ∧ j < np + 3)))
    {q0 q:Lp} {v0:List AV} {Y X:AObj} {fr':Nat→Option AV} {fr:List (Nat×AV)} {n:Nat} (hX:X.ids (fun _=>False)) (hfr:∀ p,p∈fr→fr' p.1=some p.2∧p.2.ids (· <1000001)) (hk:k=np+2+1):
    Ent k (fun i=>i) ⟨fr',updo (updo (updo (updo (objV l ln np ob) (np+2) (some (.lp q0 v0))) 1000000 (some Y)) 1000000 (some X)) (np+2) (some (.lp q [.ptr np 0])),n⟩ ⟨mkFr fr,updo (updo (objV l ln np ob) (np+2) (some (.lp q [.ptr np 0]))) 1000000 (some X),1000001⟩:=by
  refine ent_idG hfr (fun id o ho=>?_) (by omega)
  simp only[updo] at ho ⊢
  by_cases e:id=1000000
  · rw[if_pos e] at ho
    cases ho
    rw[if_neg (by omega),if_pos e]
    exact⟨rfl,by omega,objids_mono _ (fun _ h=>h.elim) hX⟩
  · rw[if_neg e] at ho
    by_cases e2:id=np+2
    · rw[if_pos e2] at ho ⊢
      exact⟨ho,by omega,by cases ho;simp[AObj.ids,AV.idsL,AV.ids];omega⟩
    · rw[if_neg e2] at ho
      rw[if_neg e2,if_neg e,if_neg e,if_neg e2]
      refine⟨ho,?_⟩
      rcases objV_inv ho with ⟨rfl,rfl⟩|⟨rfl,rfl⟩|⟨g1,g2,g3⟩
      · exact⟨by omega,by simp[AObj.ids,AV.idsL,AV.ids]⟩
      · exact⟨by omega,by simp[AObj.ids,AV.idsL,AV.ids,go_sem]⟩
      · have:=hob id o g3
        exact⟨by omega,objids_mono _ (fun j hj=>by omega) this.2⟩
theorem ent_cut {l : List Af} {ln np k : Nat} {q : Lp} {X : AObj} {ob : Nat → Option AObj} {m : Nat → Nat} {σ : St} {fr : Nat → Option AV} (hnp : np + 3 ≤ 900000) (hob : ∀ id o, ob id = some o → (id < 1000000 ∧ ¬ (np ≤ id ∧ id < np + 3)) ∧ o.ids (fun j => j < 1000000 ∧ ¬ (np ≤ j ∧ j < np + 3)))
    (he:Ent k m σ ⟨fr,objVR l ln np q X ob,1000001⟩) (hk:k≤1000000):Ent k m σ ⟨mkFr [],updo (objV l ln np ob) (np+2) (some (.lp q [.ptr np 0])),1000000⟩:=by
  obtain⟨_,h2,h3,h4⟩:=he
  have key:∀ id o,updo (objV l ln np ob) (np+2) (some (.lp q [.ptr np 0])) id=some o→objVR l ln np q X ob id=some o∧id<1000000∧o.ids (· <1000000):=by
    intro id o ho
    have hid:id<1000000∧o.ids (· <1000000):=by
      simp only[updo] at ho
      split at ho
      · cases ho;exact⟨by omega,by simp[AObj.ids,AV.idsL,AV.ids];omega⟩
      · rcases objV_inv ho with ⟨rfl,rfl⟩|⟨rfl,rfl⟩|⟨g1,g2,g3⟩
        · exact⟨by omega,by simp[AObj.ids,AV.idsL,AV.ids]⟩
        · exact⟨by omega,by simp[AObj.ids,AV.idsL,AV.ids,go_sem]⟩
        · exact⟨(hob id o g3).1.1,objids_mono _ (fun j hj=>hj.1) (hob id o g3).2⟩
    refine⟨?_,hid⟩
    simp only[objVR]
    show updo _ 1000000 _ id=_
    simp only[updo] at ho ⊢
    rw[if_neg (by omega)];exact ho
  exact⟨fun t x hx=>(by cases hx),fun id o ho=>⟨(h2 id o (key id o ho).1).1,(key id o ho).2⟩,fun id id' o o' ho ho' e=>h3 id id' o o' (key id o ho).1 (key id' o' ho').1 e,fun id hid=>⟨(h4 id hid).1,by show id<1000000;omega⟩⟩
theorem vals_iter {t:Tsk} (ht:TB t) {c:Nat} :IterH 3 Try.prog 70 [.ptr c 0] [(c,.cells t.cs)] ((valsT t).map fun v=>[v.av]):=by
 intro ln S objs np hn1 hcaps hL hob hnp Inv Fin IP hIP hround s h0
 simp only[AV.idsL,AV.ids] at hcaps
 obtain⟨hc1,_⟩:=hcaps
 have hca:∀ s,objs s c=some (.cells t.cs):=fun s=>hL s (c,.cells t.cs) (by simp)
 have c2:c<1000000:=by omega
 have ga:=hca s
 refine ACall.of_bodyRM Try.func70 isf70 rfl (by simp[Try.f70]) fun E Q hE hN hM hQ hQp=>K_start ?_
 have hne:(c=1000000)=False:=eq_false (by omega)
 have hb1:=back_nc t.fs
 repeat'(first|apply nx|refine zx ?_|rw[zw]|((first|refine hK _ ?_|refine hKp _ _ ?_);clear hK hKp K Kp;try clear hanc anc)|((with_reducible refine And.intro ?_ ?_);exact zb)|((first|refine zr hE fun K Kp hK hKp=>?_|refine zd true mixed hE fun K Kp hK hKp anc hanc=>?_|refine zd false mixed hE fun K Kp hK hKp anc hanc=>?_);simp only[go_sem,ga,Tsk.cs,hne])|(refine zg (fun hg=>?_) (fun hg=>?_)<;>simp only[go_sem,ga,Tsk.cs,hne,hg])|(refine zc (fun hc=>?_) (fun hc=>?_)<;>try exact zh hc))
 refine Hold.mk (CallB.newP hb1 (by simp[AV.cloL,AV.clo]) (by simp[AV.ids,AV.idsL]) (by intro p hp;simp only[List.mem_cons,List.not_mem_nil,or_false] at hp;subst hp;exact⟨by show 0<1048576;decide,by simp[AObj.ids,AV.ids,AV.idsL,go_sem]⟩) ?_)
 simp only[go_sem,AObj.ren]
 refine hK _ ?_;clear hK hKp K Kp;try clear hanc anc
 repeat(first|refine Kq_norm_code ?_|refine Kq_norm_blk ?_|refine Kq_norm_lp ?_)
 refine AW.ent (σ':=⟨mkFr [(2,.ptr np 0),(9,.fn (.func 87) [] [.ptr (np+1) 0])],objV t.fs ln np (objs s),1000000⟩) (fun i=>if i=np then 1000000 else if i=np+1 then 4145728 else i) ?_ ?_
 ·refine ent_gen (fun p hp=>?_) (fun id o ho=>?_) (fun id id' o o' ho ho' e=>?_) (fun id hid=>?_)
  ·simp only[List.mem_cons,List.not_mem_nil,or_false] at hp
   rcases hp with rfl|rfl
   ·exact⟨by simp[upd,AV.ren],by simp[AV.ids];omega⟩
   ·exact⟨by simp[upd,AV.ren,AV.renL],by simp[AV.ids,AV.idsL];omega⟩
  ·rcases objV_inv ho with ⟨rfl,rfl⟩|⟨rfl,rfl⟩|⟨g1,g2,g3⟩
   ·exact⟨by simp[updo,AObj.ren,AV.renL,AV.ren],by omega,by simp[AObj.ids,AV.idsL,AV.ids]⟩
   ·exact⟨by simp[updo,AObj.ren,AV.renL,AV.ren,acl_ren],by omega,by simp[AObj.ids,AV.idsL,AV.ids,go_sem]⟩
   ·have g4:=hob s id o g3
    rw[ren_hole (np:=np) (B:=1000000) (fun j h1 h2=>by rw[if_neg (by omega),if_neg (by omega)]) g4.2,if_neg g1,if_neg g2]
    refine⟨?_,g4.1.1,objids_mono _ (fun j hj=>hj.1) g4.2⟩
    simp only[updo]
    rw[if_neg (by omega),if_neg (by omega)];exact g3
  ·have hv:∀ id o,objV t.fs ln np (objs s) id=some o→(id=np∧(if id=np then 1000000 else if id=np+1 then 4145728 else id)=1000000)∨(id=np+1∧(if id=np then 1000000 else if id=np+1 then 4145728 else id)=4145728)∨(id<1000000∧(if id=np then 1000000 else if id=np+1 then 4145728 else id)=id):=by
    intro id o ho
    rcases objV_inv ho with ⟨rfl,rfl⟩|⟨rfl,rfl⟩|⟨g1,g2,g3⟩
    ·exact .inl ⟨rfl,if_pos rfl⟩
    ·exact .inr (.inl ⟨rfl,by rw[if_neg (by omega),if_pos rfl]⟩)
    ·exact .inr (.inr ⟨(hob s id o g3).1.1,by rw[if_neg g1,if_neg g2]⟩)
   rcases hv id o ho with ⟨a1,a2⟩|⟨a1,a2⟩|⟨a1,a2⟩<;>rcases hv id' o' ho' with ⟨b1,b2⟩|⟨b1,b2⟩|⟨b1,b2⟩<;>(have e2:=a2.symm.trans (e.trans b2);omega)
  ·rw[hN] at hid
   exact⟨by rw[if_neg (by omega),if_neg (by omega)],by omega⟩
 refine K_blk ?_
 have hfl:=ht.f
 refine AW_iter hM (back_iter (l:=t.fs) (by omega) (a:=np+1)) (fun s=>objV t.fs ln np (objs s)) (np+2) ?_ ?_ ?_ ?_ ?_ ?_ ?_ [(2,.ptr np 0),(9,.fn (.func 87) [] [.ptr (np+1) 0])] ?_ ?_ ?_ [2] [.ptr np 0] ?_ ?_ ?_ ?_ (fun i s=>Inv (valsF t.fs (t.fs.length - i)).length s) (fun c s=>c=none∧Fin s) IP hIP ?_ s ?_ ?_ ?_ ?_
 ·omega
 ·rw[hN];omega
 ·simp[AV.idsL,AV.ids]
 ·simp
 ·intro s p hp
  simp only[List.mem_cons,List.not_mem_nil,or_false] at hp
  subst hp
  exact objV_np1 _ _ _ _
 ·intro s id o ho
  rcases objV_inv ho with ⟨rfl,rfl⟩|⟨rfl,rfl⟩|⟨g1,g2,g3⟩
  ·exact⟨by omega,by simp[AObj.ids,AV.idsL,AV.ids]⟩
  ·exact⟨by omega,by simp[AObj.ids,AV.idsL,AV.ids,go_sem]⟩
  ·have:=hob s id o g3
   exact⟨by omega,objids_mono _ (fun j hj=>by omega) this.2⟩
 ·intro s id hid
  by_cases e0:id=np
  ·subst e0;rw[objV_np];simp
  ·by_cases e1:id=np+1
   ·subst e1;rw[objV_np1];simp
   ·have:=hnp s id (by omega)
    simp only[objV,updo]
    rw[if_neg e1,if_neg e0];exact this
 ·simp[AV.idsL,AV.ids]
 ·simp[mkFr,upd]
 ·rfl
 ·intro i hi
  match i,hi with|0,_=>rfl
 ·simp[AV.idsL,AV.ids]
 ·intro y hy
  obtain⟨k,hk,rfl⟩:=List.getElem_of_mem hy
  exact bk_two _ _ _ _ (List.getElem?_eq_getElem hk)
 ·rw[hE];decide
 ·rintro ll fnn i y s E' Q' hinv hy hE' hN' hnorm hleft hpan
  obtain⟨k,a,hk,hka,rfl⟩:=bk_inv hy
  have hta:TB t:=ht
  have has:=ht.s a (List.mem_of_getElem? hka)
  have c1:=order_c a (by omega)
  have hkl:k<t.fs.length:=(List.getElem?_eq_some_iff.1 hka).1
  have e0:t.fs.length - i=k+1:=by omega
  have e1:t.fs.length - (i+1)=k:=by omega
  rw[e0] at hinv
  rw[e1] at hnorm
  unfold RoundG
  rw[Af.av_eq]
  refine K_start ?_
  show AW Try.prog E' _ _ ⟨upd (upd (mkFr [(2,.ptr np 0)]) 10 (.i (k:Nat))) 11 (.agg [.i a.num,.i a.rt,.i a.blk,.i a.idx,.i a.dst,.sl (Vl.avL a.sl),.sl (il a.si)]),updo (objV t.fs ln np (objs s)) (np+2) _,1000000⟩
  rw[hE] at hE'
  replace hE:=hE'
  have hn2:(np=999998)=False:=eq_false (by omega)
  repeat'(first|apply nx|refine zx ?_|rw[zw]|((first|refine hK _ ?_|refine hKp _ _ ?_);clear hK hKp K Kp;try clear hanc anc)|((with_reducible refine And.intro ?_ ?_);exact zb)|((first|refine zr hE fun K Kp hK hKp=>?_|refine zd true mixed hE fun K Kp hK hKp anc hanc=>?_|refine zd false mixed hE fun K Kp hK hKp anc hanc=>?_);simp only[go_sem])|(refine zg (fun hg=>?_) (fun hg=>?_)<;>simp only[go_sem,hg])|(refine zc (fun hc=>?_) (fun hc=>?_)<;>try exact zh hc))
  refine Kq_norm_nil ?_
  refine⟨[.ptr np 0],by simp[updo,hn2],K_start ?_⟩
  show AW Try.prog E' _ _ ⟨_,_,3097152⟩
  rw[Af.av_eq] at c1
  refine AW.ent (fun i=>i) (ent_vst (fr:=[(2,.ptr np 0),(4,.ptr 1000000 0)]) (by omega) (hob s) (X:= .cells a.cs) (by simp[AObj.ids,go_sem]) (by simp[upd,AV.ids];omega) (by rw[hN'])) ?_
  simp only at hnorm hleft hpan ⊢
  generalize hqb:Lp.mk ll fnn #[10,11] _ _ E.nt [2] LoopState.busy none=qb at hnorm hleft hpan ⊢
  show AW Try.prog E' _ _ ⟨_,objVR t.fs ln np qb (.cells a.cs) (objs s),_⟩
  have hol:=order_len a
  have gX:=fun s=>objVR_X t.fs ln np qb (.cells a.cs) (objs s)
  have gY:=fun s=>objVR_np (l:=t.fs) (ln:=ln) (by omega:np<900000) qb (.cells a.cs) (objs s)
  have gX:∀ s,objVR t.fs ln np qb (.cells a.cs) (objs s) 1000000=some (.cells [.i a.num,.i a.rt,.i a.blk,.i a.idx,.i a.dst,.sl (Vl.avL a.sl),.sl (il a.si)]):=gX
  have gX0:=gX s
  have h01:(1000000=np)=False:=eq_false (by omega)
  refine K_start ?_
  repeat'(first|apply nx|refine zx ?_|rw[zw]|((first|refine hK _ ?_|refine hKp _ _ ?_);clear hK hKp K Kp;try clear hanc anc)|((with_reducible refine And.intro ?_ ?_);exact zb)|((first|refine zr hE fun K Kp hK hKp=>?_|refine zd true mixed hE fun K Kp hK hKp anc hanc=>?_|refine zd false mixed hE fun K Kp hK hKp anc hanc=>?_|(apply zm;exact zu;exact c1;exact zs;exact zl));simp only[go_sem,gX0])|(refine zg (fun hg=>?_) (fun hg=>?_)<;>simp only[go_sem,gX0,hg])|(refine zc (fun hc=>?_) (fun hc=>?_)<;>try exact zh hc))
  refine K_loop (X:=Nat×S) (fun z=>z.1≤(orderL a).length∧Inv ((valsF t.fs (k+1)).length+z.1) z.2) (fun z=>⟨mkFr [(2,.ptr np 0),(4,.ptr 1000000 0),(13,.sl (il (ni (orderL a)))),(14,.i (orderL a).length),(15,.i z.1)],objVR t.fs ln np qb (.cells a.cs) (objs z.2),1000001⟩) (fun z=>(orderL a).length - z.1) (0,s) ⟨Nat.zero_le _,hinv⟩ (fun i=>i) ?_ ?_
  ·exact ent_idG (by simp[upd,AV.ids,AV.idsL,go_sem,ni_len];omega) (fun id o ho=>⟨ho,objVR_lt (by omega) (hob s) (by simp[AObj.ids,go_sem]) ho⟩) (by rw[hN'];omega)
  rintro⟨j,s⟩ ⟨hj,hinv⟩
  simp only at hj hinv
  have gX0:=gX s
  have gY0:=gY s
  by_cases hjl:j<(orderL a).length
  ·obtain⟨x,hx⟩:=get?_of hjl
   have hxl:=order_mem (List.mem_of_getElem? hx)
   obtain⟨v,hv⟩:=get?_of hxl
   have hy2:((valsT t).map fun v=>[v.av])[(valsF t.fs (k+1)).length+j]? =some [v.av]:=by
    obtain⟨r,hr⟩:=valsF_pre t.fs k (by omega)
    have hva:=valsA_get hx hv
    have hvl:=(List.getElem?_eq_some_iff.1 hva).1
    rw[List.getElem?_map,valsT_eq,hr,valsF_step hka,List.append_assoc,List.getElem?_append_right (by omega),Nat.add_sub_cancel_left,List.getElem?_append_left hvl,hva];rfl
   have hro:=hround _ _ s hinv hy2
   rw[Vl.av_eq] at hro
   have u1:IntKind.i64.wrap ((j:Int)+1)=((j+1:Nat):Int):=by rw[wrap64 (by omega) (by omega)];omega
   repeat'(first|apply nx|refine zx ?_|rw[zw]|((first|refine hK _ ?_|refine hKp _ _ ?_);clear hK hKp K Kp;try clear hanc anc)|((with_reducible refine And.intro ?_ ?_);exact zb)|((first|refine zr hE fun K Kp hK hKp=>?_|refine zd true mixed hE fun K Kp hK hKp anc hanc=>?_|refine zd false mixed hE fun K Kp hK hKp anc hanc=>?_);simp only[go_sem,gX0,gY0,lt_dec hjl,il_len,ni_len,ni_get,hx,hv,lt_dec hxl,Vl.av_eq,u1])|(refine zg (fun hg=>?_) (fun hg=>?_)<;>simp only[go_sem,gX0,gY0,lt_dec hjl,il_len,ni_len,ni_get,hx,hv,lt_dec hxl,Vl.av_eq,u1,hg])|(refine zc (fun hc=>?_) (fun hc=>?_)<;>try exact zh hc))
   refine⟨⟨by simp;omega,by rw[hanc];rfl⟩,by omega,?_⟩
   refine Hold.mk (CallY.use hro (fun i=>i) (by rw[renL_id]) (by simp[AV.ids,AV.idsL,go_sem]) (fun id o ho=>⟨by rw[oren_id];exact objVR_old ho (hob s),(hob s id o ho).1.1,objids_mono _ (fun j hj=>hj.1) (hob s id o ho).2⟩) (fun id id' o o' _ _ e=>e) (fun id hid=>⟨by omega,hnp s id hid⟩) ?_ ?_ ?_ ?_)
   ·rintro r hp' ⟨s',hr,rfl⟩
    refine⟨by rcases hr with ⟨rfl,_⟩|⟨rfl,_⟩<;>trivial,fun id o ho=>⟨by have:=(hob s' id o ho).1;omega,?_⟩⟩
    exact objids_mono _ (fun j hj=>by omega) (hob s' id o ho).2
   ·rintro r hp' ⟨s',hr,rfl⟩
    refine⟨clo_ids (hIP _ s' hr),fun id o ho=>⟨by have:=(hob s' id o ho).1;omega,?_⟩⟩
    exact objids_mono _ (fun j hj=>by omega) (hob s' id o ho).2
   ·rintro r hp' fr' hpn2 ⟨s',hr,rfl⟩ hfr hobj hold2
    simp only[St.put,putf] at hfr
    subst hfr
    have hfree:∀ id,(np≤id∧id<np+3)∨id=1000000→∀ j,objs s j≠none→j≠id:=by
     intro id hid j hj e
     cases ho:objs s j with
     |none=>exact hj ho
     |some o=>have:=(hob s j o ho).1;omega
    have k0:=hold2 np _ (gY s) (hfree np (by omega))
    have k1:=hold2 (np+1) _ (objVR_np1 (by omega) qb (.cells a.cs) (objs s)) (hfree _ (by omega))
    have k2:=hold2 (np+2) _ (objVR_np2 (by omega) qb (.cells a.cs) (objs s)) (hfree _ (by omega))
    have k3:=hold2 1000000 _ (objVR_X t.fs ln np qb (.cells a.cs) (objs s)) (hfree _ (by omega))
    rcases hr with ⟨rfl,hi'⟩|⟨rfl,hf'⟩
    ·simp only[go_sem]
     refine hK _ ?_
     clear hK hKp K Kp
     repeat'(first|apply nx|refine zx ?_|rw[zw]|((first|refine hK _ ?_|refine hKp _ _ ?_);clear hK hKp K Kp;try clear hanc anc)|((with_reducible refine And.intro ?_ ?_);exact zb)|((first|refine zr hE fun K Kp hK hKp=>?_|refine zd true mixed hE fun K Kp hK hKp anc hanc=>?_|refine zd false mixed hE fun K Kp hK hKp anc hanc=>?_);simp only[go_sem,u1])|(refine zg (fun hg=>?_) (fun hg=>?_)<;>simp only[go_sem,u1,hg])|(refine zc (fun hc=>?_) (fun hc=>?_)<;>try exact zh hc))
     refine⟨(j+1,s'),⟨hjl,by simpa [Nat.add_assoc] using hi'⟩,by simp only;omega,mY np (5194305+1048576*6),?_⟩
     rw[hN']
     exact ent_yv (by omega) (by omega) (hob s') (by simp[AObj.ids,go_sem]) hobj k0 k1 k2 k3 (by simp[upd,AV.ids,AV.idsL,go_sem])
    ·simp only[go_sem]
     refine hK _ ?_
     clear hK hKp K Kp
     repeat'(first|apply nx|refine zx ?_|rw[zw]|((first|refine hK _ ?_|refine hKp _ _ ?_);clear hK hKp K Kp;try clear hanc anc)|((with_reducible refine And.intro ?_ ?_);exact zb)|((first|refine zr hE fun K Kp hK hKp=>?_|refine zd true mixed hE fun K Kp hK hKp anc hanc=>?_|refine zd false mixed hE fun K Kp hK hKp anc hanc=>?_);simp only[go_sem])|(refine zg (fun hg=>?_) (fun hg=>?_)<;>simp only[go_sem,hg])|(refine zc (fun hc=>?_) (fun hc=>?_)<;>try exact zh hc))
     refine K_ret (Kq_ret_nil ?_)
     show leftQ Q' none _
     refine hleft _ s' (mY np (5194305+1048576*6)) none ⟨rfl,hf'⟩ ?_
     exact ent_cut (by omega) (hob s') (ent_yv (fr:=[]) (by omega) (by omega) (hob s') (by simp[AObj.ids,go_sem]) hobj k0 k1 k2 k3 (by simp)) (by omega)
   ·rintro x hp' hpn2 ⟨s',hx,rfl⟩ hobj hold2
    have hfree:∀ id,(np≤id∧id<np+3)∨id=1000000→∀ j,objs s j≠none→j≠id:=by
     intro id hid j hj e
     cases ho:objs s j with
     |none=>exact hj ho
     |some o=>have:=(hob s j o ho).1;omega
    have k0:=hold2 np _ (gY s) (hfree np (by omega))
    have k1:=hold2 (np+1) _ (objVR_np1 (by omega) qb (.cells a.cs) (objs s)) (hfree _ (by omega))
    have k2:=hold2 (np+2) _ (objVR_np2 (by omega) qb (.cells a.cs) (objs s)) (hfree _ (by omega))
    have k3:=hold2 1000000 _ (objVR_X t.fs ln np qb (.cells a.cs) (objs s)) (hfree _ (by omega))
    rw[clo_ren (hIP x s' hx)]
    refine hKp _ _ (Kq_pan (hpan x _ s' (mY np (5194305+1048576*6)) hx ?_))
    exact ent_cut (by omega) (hob s') (ent_yv (fr:=[]) (by omega) (by omega) (hob s') (by simp[AObj.ids,go_sem]) hobj k0 k1 k2 k3 (by simp)) (by omega)
  ·obtain rfl:j=(orderL a).length:=by omega
   repeat'(first|apply nx|refine zx ?_|rw[zw]|((first|refine hK _ ?_|refine hKp _ _ ?_);clear hK hKp K Kp;try clear hanc anc)|((with_reducible refine And.intro ?_ ?_);exact zb)|((first|refine zr hE fun K Kp hK hKp=>?_|refine zd true mixed hE fun K Kp hK hKp anc hanc=>?_|refine zd false mixed hE fun K Kp hK hKp anc hanc=>?_);simp only[go_sem,ge_dec,il_len,ni_len])|(refine zg (fun hg=>?_) (fun hg=>?_)<;>simp only[go_sem,ge_dec,il_len,ni_len,hg])|(refine zc (fun hc=>?_) (fun hc=>?_)<;>try exact zh hc))
   repeat(first|refine Kq_norm_blk ?_|refine Kq_norm_nil ?_)
   refine hnorm _ s (fun i=>i) (by rw[valsF_step hka,List.length_append,valsA_len2];exact hinv) ?_
   refine ent_cut (fr:=fun _=>none) (X:= .cells a.cs) (by omega) (hob s) ?_ (by omega)
   exact ent_idG (fr:=[]) (by simp) (fun id o ho=>⟨ho,objVR_lt (by omega) (hob s) (by simp[AObj.ids,go_sem]) ho⟩) (by omega)
 ·simpa [valsF] using h0
 ·rintro σ s' m hi he
  refine Kq_norm_blk (Kq_norm_nil ?_)
  refine(hQ _ ⟨.tup [],m,objs s',1000000,rfl,trivial,?_,rfl,s',.inl ?_,rfl⟩).2
  ·rw[hN] at he
   exact ent_drop (by omega) (hob s') he _ _
  ·rw[bk_len,Nat.sub_self] at hi
   rw[List.length_map,valsT_eq];exact hi
 ·rintro σ s' m c ⟨rfl,hf⟩ he
  show Kq _ _ _ _ .ret σ
  refine Kq_ret_cons (Kq_ret_nil ?_)
  refine(hQ _ ⟨.tup [],m,objs s',1000000,rfl,trivial,?_,rfl,s',.inr hf,rfl⟩).1
  rw[hN] at he
  exact ent_drop (by omega) (hob s') he _ _
 ·rintro x σ s' m hx he
  refine Kq_pan (hQp _ _ ⟨x,m,objs s',1000000,(clo_ren (hIP x s' hx)).symm,clo_ids (hIP x s' hx),?_,s',hx,rfl⟩)
  rw[hN] at he
  exact ent_drop (by omega) (hob s') he _ _
end Go.Proofs.Ytfgjjnfdcgkpoaa
