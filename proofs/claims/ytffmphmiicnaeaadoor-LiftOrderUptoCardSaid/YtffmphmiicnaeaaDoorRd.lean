/- A part of the proof: an abstract machine for the walks, and what the walked functions compute. -/
import Derived.Lib.ItoaLen
import Derived.Test.YtffmphmiicnaeaaDoorRc
import Derived.Test.YtffmphmiicnaeaaDoorRb
import Derived.Test.YtffmphmiicnaeaaDoorMq
import Derived.Test.YtffmphmiicnaeaaDoorMf
set_option linter.unusedVariables false
set_option linter.unusedSimpArgs false
set_option maxHeartbeats 4000000
set_option maxRecDepth 100000
namespace Go.Proofs.YtffmphmiicnaeaaDoor
open Go.Am Go.Proofs Go.Lf
open Classical
attribute [local irreducible] AW CallP CallB
variable {nm:Nm} {ps:List Nm} {bs:List Bd} {o1:AObj} {l:List Lf.St} {i:Nat} {es:List (AV×AV)} {S:List Lf.St} {y:Ls} {E:En} {Q:AEx→Am.St→Prop} {J:Am.St→Prop} {fs:List Fm}
theorem rd_tail (hE : E.nt = Tryd.f25.ntmps) (hnp : E.np ≤ 2) (ho1 : Lone o1) {k : Int} {n : Nm} {ns : List Nm} {ty : List Tx} {ex : Ex} {T1 T2 : List Lf.St} {A3 : List Ar} {off : Int} {now : List Vs} (hlt : i < l.length) (hl : l.length ≤ 1000) (hv : VM es now) (hnv : NV now) (hS : S.length ≤ 2 ^ 29) (hns : ns.length ≤ 1000) (hns2 : ex.ns.length ≤ 1000)
    (H:∀ σ,(∃ m,Ent E.np m σ (mk25 nm ps bs o1 l (i+1) es (S++call now k n ns ty ex T1 T2 A3 [] off) y))→J σ):
    AW Tryd.prog E (sq1 rest21) (Kq Tryd.prog E (.code (sq2 rest21):: .blk 1:: .code r34:: .lp J::fs) Q) (mkSt [(0,.ptr 0 0),(7,.mp 10),(8,.rw 11),(10,.ptr 12 0),(24,.sl (stl l)),(25,.i l.length),(26,.i (i:Nat))] [(0,.cells [.str nm,.sl (nml ps),.sl (bdl bs),.i y.cnt,.rw 2]),(1,o1),(2,.row 10 (fdl y.out)),(10,.map es),(11,.row 17 (stl S)),(12,.cells [.i k,.str n,.sl (nml ns),.sl (Tx.avL ty),.i ex.k,.str ex.op,.str ex.nm,.str ex.vr,.sl (nml ex.ns),.i ex.num,.sl (Tx.avL ex.ty),.i ex.off,.sl (stl T1),.sl (stl T2),.sl (arl A3),.sl [],.i off])] 13):=by
  have hes:=hv.c
  have her:=fun m=>hes.ren (m:=m)
  have u0:=inc_u hlt (by omega)
  simp only[rest21,rest15,st25,rd25,b25,Tryd.f25,Option.getD,sq1,sq2,blkC,lpC,r34]
  by_cases h12:k=12
  · subst h12
    rw[call,if_pos rfl] at H
    have hf:=hv.f n
    cases hfn:find now n with
    |none=>
      rw[hfn] at hf H
      simp only[Option.map_none] at hf
      simp only at H
      repeat'(first|apply nx|refine zx ?_|rw[zw]|((first|refine hK _ ?_|refine hKp _ _ ?_);clear hK hKp K Kp;try clear hanc anc)|((with_reducible refine And.intro ?_ ?_);exact zb)|((first|refine zr hE fun K Kp hK hKp=>?_|refine zd true mixed hE fun K Kp hK hKp anc hanc=>?_|refine zd false mixed hE fun K Kp hK hKp anc hanc=>?_);simp only[go_sem,hf,lkRes,u0])|(refine zg (fun hg=>?_) (fun hg=>?_)<;>simp only[go_sem,hf,lkRes,u0,hg])|(refine zc (fun hc=>?_) (fun hc=>?_)<;>try exact zh hc))
      refine H _ ⟨fun i=>if i=11 then 28311565 else i,?_⟩
      refine ent_mk (by simp[go_sem]) ?_ (by simp) (fun id hid=>⟨by rw[if_neg (by omega)],by omega⟩)
      have e:=stl_one 12 n ns ty ex T1 T2 A3 off S
      simp only[List.forall_mem_cons,ho1.r,ho1.i]
      simp[go_sem,her,e]
      exact hes.ids2 _
    |some v=>
      rw[hfn] at hf H
      simp only[Option.map_some,visAV] at hf
      simp only at H
      obtain⟨hv1,hv2,hv3⟩:=hnv v (find_mem hfn).1
      have hvn:=(find_mem hfn).2
      have cl:=lend_c v off (by omega) hv2 hv3
      rw[hvn] at cl
      have hll:=lendS_len v off v.cs
      repeat'(first|apply nx|refine zx ?_|rw[zw]|((first|refine hK _ ?_|refine hKp _ _ ?_);clear hK hKp K Kp;try clear hanc anc)|((with_reducible refine And.intro ?_ ?_);exact zb)|((first|refine zr hE fun K Kp hK hKp=>?_|refine zd true mixed hE fun K Kp hK hKp anc hanc=>?_|refine zd false mixed hE fun K Kp hK hKp anc hanc=>?_|(apply zm;exact zu;exact cl;exact zs;exact zl));simp only[go_sem,hf,lkRes,u0])|(refine zg (fun hg=>?_) (fun hg=>?_)<;>simp only[go_sem,hf,lkRes,u0,hg])|(refine zc (fun hc=>?_) (fun hc=>?_)<;>try exact zh hc))
      refine⟨⟨stl_szok _,by simp only[Fits];omega⟩,?_⟩
      repeat'(first|apply nx|refine zx ?_|rw[zw]|((first|refine hK _ ?_|refine hKp _ _ ?_);clear hK hKp K Kp;try clear hanc anc)|((with_reducible refine And.intro ?_ ?_);exact zb)|((fail_if_success refine K_stop 32 ?_);(first|refine zr hE fun K Kp hK hKp=>?_|refine zd true mixed hE fun K Kp hK hKp anc hanc=>?_|refine zd false mixed hE fun K Kp hK hKp anc hanc=>?_);simp only[go_sem,lkRes,u0])|(refine zg (fun hg=>?_) (fun hg=>?_)<;>simp only[go_sem,lkRes,u0,hg])|(refine zc (fun hc=>?_) (fun hc=>?_)<;>try exact zh hc))
      have hcode:=rd_spawn (Q:=Q) (J:=J) (fs:=fs) (nm:=nm) (ps:=ps) (bs:=bs) (o1:=o1) (l:=l) (i:=i) (S:=S++v.cs.flatMap (lendS v off)) (y:=y) (E:=E) hE hnp ho1 (k:=12) (n:=n) (ns:=ns) (ty:=ty) (ex:=ex) (T1:=T1) (T2:=T2) (A3:=A3) (off:=off) (li:=v.li) (NM:=v.cs.map (lendN v)) (cs:=v.cs) hlt hl hes (by rw[List.length_append];omega) (by rw[List.length_map];omega) (by omega) (by rw[List.append_assoc];exact H)
      simp only[r32,r33,cd1,rest21,rest15,st25,rd25,b25,Tryd.f25,Option.getD,sq1,sq2,blkC,lpC,r34] at hcode
      refine AW.ent (fun i=>if i=11 then 39845901 else if i=13 then 20971533 else i) ?_ hcode
      refine ent_mk (by simp[go_sem]) ?_ (by simp) (fun id hid=>⟨by rw[if_neg (by omega),if_neg (by omega)],by omega⟩)
      simp only[List.forall_mem_cons,ho1.r,ho1.i]
      simp[go_sem,her, ← stl_app]
      exact hes.ids2 _
  have q12:(k==12)=false:=by simp[h12]
  rw[call,if_neg h12] at H
  by_cases hc15:(k=1∨k=2)∧ex.k=15
  · rw[if_pos hc15] at H
    obtain⟨hk12,h15⟩:=hc15
    have q15:(ex.k==15)=true:=by simp[h15]
    have hf:=hv.f ex.nm
    cases hfn:find now ex.nm with
    |none=>
      rw[hfn] at hf H
      simp only[Option.map_none] at hf
      simp only at H
      rcases hk12 with rfl|rfl
      all_goals
        repeat'(first|apply nx|refine zx ?_|rw[zw]|((first|refine hK _ ?_|refine hKp _ _ ?_);clear hK hKp K Kp;try clear hanc anc)|((with_reducible refine And.intro ?_ ?_);exact zb)|((first|refine zr hE fun K Kp hK hKp=>?_|refine zd true mixed hE fun K Kp hK hKp anc hanc=>?_|refine zd false mixed hE fun K Kp hK hKp anc hanc=>?_);simp only[go_sem,hf,lkRes,u0,q15])|(refine zg (fun hg=>?_) (fun hg=>?_)<;>simp only[go_sem,hf,lkRes,u0,q15,hg])|(refine zc (fun hc=>?_) (fun hc=>?_)<;>try exact zh hc))
        refine H _ ⟨fun i=>if i=11 then 46137357 else i,?_⟩
        refine ent_mk (by simp[go_sem]) ?_ (by simp) (fun id hid=>⟨by rw[if_neg (by omega)],by omega⟩)
        have e:=fun kk=>stl_one kk n ns ty ex T1 T2 A3 off S
        simp only[List.forall_mem_cons,ho1.r,ho1.i]
        simp[go_sem,her,e]
        exact hes.ids2 _
    |some v=>
      rcases hk12 with rfl|rfl
      all_goals
        rw[hfn] at hf H
        simp only[Option.map_some,visAV] at hf
        simp only at H
        obtain⟨hv1,hv2,hv3⟩:=hnv v (find_mem hfn).1
        have hvn:=(find_mem hfn).2
        have cl:=lend_c v off (by omega) hv2 hv3
        rw[hvn] at cl
        have hll:=lendS_len v off v.cs
        repeat'(first|apply nx|refine zx ?_|rw[zw]|((first|refine hK _ ?_|refine hKp _ _ ?_);clear hK hKp K Kp;try clear hanc anc)|((with_reducible refine And.intro ?_ ?_);exact zb)|((first|refine zr hE fun K Kp hK hKp=>?_|refine zd true mixed hE fun K Kp hK hKp anc hanc=>?_|refine zd false mixed hE fun K Kp hK hKp anc hanc=>?_|(apply zm;exact zu;exact cl;exact zs;exact zl));simp only[go_sem,hf,lkRes,u0,q15])|(refine zg (fun hg=>?_) (fun hg=>?_)<;>simp only[go_sem,hf,lkRes,u0,q15,hg])|(refine zc (fun hc=>?_) (fun hc=>?_)<;>try exact zh hc))
        refine⟨⟨stl_szok _,by simp only[Fits];omega⟩,?_⟩
        repeat'(first|apply nx|refine zx ?_|rw[zw]|((first|refine hK _ ?_|refine hKp _ _ ?_);clear hK hKp K Kp;try clear hanc anc)|((with_reducible refine And.intro ?_ ?_);exact zb)|((fail_if_success refine K_stop 32 ?_);(first|refine zr hE fun K Kp hK hKp=>?_|refine zd true mixed hE fun K Kp hK hKp anc hanc=>?_|refine zd false mixed hE fun K Kp hK hKp anc hanc=>?_);simp only[go_sem,lkRes,u0])|(refine zg (fun hg=>?_) (fun hg=>?_)<;>simp only[go_sem,lkRes,u0,hg])|(refine zc (fun hc=>?_) (fun hc=>?_)<;>try exact zh hc))
        have hcode:=rd_value (Q:=Q) (J:=J) (fs:=fs) (nm:=nm) (ps:=ps) (bs:=bs) (o1:=o1) (l:=l) (i:=i) (S:=S++v.cs.flatMap (lendS v off)) (y:=y) (E:=E) hE hnp ho1 (k:=_) (n:=n) (ns:=ns) (ty:=ty) (ex:=ex) (T1:=T1) (T2:=T2) (A3:=A3) (off:=off) (li:=v.li) (NM:=v.cs.map (lendN v)) (cs:=v.cs) hlt hl hes (by rw[List.length_append];omega) (by rw[List.length_map];omega) (by omega) (by rw[List.append_assoc];exact H)
        simp only[r32,r33,cd1,rest21,rest15,st25,rd25,b25,Tryd.f25,Option.getD,sq1,sq2,blkC,lpC,r34] at hcode
        refine AW.ent (fun i=>if i=11 then 57671693 else if i=13 then 38797325 else i) ?_ hcode
        refine ent_mk (by simp[go_sem]) ?_ (by simp) (fun id hid=>⟨by rw[if_neg (by omega),if_neg (by omega)],by omega⟩)
        simp only[List.forall_mem_cons,ho1.r,ho1.i]
        simp[go_sem,her, ← stl_app]
        exact hes.ids2 _
  · rw[if_neg hc15] at H
    by_cases h1:k=1
    · subst h1
      have q15:(ex.k==15)=false:=beq_eq_false_iff_ne.2 fun h=>hc15 ⟨.inl rfl,h⟩
      repeat'(first|apply nx|refine zx ?_|rw[zw]|((first|refine hK _ ?_|refine hKp _ _ ?_);clear hK hKp K Kp;try clear hanc anc)|((with_reducible refine And.intro ?_ ?_);exact zb)|((first|refine zr hE fun K Kp hK hKp=>?_|refine zd true mixed hE fun K Kp hK hKp anc hanc=>?_|refine zd false mixed hE fun K Kp hK hKp anc hanc=>?_);simp only[go_sem,u0,q15])|(refine zg (fun hg=>?_) (fun hg=>?_)<;>simp only[go_sem,u0,q15,hg])|(refine zc (fun hc=>?_) (fun hc=>?_)<;>try exact zh hc))
      refine H _ ⟨fun i=>if i=11 then 27262989 else i,?_⟩
      refine ent_mk (by simp[go_sem]) ?_ (by simp) (fun id hid=>⟨by rw[if_neg (by omega)],by omega⟩)
      have e:=stl_one 1 n ns ty ex T1 T2 A3 off S
      simp only[List.forall_mem_cons,ho1.r,ho1.i]
      simp[go_sem,her,e]
      exact hes.ids2 _
    have q1:(k==1)=false:=by simp[h1]
    by_cases h2:k=2
    · subst h2
      have q15:(ex.k==15)=false:=beq_eq_false_iff_ne.2 fun h=>hc15 ⟨.inr rfl,h⟩
      repeat'(first|apply nx|refine zx ?_|rw[zw]|((first|refine hK _ ?_|refine hKp _ _ ?_);clear hK hKp K Kp;try clear hanc anc)|((with_reducible refine And.intro ?_ ?_);exact zb)|((first|refine zr hE fun K Kp hK hKp=>?_|refine zd true mixed hE fun K Kp hK hKp anc hanc=>?_|refine zd false mixed hE fun K Kp hK hKp anc hanc=>?_);simp only[go_sem,u0,q15])|(refine zg (fun hg=>?_) (fun hg=>?_)<;>simp only[go_sem,u0,q15,hg])|(refine zc (fun hc=>?_) (fun hc=>?_)<;>try exact zh hc))
      refine H _ ⟨fun i=>if i=11 then 27262989 else i,?_⟩
      refine ent_mk (by simp[go_sem]) ?_ (by simp) (fun id hid=>⟨by rw[if_neg (by omega)],by omega⟩)
      have e:=stl_one 2 n ns ty ex T1 T2 A3 off S
      simp only[List.forall_mem_cons,ho1.r,ho1.i]
      simp[go_sem,her,e]
      exact hes.ids2 _
    have q2:(k==2)=false:=by simp[h2]
    repeat'(first|apply nx|refine zx ?_|rw[zw]|((first|refine hK _ ?_|refine hKp _ _ ?_);clear hK hKp K Kp;try clear hanc anc)|((with_reducible refine And.intro ?_ ?_);exact zb)|((first|refine zr hE fun K Kp hK hKp=>?_|refine zd true mixed hE fun K Kp hK hKp anc hanc=>?_|refine zd false mixed hE fun K Kp hK hKp anc hanc=>?_);simp only[go_sem,u0,q12,q1,q2])|(refine zg (fun hg=>?_) (fun hg=>?_)<;>simp only[go_sem,u0,q12,q1,q2,hg])|(refine zc (fun hc=>?_) (fun hc=>?_)<;>try exact zh hc))
    refine H _ ⟨fun i=>if i=11 then 27262989 else i,?_⟩
    refine ent_mk (by simp[go_sem]) ?_ (by simp) (fun id hid=>⟨by rw[if_neg (by omega)],by omega⟩)
    have e:=stl_one k n ns ty ex T1 T2 A3 off S
    simp only[List.forall_mem_cons,ho1.r,ho1.i]
    simp[go_sem,her,e]
    exact hes.ids2 _
end Go.Proofs.YtffmphmiicnaeaaDoor

set_option maxHeartbeats 4000000
set_option maxRecDepth 100000
namespace Go.Lf
open Go Go.Am
theorem st_wt_mem {s:St} :∀ {l:List St},s∈l→s.wt≤wtL l
 |a::l,h=>by
  rw[wtL]
  rcases List.mem_cons.1 h with rfl|h
  ·omega
  ·have:=st_wt_mem h;omega
theorem ar_wt_mem {s:Ar} :∀ {l:List Ar},s∈l→s.wt≤wtA l
 |a::l,h=>by
  rw[wtA]
  rcases List.mem_cons.1 h with rfl|h
  ·omega
  ·have:=ar_wt_mem h;omega
end Go.Lf
namespace Go.Proofs.YtffmphmiicnaeaaDoor
open Go.Am Go.Proofs Go.Lf
open Classical
attribute [local irreducible] AW CallP CallB
variable {nm:Nm} {ps:List Nm} {bs:List Bd} {o1:AObj} {l:List Lf.St} {i:Nat} {es:List (AV×AV)} {S:List Lf.St} {y:Ls} {E:En} {Q:AEx→Am.St→Prop} {J:Am.St→Prop} {fs:List Fm}
structure RB (nm:Nm) (ps:List Nm) (bs:List Bd) (l:List Lf.St) (now0:List Vs) (x:Ls) (i:Nat) (now:List Vs) (S:List Lf.St) (y:Ls) (es:List (AV×AV)):Prop where
 il:i≤l.length
 eq:blk dec nm ps bs now0 l x=(S++(blk dec nm ps bs now (l.drop i) y).1,(blk dec nm ps bs now (l.drop i) y).2)
 vm:VM es now
 nv:NV now
 ok:Ok y (stSz (l.drop i))
 sl:S.length≤i*1025
def SubB (nm:Nm) (ps:List Nm) (bs:List Bd) (N W:Nat):Prop:=∀ b,stSz b<N→wtL b≤W→∀ now es y,VM es now→NV now→Ok y (stSz b)→LC 25 [.ptr 0 0,.sl (stl b),.mp 1] (objL nm ps bs [(1,.map es)]) 3 2 y (.sl (stl (blk dec nm ps bs now b y).1)) (blk dec nm ps bs now b y).2
def SubF (nm:Nm) (ps:List Nm) (bs:List Bd) (N W:Nat):Prop:=∀ f:Lf.Fd,f.sz<N→f.wt≤W→∀ y,Ok y f.sz→LC 46 [.ptr 0 0,f.av] (objL nm ps bs []) 3 1 y (visAV (loc dec nm ps bs f y).1) (loc dec nm ps bs f y).2
theorem rd_all (hE : E.nt = Tryd.f25.ntmps) (hnp : E.np ≤ 2) (ho1 : Lone o1) {now0 now : List Vs} {x : Ls} {W : Nat} (hW : W ≤ 2 ^ 40) (hs : stSz l ≤ 1000) (hw : wtL l ≤ W) (hB : SubB nm ps bs (stSz l) W) (hF : SubF nm ps bs (stSz l) W) (R : RB nm ps bs l now0 x i now S y es) (hlt : i < l.length)
    (hpan:(blk dec nm ps bs now0 l x).2.err≠0→∀ σ,Q (.pan (failL (blk dec nm ps bs now0 l x).2.err (blk dec nm ps bs now0 l x).2.pos)) σ)
    (hJ:∀ now' S' y' es',RB nm ps bs l now0 x (i+1) now' S' y' es'→∀ σ,(∃ m,Ent E.np m σ (mk25 nm ps bs o1 l (i+1) es' S' y'))→J σ):
    AW Tryd.prog E rd25 (Kq Tryd.prog E (.lp J::fs) Q) (mk25 nm ps bs o1 l i es S y):=by
  obtain⟨⟨k,n,ns,ty,ex,th,el,ar,fn,off⟩,hx⟩:=get?_of hlt
  have hm:=List.mem_of_getElem? hx
  have hsz:=st_mem_le hm
  have hwt:=st_wt_mem hm
  rw[St.sz,Ex.sz] at hsz
  rw[St.wt] at hwt
  have heq:=R.eq
  have hok:=R.ok
  have hdr:stSz (l.drop i)=1+ns.length+Tx.szL ty+(ex.ns.length+Tx.szL ex.ty)+stSz th+stSz el+arSz ar+fdSz fn+stSz (l.drop (i+1)):=by rw[drop_of hx,stSz,St.sz,Ex.sz]
  rw[drop_of hx,blk] at heq
  simp only at heq
  have hln:=st_len_le l
  have hil:i*1025≤1000*1025:=Nat.mul_le_mul_right _ (by omega)
  have hkeep:∀ z:List Vs×List Lf.St×Ls,stm dec nm ps bs now (.mk k n ns ty ex th el ar fn off) y=z→z.2.2.err≠0→∀ σ,Q (.pan (failL z.2.2.err z.2.2.pos)) σ:=fun z hz he=>by
    rw[hz] at heq
    have h1:=blk_keep (dec:=dec) nm ps bs (l.drop (i+1)) (now++z.1) z.2.2 he
    have h2:(blk dec nm ps bs now0 l x).2.err=z.2.2.err∧(blk dec nm ps bs now0 l x).2.pos=z.2.2.pos:=by rw[heq];exact h1
    rw[← h2.1, ← h2.2]
    exact hpan (by rw[h2.1];exact he)
  rw[stm] at heq hkeep
  by_cases hk:k=13
  · rw[if_pos hk] at heq hkeep
    by_cases hg:fn.length=1∧th.length+el.length+ar.length=0
    · rw[if_pos hg] at heq hkeep
      obtain⟨hg1,hg2⟩:=hg
      match fn,hg1 with
      | [f],_=>
        obtain⟨fnm,p0,b0,c0,a0,r0,bd,of0⟩:=f
        subst hk
        rw[fdSz,fdSz] at hsz hdr
        rw[wtF,wtF] at hwt
        have hc:=hF (.mk fnm p0 b0 c0 a0 r0 bd of0) (by have:=st_mem_le hm;rw[St.sz,Ex.sz,fdSz,fdSz] at this;omega) (by omega) y (hok.mono (by omega))
        have hg:=loc_grow (dec:=dec) nm ps bs (.mk fnm p0 b0 c0 a0 r0 bd of0) y
        have hn0:=loc_noE (dec:=dec) nm ps bs (.mk fnm p0 b0 c0 a0 r0 bd of0) y
        have hv1:(loc dec nm ps bs (.mk fnm p0 b0 c0 a0 r0 bd of0) y).1.nm=fnm∧(loc dec nm ps bs (.mk fnm p0 b0 c0 a0 r0 bd of0) y).1.cs=c0:=by rw[loc];exact⟨rfl,rfl⟩
        rw[locs] at heq hkeep
        generalize hz:loc dec nm ps bs (.mk fnm p0 b0 c0 a0 r0 bd of0) y=z at*
        have hfsz:(Lf.Fd.mk fnm p0 b0 c0 a0 r0 bd of0).sz=1+p0.length+b0.length+adSz c0+adSz a0+r0.sz+stSz bd:=by rw[Fd.sz]
        have hfwt:(Lf.Fd.mk fnm p0 b0 c0 a0 r0 bd of0).wt=fnm.size+64+(c0.map fun c=>c.nm.size).sum+wtL bd:=by rw[Fd.wt]
        have hc0:=ad_len c0
        rw[Fd.av] at hc
        refine rd_loc hE hnp ho1 hx hlt hs hg2 R.vm.c (R.vm.f fnm) hc (fun he=>hkeep _ rfl he) (fun he σ hm2=>?_)
        refine hJ (now++[z.1]) S z.2 _ ⟨hlt,?_,?_,?_,?_,?_⟩ σ hm2
        · rw[heq];simp
        · have:=R.vm.put z.1;rw[hv1.1] at this;exact this
        · refine R.nv.snoc ⟨by rw[hv1.2];omega,by rw[hv1.1];omega,fun c hcm=>?_⟩
          rw[hv1.2] at hcm
          have:=sum_mem (f:=fun c:Ad=>c.nm.size) hcm
          omega
        · exact(hok.grow hg (by omega) he (hn0 he hok.e hok.p)).mono (by omega)
        · have:=R.sl;omega
    · rw[if_neg hg] at hkeep
      have hf:y.fail 1 off=⟨y.cnt,y.out,1,off⟩:=by unfold Ls.fail;rw[if_pos hok.e]
      rw[hf] at hkeep
      exact rd_bad hE hx hlt hs (.inl ⟨hk,hg⟩) (hkeep _ rfl (show(1:Int)≠0 by decide))
  rw[if_neg hk] at heq hkeep
  by_cases hf0:fn.length=0
  case neg=>
    rw[if_neg hf0] at hkeep
    have hf:y.fail 1 off=⟨y.cnt,y.out,1,off⟩:=by unfold Ls.fail;rw[if_pos hok.e]
    rw[hf] at hkeep
    exact rd_bad hE hx hlt hs (.inr ⟨hk,hf0⟩) (hkeep _ rfl (show(1:Int)≠0 by decide))
  rw[if_pos hf0] at heq hkeep
  obtain rfl:fn=[]:=List.length_eq_zero_iff.1 hf0
  simp only at heq hkeep
  rw[fdSz] at hsz hdr
  rw[wtF] at hwt
  have har:=ar_len_le ar
  have hsl:stSz l=stSz l:=rfl
  have hA1:=hB th (by omega) (by omega) now es y R.vm R.nv (hok.mono (by omega))
  have g1:=blk_grow (dec:=dec) nm ps bs th now y
  have k1:=blk_noE (dec:=dec) nm ps bs th now y
  have hkA:=fun y1=>blk_keep (dec:=dec) nm ps bs el now y1
  have hkB:=fun y1=>arms_keep (dec:=dec) nm ps bs ar now y1
  generalize hz1:blk dec nm ps bs now th y=z1 at*
  have g2:=blk_grow (dec:=dec) nm ps bs el now z1.2
  have k2:=blk_noE (dec:=dec) nm ps bs el now z1.2
  have hA2:z1.2.err=0→LC 25 [.ptr 0 0,.sl (stl el),.mp 1] (objL nm ps bs [(1,.map es)]) 3 2 z1.2 (.sl (stl (blk dec nm ps bs now el z1.2).1)) (blk dec nm ps bs now el z1.2).2:=fun he=>hB el (by omega) (by omega) now es z1.2 R.vm R.nv ((hok.grow g1 (by omega) he (k1 he hok.e hok.p)).mono (by omega))
  have hkA1:=hkA z1.2
  generalize hz2:blk dec nm ps bs now el z1.2=z2 at*
  have g3:=arms_grow (dec:=dec) nm ps bs ar now z2.2
  have k3:=arms_noE (dec:=dec) nm ps bs ar now z2.2
  have hkB1:=hkB z2.2
  have hok2:z1.2.err=0→z2.2.err=0→Ok z2.2 (arSz ar+stSz (l.drop (i+1))):=fun he1 he2=>by
    have q1:=hok.grow g1 (by omega) he1 (k1 he1 hok.e hok.p)
    have q2:=q1.grow g2 (by omega) he2 (k2 he2 q1.e q1.p)
    exact q2.mono (by omega)
  have hmemw:∀ v ns1 b of1,Ar.mk v ns1 b of1∈ar→stSz b<stSz l∧wtL b≤W:=fun v ns1 b of1 hmm=>by
    have a1:=ar_mem_le hmm
    have a2:=ar_wt_mem hmm
    rw[Ar.sz] at a1
    rw[Ar.wt] at a2
    omega
  generalize hz3:arms dec nm ps bs now ar z2.2=z3 at*
  have hst:∀ e:z3.2.err≠0,∀ σ,Q (.pan (failL z3.2.err z3.2.pos)) σ:=fun e=>hkeep _ rfl e
  refine rd_c1 hE hnp ho1 hx hlt hs hk R.vm.c hA1 hA2 (fun he=>?_) (fun he1 he2=>?_) (fun he1 he2=>?_)
  · have a1:=hkA1 he
    have a2:=hkB1 (by rw[a1.1];exact he)
    rw[← a1.1, ← a1.2, ← a2.1, ← a2.2]
    exact hst (by rw[a2.1,a1.1];exact he)
  · have a2:=hkB1 he2
    rw[← a2.1, ← a2.2]
    exact hst (by rw[a2.1];exact he2)
  have q2:=hok2 he1 he2
  have hrd:=rd_arms (J:=J) (fs:=fs) (Q:=Q) (k:=k) (n:=n) (ns:=ns) (ty:=ty) (ex:=ex) (T1:=z1.1) (T2:=z2.1) (off:=off) (now:=now) (l:=l) (i:=i) (S:=S) (y:=z2.2) (ar:=ar) hE hnp ho1 R.vm.c (by omega) (fun v ns1 b of1 hmm y' hy'=>hB b (hmemw v ns1 b of1 hmm).1 (hmemw v ns1 b of1 hmm).2 now es y' R.vm R.nv hy') (q2.mono (by omega))
  rw[hz3] at hrd
  refine hrd hst (fun he3=>?_)
  have hcl:=call_len R.nv.vb k n ns ty ex z1.1 z2.1 z3.1 [] off
  refine rd_tail hE hnp ho1 hlt (by omega) R.vm R.nv (by have:=R.sl;omega) (by omega) (by omega) (fun σ hm2=>?_)
  refine hJ now (S++call now k n ns ty ex z1.1 z2.1 z3.1 [] off) z3.2 es ⟨hlt,?_,R.vm,R.nv,?_,?_⟩ σ hm2
  · rw[heq];simp
  · exact(q2.grow g3 (by omega) he3 (k3 he3 q2.e q2.p)).mono (by omega)
  · have:=R.sl
    rw[List.length_append]
    omega
end Go.Proofs.YtffmphmiicnaeaaDoor

set_option maxHeartbeats 4000000
set_option maxRecDepth 100000
namespace Go.Proofs.YtffmphmiicnaeaaDoor
open Go.Am Go.Proofs Go.Lf
open Classical
attribute [local irreducible] AW CallP CallB
theorem lone_map {es:List (AV×AV)} (h:EsClo es):Lone (.map es):=⟨fun m=>by simp only[AObj.ren,h.ren],fun p=>by simp only[AObj.ids];exact h.ids p⟩
theorem lone_row:Lone (.row 17 []):=⟨fun m=>by simp[AObj.ren,AV.renL],fun p=>by simp[AObj.ids,AV.idsL]⟩
theorem block_c (nm:Nm) (ps:List Nm) (bs:List Bd) (l:List Lf.St) {W:Nat} (hW:W≤2 ^ 40) (hs:stSz l≤1000) (hw:wtL l≤W) (hB:SubB nm ps bs (stSz l) W) (hF:SubF nm ps bs (stSz l) W) (now:List Vs) (om:List (Nat×AObj)) (arg:AV) (x:Ls) (hom:(om=[]∧arg= .nilmap∧now=[])∨∃ es,om=[(1,.map es)]∧arg= .mp 1∧VM es now) (hnv:NV now) (hx:Ok x (stSz l)):LC 25 [.ptr 0 0,.sl (stl l),arg] (objL nm ps bs om) 3 (1+om.length) x (.sl (stl (blk dec nm ps bs now l x).1)) (blk dec nm ps bs now l x).2:=by
  refine LC.intro (by simp[AV.clo]) Tryd.func25 isf25 rfl (by simp[Tryd.f25]) fun E Q hE hN hQ hQp=>K_start ?_
  have hln:=st_len_le l
  have key : ∀ (o1 : AObj), Lone o1 → E.np ≤ 2 → (om = [] ∨ om = [(1, o1)]) → ∀ z : Nat × List Vs × List Lf.St × Ls × List (AV × AV), RB nm ps bs l now x z.1 z.2.1 z.2.2.1 z.2.2.2.1 z.2.2.2.2 → ∀ (gs : List Fm), z.1 < l.length →
      AW Tryd.prog E rd25 (Kq Tryd.prog E (.lp (fun σ'=>∃ z':Nat×List Vs×List Lf.St×Ls×List (AV×AV),RB nm ps bs l now x z'.1 z'.2.1 z'.2.2.1 z'.2.2.2.1 z'.2.2.2.2∧l.length - z'.1<l.length - z.1∧∃ m,Ent E.np m σ' (mk25 nm ps bs o1 l z'.1 z'.2.2.2.2 z'.2.2.1 z'.2.2.2.1))::gs) Q) (mk25 nm ps bs o1 l z.1 z.2.2.2.2 z.2.2.1 z.2.2.2.1):=by
    rintro o1 ho1 hnp _ ⟨i,now',S,y,es⟩ R gs hlt
    exact rd_all hE hnp ho1 hW hs hw hB hF R hlt hQp (fun now2 S2 y2 es2 R2 σ hm2=>⟨(i+1,now2,S2,y2,es2),R2,by simp only at hlt ⊢;omega,hm2⟩)
  have fin : ∀ (o1 : AObj), Lone o1 → E.np ≤ 2 → (om = [] ∨ om = [(1, o1)]) → ∀ (now' : List Vs) (S : List Lf.St) (y : Ls) (es : List (AV × AV)) (n1 : Nat), RB nm ps bs l now x l.length now' S y es →
      AW Tryd.prog E (sq1 fin25) (Kq Tryd.prog E [.code (sq2 fin25)] Q) ⟨upd (mk25 nm ps bs o1 l l.length es S y).fr 27 (.bool false),(mk25 nm ps bs o1 l l.length es S y).hp,n1⟩:=by
    intro o1 ho1 hnp hom2 now' S y es n1 R
    have heq:=R.eq
    rw[List.drop_length,blk] at heq
    simp only[List.append_nil] at heq
    rw[heq] at hQ
    have hq:=hQ R.ok.e
    simp only[fin25,b25,Tryd.f25,Option.getD,sq1,sq2]
    refine AW_frz1 8 11 (sz:=17) (xs:=stl S) (by simp only[go_sem]) (by simp only[go_sem]) (stl_clor S) ?_
    repeat'(first|apply nx|refine zx ?_|rw[zw]|((first|refine hK _ ?_|refine hKp _ _ ?_);clear hK hKp K Kp;try clear hanc anc)|((with_reducible refine And.intro ?_ ?_);exact zb)|((first|refine zr hE fun K Kp hK hKp=>?_|refine zd true mixed hE fun K Kp hK hKp anc hanc=>?_|refine zd false mixed hE fun K Kp hK hKp anc hanc=>?_);simp only[go_sem])|(refine zg (fun hg=>?_) (fun hg=>?_)<;>simp only[go_sem,hg])|(refine zc (fun hc=>?_) (fun hc=>?_)<;>try exact zh hc))
    refine K_ret (hq _ (fun i=>i) 3 (resA_tmp (by simp only[go_sem])) ?_).1
    rcases hom2 with hom2|hom2
    · rw[hom2]
      show Ent _ _ _ (mkSt [] [(0,.cells [.str nm,.sl (nml ps),.sl (bdl bs),.i y.cnt,.rw 2]),(2,.row 10 (fdl y.out))] 3)
      exact ent_mk (by simp) (by simp[go_sem,updo]) (by simp) (fun id hid=>⟨rfl,by simp at hid;omega⟩)
    · rw[hom2]
      show Ent _ _ _ (mkSt [] [(0,.cells [.str nm,.sl (nml ps),.sl (bdl bs),.i y.cnt,.rw 2]),(2,.row 10 (fdl y.out)),(1,o1)] 3)
      refine ent_mk (by simp) ?_ (by simp) (fun id hid=>⟨rfl,by simp at hid;omega⟩)
      simp only[List.forall_mem_cons,ho1.r,ho1.i]
      simp[go_sem,updo]
  unfold objL
  simp only[List.cons_append,List.nil_append]
  rcases hom with ⟨hom,rfl,rfl⟩|⟨es,hom,rfl,hv⟩
  · have c0:=clone_nil
    repeat'(first|apply nx|refine zx ?_|rw[zw]|((first|refine hK _ ?_|refine hKp _ _ ?_);clear hK hKp K Kp;try clear hanc anc)|((with_reducible refine And.intro ?_ ?_);exact zb)|((first|refine zr hE fun K Kp hK hKp=>?_|refine zd true mixed hE fun K Kp hK hKp anc hanc=>?_|refine zd false mixed hE fun K Kp hK hKp anc hanc=>?_|(apply zm;exact zu;exact c0;exact zs;exact zl));simp only[go_sem])|(refine zg (fun hg=>?_) (fun hg=>?_)<;>simp only[go_sem,hg])|(refine zc (fun hc=>?_) (fun hc=>?_)<;>try exact zh hc))
    refine AW_nil 8 17 (by rw[hE];decide) (by simp only[go_sem]) ?_
    refine AW_nil 6 17 (by rw[hE];decide) (by simp only[go_sem]) ?_
    have hnp:E.np≤2:=by rw[hN,hom];simp
    have hk:=fun z hz gs=>key (.row 17 []) lone_row hnp (.inl hom) z hz gs
    have hf:=fun now' S y es n1 R=>fin (.row 17 []) lone_row hnp (.inl hom) now' S y es n1 R
    clear key fin
    simp only[rd25,b25,Tryd.f25,Option.getD,sq1,sq2,blkC,lpC] at hk
    simp only[fin25,b25,Tryd.f25,Option.getD,sq1,sq2,blkC,lpC] at hf
    refine K_loop (X:=Nat×List Vs×List Lf.St×Ls×List (AV×AV)) (fun z=>RB nm ps bs l [] x z.1 z.2.1 z.2.2.1 z.2.2.2.1 z.2.2.2.2) (fun z=>mk25 nm ps bs (.row 17 []) l z.1 z.2.2.2.2 z.2.2.1 z.2.2.2.1) (fun z=>l.length - z.1) (0,[],[],x,[]) ⟨Nat.zero_le _,rfl,VM.nil,hnv,hx,Nat.zero_le _⟩ (fun i=>if i=10 then 6291459 else if i=11 then 12582915 else if i=1 then 12582916 else i) ?_ ?_
    · rw[hom]
      refine ent_mk (by simp[go_sem]) (by simp[go_sem]) (by simp) (by rw[hN,hom];intro id hid;simp at hid;subst hid;exact⟨rfl,by decide⟩)
    rintro⟨i,now',S,y,es⟩ hz
    by_cases hlt:i<l.length
    · exact hk _ hz _ hlt
    · obtain rfl:i=l.length:=by have:=hz.il;simp only at this;omega
      repeat'(first|apply nx|refine zx ?_|rw[zw]|((first|refine hK _ ?_|refine hKp _ _ ?_);clear hK hKp K Kp;try clear hanc anc)|((with_reducible refine And.intro ?_ ?_);exact zb)|((fail_if_success refine K_stop 35 ?_);(first|refine zr hE fun K Kp hK hKp=>?_|refine zd true mixed hE fun K Kp hK hKp anc hanc=>?_|refine zd false mixed hE fun K Kp hK hKp anc hanc=>?_);simp only[go_sem,ge_dec])|(refine zg (fun hg=>?_) (fun hg=>?_)<;>simp only[go_sem,ge_dec,hg])|(refine zc (fun hc=>?_) (fun hc=>?_)<;>try exact zh hc))
      exact hf _ _ _ _ _ hz
  · repeat'(first|apply nx|refine zx ?_|rw[zw]|((first|refine hK _ ?_|refine hKp _ _ ?_);clear hK hKp K Kp;try clear hanc anc)|((with_reducible refine And.intro ?_ ?_);exact zb)|((first|refine zr hE fun K Kp hK hKp=>?_|refine zd true mixed hE fun K Kp hK hKp anc hanc=>?_|refine zd false mixed hE fun K Kp hK hKp anc hanc=>?_);simp only[go_sem])|(refine zg (fun hg=>?_) (fun hg=>?_)<;>simp only[go_sem,hg])|(refine zc (fun hc=>?_) (fun hc=>?_)<;>try exact zh hc))
    refine Hold.mk (clone_use hv.c 2097155 (by rfl) (by rw[hom];simp only[go_sem]) fun hpn g1 gM hold=>?_)
    have g0:=hold 0 (.cells [.str nm,.sl (nml ps),.sl (bdl bs),.i x.cnt,.rw 2]) (by decide) (by simp[updo])
    have g2:=hold 2 (.row 10 (fdl x.out)) (by decide) (by simp[updo])
    clear hold
    simp only[go_sem,putf]
    repeat'(first|apply nx|refine zx ?_|rw[zw]|((first|refine hK _ ?_|refine hKp _ _ ?_);clear hK hKp K Kp;try clear hanc anc)|((with_reducible refine And.intro ?_ ?_);exact zb)|((first|refine zr hE fun K Kp hK hKp=>?_|refine zd true mixed hE fun K Kp hK hKp anc hanc=>?_|refine zd false mixed hE fun K Kp hK hKp anc hanc=>?_);simp only[go_sem])|(refine zg (fun hg=>?_) (fun hg=>?_)<;>simp only[go_sem,hg])|(refine zc (fun hc=>?_) (fun hc=>?_)<;>try exact zh hc))
    refine AW_nil 8 17 (by rw[hE];decide) (by simp only[go_sem]) ?_
    have her:=fun m=>hv.c.ren (m:=m)
    have hnp:E.np≤2:=by rw[hN,hom];simp
    have hk:=fun z hz gs=>key (.map es) (lone_map hv.c) hnp (.inr hom) z hz gs
    have hf:=fun now' S y es' n1 R=>fin (.map es) (lone_map hv.c) hnp (.inr hom) now' S y es' n1 R
    clear key fin
    simp only[rd25,b25,Tryd.f25,Option.getD,sq1,sq2,blkC,lpC] at hk
    simp only[fin25,b25,Tryd.f25,Option.getD,sq1,sq2,blkC,lpC] at hf
    refine K_loop (X:=Nat×List Vs×List Lf.St×Ls×List (AV×AV)) (fun z=>RB nm ps bs l now x z.1 z.2.1 z.2.2.1 z.2.2.2.1 z.2.2.2.2) (fun z=>mk25 nm ps bs (.map es) l z.1 z.2.2.2.2 z.2.2.1 z.2.2.2.1) (fun z=>l.length - z.1) (0,now,[],x,es) ⟨Nat.zero_le _,rfl,hv,hnv,hx,Nat.zero_le _⟩ (fun i=>if i=10 then 2097155 else if i=11 then 10485763 else i) ?_ ?_
    · refine ent_mk (by simp[go_sem]) ?_ (by simp) (fun id hid=>⟨by rw[if_neg (by omega),if_neg (by omega)],by omega⟩)
      simp[go_sem,g0,g1,g2,gM,her]
      exact hv.c.ids2 _
    clear g0 g1 g2 gM hpn her
    rintro⟨i,now',S,y,es'⟩ hz
    by_cases hlt:i<l.length
    · exact hk _ hz _ hlt
    · obtain rfl:i=l.length:=by have:=hz.il;simp only at this;omega
      repeat'(first|apply nx|refine zx ?_|rw[zw]|((first|refine hK _ ?_|refine hKp _ _ ?_);clear hK hKp K Kp;try clear hanc anc)|((with_reducible refine And.intro ?_ ?_);exact zb)|((fail_if_success refine K_stop 35 ?_);(first|refine zr hE fun K Kp hK hKp=>?_|refine zd true mixed hE fun K Kp hK hKp anc hanc=>?_|refine zd false mixed hE fun K Kp hK hKp anc hanc=>?_);simp only[go_sem,ge_dec])|(refine zg (fun hg=>?_) (fun hg=>?_)<;>simp only[go_sem,ge_dec,hg])|(refine zc (fun hc=>?_) (fun hc=>?_)<;>try exact zh hc))
      exact hf _ _ _ _ _ hz
end Go.Proofs.YtffmphmiicnaeaaDoor

set_option maxHeartbeats 4000000
set_option maxRecDepth 100000
namespace Go.Lf
open Go Go.Am
def addN (L:List Nm) (n:Nm):List Nm:=if inN n L=true then L else L++[n]
def addA (L:List Nm) (ns:List Nm):List Nm:=ns.foldl addN L
theorem addA_app (L a b:List Nm):addA L (a++b)=addA (addA L a) b:=List.foldl_append ..
theorem addA_cons (L:List Nm) (n:Nm) (ns:List Nm):addA L (n::ns)=addA (addN L n) ns:=rfl
theorem inN_addN (L:List Nm) (n m:Nm):inN m (addN L n)=(inN m L||decide (n=m)):=by
 unfold addN
 by_cases h:inN n L=true
 ·rw[if_pos h]
  by_cases e:n=m
  ·subst e;rw[h];rfl
  ·rw[decide_eq_false e,Bool.or_false]
 ·rw[if_neg h]
  unfold inN
  rw[List.any_append]
  simp
theorem inN_addA (m:Nm):∀ (ns L:List Nm),inN m (addA L ns)=(inN m L||inN m ns)
 | [],L=>by rw[addA,List.foldl_nil];simp[inN]
 |n::ns,L=>by
  rw[addA,List.foldl_cons]
  have:=inN_addA m ns (addN L n)
  rw[addA] at this
  rw[this,inN_addN,Bool.or_assoc]
  rfl
theorem esB_put (L:List Nm) (n:Nm):putT n (.bool true) (esB L) (if inN n L=true then some (.bool true) else none)=esB (addN L n):=by
 unfold addN
 by_cases h:inN n L=true
 ·rw[if_pos h,if_pos h,putT,esB_upd]
 ·rw[if_neg h,if_neg h,putT,esB_snoc]
abbrev fn64:AV:= .fn (.func 64) [] [.ptr 0 0]
def objM (L:List Nm):Nat→Option AObj:=mkHp [(0,.cells [.mp 1]),(1,.map (esB L))]
theorem famM:Fam objM 2:=by
 refine⟨fun L id o ho=>mkHp_allP (p:=fun id o=>id<2∧o.ids (· <2)) (fun q hq=>?_) id o ho,fun L id hid=>?_⟩
 ·simp only[List.mem_cons,List.not_mem_nil,or_false] at hq
  rcases hq with rfl|rfl
  ·exact⟨by show 0<2;decide,by simp[AObj.ids,AV.ids,AV.idsL,go_sem]⟩
  ·exact⟨by show 1<2;decide,by simp only[AObj.ids];exact(esB_clo L).ids _⟩
 ·rcases(by omega:id=0∨id=1) with rfl|rfl<;>simp[objM,mkHp,updo]
theorem objM_0 (L:List Nm):objM L 0=some (.cells [.mp 1]):=rfl
theorem objM_1 (L:List Nm):objM L 1=some (.map (esB L)):=rfl
end Go.Lf
namespace Go.Proofs.YtffmphmiicnaeaaDoor
open Go.Am Go.Proofs Go.Lf
open Classical
attribute [local irreducible] AW CallP CallB
abbrev NC (f:FuncId) (vs:List AV) (L L2:List Nm):Prop:=MCall Tryd.prog f vs objM 2 2 L (fun L'=>L'=L2)
theorem NC.use' {f : FuncId} {vs : List AV} {L L2 : List Nm} (hA : NC f vs L L2) (hvs : AV.idsL (· < 2) vs) {fr : Nat → Option AV} {hp0 : Nat → Option AObj} {n0 k : Nat} {d : Option Nat} {K : Am.St → Prop} {Kp : AV → Am.St → Prop}
    (h0:hp0 0=some (.cells [.mp 1])) (h1:hp0 1=some (.map (esB L)))
    (hK:∀ hpn,hpn 0=some (.cells [.mp 1])→hpn 1=some (.map (esB L2))→(∀ id o,2≤id→hp0 id=some o→hpn id=some o)→K ⟨putf fr d (.tup []),hpn,n0⟩):CallB Tryd.prog f vs ⟨fr,hp0,n0⟩ k d K Kp:=by
  refine MCall.use famM hA hvs (fun id o ho=>?_) ?_
  · exact mkHp_allP (p := fun id o => hp0 id = some o) (by
      intro q hq
      simp only[List.mem_cons,List.not_mem_nil,or_false] at hq
      rcases hq with rfl|rfl
      · exact h0
      · exact h1) id o ho
  · rintro x' hpn rfl hobj hold
    exact hK hpn (hobj 0 _ rfl) (hobj 1 _ rfl) hold
theorem objM_all {L:List Nm} {hp:Nat→Option AObj} (h0:hp 0=some (.cells [.mp 1])) (h1:hp 1=some (.map (esB L))):∀ id o,objM L id=some o→hp id=some o:=mkHp_allP (p:=fun id o=>hp id=some o) (by
 intro q hq
 simp only[List.mem_cons,List.not_mem_nil,or_false] at hq
 rcases hq with rfl|rfl
 ·exact h0
 ·exact h1)
theorem note_c (L:List Nm) (s:Nm):NC 64 [.str s,.ptr 0 0] L (addN L s):=by
 have hf:=esB_find s L
 have he:=esB_put L s
 refine MCall.intro Tryd.func64 isf64 rfl (by simp[Tryd.f64]) rfl fun E Q hE hN hQ=>K_start ?_
 repeat'(first|apply nx|refine zx ?_|rw[zw]|((first|refine hK _ ?_|refine hKp _ _ ?_);clear hK hKp K Kp;try clear hanc anc)|((with_reducible refine And.intro ?_ ?_);exact zb)|((first|refine zr hE fun K Kp hK hKp=>?_|refine zd true mixed hE fun K Kp hK hKp anc hanc=>?_|refine zd false mixed hE fun K Kp hK hKp anc hanc=>?_);simp only[go_sem,objM_0,objM_1,hf,he])|(refine zg (fun hg=>?_) (fun hg=>?_)<;>simp only[go_sem,objM_0,objM_1,hf,he,hg])|(refine zc (fun hc=>?_) (fun hc=>?_)<;>try exact zh hc))
 exact Kq_norm_nil (hQ _ (MCall.fin famM (Nat.le_refl _) rfl (objM_all (by simp[updo,objM_0]) (by simp[updo])))).2
theorem names_c:∀ (N:Nat) (l:List Tx),Tx.szL l<N→N≤2 ^ 40→∀ L,NC 76 [.sl (Tx.avL l),fn64] L (addA L (Tx.nmsL l)):=by
 intro N
 induction N with
 |zero=>intro l hl;omega
 |succ N IH=>
  intro l hl hN2 L
  have hln:=Tx.len_le l
  have herL:=fun(L:List Nm) m=>(esB_clo L).ren (m:=m)
  refine MCall.intro Tryd.func76 isf76 rfl (by simp[Tryd.f76]) rfl fun E Q hE hN hQ=>K_start ?_
  repeat'(first|apply nx|refine zx ?_|rw[zw]|((first|refine hK _ ?_|refine hKp _ _ ?_);clear hK hKp K Kp;try clear hanc anc)|((with_reducible refine And.intro ?_ ?_);exact zb)|((first|refine zr hE fun K Kp hK hKp=>?_|refine zd true mixed hE fun K Kp hK hKp anc hanc=>?_|refine zd false mixed hE fun K Kp hK hKp anc hanc=>?_);simp only[go_sem])|(refine zg (fun hg=>?_) (fun hg=>?_)<;>simp only[go_sem,hg])|(refine zc (fun hc=>?_) (fun hc=>?_)<;>try exact zh hc))
  refine K_loop (X:=Nat×List Nm) (fun z=>z.1≤l.length∧addA L (Tx.nmsL l)=addA z.2 (Tx.nmsL (l.drop z.1))) (fun z=>mkSt [(1,fn64),(6,.sl (Tx.avL l)),(7,.i l.length),(8,.i (z.1:Nat))] [(0,.cells [.mp 1]),(1,.map (esB z.2))] 2) (fun z=>l.length - z.1) (0,L) ⟨Nat.zero_le _,rfl⟩ (fun i=>i) ?_ ?_
  ·refine ent_mk (by simp[go_sem,AV.renL,AV.idsL]) ?_ (by simp) (fun id hid=>⟨rfl,by omega⟩)
   simp[go_sem,objM_0,objM_1,herL]
   exact(esB_clo _).ids2 _
  rintro⟨j,L1⟩ ⟨hj,he⟩
  simp only at hj he ⊢
  by_cases hlt:j<l.length
  case neg=>
   obtain rfl:j=l.length:=by omega
   rw[List.drop_length,Tx.nmsL] at he
   rw[he] at hQ
   repeat'(first|apply nx|refine zx ?_|rw[zw]|((first|refine hK _ ?_|refine hKp _ _ ?_);clear hK hKp K Kp;try clear hanc anc)|((with_reducible refine And.intro ?_ ?_);exact zb)|((first|refine zr hE fun K Kp hK hKp=>?_|refine zd true mixed hE fun K Kp hK hKp anc hanc=>?_|refine zd false mixed hE fun K Kp hK hKp anc hanc=>?_);simp only[go_sem,ge_dec])|(refine zg (fun hg=>?_) (fun hg=>?_)<;>simp only[go_sem,ge_dec,hg])|(refine zc (fun hc=>?_) (fun hc=>?_)<;>try exact zh hc))
   exact Kq_norm_nil (hQ _ (MCall.fin famM (Nat.le_refl _) rfl (objM_all (by simp only[go_sem]) (by simp only[go_sem];rfl)))).2
  obtain⟨⟨tn,ta,to⟩,hx⟩:=get?_of hlt
  have hm:=Tx.mem_le (List.mem_of_getElem? hx)
  rw[Tx.sz] at hm
  have u1:=inc_u hlt (by omega)
  rw[drop_of hx,Tx.nmsL,Tx.nms,List.cons_append,addA_cons,addA_app] at he
  have c1:=note_c L1 tn
  have c2:=IH ta (by omega) (by omega) (addN L1 tn)
  repeat'(first|apply nx|refine zx ?_|rw[zw]|((first|refine hK _ ?_|refine hKp _ _ ?_);clear hK hKp K Kp;try clear hanc anc)|((with_reducible refine And.intro ?_ ?_);exact zb)|((first|refine zr hE fun K Kp hK hKp=>?_|refine zd true mixed hE fun K Kp hK hKp anc hanc=>?_|refine zd false mixed hE fun K Kp hK hKp anc hanc=>?_);simp only[go_sem,lt_dec hlt,hx,Tx.av])|(refine zg (fun hg=>?_) (fun hg=>?_)<;>simp only[go_sem,lt_dec hlt,hx,Tx.av,hg])|(refine zc (fun hc=>?_) (fun hc=>?_)<;>try exact zh hc))
  refine Hold.mk (NC.use' c1 (by simp[AV.idsL,AV.ids]) (by simp only[go_sem]) (by simp only[go_sem]) fun hpn g0 g1 hold=>?_)
  have g5:=hold 3145730 (.cells [.str tn,.sl (Tx.avL ta),.i to]) (by decide) (by simp only[go_sem])
  clear hold
  simp only[go_sem,putf]
  repeat'(first|apply nx|refine zx ?_|rw[zw]|((first|refine hK _ ?_|refine hKp _ _ ?_);clear hK hKp K Kp;try clear hanc anc)|((with_reducible refine And.intro ?_ ?_);exact zb)|((first|refine zr hE fun K Kp hK hKp=>?_|refine zd true mixed hE fun K Kp hK hKp anc hanc=>?_|refine zd false mixed hE fun K Kp hK hKp anc hanc=>?_);simp only[go_sem,g5])|(refine zg (fun hg=>?_) (fun hg=>?_)<;>simp only[go_sem,g5,hg])|(refine zc (fun hc=>?_) (fun hc=>?_)<;>try exact zh hc))
  refine Hold.mk (NC.use' c2 (by simp[AV.idsL,AV.ids,go_sem]) g0 g1 fun hpn2 k0 k1 hold=>?_)
  clear hold g0 g1 g5
  simp only[go_sem,putf]
  repeat'(first|apply nx|refine zx ?_|rw[zw]|((first|refine hK _ ?_|refine hKp _ _ ?_);clear hK hKp K Kp;try clear hanc anc)|((with_reducible refine And.intro ?_ ?_);exact zb)|((first|refine zr hE fun K Kp hK hKp=>?_|refine zd true mixed hE fun K Kp hK hKp anc hanc=>?_|refine zd false mixed hE fun K Kp hK hKp anc hanc=>?_);simp only[go_sem,u1])|(refine zg (fun hg=>?_) (fun hg=>?_)<;>simp only[go_sem,u1,hg])|(refine zc (fun hc=>?_) (fun hc=>?_)<;>try exact zh hc))
  refine⟨(j+1,addA (addN L1 tn) (Tx.nmsL ta)),⟨hlt,he⟩,by simp only;omega,fun i=>i,?_⟩
  refine ent_mk (by simp[go_sem,AV.renL,AV.idsL]) ?_ (by simp) (fun id hid=>⟨rfl,by omega⟩)
  simp[go_sem,k0,k1,herL]
  exact(esB_clo _).ids2 _
end Go.Proofs.YtffmphmiicnaeaaDoor

set_option maxHeartbeats 4000000
set_option maxRecDepth 100000
namespace Go.Lf
open Go Go.Am
abbrev fn77:AV:= .fn (.func 77) [] [.ptr 2 0,.ptr 3 0]
def objK (L:List Nm):Nat→Option AObj:=mkHp [(0,.cells [.mp 1]),(1,.map (esB L)),(2,.cells [fn64]),(3,.cells [fn77])]
theorem famK:Fam objK 4:=by
 refine⟨fun L id o ho=>mkHp_allP (p:=fun id o=>id<4∧o.ids (· <4)) (fun q hq=>?_) id o ho,fun L id hid=>?_⟩
 ·simp only[List.mem_cons,List.not_mem_nil,or_false] at hq
  rcases hq with rfl|rfl|rfl|rfl
  ·exact⟨by show 0<4;decide,by simp[AObj.ids,AV.ids,AV.idsL,go_sem]⟩
  ·exact⟨by show 1<4;decide,by simp only[AObj.ids];exact(esB_clo L).ids _⟩
  ·exact⟨by show 2<4;decide,by simp[AObj.ids,AV.ids,AV.idsL,go_sem]⟩
  ·exact⟨by show 3<4;decide,by simp[AObj.ids,AV.ids,AV.idsL,go_sem]⟩
 ·rcases(by omega:id=0∨id=1∨id=2∨id=3) with rfl|rfl|rfl|rfl<;>simp[objK,mkHp,updo]
theorem objK_0 (L:List Nm):objK L 0=some (.cells [.mp 1]):=rfl
theorem objK_1 (L:List Nm):objK L 1=some (.map (esB L)):=rfl
theorem objK_2 (L:List Nm):objK L 2=some (.cells [fn64]):=rfl
theorem objK_3 (L:List Nm):objK L 3=some (.cells [fn77]):=rfl
theorem objK_all {L:List Nm} {hp:Nat→Option AObj} (h0:hp 0=some (.cells [.mp 1])) (h1:hp 1=some (.map (esB L))) (h2:hp 2=some (.cells [fn64])) (h3:hp 3=some (.cells [fn77])):∀ id o,objK L id=some o→hp id=some o:=mkHp_allP (p:=fun id o=>hp id=some o) (by
 intro q hq
 simp only[List.mem_cons,List.not_mem_nil,or_false] at hq
 rcases hq with rfl|rfl|rfl|rfl
 ·exact h0
 ·exact h1
 ·exact h2
 ·exact h3)
end Go.Lf
namespace Go.Proofs.YtffmphmiicnaeaaDoor
open Go.Am Go.Proofs Go.Lf
open Classical
attribute [local irreducible] AW CallP CallB
abbrev KC (vs:List AV) (L L2:List Nm):Prop:=MCall Tryd.prog 77 vs objK 4 4 L (fun L'=>L'=L2)
theorem KC.use' {vs : List AV} {L L2 : List Nm} (hA : KC vs L L2) (hvs : AV.idsL (· < 4) vs) {fr : Nat → Option AV} {hp0 : Nat → Option AObj} {n0 k : Nat} {d : Option Nat} {K : Am.St → Prop} {Kp : AV → Am.St → Prop}
    (h0:hp0 0=some (.cells [.mp 1])) (h1:hp0 1=some (.map (esB L))) (h2:hp0 2=some (.cells [fn64])) (h3:hp0 3=some (.cells [fn77]))
    (hK:∀ hpn,hpn 0=some (.cells [.mp 1])→hpn 1=some (.map (esB L2))→hpn 2=some (.cells [fn64])→hpn 3=some (.cells [fn77])→(∀ id o,4≤id→hp0 id=some o→hpn id=some o)→K ⟨putf fr d (.tup []),hpn,n0⟩):CallB Tryd.prog 77 vs ⟨fr,hp0,n0⟩ k d K Kp:=by
  refine MCall.use famK hA hvs (objK_all h0 h1 h2 h3) ?_
  rintro x' hpn rfl hobj hold
  exact hK hpn (hobj 0 _ rfl) (hobj 1 _ rfl) (hobj 2 _ rfl) (hobj 3 _ rfl) hold
theorem kinds_clo {N:Nat} (hN2:N≤2 ^ 40) (hF:∀ f:Lf.Fd,f.sz<N→∀ L,NC 63 [f.av,fn64] L (addA L f.nms)):∀ (M:Nat) (l:List Lf.St),stSz l<M→stSz l≤N→∀ L,KC [.sl (stl l),.ptr 2 0,.ptr 3 0] L (addA L (stN l)):=by
 intro M
 induction M with
 |zero=>intro l hl;omega
 |succ M IH=>
  intro l hl hlN L
  have hln:=st_len_le l
  have herL:=fun(L:List Nm) m=>(esB_clo L).ren (m:=m)
  refine MCall.intro Tryd.func77 isf77 rfl (by simp[Tryd.f77]) rfl fun E Q hE hN hQ=>K_start ?_
  repeat'(first|apply nx|refine zx ?_|rw[zw]|((first|refine hK _ ?_|refine hKp _ _ ?_);clear hK hKp K Kp;try clear hanc anc)|((with_reducible refine And.intro ?_ ?_);exact zb)|((first|refine zr hE fun K Kp hK hKp=>?_|refine zd true mixed hE fun K Kp hK hKp anc hanc=>?_|refine zd false mixed hE fun K Kp hK hKp anc hanc=>?_);simp only[go_sem])|(refine zg (fun hg=>?_) (fun hg=>?_)<;>simp only[go_sem,hg])|(refine zc (fun hc=>?_) (fun hc=>?_)<;>try exact zh hc))
  refine K_loop (X:=Nat×List Nm) (fun z=>z.1≤l.length∧addA L (stN l)=addA z.2 (stN (l.drop z.1))) (fun z=>mkSt [(1,.ptr 2 0),(2,.ptr 3 0),(10,.sl (stl l)),(11,.i l.length),(12,.i (z.1:Nat))] [(0,.cells [.mp 1]),(1,.map (esB z.2)),(2,.cells [fn64]),(3,.cells [fn77])] 4) (fun z=>l.length - z.1) (0,L) ⟨Nat.zero_le _,rfl⟩ (fun i=>i) ?_ ?_
  ·refine ent_mk (by simp[go_sem]) ?_ (by simp) (fun id hid=>⟨rfl,by omega⟩)
   simp[go_sem,objK_0,objK_1,objK_2,objK_3,herL,AV.renL,AV.idsL]
   exact(esB_clo _).ids2 _
  rintro⟨j,L1⟩ ⟨hj,he⟩
  simp only at hj he ⊢
  by_cases hlt:j<l.length
  case neg=>
   obtain rfl:j=l.length:=by omega
   rw[List.drop_length,stN] at he
   rw[he] at hQ
   repeat'(first|apply nx|refine zx ?_|rw[zw]|((first|refine hK _ ?_|refine hKp _ _ ?_);clear hK hKp K Kp;try clear hanc anc)|((with_reducible refine And.intro ?_ ?_);exact zb)|((first|refine zr hE fun K Kp hK hKp=>?_|refine zd true mixed hE fun K Kp hK hKp anc hanc=>?_|refine zd false mixed hE fun K Kp hK hKp anc hanc=>?_);simp only[go_sem,ge_dec])|(refine zg (fun hg=>?_) (fun hg=>?_)<;>simp only[go_sem,ge_dec,hg])|(refine zc (fun hc=>?_) (fun hc=>?_)<;>try exact zh hc))
   exact Kq_norm_nil (hQ _ (MCall.fin famK (Nat.le_refl _) rfl (objK_all (by simp only[go_sem]) (by simp only[go_sem];rfl) (by simp only[go_sem]) (by simp only[go_sem])))).2
  obtain⟨⟨k,n,ns,ty,ex,th,el,ar,fn,off⟩,hx⟩:=get?_of hlt
  have hm:=st_mem_le (List.mem_of_getElem? hx)
  rw[St.sz,Ex.sz] at hm
  have u1:=inc_u hlt (by omega)
  have har:=ar_len_le ar
  have hfn:=fd_len_le fn
  rw[drop_of hx,stN,St.nms,addA_app,addA_app,addA_app,addA_app,addA_app,addA_app] at he
  have c1:=names_c (2 ^ 40) ty (by omega) (Nat.le_refl _) L1
  generalize hL2:addA L1 (Tx.nmsL ty)=L2 at he c1
  have c2:=names_c (2 ^ 40) ex.ty (by omega) (Nat.le_refl _) L2
  generalize hL3:addA L2 (Tx.nmsL ex.ty)=L3 at he c2
  have c3:=IH th (by omega) (by omega) L3
  generalize hL4:addA L3 (stN th)=L4 at he c3
  have c4:=IH el (by omega) (by omega) L4
  generalize hL5:addA L4 (stN el)=L5 at he c4
  repeat'(first|apply nx|refine zx ?_|rw[zw]|((first|refine hK _ ?_|refine hKp _ _ ?_);clear hK hKp K Kp;try clear hanc anc)|((with_reducible refine And.intro ?_ ?_);exact zb)|((fail_if_success refine K_stop 3 ?_);(first|refine zr hE fun K Kp hK hKp=>?_|refine zd true mixed hE fun K Kp hK hKp anc hanc=>?_|refine zd false mixed hE fun K Kp hK hKp anc hanc=>?_);simp only[go_sem,lt_dec hlt,hx,St.av])|(refine zg (fun hg=>?_) (fun hg=>?_)<;>simp only[go_sem,lt_dec hlt,hx,St.av,hg])|(refine zc (fun hc=>?_) (fun hc=>?_)<;>try exact zh hc))
  refine AW.ent (σ':=mkSt [(1,.ptr 2 0),(2,.ptr 3 0),(5,.ptr 4 0),(10,.sl (stl l)),(11,.i l.length),(12,.i (j:Nat))] [(0,.cells [.mp 1]),(1,.map (esB L1)),(2,.cells [fn64]),(3,.cells [fn77]),(4,.cells [.i k,.str n,.sl (nml ns),.sl (Tx.avL ty),.i ex.k,.str ex.op,.str ex.nm,.str ex.vr,.sl (nml ex.ns),.i ex.num,.sl (Tx.avL ex.ty),.i ex.off,.sl (stl th),.sl (stl el),.sl (arl ar),.sl (fdl fn),.i off])] 5) (fun i=>if i=4 then 3145732 else i) ?_ ?_
  ·refine ent_mk (by simp[go_sem]) ?_ (by simp) (fun id hid=>⟨by rw[if_neg (by omega)],by omega⟩)
   simp[go_sem,herL,AV.renL,AV.idsL]
   exact(esB_clo _).ids2 _
  repeat'(first|apply nx|refine zx ?_|rw[zw]|((first|refine hK _ ?_|refine hKp _ _ ?_);clear hK hKp K Kp;try clear hanc anc)|((with_reducible refine And.intro ?_ ?_);exact zb)|((first|refine zr hE fun K Kp hK hKp=>?_|refine zd true mixed hE fun K Kp hK hKp anc hanc=>?_|refine zd false mixed hE fun K Kp hK hKp anc hanc=>?_);simp only[go_sem])|(refine zg (fun hg=>?_) (fun hg=>?_)<;>simp only[go_sem,hg])|(refine zc (fun hc=>?_) (fun hc=>?_)<;>try exact zh hc))
  refine Hold.mk (NC.use' c1 (by simp[AV.idsL,AV.ids,go_sem]) (by simp only[go_sem]) (by simp only[go_sem]) fun hpa g0 g1 hold=>?_)
  have g2:=hold 2 (.cells [fn64]) (by decide) (by simp only[go_sem])
  have g3:=hold 3 (.cells [fn77]) (by decide) (by simp only[go_sem])
  have g4:=hold 4 (.cells [.i k,.str n,.sl (nml ns),.sl (Tx.avL ty),.i ex.k,.str ex.op,.str ex.nm,.str ex.vr,.sl (nml ex.ns),.i ex.num,.sl (Tx.avL ex.ty),.i ex.off,.sl (stl th),.sl (stl el),.sl (arl ar),.sl (fdl fn),.i off]) (by decide) (by simp only[go_sem])
  clear hold
  simp only[go_sem,putf]
  repeat'(first|apply nx|refine zx ?_|rw[zw]|((first|refine hK _ ?_|refine hKp _ _ ?_);clear hK hKp K Kp;try clear hanc anc)|((with_reducible refine And.intro ?_ ?_);exact zb)|((first|refine zr hE fun K Kp hK hKp=>?_|refine zd true mixed hE fun K Kp hK hKp anc hanc=>?_|refine zd false mixed hE fun K Kp hK hKp anc hanc=>?_);simp only[go_sem,g2,g3,g4])|(refine zg (fun hg=>?_) (fun hg=>?_)<;>simp only[go_sem,g2,g3,g4,hg])|(refine zc (fun hc=>?_) (fun hc=>?_)<;>try exact zh hc))
  refine Hold.mk (NC.use' c2 (by simp[AV.idsL,AV.ids,go_sem]) g0 g1 fun hpb k0 k1 hold=>?_)
  have k2:=hold 2 _ (by decide) g2
  have k3:=hold 3 _ (by decide) g3
  have k4:=hold 4 _ (by decide) g4
  clear hold g0 g1 g2 g3 g4 hpa
  simp only[go_sem,putf]
  repeat'(first|apply nx|refine zx ?_|rw[zw]|((first|refine hK _ ?_|refine hKp _ _ ?_);clear hK hKp K Kp;try clear hanc anc)|((with_reducible refine And.intro ?_ ?_);exact zb)|((first|refine zr hE fun K Kp hK hKp=>?_|refine zd true mixed hE fun K Kp hK hKp anc hanc=>?_|refine zd false mixed hE fun K Kp hK hKp anc hanc=>?_);simp only[go_sem,k2,k3,k4])|(refine zg (fun hg=>?_) (fun hg=>?_)<;>simp only[go_sem,k2,k3,k4,hg])|(refine zc (fun hc=>?_) (fun hc=>?_)<;>try exact zh hc))
  refine Hold.mk (KC.use' c3 (by simp[AV.idsL,AV.ids,go_sem]) k0 k1 k2 k3 fun hpc g0 g1 g2 g3 hold=>?_)
  have g4:=hold 4 _ (by decide) k4
  clear hold k0 k1 k2 k3 k4 hpb
  simp only[go_sem,putf]
  repeat'(first|apply nx|refine zx ?_|rw[zw]|((first|refine hK _ ?_|refine hKp _ _ ?_);clear hK hKp K Kp;try clear hanc anc)|((with_reducible refine And.intro ?_ ?_);exact zb)|((first|refine zr hE fun K Kp hK hKp=>?_|refine zd true mixed hE fun K Kp hK hKp anc hanc=>?_|refine zd false mixed hE fun K Kp hK hKp anc hanc=>?_);simp only[go_sem,g2,g3,g4])|(refine zg (fun hg=>?_) (fun hg=>?_)<;>simp only[go_sem,g2,g3,g4,hg])|(refine zc (fun hc=>?_) (fun hc=>?_)<;>try exact zh hc))
  refine Hold.mk (KC.use' c4 (by simp[AV.idsL,AV.ids,go_sem]) g0 g1 g2 g3 fun hpd k0 k1 k2 k3 hold=>?_)
  have k4:=hold 4 _ (by decide) g4
  clear hold g0 g1 g2 g3 g4 hpc
  simp only[go_sem,putf]
  repeat'(first|apply nx|refine zx ?_|rw[zw]|((first|refine hK _ ?_|refine hKp _ _ ?_);clear hK hKp K Kp;try clear hanc anc)|((with_reducible refine And.intro ?_ ?_);exact zb)|((first|refine zr hE fun K Kp hK hKp=>?_|refine zd true mixed hE fun K Kp hK hKp anc hanc=>?_|refine zd false mixed hE fun K Kp hK hKp anc hanc=>?_);simp only[go_sem,k2,k3,k4])|(refine zg (fun hg=>?_) (fun hg=>?_)<;>simp only[go_sem,k2,k3,k4,hg])|(refine zc (fun hc=>?_) (fun hc=>?_)<;>try exact zh hc))
  refine K_loop (X:=Nat×List Nm) (fun z=>z.1≤ar.length∧addA L5 (arN ar)=addA z.2 (arN (ar.drop z.1))) (fun z=>mkSt [(1,.ptr 2 0),(2,.ptr 3 0),(5,.ptr 4 0),(10,.sl (stl l)),(11,.i l.length),(12,.i (j:Nat)),(34,.sl (arl ar)),(35,.i ar.length),(36,.i (z.1:Nat))] [(0,.cells [.mp 1]),(1,.map (esB z.2)),(2,.cells [fn64]),(3,.cells [fn77]),(4,.cells [.i k,.str n,.sl (nml ns),.sl (Tx.avL ty),.i ex.k,.str ex.op,.str ex.nm,.str ex.vr,.sl (nml ex.ns),.i ex.num,.sl (Tx.avL ex.ty),.i ex.off,.sl (stl th),.sl (stl el),.sl (arl ar),.sl (fdl fn),.i off])] 5) (fun z=>ar.length - z.1) (0,L5) ⟨Nat.zero_le _,rfl⟩ (fun i=>i) ?_ ?_
  ·refine ent_mk (by simp[go_sem]) ?_ (by simp) (fun id hid=>⟨rfl,by omega⟩)
   simp[go_sem,k0,k1,k2,k3,k4,herL,AV.renL,AV.idsL]
   exact(esB_clo _).ids2 _
  clear k0 k1 k2 k3 k4 hpd
  rintro⟨q,L6⟩ ⟨hq,he6⟩
  simp only at hq he6 ⊢
  by_cases hlq:q<ar.length
  ·obtain⟨⟨v,ns1,b1,of1⟩,hy⟩:=get?_of hlq
   have hm1:=ar_mem_le (List.mem_of_getElem? hy)
   rw[Ar.sz] at hm1
   have v1:=inc_u hlq (by omega)
   rw[drop_of hy,arN,Ar.nms,addA_app] at he6
   have c5:=IH b1 (by omega) (by omega) L6
   repeat'(first|apply nx|refine zx ?_|rw[zw]|((first|refine hK _ ?_|refine hKp _ _ ?_);clear hK hKp K Kp;try clear hanc anc)|((with_reducible refine And.intro ?_ ?_);exact zb)|((first|refine zr hE fun K Kp hK hKp=>?_|refine zd true mixed hE fun K Kp hK hKp anc hanc=>?_|refine zd false mixed hE fun K Kp hK hKp anc hanc=>?_);simp only[go_sem,lt_dec hlq,hy,Ar.av])|(refine zg (fun hg=>?_) (fun hg=>?_)<;>simp only[go_sem,lt_dec hlq,hy,Ar.av,hg])|(refine zc (fun hc=>?_) (fun hc=>?_)<;>try exact zh hc))
   refine Hold.mk (KC.use' c5 (by simp[AV.idsL,AV.ids,go_sem]) (by simp only[go_sem]) (by simp only[go_sem]) (by simp only[go_sem]) (by simp only[go_sem]) fun hpe g0 g1 g2 g3 hold=>?_)
   have g4:=hold 4 (.cells [.i k,.str n,.sl (nml ns),.sl (Tx.avL ty),.i ex.k,.str ex.op,.str ex.nm,.str ex.vr,.sl (nml ex.ns),.i ex.num,.sl (Tx.avL ex.ty),.i ex.off,.sl (stl th),.sl (stl el),.sl (arl ar),.sl (fdl fn),.i off]) (by decide) (by simp only[go_sem])
   clear hold
   simp only[go_sem,putf]
   repeat'(first|apply nx|refine zx ?_|rw[zw]|((first|refine hK _ ?_|refine hKp _ _ ?_);clear hK hKp K Kp;try clear hanc anc)|((with_reducible refine And.intro ?_ ?_);exact zb)|((first|refine zr hE fun K Kp hK hKp=>?_|refine zd true mixed hE fun K Kp hK hKp anc hanc=>?_|refine zd false mixed hE fun K Kp hK hKp anc hanc=>?_);simp only[go_sem,v1])|(refine zg (fun hg=>?_) (fun hg=>?_)<;>simp only[go_sem,v1,hg])|(refine zc (fun hc=>?_) (fun hc=>?_)<;>try exact zh hc))
   refine⟨(q+1,addA L6 (stN b1)),⟨hlq,he6⟩,by simp only;omega,fun i=>i,?_⟩
   refine ent_mk (by simp[go_sem]) ?_ (by simp) (fun id hid=>⟨rfl,by omega⟩)
   simp[go_sem,g0,g1,g2,g3,g4,herL,AV.renL,AV.idsL]
   exact(esB_clo _).ids2 _
  obtain rfl:q=ar.length:=by omega
  rw[List.drop_length,arN] at he6
  rw[he6] at he
  repeat'(first|apply nx|refine zx ?_|rw[zw]|((first|refine hK _ ?_|refine hKp _ _ ?_);clear hK hKp K Kp;try clear hanc anc)|((with_reducible refine And.intro ?_ ?_);exact zb)|((first|refine zr hE fun K Kp hK hKp=>?_|refine zd true mixed hE fun K Kp hK hKp anc hanc=>?_|refine zd false mixed hE fun K Kp hK hKp anc hanc=>?_);simp only[go_sem,ge_dec])|(refine zg (fun hg=>?_) (fun hg=>?_)<;>simp only[go_sem,ge_dec,hg])|(refine zc (fun hc=>?_) (fun hc=>?_)<;>try exact zh hc))
  refine K_loop (X:=Nat×List Nm) (fun z=>z.1≤fn.length∧addA L6 (fdN fn)=addA z.2 (fdN (fn.drop z.1))) (fun z=>mkSt [(1,.ptr 2 0),(2,.ptr 3 0),(5,.ptr 4 0),(10,.sl (stl l)),(11,.i l.length),(12,.i (j:Nat)),(46,.sl (fdl fn)),(47,.i fn.length),(48,.i (z.1:Nat))] [(0,.cells [.mp 1]),(1,.map (esB z.2)),(2,.cells [fn64]),(3,.cells [fn77]),(4,.cells [.i k,.str n,.sl (nml ns),.sl (Tx.avL ty),.i ex.k,.str ex.op,.str ex.nm,.str ex.vr,.sl (nml ex.ns),.i ex.num,.sl (Tx.avL ex.ty),.i ex.off,.sl (stl th),.sl (stl el),.sl (arl ar),.sl (fdl fn),.i off])] 5) (fun z=>fn.length - z.1) (0,L6) ⟨Nat.zero_le _,rfl⟩ (fun i=>i) ?_ ?_
  ·refine ent_mk (by simp[go_sem]) ?_ (by simp) (fun id hid=>⟨rfl,by omega⟩)
   simp[go_sem,herL,AV.renL,AV.idsL]
   exact(esB_clo _).ids2 _
  rintro⟨q,L7⟩ ⟨hq,he7⟩
  simp only at hq he7 ⊢
  by_cases hlq:q<fn.length
  ·obtain⟨f,hy⟩:=get?_of hlq
   have hm1:=fd_mem_le (List.mem_of_getElem? hy)
   have v1:=inc_u hlq (by omega)
   rw[drop_of hy,fdN,addA_app] at he7
   have c6:=hF f (by omega) L7
   generalize hL8:addA L7 f.nms=L8 at he7 c6
   cases f with|mk a1 a2 a3 a4 a5 a6 a7 a8=>?_
   rw[Fd.av] at c6
   repeat'(first|apply nx|refine zx ?_|rw[zw]|((first|refine hK _ ?_|refine hKp _ _ ?_);clear hK hKp K Kp;try clear hanc anc)|((with_reducible refine And.intro ?_ ?_);exact zb)|((first|refine zr hE fun K Kp hK hKp=>?_|refine zd true mixed hE fun K Kp hK hKp anc hanc=>?_|refine zd false mixed hE fun K Kp hK hKp anc hanc=>?_);simp only[go_sem,lt_dec hlq,hy,Fd.av])|(refine zg (fun hg=>?_) (fun hg=>?_)<;>simp only[go_sem,lt_dec hlq,hy,Fd.av,hg])|(refine zc (fun hc=>?_) (fun hc=>?_)<;>try exact zh hc))
   refine Hold.mk (NC.use' c6 (by simp[AV.idsL,AV.ids,go_sem]) (by simp only[go_sem]) (by simp only[go_sem]) fun hpe g0 g1 hold=>?_)
   have g2:=hold 2 (.cells [fn64]) (by decide) (by simp only[go_sem])
   have g3:=hold 3 (.cells [fn77]) (by decide) (by simp only[go_sem])
   have g4:=hold 4 (.cells [.i k,.str n,.sl (nml ns),.sl (Tx.avL ty),.i ex.k,.str ex.op,.str ex.nm,.str ex.vr,.sl (nml ex.ns),.i ex.num,.sl (Tx.avL ex.ty),.i ex.off,.sl (stl th),.sl (stl el),.sl (arl ar),.sl (fdl fn),.i off]) (by decide) (by simp only[go_sem])
   clear hold
   simp only[go_sem,putf]
   repeat'(first|apply nx|refine zx ?_|rw[zw]|((first|refine hK _ ?_|refine hKp _ _ ?_);clear hK hKp K Kp;try clear hanc anc)|((with_reducible refine And.intro ?_ ?_);exact zb)|((first|refine zr hE fun K Kp hK hKp=>?_|refine zd true mixed hE fun K Kp hK hKp anc hanc=>?_|refine zd false mixed hE fun K Kp hK hKp anc hanc=>?_);simp only[go_sem,v1])|(refine zg (fun hg=>?_) (fun hg=>?_)<;>simp only[go_sem,v1,hg])|(refine zc (fun hc=>?_) (fun hc=>?_)<;>try exact zh hc))
   refine⟨(q+1,L8),⟨hlq,he7⟩,by simp only;omega,fun i=>i,?_⟩
   refine ent_mk (by simp[go_sem]) ?_ (by simp) (fun id hid=>⟨rfl,by omega⟩)
   simp[go_sem,g0,g1,g2,g3,g4,herL,AV.renL,AV.idsL]
   exact(esB_clo _).ids2 _
  obtain rfl:q=fn.length:=by omega
  rw[List.drop_length,fdN] at he7
  have he8:addA L6 (fdN fn)=L7:=he7
  have he9:addA (addA L6 []) (fdN fn)=addA L6 (fdN fn):=rfl
  repeat'(first|apply nx|refine zx ?_|rw[zw]|((first|refine hK _ ?_|refine hKp _ _ ?_);clear hK hKp K Kp;try clear hanc anc)|((with_reducible refine And.intro ?_ ?_);exact zb)|((first|refine zr hE fun K Kp hK hKp=>?_|refine zd true mixed hE fun K Kp hK hKp anc hanc=>?_|refine zd false mixed hE fun K Kp hK hKp anc hanc=>?_);simp only[go_sem,ge_dec,u1])|(refine zg (fun hg=>?_) (fun hg=>?_)<;>simp only[go_sem,ge_dec,u1,hg])|(refine zc (fun hc=>?_) (fun hc=>?_)<;>try exact zh hc))
  refine⟨(j+1,L7),⟨hlt,by rw[he, ← he8];rfl⟩,by simp only;omega,fun i=>i,?_⟩
  refine ent_mk (by simp[go_sem]) ?_ (by simp) (fun id hid=>⟨rfl,by omega⟩)
  simp[go_sem,herL,AV.renL,AV.idsL]
  exact(esB_clo _).ids2 _
end Go.Proofs.YtffmphmiicnaeaaDoor

set_option maxHeartbeats 4000000
set_option maxRecDepth 100000
namespace Go.Proofs.YtffmphmiicnaeaaDoor
open Go.Am Go.Proofs Go.Lf
open Classical
attribute [local irreducible] AW CallP CallB
theorem one_tx (t:Tx):Tx.avL [t]=[.agg [.str t.n,.sl (Tx.avL t.a),.i t.o]]:=by rw[Tx.avL,Tx.avL,Tx.av_eq]
theorem one_nms (t:Tx):Tx.nmsL [t]=t.nms:=by rw[Tx.nmsL,Tx.nmsL,List.append_nil]
theorem one_sz (t:Tx):Tx.szL [t]=t.sz:=by rw[Tx.szL,Tx.szL,Nat.add_zero]
theorem kinds_c:∀ (N:Nat),N≤2 ^ 30→∀ f:Lf.Fd,f.sz<N→∀ L,NC 63 [f.av,fn64] L (addA L f.nms):=by
 intro N
 induction N with
 |zero=>intro _ f hf;omega
 |succ N IH=>
  rintro hN2 ⟨fm,p0,b0,c0,a0,r0,bd,of0⟩ hf L
  rw[Fd.sz] at hf
  have hcl:=kinds_clo (N:=N) (by omega) (fun f hf L=>IH (by omega) f hf L)
  have hc0:=ad_len c0
  have ha0:=ad_len a0
  have cc:=concatA_c c0 a0 (by omega) (by omega)
  have herL:=fun(L:List Nm) m=>(esB_clo L).ren (m:=m)
  have hall:adSz (c0++a0)=adSz c0+adSz a0:=by simp[adSz]
  have hnms:addA L (Lf.Fd.mk fm p0 b0 c0 a0 r0 bd of0).nms=addA (addA (addA L ((c0++a0).flatMap fun a=>a.ty.nms)) r0.nms) (stN bd):=by
   rw[Fd.nms,List.flatMap_append,addA_app,addA_app,addA_app,addA_app]
  rw[hnms,Fd.av]
  generalize c0++a0=al at cc hall hnms ⊢
  have hal:=ad_len al
  refine MCall.intro Tryd.func63 isf63 rfl (by simp[Tryd.f63]) rfl fun E Q hE hN hQ=>K_start ?_
  repeat'(first|apply nx|refine zx ?_|rw[zw]|((first|refine hK _ ?_|refine hKp _ _ ?_);clear hK hKp K Kp;try clear hanc anc)|((with_reducible refine And.intro ?_ ?_);exact zb)|((first|refine zr hE fun K Kp hK hKp=>?_|refine zd true mixed hE fun K Kp hK hKp anc hanc=>?_|refine zd false mixed hE fun K Kp hK hKp anc hanc=>?_);simp only[go_sem])|(refine zg (fun hg=>?_) (fun hg=>?_)<;>simp only[go_sem,hg])|(refine zc (fun hc=>?_) (fun hc=>?_)<;>try exact zh hc))
  refine Hold.mk (CallB.dpure [6291458] 4 cc (by simp only[go_sem,List.mem_cons,List.not_mem_nil,or_false]) (by simp[go_sem]) (fun _=>rfl) (fun _=>⟨trivial,trivial⟩) rfl ?_)
  simp only[go_sem]
  repeat'(first|apply nx|refine zx ?_|rw[zw]|((first|refine hK _ ?_|refine hKp _ _ ?_);clear hK hKp K Kp;try clear hanc anc)|((with_reducible refine And.intro ?_ ?_);exact zb)|((first|refine zr hE fun K Kp hK hKp=>?_|refine zd true mixed hE fun K Kp hK hKp anc hanc=>?_|refine zd false mixed hE fun K Kp hK hKp anc hanc=>?_);simp only[go_sem])|(refine zg (fun hg=>?_) (fun hg=>?_)<;>simp only[go_sem,hg])|(refine zc (fun hc=>?_) (fun hc=>?_)<;>try exact zh hc))
  refine K_loop (X:=Nat×List Nm) (fun z=>z.1≤al.length∧addA L (al.flatMap fun a=>a.ty.nms)=addA z.2 ((al.drop z.1).flatMap fun a=>a.ty.nms)) (fun z=>mkSt [(2,.ptr 4 0),(3,.ptr 2 0),(12,.sl (adl al)),(13,.i al.length),(14,.i (z.1:Nat))] [(0,.cells [.mp 1]),(1,.map (esB z.2)),(2,.cells [fn64]),(4,.cells [.str fm,.sl (nml p0),.sl (bdl b0),.sl (adl c0),.sl (adl a0),.str r0.n,.sl (Tx.avL r0.a),.i r0.o,.sl (stl bd),.i of0])] 5) (fun z=>al.length - z.1) (0,L) ⟨Nat.zero_le _,rfl⟩ (fun i=>if i=2 then 1048578 else if i=4 then 2 else i) ?_ ?_
  ·refine ent_mk (by simp[go_sem]) ?_ (by simp) (fun id hid=>⟨by rw[if_neg (by omega),if_neg (by omega)],by omega⟩)
   simp[go_sem,objM_0,objM_1,herL,AV.renL,AV.idsL]
   exact(esB_clo _).ids2 _
  rintro⟨j,L1⟩ ⟨hj,he⟩
  simp only at hj he ⊢
  by_cases hlt:j<al.length
  ·obtain⟨a,hx⟩:=get?_of hlt
   have hm:a.ty.sz≤adSz al:=sum_mem (f:=fun a:Ad=>a.ty.sz) (List.mem_of_getElem? hx)
   have u1:=inc_u hlt (by omega)
   rw[drop_of hx,List.flatMap_cons,addA_app] at he
   have c1:=names_c (2 ^ 40) [a.ty] (by rw[one_sz];omega) (Nat.le_refl _) L1
   rw[one_nms,one_tx] at c1
   generalize hL2:addA L1 a.ty.nms=L2 at he c1
   repeat'(first|apply nx|refine zx ?_|rw[zw]|((first|refine hK _ ?_|refine hKp _ _ ?_);clear hK hKp K Kp;try clear hanc anc)|((with_reducible refine And.intro ?_ ?_);exact zb)|((first|refine zr hE fun K Kp hK hKp=>?_|refine zd true mixed hE fun K Kp hK hKp anc hanc=>?_|refine zd false mixed hE fun K Kp hK hKp anc hanc=>?_);simp only[go_sem,lt_dec hlt,hx,Ad.av])|(refine zg (fun hg=>?_) (fun hg=>?_)<;>simp only[go_sem,lt_dec hlt,hx,Ad.av,hg])|(refine zc (fun hc=>?_) (fun hc=>?_)<;>try exact zh hc))
   refine Hold.mk (CallB.dfrL [7340037] 4 (us':=[.sl [.agg [.str a.ty.n,.sl (Tx.avL a.ty.a),.i a.ty.o]],fn64]) (by simp only[go_sem,List.mem_cons,List.not_mem_nil,or_false]<;>rfl) (by simp[go_sem,AV.dsnOk]) (NC.use' c1 (by simp[AV.idsL,AV.ids,go_sem]) (by simp only[go_sem,notIn_at,List.mem_cons,List.not_mem_nil,or_false]) (by simp only[go_sem,notIn_at,List.mem_cons,List.not_mem_nil,or_false]) fun hpn g0 g1 hold=>?_))
   have g2:=hold 2 (.cells [fn64]) (by decide) (by simp only[go_sem,notIn_at,List.mem_cons,List.not_mem_nil,or_false])
   have g4:=hold 4 (.cells [.str fm,.sl (nml p0),.sl (bdl b0),.sl (adl c0),.sl (adl a0),.str r0.n,.sl (Tx.avL r0.a),.i r0.o,.sl (stl bd),.i of0]) (by decide) (by simp only[go_sem,notIn_at,List.mem_cons,List.not_mem_nil,or_false])
   clear hold
   simp only[go_sem,putf]
   repeat'(first|apply nx|refine zx ?_|rw[zw]|((first|refine hK _ ?_|refine hKp _ _ ?_);clear hK hKp K Kp;try clear hanc anc)|((with_reducible refine And.intro ?_ ?_);exact zb)|((first|refine zr hE fun K Kp hK hKp=>?_|refine zd true mixed hE fun K Kp hK hKp anc hanc=>?_|refine zd false mixed hE fun K Kp hK hKp anc hanc=>?_);simp only[go_sem,u1])|(refine zg (fun hg=>?_) (fun hg=>?_)<;>simp only[go_sem,u1,hg])|(refine zc (fun hc=>?_) (fun hc=>?_)<;>try exact zh hc))
   refine⟨(j+1,L2),⟨hlt,he⟩,by simp only;omega,fun i=>i,?_⟩
   refine ent_mk (by simp[go_sem]) ?_ (by simp) (fun id hid=>⟨rfl,by omega⟩)
   simp[go_sem,g0,g1,g2,g4,herL,AV.renL,AV.idsL]
   exact(esB_clo _).ids2 _
  obtain rfl:j=al.length:=by omega
  rw[List.drop_length] at he
  have he1:addA L (al.flatMap fun a=>a.ty.nms)=L1:=he
  rw[he1] at hQ
  have c1:=names_c (2 ^ 40) [r0] (by rw[one_sz];omega) (Nat.le_refl _) L1
  rw[one_nms,one_tx] at c1
  generalize hL2:addA L1 r0.nms=L2 at hQ c1
  have c2:=hcl (N+1) bd (by omega) (by omega) L2
  repeat'(first|apply nx|refine zx ?_|rw[zw]|((first|refine hK _ ?_|refine hKp _ _ ?_);clear hK hKp K Kp;try clear hanc anc)|((with_reducible refine And.intro ?_ ?_);exact zb)|((first|refine zr hE fun K Kp hK hKp=>?_|refine zd true mixed hE fun K Kp hK hKp anc hanc=>?_|refine zd false mixed hE fun K Kp hK hKp anc hanc=>?_);simp only[go_sem,ge_dec])|(refine zg (fun hg=>?_) (fun hg=>?_)<;>simp only[go_sem,ge_dec,hg])|(refine zc (fun hc=>?_) (fun hc=>?_)<;>try exact zh hc))
  refine Hold.mk (CallB.dfrL [3145733] 4 (us':=[.sl [.agg [.str r0.n,.sl (Tx.avL r0.a),.i r0.o]],fn64]) (by simp only[go_sem,List.mem_cons,List.not_mem_nil,or_false]<;>rfl) (by simp[go_sem,AV.dsnOk]) (NC.use' c1 (by simp[AV.idsL,AV.ids,go_sem]) (by simp only[go_sem,notIn_at,List.mem_cons,List.not_mem_nil,or_false]) (by simp only[go_sem,notIn_at,List.mem_cons,List.not_mem_nil,or_false]) fun hpn g0 g1 hold=>?_))
  have g2:=hold 2 (.cells [fn64]) (by decide) (by simp only[go_sem,notIn_at,List.mem_cons,List.not_mem_nil,or_false])
  have g4:=hold 4 (.cells [.str fm,.sl (nml p0),.sl (bdl b0),.sl (adl c0),.sl (adl a0),.str r0.n,.sl (Tx.avL r0.a),.i r0.o,.sl (stl bd),.i of0]) (by decide) (by simp only[go_sem,notIn_at,List.mem_cons,List.not_mem_nil,or_false])
  clear hold
  simp only[go_sem,putf]
  repeat'(first|apply nx|refine zx ?_|rw[zw]|((first|refine hK _ ?_|refine hKp _ _ ?_);clear hK hKp K Kp;try clear hanc anc)|((with_reducible refine And.intro ?_ ?_);exact zb)|((fail_if_success refine K_stop 9 ?_);(first|refine zr hE fun K Kp hK hKp=>?_|refine zd true mixed hE fun K Kp hK hKp anc hanc=>?_|refine zd false mixed hE fun K Kp hK hKp anc hanc=>?_);simp only[go_sem,g2,g4])|(refine zg (fun hg=>?_) (fun hg=>?_)<;>simp only[go_sem,g2,g4,hg])|(refine zc (fun hc=>?_) (fun hc=>?_)<;>try exact zh hc))
  refine AW.ent (σ':=mkSt [(2,.ptr 4 0),(3,.ptr 2 0),(6,.ptr 3 0)] [(0,.cells [.mp 1]),(1,.map (esB L2)),(2,.cells [fn64]),(3,.cells [fn77]),(4,.cells [.str fm,.sl (nml p0),.sl (bdl b0),.sl (adl c0),.sl (adl a0),.str r0.n,.sl (Tx.avL r0.a),.i r0.o,.sl (stl bd),.i of0])] 5) (fun i=>if i=3 then 6291461 else i) ?_ ?_
  ·refine ent_mk (by simp[go_sem]) ?_ (by simp) (fun id hid=>⟨by rw[if_neg (by omega)],by omega⟩)
   simp[go_sem,g0,g1,g2,g4,herL,AV.renL,AV.idsL,updo]
   exact(esB_clo _).ids2 _
  clear g0 g1 g2 g4
  repeat'(first|apply nx|refine zx ?_|rw[zw]|((first|refine hK _ ?_|refine hKp _ _ ?_);clear hK hKp K Kp;try clear hanc anc)|((with_reducible refine And.intro ?_ ?_);exact zb)|((first|refine zr hE fun K Kp hK hKp=>?_|refine zd true mixed hE fun K Kp hK hKp anc hanc=>?_|refine zd false mixed hE fun K Kp hK hKp anc hanc=>?_);simp only[go_sem])|(refine zg (fun hg=>?_) (fun hg=>?_)<;>simp only[go_sem,hg])|(refine zc (fun hc=>?_) (fun hc=>?_)<;>try exact zh hc))
  refine Hold.mk (KC.use' c2 (by simp[AV.idsL,AV.ids,go_sem]) (by simp only[go_sem]) (by simp only[go_sem]) (by simp only[go_sem]) (by simp only[go_sem]) fun hpe g0 g1 g2 g3 hold=>?_)
  clear hold
  simp only[go_sem,putf]
  repeat'(first|apply nx|refine zx ?_|rw[zw]|((first|refine hK _ ?_|refine hKp _ _ ?_);clear hK hKp K Kp;try clear hanc anc)|((with_reducible refine And.intro ?_ ?_);exact zb)|((first|refine zr hE fun K Kp hK hKp=>?_|refine zd true mixed hE fun K Kp hK hKp anc hanc=>?_|refine zd false mixed hE fun K Kp hK hKp anc hanc=>?_);simp only[go_sem])|(refine zg (fun hg=>?_) (fun hg=>?_)<;>simp only[go_sem,hg])|(refine zc (fun hc=>?_) (fun hc=>?_)<;>try exact zh hc))
  exact Kq_norm_nil (hQ _ (MCall.fin famM (Nat.le_refl _) rfl (objM_all g0 g1))).2

variable {nm:Nm} {ps:List Nm} {bs:List Bd} {E:En} {Q:AEx→Am.St→Prop}
theorem NC.useR {f : FuncId} {vs us : List AV} {L L2 : List Nm} (hA : NC f vs L L2) (X M : Nat) (hXM : X ≠ M) (hvs : AV.idsL (· < 2) vs) (hus : us = AV.renL (fun i => if i = 1 then M else X) vs) {fr : Nat → Option AV} {hp0 : Nat → Option AObj} {n0 k : Nat} {d : Option Nat} {K : Am.St → Prop} {Kp : AV → Am.St → Prop}
    (h0:hp0 X=some (.cells [.mp M])) (h1:hp0 M=some (.map (esB L)))
    (hK:∀ hpn,hpn X=some (.cells [.mp M])→hpn M=some (.map (esB L2))→(∀ id o,id≠X→id≠M→hp0 id=some o→hpn id=some o)→K ⟨putf fr d (.tup []),hpn,n0⟩):CallB Tryd.prog f us ⟨fr,hp0,n0⟩ k d K Kp:=by
  have her:=fun(L:List Nm) m=>(esB_clo L).ren (m:=m)
  refine CallB.use hA (fun i=>if i=1 then M else X) hus hvs (fun id o ho=>?_) (fun id id' o o' ho ho' h=>?_) (fun id hid=>⟨by omega,famM.all L id hid⟩) ?_ (fun _ _ h=>h.elim) ?_ (fun _ _ _ h=>h.elim)
  · refine⟨?_,famM.lt L id o ho⟩
    revert id o
    exact mkHp_allP (p:=fun id o=>hp0 (if id=1 then M else X)=some (o.ren fun i=>if i=1 then M else X)) (by simp[h0,h1,AObj.ren,AV.renL,AV.ren,her])
  · have a:=(famM.lt L id o ho).1
    have b:=(famM.lt L id' o' ho').1
    rcases(by omega:id=0∨id=1) with rfl|rfl<;>rcases(by omega:id'=0∨id'=1) with rfl|rfl<;>simp at h<;>first|rfl|(exact absurd h hXM)|(exact absurd h.symm hXM)
  · rintro r hp' ⟨rfl,x',rfl,_⟩
    exact⟨trivial,fun id o ho=>⟨by have:=(famM.lt x' id o ho).1;omega,objids_mono _ (fun j hj=>by omega) (famM.lt x' id o ho).2⟩⟩
  · rintro r hp' fr' hpn ⟨rfl,x',rfl,rfl⟩ hfr hobj hold
    have e:fr'=putf fr d (.tup []):=by subst hfr;cases d<;>rfl
    subst e
    have b0:backM (fun i=>if i=1 then M else X) 2 (n0+1048576*k) 0=X:=by rw[backM_lt (by omega)];simp
    have b1:backM (fun i=>if i=1 then M else X) 2 (n0+1048576*k) 1=M:=by rw[backM_lt (by omega)];simp
    have g0:=hobj 0 _ rfl
    have g1:=hobj 1 _ rfl
    rw[b0] at g0
    rw[b1] at g1
    simp only[AObj.ren,AV.renL,AV.ren,b1,her] at g0 g1
    refine hK hpn g0 g1 fun id o iX iM ho=>hold id o ho fun j hj e=>?_
    split at e
    · exact iM e.symm
    · exact iX e.symm
noncomputable def b46:Code:=Tryd.f46.body.getD .skip
noncomputable def rest6:Code:=sq2 (sq2 (sq2 (sq2 (sq2 (sq2 b46)))))
theorem dec_len (n:Nat) (h:n≤2 ^ 40):(dec n).size≤40:=by
 show(Lib.itoa (n:Int)).toArray.size≤40
 rw[List.size_toArray]
 have:=Lib.itoa_length_le (n:Int) (by omega) (by omega)
 omega
theorem loc_a (hE : E.nt = Tryd.f46.ntmps) (hnp : E.np ≤ 1) {fm : Nm} {p0 : List Nm} {b0 : List Bd} {c0 a0 : List Ad} {r0 : Tx} {bd : List Lf.St} {of0 : Int} {y : Ls} (hs : (Lf.Fd.mk fm p0 b0 c0 a0 r0 bd of0).sz ≤ 1000) (hy : y.cnt ≤ 2 ^ 20) (hn1 : nm.size ≤ 2 ^ 41) (hn2 : fm.size ≤ 2 ^ 40)
    (hpan:∀ e p,chk (c0++a0) of0=some (e,p)→∀ σ,Q (.pan (failL e p)) σ)
    (H:chk (c0++a0) of0=none→AW Tryd.prog E (sq1 rest6) (Kq Tryd.prog E [.code (sq2 rest6)] Q) (mkSt [(0,.ptr 0 0),(3,.ptr 4 0),(4,.ptr 3 0),(5,.str (nm++dot++dec y.cnt++dot++fm)),(6,.ptr 5 0)] [(0,.cells [.str nm,.sl (nml ps),.sl (bdl bs),.i ((y.cnt+1:Nat):Int),.rw 2]),(2,.row 10 (fdl y.out)),(3,.cells [.str ⟨#[]⟩,.nilsl]),(4,.cells [.str fm,.sl (nml p0),.sl (bdl b0),.sl (adl c0),.sl (adl a0),.str r0.n,.sl (Tx.avL r0.a),.i r0.o,.sl (stl bd),.i of0]),(5,.cells [.mp 6]),(6,.map (esB (addA [] (Lf.Fd.mk fm p0 b0 c0 a0 r0 bd of0).nms)))] 7)):
    AW Tryd.prog E b46 (Kq Tryd.prog E [] Q) ⟨mkPar 0 [.ptr 0 0,(Lf.Fd.mk fm p0 b0 c0 a0 r0 bd of0).av],objL nm ps bs [] y,3⟩:=by
  have hsz:=hs
  rw[Fd.sz] at hsz
  have hc0:=ad_len c0
  have ha0:=ad_len a0
  have ck:=check_c fm p0 b0 c0 a0 r0 bd of0 (by omega) (by omega)
  have kc:=kinds_c 1001 (by omega) (.mk fm p0 b0 c0 a0 r0 bd of0) (by omega) []
  have ci:=itoa_call (y.cnt:Int) (by omega) (by omega)
  have hdl:=dec_len y.cnt (by omega)
  have hdd:(⟨(Lib.itoa (y.cnt:Int)).toArray⟩:ByteArray)=dec y.cnt:=rfl
  rw[hdd] at ci
  have hd0:(#[46]:Array UInt8).size=1:=rfl
  have u1:IntKind.i64.wrap ((y.cnt:Int)+1)=((y.cnt+1:Nat):Int):=by rw[wrap64 (by omega) (by omega)];omega
  rw[Fd.av] at ck kc ⊢
  unfold objL
  simp only[List.append_nil]
  simp only[b46,Tryd.f46,Option.getD,rest6,sq1,sq2] at H ⊢
  repeat'(first|apply nx|refine zx ?_|rw[zw]|((first|refine hK _ ?_|refine hKp _ _ ?_);clear hK hKp K Kp;try clear hanc anc)|((with_reducible refine And.intro ?_ ?_);exact zb)|((first|refine zr hE fun K Kp hK hKp=>?_|refine zd true mixed hE fun K Kp hK hKp anc hanc=>?_|refine zd false mixed hE fun K Kp hK hKp anc hanc=>?_);simp only[go_sem])|(refine zg (fun hg=>?_) (fun hg=>?_)<;>simp only[go_sem,hg])|(refine zc (fun hc=>?_) (fun hc=>?_)<;>try exact zh hc))
  refine Hold.mk (CallB.of_A0 ck (by simp[AV.cloL,AV.clo]) (fun r hr=>?_) (fun x hx=>?_))
  rotate_left
  · obtain⟨e,p,h1,rfl⟩:=hx
    exact hKp _ _ (hpan e p h1 _)
  obtain⟨hck,rfl⟩:=hr
  simp only[go_sem]
  repeat'(first|apply nx|refine zx ?_|rw[zw]|((first|refine hK _ ?_|refine hKp _ _ ?_);clear hK hKp K Kp;try clear hanc anc)|((with_reducible refine And.intro ?_ ?_);exact zb)|((fail_if_success refine K_stop 5 ?_);(first|refine zr hE fun K Kp hK hKp=>?_|refine zd true mixed hE fun K Kp hK hKp anc hanc=>?_|refine zd false mixed hE fun K Kp hK hKp anc hanc=>?_|(apply zm;exact zu;exact ci;exact zs;exact zl));simp only[go_sem,u1])|(refine zg (fun hg=>?_) (fun hg=>?_)<;>simp only[go_sem,u1,hg])|(refine zc (fun hc=>?_) (fun hc=>?_)<;>try exact zh hc))
  refine AW.ent (σ':=mkSt [(0,.ptr 0 0),(3,.ptr 4 0),(4,.ptr 3 0),(5,.str (nm++dot++dec y.cnt++dot++fm)),(6,.ptr 5 0)] [(0,.cells [.str nm,.sl (nml ps),.sl (bdl bs),.i ((y.cnt+1:Nat):Int),.rw 2]),(2,.row 10 (fdl y.out)),(3,.cells [.str ⟨#[]⟩,.nilsl]),(4,.cells [.str fm,.sl (nml p0),.sl (bdl b0),.sl (adl c0),.sl (adl a0),.str r0.n,.sl (Tx.avL r0.a),.i r0.o,.sl (stl bd),.i of0]),(5,.cells [.mp 6]),(6,.map (esB []))] 7) (fun i=>if i=3 then 1048579 else if i=4 then 3 else if i=5 then 30408707 else if i=6 then 29360131 else i) ?_ ?_
  · refine ent_mk (by simp[go_sem,dot]) (by simp[go_sem,esB]) (by simp) (fun id hid=>⟨by rw[if_neg (by omega),if_neg (by omega),if_neg (by omega),if_neg (by omega)],by omega⟩)
  repeat'(first|apply nx|refine zx ?_|rw[zw]|((first|refine hK _ ?_|refine hKp _ _ ?_);clear hK hKp K Kp;try clear hanc anc)|((with_reducible refine And.intro ?_ ?_);exact zb)|((first|refine zr hE fun K Kp hK hKp=>?_|refine zd true mixed hE fun K Kp hK hKp anc hanc=>?_|refine zd false mixed hE fun K Kp hK hKp anc hanc=>?_);simp only[go_sem])|(refine zg (fun hg=>?_) (fun hg=>?_)<;>simp only[go_sem,hg])|(refine zc (fun hc=>?_) (fun hc=>?_)<;>try exact zh hc))
  refine Hold.mk (NC.useR kc 5 6 (by decide) (by simp[AV.idsL,AV.ids,go_sem]) (by simp[AV.renL,AV.ren,go_sem]) (by simp only[go_sem]) (by simp only[go_sem]) fun hpn g5 g6 hold=>?_)
  have g0:=hold 0 (.cells [.str nm,.sl (nml ps),.sl (bdl bs),.i ((y.cnt+1:Nat):Int),.rw 2]) (by decide) (by decide) (by simp only[go_sem])
  have g2:=hold 2 (.row 10 (fdl y.out)) (by decide) (by decide) (by simp only[go_sem])
  have g3:=hold 3 (.cells [.str ⟨#[]⟩,.nilsl]) (by decide) (by decide) (by simp only[go_sem])
  have g4:=hold 4 (.cells [.str fm,.sl (nml p0),.sl (bdl b0),.sl (adl c0),.sl (adl a0),.str r0.n,.sl (Tx.avL r0.a),.i r0.o,.sl (stl bd),.i of0]) (by decide) (by decide) (by simp only[go_sem])
  clear hold
  simp only[go_sem,putf]
  repeat'(first|apply nx|refine zx ?_|rw[zw]|((first|refine hK _ ?_|refine hKp _ _ ?_);clear hK hKp K Kp;try clear hanc anc)|((with_reducible refine And.intro ?_ ?_);exact zb)|((fail_if_success refine K_stop 6 ?_);(first|refine zr hE fun K Kp hK hKp=>?_|refine zd true mixed hE fun K Kp hK hKp anc hanc=>?_|refine zd false mixed hE fun K Kp hK hKp anc hanc=>?_);simp only[go_sem])|(refine zg (fun hg=>?_) (fun hg=>?_)<;>simp only[go_sem,hg])|(refine zc (fun hc=>?_) (fun hc=>?_)<;>try exact zh hc))
  have her:=fun(L:List Nm) m=>(esB_clo L).ren (m:=m)
  refine AW.ent (fun i=>i) ?_ (H hck)
  refine ent_mk (by simp[go_sem]) ?_ (by simp) (fun id hid=>⟨rfl,by omega⟩)
  simp[go_sem,g0,g2,g3,g4,g5,g6,her]
  exact(esB_clo _).ids2 _
end Go.Proofs.YtffmphmiicnaeaaDoor

set_option maxHeartbeats 4000000
set_option maxRecDepth 100000
namespace Go.Proofs.YtffmphmiicnaeaaDoor
open Go.Am Go.Proofs Go.Lf
open Classical
attribute [local irreducible] AW CallP CallB
variable {nm:Nm} {ps:List Nm} {bs:List Bd} {E:En} {Q:AEx→Am.St→Prop}
theorem bd_one (l:List Bd) (a:Bd):bdl l++[.agg [.str a.p,.str a.t,.i a.off]]=bdl (l++[a]):=bdl_snoc l a
theorem take_one {α:Type} {l:List α} {i:Nat} {x:α} (h:l[i]? =some x):l.take (i+1)=l.take i++[x]:=by rw[List.take_add_one,h];rfl
noncomputable def rest25:Code:=sq2 (sq2 (sq2 (sq2 (sq2 rest6))))
theorem loc_b (hE : E.nt = Tryd.f46.ntmps) (hnp : E.np ≤ 1) {li fm : Nm} {p0 : List Nm} {b0 : List Bd} {c0 a0 : List Ad} {r0 : Tx} {bd : List Lf.St} {of0 : Int} {c : Nat} {O : List Lf.Fd} {NL : List Nm} (hps : ps.length ≤ 1000) (hbs : bs.length ≤ 1000) (hc0 : c0.length ≤ 1000) (ha0 : a0.length ≤ 1000)
    (H:AW Tryd.prog E (sq1 rest25) (Kq Tryd.prog E [.code (sq2 rest25)] Q) (mkSt [(0,.ptr 0 0),(3,.ptr 4 0),(4,.ptr 3 0),(5,.str li),(6,.ptr 5 0),(7,.ptr 7 0)] [(0,.cells [.str nm,.sl (nml ps),.sl (bdl bs),.i c,.rw 2]),(2,.row 10 (fdl O)),(3,.cells [.str ⟨#[]⟩,.nilsl]),(4,.cells [.str fm,.sl (nml p0),.sl (bdl b0),.sl (adl c0),.sl (adl a0),.str r0.n,.sl (Tx.avL r0.a),.i r0.o,.sl (stl bd),.i of0]),(5,.cells [.mp 6]),(6,.map (esB NL)),(7,.cells [.str li,.sl (nml (ps.filter fun p=>inN p NL)),.sl (bdl (bs.filter fun b=>inN b.p (ps.filter fun p=>inN p NL))),.sl [],.sl (adl (c0.map argOf++a0)),.str r0.n,.sl (Tx.avL r0.a),.i r0.o,.nilsl,.i of0])] 8)):
    AW Tryd.prog E (sq1 rest6) (Kq Tryd.prog E [.code (sq2 rest6)] Q) (mkSt [(0,.ptr 0 0),(3,.ptr 4 0),(4,.ptr 3 0),(5,.str li),(6,.ptr 5 0)] [(0,.cells [.str nm,.sl (nml ps),.sl (bdl bs),.i c,.rw 2]),(2,.row 10 (fdl O)),(3,.cells [.str ⟨#[]⟩,.nilsl]),(4,.cells [.str fm,.sl (nml p0),.sl (bdl b0),.sl (adl c0),.sl (adl a0),.str r0.n,.sl (Tx.avL r0.a),.i r0.o,.sl (stl bd),.i of0]),(5,.cells [.mp 6]),(6,.map (esB NL))] 7):=by
  have her:=fun(L:List Nm) m=>(esB_clo L).ren (m:=m)
  simp only[rest25,rest6,b46,Tryd.f46,Option.getD,sq1,sq2] at H ⊢
  repeat'(first|apply nx|refine zx ?_|rw[zw]|((first|refine hK _ ?_|refine hKp _ _ ?_);clear hK hKp K Kp;try clear hanc anc)|((with_reducible refine And.intro ?_ ?_);exact zb)|((fail_if_success refine K_stop 7 ?_);(first|refine zr hE fun K Kp hK hKp=>?_|refine zd true mixed hE fun K Kp hK hKp anc hanc=>?_|refine zd false mixed hE fun K Kp hK hKp anc hanc=>?_);simp only[go_sem])|(refine zg (fun hg=>?_) (fun hg=>?_)<;>simp only[go_sem,hg])|(refine zc (fun hc=>?_) (fun hc=>?_)<;>try exact zh hc))
  refine AW.ent (σ':=mkSt [(0,.ptr 0 0),(3,.ptr 4 0),(4,.ptr 3 0),(5,.str li),(6,.ptr 5 0),(7,.ptr 7 0)] [(0,.cells [.str nm,.sl (nml ps),.sl (bdl bs),.i c,.rw 2]),(2,.row 10 (fdl O)),(3,.cells [.str ⟨#[]⟩,.nilsl]),(4,.cells [.str fm,.sl (nml p0),.sl (bdl b0),.sl (adl c0),.sl (adl a0),.str r0.n,.sl (Tx.avL r0.a),.i r0.o,.sl (stl bd),.i of0]),(5,.cells [.mp 6]),(6,.map (esB NL)),(7,.cells [.str li,.nilsl,.nilsl,.nilsl,.nilsl,.str r0.n,.sl (Tx.avL r0.a),.i r0.o,.nilsl,.i of0])] 8) (fun i=>if i=7 then 6291463 else i) ?_ ?_
  · refine ent_mk (by simp[go_sem]) ?_ (by simp) (fun id hid=>⟨by rw[if_neg (by omega)],by omega⟩)
    simp[go_sem,her]
    exact(esB_clo _).ids2 _
  refine AW_nilc 7 1 1 (by simp[go_sem];rfl) rfl ?_
  refine AW_nilc 7 2 3 (by simp[go_sem,updo];rfl) rfl ?_
  refine AW_nilc 7 3 6 (by simp[go_sem,updo];rfl) rfl ?_
  refine AW_nilc 7 4 6 (by simp[go_sem,updo];rfl) rfl ?_
  refine AW.ent (σ':=mkSt [(0,.ptr 0 0),(3,.ptr 4 0),(4,.ptr 3 0),(5,.str li),(6,.ptr 5 0),(7,.ptr 7 0)] [(0,.cells [.str nm,.sl (nml ps),.sl (bdl bs),.i c,.rw 2]),(2,.row 10 (fdl O)),(3,.cells [.str ⟨#[]⟩,.nilsl]),(4,.cells [.str fm,.sl (nml p0),.sl (bdl b0),.sl (adl c0),.sl (adl a0),.str r0.n,.sl (Tx.avL r0.a),.i r0.o,.sl (stl bd),.i of0]),(5,.cells [.mp 6]),(6,.map (esB NL)),(7,.cells [.str li,.rw 8,.rw 9,.rw 10,.rw 11,.str r0.n,.sl (Tx.avL r0.a),.i r0.o,.nilsl,.i of0]),(8,.row 1 []),(9,.row 3 []),(10,.row 6 []),(11,.row 6 [])] 12) (fun i=>i) ?_ ?_
  · refine ent_mk (by simp[go_sem]) ?_ (by simp) (fun id hid=>⟨rfl,by omega⟩)
    simp[go_sem,her,updo]
    exact(esB_clo _).ids2 _
  refine AW_frzCell 7 3 10 (sz:=6) (xs:=[]) (l:=[.str li,.rw 8,.rw 9,.rw 10,.rw 11,.str r0.n,.sl (Tx.avL r0.a),.i r0.o,.nilsl,.i of0]) (by simp[go_sem]) rfl (by simp[go_sem]) (by decide) (fun x hx=>by cases hx) ?_
  repeat'(first|apply nx|refine zx ?_|rw[zw]|((first|refine hK _ ?_|refine hKp _ _ ?_);clear hK hKp K Kp;try clear hanc anc)|((with_reducible refine And.intro ?_ ?_);exact zb)|((first|refine zr hE fun K Kp hK hKp=>?_|refine zd true mixed hE fun K Kp hK hKp anc hanc=>?_|refine zd false mixed hE fun K Kp hK hKp anc hanc=>?_);simp only[go_sem])|(refine zg (fun hg=>?_) (fun hg=>?_)<;>simp only[go_sem,hg])|(refine zc (fun hc=>?_) (fun hc=>?_)<;>try exact zh hc))
  refine K_loop (X:=Nat) (fun i=>i≤ps.length) (fun i=>mkSt [(0,.ptr 0 0),(3,.ptr 4 0),(4,.ptr 3 0),(5,.str li),(6,.ptr 5 0),(7,.ptr 7 0),(52,.sl (nml ps)),(53,.i ps.length),(54,.i (i:Nat))] [(0,.cells [.str nm,.sl (nml ps),.sl (bdl bs),.i c,.rw 2]),(2,.row 10 (fdl O)),(3,.cells [.str ⟨#[]⟩,.nilsl]),(4,.cells [.str fm,.sl (nml p0),.sl (bdl b0),.sl (adl c0),.sl (adl a0),.str r0.n,.sl (Tx.avL r0.a),.i r0.o,.sl (stl bd),.i of0]),(5,.cells [.mp 6]),(6,.map (esB NL)),(7,.cells [.str li,.rw 8,.rw 9,.sl [],.rw 11,.str r0.n,.sl (Tx.avL r0.a),.i r0.o,.nilsl,.i of0]),(8,.row 1 (nml ((ps.take i).filter fun p=>inN p NL))),(9,.row 3 (bdl [])),(11,.row 6 (adl []))] 12) (fun i=>ps.length - i) 0 (Nat.zero_le _) (fun i=>i) ?_ ?_
  · refine ent_mk (by simp[go_sem]) ?_ (by simp) (fun id hid=>⟨rfl,by omega⟩)
    simp[go_sem,her,updo]
    exact(esB_clo _).ids2 _
  intro i hi
  by_cases hlt:i<ps.length
  · obtain⟨p,hx⟩:=get?_of hlt
    have u1:=inc_u hlt (by omega)
    have hf:=esB_find p NL
    have ht:=take_one hx
    have hlf:((ps.take i).filter fun p=>inN p NL).length≤1000:=by
      have h1:=List.length_filter_le (fun p=>inN p NL) (ps.take i)
      have h2:=List.length_take_le i ps
      omega
    cases hp:inN p NL with
    |true=>
      rw[if_pos hp] at hf
      have en:nml ((ps.take i).filter fun p=>inN p NL)++[.str p]=nml ((ps.take (i+1)).filter fun p=>inN p NL):=by rw[nml_snoc,ht,List.filter_append];simp[hp]
      repeat'(first|apply nx|refine zx ?_|rw[zw]|((first|refine hK _ ?_|refine hKp _ _ ?_);clear hK hKp K Kp;try clear hanc anc)|((with_reducible refine And.intro ?_ ?_);exact zb)|((first|refine zr hE fun K Kp hK hKp=>?_|refine zd true mixed hE fun K Kp hK hKp anc hanc=>?_|refine zd false mixed hE fun K Kp hK hKp anc hanc=>?_);simp only[go_sem,lt_dec hlt,hx,u1,hf,lkRes])|(refine zg (fun hg=>?_) (fun hg=>?_)<;>simp only[go_sem,lt_dec hlt,hx,u1,hf,lkRes,hg])|(refine zc (fun hc=>?_) (fun hc=>?_)<;>try exact zh hc))
      refine⟨i+1,hlt,by omega,fun i=>if i=8 then 11534348 else i,?_⟩
      refine ent_mk (by simp[go_sem]) ?_ (by simp) (fun id hid=>⟨by rw[if_neg (by omega)],by omega⟩)
      simp[go_sem,her,en, -List.filter_append]
      exact(esB_clo _).ids2 _
    |false=>
      rw[if_neg (by rw[hp];decide)] at hf
      have en:(ps.take (i+1)).filter (fun p=>inN p NL)=(ps.take i).filter fun p=>inN p NL:=by rw[ht,List.filter_append];simp[hp]
      repeat'(first|apply nx|refine zx ?_|rw[zw]|((first|refine hK _ ?_|refine hKp _ _ ?_);clear hK hKp K Kp;try clear hanc anc)|((with_reducible refine And.intro ?_ ?_);exact zb)|((first|refine zr hE fun K Kp hK hKp=>?_|refine zd true mixed hE fun K Kp hK hKp anc hanc=>?_|refine zd false mixed hE fun K Kp hK hKp anc hanc=>?_);simp only[go_sem,lt_dec hlt,hx,u1,hf,lkRes])|(refine zg (fun hg=>?_) (fun hg=>?_)<;>simp only[go_sem,lt_dec hlt,hx,u1,hf,lkRes,hg])|(refine zc (fun hc=>?_) (fun hc=>?_)<;>try exact zh hc))
      refine⟨i+1,hlt,by omega,fun i=>i,?_⟩
      refine ent_mk (by simp[go_sem]) ?_ (by simp) (fun id hid=>⟨rfl,by omega⟩)
      simp[go_sem,her,en, -List.filter_append]
      exact(esB_clo _).ids2 _
  obtain rfl:i=ps.length:=by omega
  rw[List.take_length]
  have hPS:(ps.filter fun p=>inN p NL).length≤1000:=by
    have h1:=List.length_filter_le (fun p=>inN p NL) ps
    omega
  generalize (ps.filter fun p=>inN p NL)=PS at H hPS ⊢
  repeat'(first|apply nx|refine zx ?_|rw[zw]|((first|refine hK _ ?_|refine hKp _ _ ?_);clear hK hKp K Kp;try clear hanc anc)|((with_reducible refine And.intro ?_ ?_);exact zb)|((first|refine zr hE fun K Kp hK hKp=>?_|refine zd true mixed hE fun K Kp hK hKp anc hanc=>?_|refine zd false mixed hE fun K Kp hK hKp anc hanc=>?_);simp only[go_sem,ge_dec])|(refine zg (fun hg=>?_) (fun hg=>?_)<;>simp only[go_sem,ge_dec,hg])|(refine zc (fun hc=>?_) (fun hc=>?_)<;>try exact zh hc))
  refine K_loop (X:=Nat) (fun i=>i≤bs.length) (fun i=>mkSt [(0,.ptr 0 0),(3,.ptr 4 0),(4,.ptr 3 0),(5,.str li),(6,.ptr 5 0),(7,.ptr 7 0),(71,.sl (bdl bs)),(72,.i bs.length),(73,.i (i:Nat))] [(0,.cells [.str nm,.sl (nml ps),.sl (bdl bs),.i c,.rw 2]),(2,.row 10 (fdl O)),(3,.cells [.str ⟨#[]⟩,.nilsl]),(4,.cells [.str fm,.sl (nml p0),.sl (bdl b0),.sl (adl c0),.sl (adl a0),.str r0.n,.sl (Tx.avL r0.a),.i r0.o,.sl (stl bd),.i of0]),(5,.cells [.mp 6]),(6,.map (esB NL)),(7,.cells [.str li,.rw 8,.rw 9,.sl [],.rw 11,.str r0.n,.sl (Tx.avL r0.a),.i r0.o,.nilsl,.i of0]),(8,.row 1 (nml PS)),(9,.row 3 (bdl ((bs.take i).filter fun b=>inN b.p PS))),(11,.row 6 (adl []))] 12) (fun i=>bs.length - i) 0 (Nat.zero_le _) (fun i=>i) ?_ ?_
  · refine ent_mk (by simp[go_sem]) ?_ (by simp) (fun id hid=>⟨rfl,by omega⟩)
    simp[go_sem,her,updo]
    exact(esB_clo _).ids2 _
  intro i hi
  by_cases hlt:i<bs.length
  · obtain⟨p,hx⟩:=get?_of hlt
    have u1:=inc_u hlt (by omega)
    have ht:=take_one hx
    have cc:=contains_c PS p.p (by omega)
    have hlf:((bs.take i).filter fun b=>inN b.p PS).length≤1000:=by
      have h1:=List.length_filter_le (fun b:Bd=>inN b.p PS) (bs.take i)
      have h2:=List.length_take_le i bs
      omega
    cases hp:inN p.p PS with
    |true=>
      rw[hp] at cc
      have en:bdl ((bs.take i).filter fun b=>inN b.p PS)++[.agg [.str p.p,.str p.t,.i p.off]]=bdl ((bs.take (i+1)).filter fun b=>inN b.p PS):=by rw[bd_one,ht,List.filter_append];simp[hp]
      repeat'(first|apply nx|refine zx ?_|rw[zw]|((first|refine hK _ ?_|refine hKp _ _ ?_);clear hK hKp K Kp;try clear hanc anc)|((with_reducible refine And.intro ?_ ?_);exact zb)|((first|refine zr hE fun K Kp hK hKp=>?_|refine zd true mixed hE fun K Kp hK hKp anc hanc=>?_|refine zd false mixed hE fun K Kp hK hKp anc hanc=>?_|(apply zm;exact zu;exact cc;exact zs;exact zl));simp only[go_sem,lt_dec hlt,hx,u1,Bd.av])|(refine zg (fun hg=>?_) (fun hg=>?_)<;>simp only[go_sem,lt_dec hlt,hx,u1,Bd.av,hg])|(refine zc (fun hc=>?_) (fun hc=>?_)<;>try exact zh hc))
      refine⟨i+1,hlt,by omega,fun i=>if i=9 then 14680076 else i,?_⟩
      refine ent_mk (by simp[go_sem]) ?_ (by simp) (fun id hid=>⟨by rw[if_neg (by omega)],by omega⟩)
      simp[go_sem,her,en, -List.filter_append]
      exact(esB_clo _).ids2 _
    |false=>
      rw[hp] at cc
      have en:(bs.take (i+1)).filter (fun b=>inN b.p PS)=(bs.take i).filter fun b=>inN b.p PS:=by rw[ht,List.filter_append];simp[hp]
      repeat'(first|apply nx|refine zx ?_|rw[zw]|((first|refine hK _ ?_|refine hKp _ _ ?_);clear hK hKp K Kp;try clear hanc anc)|((with_reducible refine And.intro ?_ ?_);exact zb)|((first|refine zr hE fun K Kp hK hKp=>?_|refine zd true mixed hE fun K Kp hK hKp anc hanc=>?_|refine zd false mixed hE fun K Kp hK hKp anc hanc=>?_|(apply zm;exact zu;exact cc;exact zs;exact zl));simp only[go_sem,lt_dec hlt,hx,u1,Bd.av])|(refine zg (fun hg=>?_) (fun hg=>?_)<;>simp only[go_sem,lt_dec hlt,hx,u1,Bd.av,hg])|(refine zc (fun hc=>?_) (fun hc=>?_)<;>try exact zh hc))
      refine⟨i+1,hlt,by omega,fun i=>i,?_⟩
      refine ent_mk (by simp[go_sem]) ?_ (by simp) (fun id hid=>⟨rfl,by omega⟩)
      simp[go_sem,her,en, -List.filter_append]
      exact(esB_clo _).ids2 _
  obtain rfl:i=bs.length:=by omega
  rw[List.take_length]
  generalize (bs.filter fun b=>inN b.p PS)=BS at H ⊢
  repeat'(first|apply nx|refine zx ?_|rw[zw]|((first|refine hK _ ?_|refine hKp _ _ ?_);clear hK hKp K Kp;try clear hanc anc)|((with_reducible refine And.intro ?_ ?_);exact zb)|((first|refine zr hE fun K Kp hK hKp=>?_|refine zd true mixed hE fun K Kp hK hKp anc hanc=>?_|refine zd false mixed hE fun K Kp hK hKp anc hanc=>?_);simp only[go_sem,ge_dec])|(refine zg (fun hg=>?_) (fun hg=>?_)<;>simp only[go_sem,ge_dec,hg])|(refine zc (fun hc=>?_) (fun hc=>?_)<;>try exact zh hc))
  refine K_loop (X:=Nat) (fun i=>i≤c0.length) (fun i=>mkSt [(0,.ptr 0 0),(3,.ptr 4 0),(4,.ptr 3 0),(5,.str li),(6,.ptr 5 0),(7,.ptr 7 0),(90,.sl (adl c0)),(91,.i c0.length),(92,.i (i:Nat))] [(0,.cells [.str nm,.sl (nml ps),.sl (bdl bs),.i c,.rw 2]),(2,.row 10 (fdl O)),(3,.cells [.str ⟨#[]⟩,.nilsl]),(4,.cells [.str fm,.sl (nml p0),.sl (bdl b0),.sl (adl c0),.sl (adl a0),.str r0.n,.sl (Tx.avL r0.a),.i r0.o,.sl (stl bd),.i of0]),(5,.cells [.mp 6]),(6,.map (esB NL)),(7,.cells [.str li,.rw 8,.rw 9,.sl [],.rw 11,.str r0.n,.sl (Tx.avL r0.a),.i r0.o,.nilsl,.i of0]),(8,.row 1 (nml PS)),(9,.row 3 (bdl BS)),(11,.row 6 (adl ((c0.take i).map argOf)))] 12) (fun i=>c0.length - i) 0 (Nat.zero_le _) (fun i=>i) ?_ ?_
  · refine ent_mk (by simp[go_sem]) ?_ (by simp) (fun id hid=>⟨rfl,by omega⟩)
    simp[go_sem,her,updo]
    exact(esB_clo _).ids2 _
  intro i hi
  by_cases hlt:i<c0.length
  · obtain⟨p,hx⟩:=get?_of hlt
    have u1:=inc_u hlt (by omega)
    have ht:=take_one hx
    have cc:=argument_c p
    have hlm:((c0.take i).map argOf).length≤1000:=by
      have h2:=List.length_take_le i c0
      rw[List.length_map]
      omega
    have hlm2:=List.length_take_le i c0
    have en:adl ((c0.take i).map argOf)++[(argOf p).av]=adl ((c0.take (i+1)).map argOf):=by rw[adl_snoc,ht,List.map_append];rfl
    generalize argOf p=q at cc en
    simp only[Ad.av] at cc en
    repeat'(first|apply nx|refine zx ?_|rw[zw]|((first|refine hK _ ?_|refine hKp _ _ ?_);clear hK hKp K Kp;try clear hanc anc)|((with_reducible refine And.intro ?_ ?_);exact zb)|((first|refine zr hE fun K Kp hK hKp=>?_|refine zd true mixed hE fun K Kp hK hKp anc hanc=>?_|refine zd false mixed hE fun K Kp hK hKp anc hanc=>?_|(apply zm;exact zu;exact cc;exact zs;exact zl));simp only[go_sem,lt_dec hlt,hx,u1,Ad.av])|(refine zg (fun hg=>?_) (fun hg=>?_)<;>simp only[go_sem,lt_dec hlt,hx,u1,Ad.av,hg])|(refine zc (fun hc=>?_) (fun hc=>?_)<;>try exact zh hc))
    refine⟨i+1,hlt,by omega,fun i=>if i=11 then 10485772 else i,?_⟩
    refine ent_mk (by simp[go_sem]) ?_ (by simp) (fun id hid=>⟨by rw[if_neg (by omega)],by omega⟩)
    simp[go_sem,her,en, -List.map_append, -List.map_take]
    exact(esB_clo _).ids2 _
  obtain rfl:i=c0.length:=by omega
  rw[List.take_length]
  repeat'(first|apply nx|refine zx ?_|rw[zw]|((first|refine hK _ ?_|refine hKp _ _ ?_);clear hK hKp K Kp;try clear hanc anc)|((with_reducible refine And.intro ?_ ?_);exact zb)|((first|refine zr hE fun K Kp hK hKp=>?_|refine zd true mixed hE fun K Kp hK hKp anc hanc=>?_|refine zd false mixed hE fun K Kp hK hKp anc hanc=>?_);simp only[go_sem,ge_dec])|(refine zg (fun hg=>?_) (fun hg=>?_)<;>simp only[go_sem,ge_dec,hg])|(refine zc (fun hc=>?_) (fun hc=>?_)<;>try exact zh hc))
  refine⟨⟨adl_szok _,by simp only[Fits];omega⟩,?_⟩
  repeat'(first|apply nx|refine zx ?_|rw[zw]|((first|refine hK _ ?_|refine hKp _ _ ?_);clear hK hKp K Kp;try clear hanc anc)|((with_reducible refine And.intro ?_ ?_);exact zb)|((fail_if_success refine K_stop 25 ?_);(first|refine zr hE fun K Kp hK hKp=>?_|refine zd true mixed hE fun K Kp hK hKp anc hanc=>?_|refine zd false mixed hE fun K Kp hK hKp anc hanc=>?_);simp only[go_sem])|(refine zg (fun hg=>?_) (fun hg=>?_)<;>simp only[go_sem,hg])|(refine zc (fun hc=>?_) (fun hc=>?_)<;>try exact zh hc))
  refine AW_frzCell 7 1 8 (sz:=1) (xs:=nml PS) (by simp only[go_sem];rfl) rfl (by simp only[go_sem]) (by decide) (nml_clor _) ?_
  refine AW_frzCell 7 2 9 (sz:=3) (xs:=bdl BS) (by simp only[go_sem,updo];rfl) rfl (by simp only[go_sem,updo]) (by decide) (bdl_clor _) ?_
  refine AW_frzCell 7 4 5242892 (sz:=6) (xs:=adl (c0.map argOf)++adl a0) (by simp only[go_sem,updo];rfl) rfl (by simp only[go_sem,updo]) (by decide) (by rw[← adl_app];exact adl_clor _) ?_
  refine AW.ent (fun i=>i) ?_ H
  refine ent_mk (by simp[go_sem]) ?_ (by simp) (fun id hid=>⟨rfl,by omega⟩)
  simp[go_sem,her,adl_app,updo]
  exact(esB_clo _).ids2 _
end Go.Proofs.YtffmphmiicnaeaaDoor

set_option maxHeartbeats 4000000
set_option maxRecDepth 100000
namespace Go.Proofs.YtffmphmiicnaeaaDoor
open Go.Am Go.Proofs Go.Lf
open Classical
attribute [local irreducible] AW CallP CallB
variable {nm:Nm} {ps:List Nm} {bs:List Bd} {E:En} {Q:AEx→Am.St→Prop}
theorem fd_one (O R:List Lf.Fd) (li:Nm) (PS:List Nm) (BS:List Bd) (AS:List Ad) (r0:Tx) (bd:List Lf.St) (of0:Int):fdl O++[.agg [.str li,.sl (nml PS),.sl (bdl BS),.sl [],.sl (adl AS),.str r0.n,.sl (Tx.avL r0.a),.i r0.o,.sl (stl bd),.i of0]]++fdl R=fdl (O++(.mk li PS BS [] AS r0 bd of0::R)):=by
 rw[fdl_app,fdl,Fd.av,adl_nil]
 simp
def ILd (nm:Nm) (ps:List Nm) (bs:List Bd) (c:Nat) (li:Nm) (O R:List Lf.Fd) (FCs FNs ICs:List AV) (D:Nat→Bool) (σ:Go.Am.St):Prop:=
 σ.nx=10∧σ.fr 0=some (.ptr 0 0)∧σ.fr 3=some (.ptr 4 0)∧σ.fr 4=some (.ptr 3 0)∧σ.fr 5=some (.str li)∧σ.fr 7=some (.ptr 7 0)∧σ.fr 14=some (.ptr 8 0)∧(D 15=false→σ.hp 0=some (.cells [.str nm,.sl (nml ps),.sl (bdl bs),.i c,.rw 2]))∧(D 7=false→σ.hp 2=some (.row 10 (fdl O)))∧σ.hp 3=some (.cells [.str ⟨#[]⟩,.nilsl])∧σ.hp 4=some (.cells FCs)∧σ.hp 7=some (.cells FNs)∧σ.hp 8=some (.cells ICs)∧σ.hp 9=some (.row 10 (fdl R))∧(D 0=true→σ.fr 122=some (.ptr 0 0))∧(D 1=true→σ.fr 123=some (.ptr 0 0))∧(D 2=true→σ.fr 124=some (.ptr 0 0))∧(D 3=true→σ.fr 125=some (.ptr 0 4))∧(D 4=true→σ.fr 126=some (.rw 2))∧(D 5=true→σ.fr 127=some (.agg FNs))∧(D 6=true→σ.fr 128=some (.rw 6291466))∧(D 7=true→σ.fr 129=some (.rw 7340042))∧(D 8=true→σ.fr 130=some (.ptr 8 0))∧(D 9=true→σ.fr 131=some (.ptr 8 0))∧(D 10=true→σ.fr 132=some (.ptr 8 4))∧(D 11=true→σ.fr 133=some (.rw 9))∧(D 12=true→σ.fr 134=some (.rw 12582922))∧(D 13=true→σ.fr 135=some (.ptr 0 0))∧(D 14=true→σ.fr 136=some (.ptr 0 4))∧(D 6=true→σ.hp 6291466=some (.row 10 [.agg FNs]))∧(D 7=true→D 12=false→σ.hp 7340042=some (.row 10 (fdl O++[.agg FNs])))∧(D 12=true→σ.hp 12582922=some (.row 10 (fdl O++[.agg FNs]++fdl R)))∧(D 15=true→σ.hp 0=some (.cells [.str nm,.sl (nml ps),.sl (bdl bs),.i c,.rw 12582922]))∧(D 15=true→D 4=true)
theorem loc_d (hE : E.nt = Tryd.f46.ntmps) (hnp : E.np ≤ 1) {li fm : Nm} {p0 : List Nm} {b0 : List Bd} {c0 a0 : List Ad} {r0 : Tx} {bd : List Lf.St} {of0 : Int} {c : Nat} {O : List Lf.Fd} {NL PS : List Nm} {BS : List Bd} {AS : List Ad} {T : List Lf.St} {z : Ls} (hO : O.length ≤ 2 ^ 20) (hz : z.out.length ≤ 2 ^ 20)
    (hA:LC 25 [.ptr 0 0,.sl (stl bd),.nilmap] (objL li PS BS []) 3 1 ⟨0,[],0,0⟩ (.sl (stl T)) z)
    (hpan:z.err≠0→∀ σ,Q (.pan (failL z.err z.pos)) σ)
    (H:z.err=0→∀ σ m nc,resA Tryd.prog Tryd.f46.results.toList σ=some (.agg [.str li,.sl (adl c0)])→Ent E.np m σ ⟨fun _=>none,mkHp [(0,.cells [.str nm,.sl (nml ps),.sl (bdl bs),.i c,.rw 2]),(2,.row 10 (fdl (O++(.mk li PS BS [] AS r0 T of0::z.out))))],nc⟩→Q .ret σ∧Q .norm σ):
    AW Tryd.prog E (sq1 rest25) (Kq Tryd.prog E [.code (sq2 rest25)] Q) (mkSt [(0,.ptr 0 0),(3,.ptr 4 0),(4,.ptr 3 0),(5,.str li),(6,.ptr 5 0),(7,.ptr 7 0)] [(0,.cells [.str nm,.sl (nml ps),.sl (bdl bs),.i c,.rw 2]),(2,.row 10 (fdl O)),(3,.cells [.str ⟨#[]⟩,.nilsl]),(4,.cells [.str fm,.sl (nml p0),.sl (bdl b0),.sl (adl c0),.sl (adl a0),.str r0.n,.sl (Tx.avL r0.a),.i r0.o,.sl (stl bd),.i of0]),(5,.cells [.mp 6]),(6,.map (esB NL)),(7,.cells [.str li,.sl (nml PS),.sl (bdl BS),.sl [],.sl (adl AS),.str r0.n,.sl (Tx.avL r0.a),.i r0.o,.nilsl,.i of0])] 8):=by
  simp only[rest25,rest6,b46,Tryd.f46,Option.getD,sq1,sq2]
  repeat'(first|apply nx|refine zx ?_|rw[zw]|((first|refine hK _ ?_|refine hKp _ _ ?_);clear hK hKp K Kp;try clear hanc anc)|((with_reducible refine And.intro ?_ ?_);exact zb)|((fail_if_success refine K_stop 26 ?_);(first|refine zr hE fun K Kp hK hKp=>?_|refine zd true mixed hE fun K Kp hK hKp anc hanc=>?_|refine zd false mixed hE fun K Kp hK hKp anc hanc=>?_);simp only[go_sem])|(refine zg (fun hg=>?_) (fun hg=>?_)<;>simp only[go_sem,hg])|(refine zc (fun hc=>?_) (fun hc=>?_)<;>try exact zh hc))
  refine AW.ent (σ':=mkSt [(0,.ptr 0 0),(3,.ptr 4 0),(4,.ptr 3 0),(5,.str li),(7,.ptr 7 0),(14,.ptr 8 0)] [(0,.cells [.str nm,.sl (nml ps),.sl (bdl bs),.i c,.rw 2]),(2,.row 10 (fdl O)),(3,.cells [.str ⟨#[]⟩,.nilsl]),(4,.cells [.str fm,.sl (nml p0),.sl (bdl b0),.sl (adl c0),.sl (adl a0),.str r0.n,.sl (Tx.avL r0.a),.i r0.o,.sl (stl bd),.i of0]),(7,.cells [.str li,.sl (nml PS),.sl (bdl BS),.sl [],.sl (adl AS),.str r0.n,.sl (Tx.avL r0.a),.i r0.o,.nilsl,.i of0]),(8,.cells [.str li,.sl (nml PS),.sl (bdl BS),.i 0,.nilsl])] 9) (fun i=>if i=8 then 6291464 else i) ?_ ?_
  · exact ent_mk (by simp[go_sem]) (by simp[go_sem]) (by simp) (fun id hid=>⟨by rw[if_neg (by omega)],by omega⟩)
  refine AW_nilc 8 4 10 (by simp[go_sem];rfl) rfl ?_
  repeat'(first|apply nx|refine zx ?_|rw[zw]|((first|refine hK _ ?_|refine hKp _ _ ?_);clear hK hKp K Kp;try clear hanc anc)|((with_reducible refine And.intro ?_ ?_);exact zb)|((first|refine zr hE fun K Kp hK hKp=>?_|refine zd true mixed hE fun K Kp hK hKp anc hanc=>?_|refine zd false mixed hE fun K Kp hK hKp anc hanc=>?_);simp only[go_sem])|(refine zg (fun hg=>?_) (fun hg=>?_)<;>simp only[go_sem,hg])|(refine zc (fun hc=>?_) (fun hc=>?_)<;>try exact zh hc))
  refine Hold.mk (LC.use1 hA 8 9 3145739 (by decide) (by simp[AV.idsL,AV.ids,go_sem]) (by simp[AV.renL,AV.ren,go_sem]) (by rfl) (by simp only[go_sem,updo];rfl) (by simp only[go_sem,updo]) (fun he hpn g8 g9 hold=>?_) (fun he hpn _=>hKp _ _ (hpan he _)))
  have g0:=hold 0 (.cells [.str nm,.sl (nml ps),.sl (bdl bs),.i c,.rw 2]) (by decide) (by decide) (by simp only[go_sem,updo])
  have g2:=hold 2 (.row 10 (fdl O)) (by decide) (by decide) (by simp only[go_sem,updo])
  have g3:=hold 3 (.cells [.str ⟨#[]⟩,.nilsl]) (by decide) (by decide) (by simp only[go_sem,updo])
  have g4:=hold 4 (.cells [.str fm,.sl (nml p0),.sl (bdl b0),.sl (adl c0),.sl (adl a0),.str r0.n,.sl (Tx.avL r0.a),.i r0.o,.sl (stl bd),.i of0]) (by decide) (by decide) (by simp only[go_sem,updo])
  have g7:=hold 7 (.cells [.str li,.sl (nml PS),.sl (bdl BS),.sl [],.sl (adl AS),.str r0.n,.sl (Tx.avL r0.a),.i r0.o,.nilsl,.i of0]) (by decide) (by decide) (by simp only[go_sem,updo])
  clear hold
  simp only[go_sem,putf,g7]
  repeat'(first|apply nx|refine zx ?_|rw[zw]|((first|refine hK _ ?_|refine hKp _ _ ?_);clear hK hKp K Kp;try clear hanc anc)|((with_reducible refine And.intro ?_ ?_);exact zb)|((first|refine zr hE fun K Kp hK hKp=>?_|refine zd true mixed hE fun K Kp hK hKp anc hanc=>?_|refine zd false mixed hE fun K Kp hK hKp anc hanc=>?_);simp only[go_sem,g0,g2,g3,g4,g7,g8,g9])|(refine zg (fun hg=>?_) (fun hg=>?_)<;>simp only[go_sem,g0,g2,g3,g4,g7,g8,g9,hg])|(refine zc (fun hc=>?_) (fun hc=>?_)<;>try exact zh hc))
  refine AW.ent (σ':=mkSt [(0,.ptr 0 0),(3,.ptr 4 0),(4,.ptr 3 0),(5,.str li),(7,.ptr 7 0),(14,.ptr 8 0)] [(0,.cells [.str nm,.sl (nml ps),.sl (bdl bs),.i c,.rw 2]),(2,.row 10 (fdl O)),(3,.cells [.str ⟨#[]⟩,.nilsl]),(4,.cells [.str fm,.sl (nml p0),.sl (bdl b0),.sl (adl c0),.sl (adl a0),.str r0.n,.sl (Tx.avL r0.a),.i r0.o,.sl (stl bd),.i of0]),(7,.cells [.str li,.sl (nml PS),.sl (bdl BS),.sl [],.sl (adl AS),.str r0.n,.sl (Tx.avL r0.a),.i r0.o,.sl (stl T),.i of0]),(8,.cells [.str li,.sl (nml PS),.sl (bdl BS),.i z.cnt,.rw 9]),(9,.row 10 (fdl z.out))] 10) (fun i=>if i=9 then 3145739 else i) ?_ ?_
  · exact ent_mk (by simp[go_sem]) (by simp[go_sem,g0,g2,g3,g4,g8,g9]) (by simp) (fun id hid=>⟨by rw[if_neg (by omega)],by omega⟩)
  clear g0 g2 g3 g4 g7 g8 g9
  have hF1:Fits ((fdl O).length+1) 152:=by rw[fdl_ln];exact⟨by omega,by omega⟩
  repeat(first|apply w1|apply w2)
  refine K_inv (n:=16) (ILd nm ps bs c li O z.out [.str fm,.sl (nml p0),.sl (bdl b0),.sl (adl c0),.sl (adl a0),.str r0.n,.sl (Tx.avL r0.a),.i r0.o,.sl (stl bd),.i of0] [.str li,.sl (nml PS),.sl (bdl BS),.sl [],.sl (adl AS),.str r0.n,.sl (Tx.avL r0.a),.i r0.o,.sl (stl T),.i of0] [.str li,.sl (nml PS),.sl (bdl BS),.i z.cnt,.rw 9]) mixed hE ?_ ?_ (fun Kp hKp=>?_) ?_ rfl
  · intro D D' σ h
    have:=fun j=>(h j).symm
    unfold ILd
    simp only[this]
    exact fun h=>h
  · simp[ILd,go_sem]
  · refine⟨?_,?_,?_,?_,?_,?_,?_,?_,?_,?_,?_,?_,?_,?_,?_,?_,trivial⟩
    all_goals rintro D' ⟨fr,hp,nx⟩ hD' hr ⟨hn,f0,f3,f4,f5,f7,f14,h0,h2,h3,h4,h7,h8,h9,d0,d1,d2,d3,d4,d5,d6,d7,d8,d9,d10,d11,d12,d13,d14,e6,e7,e12,s15,o15_4⟩
    all_goals simp[Region.binds] at hn f0 f3 f4 f5 f7 f14 h0 h2 h3 h4 h7 h8 h9 d0 d1 d2 d3 d4 d5 d6 d7 d8 d9 d10 d11 d12 d13 d14 e6 e7 e12 s15 o15_4 hD' hr
    all_goals subst hn
    all_goals try clear hQ'
    · skip
      simp only[go_sem,f0]
      (simp only[ILd,upd,updo];simp[f0,f3,f4,f5,f7,f14,h3,h4,h7,h8,h9];simp_all)
    · skip
      simp only[go_sem,f0]
      (simp only[ILd,upd,updo];simp[f0,f3,f4,f5,f7,f14,h3,h4,h7,h8,h9];simp_all)
    · skip
      have zd1:=d1 (by first|(simp[hr,hD'];done)|(cases hq:D' 1<;>simp_all))
      simp only[go_sem,zd1]
      (simp only[ILd,upd,updo];simp[f0,f3,f4,f5,f7,f14,h3,h4,h7,h8,h9];simp_all)
    · skip
      have zd2:=d2 (by first|(simp[hr,hD'];done)|(cases hq:D' 2<;>simp_all))
      simp only[go_sem,zd2]
      (simp only[ILd,upd,updo];simp[f0,f3,f4,f5,f7,f14,h3,h4,h7,h8,h9];simp_all)
    · skip
      have zd3:=d3 (by first|(simp[hr,hD'];done)|(cases hq:D' 3<;>simp_all))
      have zh0:=h0 (by first|(simp[hr,hD'];done)|(cases hq:D' 15<;>simp_all))
      simp only[go_sem,zd3,zh0]
      (simp only[ILd,upd,updo];simp[f0,f3,f4,f5,f7,f14,h3,h4,h7,h8,h9];simp_all)
    · skip
      simp only[go_sem,f7,h7]
      (simp only[ILd,upd,updo];simp[f0,f3,f4,f5,f7,f14,h3,h4,h7,h8,h9];simp_all)
    · skip
      have zd5:=d5 (by first|(simp[hr,hD'];done)|(cases hq:D' 5<;>simp_all))
      simp only[go_sem,zd5]
      (simp only[ILd,upd,updo];simp[f0,f3,f4,f5,f7,f14,h3,h4,h7,h8,h9];simp_all)
    · skip
      have zd4:=d4 (by first|(simp[hr,hD'];done)|(cases hq:D' 4<;>simp_all))
      have zd6:=d6 (by first|(simp[hr,hD'];done)|(cases hq:D' 6<;>simp_all))
      have zh2:=h2 (by first|(simp[hr,hD'];done)|(cases hq:D' 7<;>simp_all))
      have ze6:=e6 (by first|(simp[hr,hD'];done)|(cases hq:D' 6<;>simp_all))
      simp only[go_sem,zd4,zd6,zh2,ze6]
      refine⟨by simp only[Fits];omega,?_⟩
      (simp only[ILd,upd,updo];simp[f0,f3,f4,f5,f7,f14,h3,h4,h7,h8,h9];simp_all)
    · skip
      simp only[go_sem,f14]
      (simp only[ILd,upd,updo];simp[f0,f3,f4,f5,f7,f14,h3,h4,h7,h8,h9];simp_all)
    · skip
      have zd8:=d8 (by first|(simp[hr,hD'];done)|(cases hq:D' 8<;>simp_all))
      simp only[go_sem,zd8]
      (simp only[ILd,upd,updo];simp[f0,f3,f4,f5,f7,f14,h3,h4,h7,h8,h9];simp_all)
    · skip
      have zd9:=d9 (by first|(simp[hr,hD'];done)|(cases hq:D' 9<;>simp_all))
      simp only[go_sem,zd9]
      (simp only[ILd,upd,updo];simp[f0,f3,f4,f5,f7,f14,h3,h4,h7,h8,h9];simp_all)
    · skip
      have zd10:=d10 (by first|(simp[hr,hD'];done)|(cases hq:D' 10<;>simp_all))
      simp only[go_sem,zd10,h8]
      (simp only[ILd,upd,updo];simp[f0,f3,f4,f5,f7,f14,h3,h4,h7,h8,h9];simp_all)
    · skip
      have zd7:=d7 (by first|(simp[hr,hD'];done)|(cases hq:D' 7<;>simp_all))
      have zd11:=d11 (by first|(simp[hr,hD'];done)|(cases hq:D' 11<;>simp_all))
      have ze7:=e7 (by first|(simp[hr,hD'];done)|(cases hq:D' 7<;>simp_all)) (by first|(simp[hr,hD'];done)|(cases hq:D' 12<;>simp_all))
      simp only[go_sem,zd7,zd11,ze7,h9]
      refine⟨by simp only[Fits,List.length_append,fdl_ln,List.length_cons,List.length_nil];omega,?_⟩
      (simp only[ILd,upd,updo];simp[f0,f3,f4,f5,f7,f14,h3,h4,h7,h8,h9];simp_all)
    · skip
      have zd0:=d0 (by first|(simp[hr,hD'];done)|(cases hq:D' 0<;>simp_all))
      simp only[go_sem,zd0]
      (simp only[ILd,upd,updo];simp[f0,f3,f4,f5,f7,f14,h3,h4,h7,h8,h9];simp_all)
    · skip
      have zd13:=d13 (by first|(simp[hr,hD'];done)|(cases hq:D' 13<;>simp_all))
      simp only[go_sem,zd13]
      (simp only[ILd,upd,updo];simp[f0,f3,f4,f5,f7,f14,h3,h4,h7,h8,h9];simp_all)
    · skip
      have zd14:=d14 (by first|(simp[hr,hD'];done)|(cases hq:D' 14<;>simp_all))
      have zd12:=d12 (by first|(simp[hr,hD'];done)|(cases hq:D' 12<;>simp_all))
      have zh0:=h0 (by first|(simp[hr,hD'];done)|(cases hq:D' 15<;>simp_all))
      simp only[go_sem,zd14,zd12,zh0]
      (simp only[ILd,upd,updo];simp[f0,f3,f4,f5,f7,f14,h3,h4,h7,h8,h9];simp_all)
  rintro⟨fr,hp,nx⟩ D' hD' ⟨hn,f0,f3,f4,f5,f7,f14,h0,h2,h3,h4,h7,h8,h9,d0,d1,d2,d3,d4,d5,d6,d7,d8,d9,d10,d11,d12,d13,d14,e6,e7,e12,s15,o15_4⟩
  simp only at hn f0 f3 f4 f5 f7 f14 h0 h2 h3 h4 h7 h8 h9 d0 d1 d2 d3 d4 d5 d6 d7 d8 d9 d10 d11 d12 d13 d14 e6 e7 e12 s15 o15_4
  have zd0:=d0 (hD' 0)
  have zd1:=d1 (hD' 1)
  have zd2:=d2 (hD' 2)
  have zd3:=d3 (hD' 3)
  have zd4:=d4 (hD' 4)
  have zd5:=d5 (hD' 5)
  have zd6:=d6 (hD' 6)
  have zd7:=d7 (hD' 7)
  have zd8:=d8 (hD' 8)
  have zd9:=d9 (hD' 9)
  have zd10:=d10 (hD' 10)
  have zd11:=d11 (hD' 11)
  have zd12:=d12 (hD' 12)
  have zd13:=d13 (hD' 13)
  have zd14:=d14 (hD' 14)
  have ze6:=e6 (hD' 6)
  have ze12:=e12 (hD' 12)
  have zs15:=s15 (hD' 15)
  have en:=fd_one O z.out li PS BS AS r0 T of0
  simp only[List.append_assoc,List.cons_append,List.nil_append] at en
  repeat(first|refine Kq_norm_code ?_|refine Kq_norm_blk ?_)
  refine AW.ent (σ':=mkSt [(3,.ptr 4 0),(4,.ptr 3 0),(5,.str li)] [(0,.cells [.str nm,.sl (nml ps),.sl (bdl bs),.i c,.rw 2]),(2,.row 10 (fdl (O++(.mk li PS BS [] AS r0 T of0::z.out)))),(3,.cells [.str ⟨#[]⟩,.nilsl]),(4,.cells [.str fm,.sl (nml p0),.sl (bdl b0),.sl (adl c0),.sl (adl a0),.str r0.n,.sl (Tx.avL r0.a),.i r0.o,.sl (stl bd),.i of0])] 5) (fun i=>if i=2 then 12582922 else i) ?_ ?_
  · refine ent_mk (by simp[go_sem,f3,f4,f5]) ?_ (by simp) (fun id hid=>⟨by rw[if_neg (by omega)],by omega⟩)
    simp[go_sem,zs15,ze12,h3,h4,en]
  have hq:=H he
  clear zs15 ze12 ze6 zd0 zd1 zd2 zd3 zd4 zd5 zd6 zd7 zd8 zd9 zd10 zd11 zd12 zd13 zd14 f0 f3 f4 f5 f7 f14 h0 h2 h3 h4 h7 h8 h9 d0 d1 d2 d3 d4 d5 d6 d7 d8 d9 d10 d11 d12 d13 d14 e6 e7 e12 s15 o15_4 hD' hn
  clear fr hp nx D'
  repeat'(first|apply nx|refine zx ?_|rw[zw]|((first|refine hK _ ?_|refine hKp _ _ ?_);clear hK hKp K Kp;try clear hanc anc)|((with_reducible refine And.intro ?_ ?_);exact zb)|((first|refine zr hE fun K Kp hK hKp=>?_|refine zd true mixed hE fun K Kp hK hKp anc hanc=>?_|refine zd false mixed hE fun K Kp hK hKp anc hanc=>?_);simp only[go_sem])|(refine zg (fun hg=>?_) (fun hg=>?_)<;>simp only[go_sem,hg])|(refine zc (fun hc=>?_) (fun hc=>?_)<;>try exact zh hc))
  refine K_ret (hq _ (fun i=>i) 3 (resA_cell (id:=3) (off:=0) (by simp only[go_sem]) ti105 (by simp only[go_sem];rfl) rfl) ?_).1
  show Ent _ _ _ (mkSt [] [(0,.cells [.str nm,.sl (nml ps),.sl (bdl bs),.i c,.rw 2]),(2,.row 10 (fdl (O++(.mk li PS BS [] AS r0 T of0::z.out))))] 3)
  exact ent_mk (by simp) (by simp[go_sem]) (by simp) (fun id hid=>⟨rfl,by omega⟩)
end Go.Proofs.YtffmphmiicnaeaaDoor

set_option maxHeartbeats 4000000
set_option maxRecDepth 100000
namespace Go.Proofs.YtffmphmiicnaeaaDoor
open Go.Am Go.Proofs Go.Lf
open Classical
attribute [local irreducible] AW CallP CallB
theorem chk_ne {l:List Ad} {off e p:Int} (h:chk l off=some (e,p)):e≠0:=by
 unfold chk at h
 split at h
 ·cases h;decide
 ·split at h
  ·cases h;decide
  ·cases h
theorem loc_call (nm : Nm) (ps : List Nm) (bs : List Bd) (fm : Nm) (p0 : List Nm) (b0 : List Bd) (c0 a0 : List Ad) (r0 : Tx) (bd : List Lf.St) (of0 : Int) (hs : (Lf.Fd.mk fm p0 b0 c0 a0 r0 bd of0).sz ≤ 1000) (hw : nm.size + (Lf.Fd.mk fm p0 b0 c0 a0 r0 bd of0).wt ≤ 2 ^ 40) (hps : ps.length ≤ 1000) (hbs : bs.length ≤ 1000)
    (hb:∀ li PS BS,li.size+wtL bd≤2 ^ 40→PS.length≤1000→BS.length≤1000→∀ x,Ok x (stSz bd)→LC 25 [.ptr 0 0,.sl (stl bd),.nilmap] (objL li PS BS []) 3 1 x (.sl (stl (blk dec li PS BS [] bd x).1)) (blk dec li PS BS [] bd x).2) (y:Ls) (hy:Ok y (Lf.Fd.mk fm p0 b0 c0 a0 r0 bd of0).sz):
    LC 46 [.ptr 0 0,(Lf.Fd.mk fm p0 b0 c0 a0 r0 bd of0).av] (objL nm ps bs []) 3 1 y (visAV (loc dec nm ps bs (.mk fm p0 b0 c0 a0 r0 bd of0) y).1) (loc dec nm ps bs (.mk fm p0 b0 c0 a0 r0 bd of0) y).2:=by
  have hsz:=hs
  have hwt:=hw
  rw[Fd.sz] at hsz
  rw[Fd.wt] at hwt
  have hc0:=ad_len c0
  have ha0:=ad_len a0
  have hlc:=st_len_le bd
  have hnl:∀ p,inN p (addA [] (Lf.Fd.mk fm p0 b0 c0 a0 r0 bd of0).nms)=inN p (Lf.Fd.mk fm p0 b0 c0 a0 r0 bd of0).nms:=fun p=>by rw[inN_addA];simp[inN]
  have hfil:(ps.filter fun p=>inN p (addA [] (Lf.Fd.mk fm p0 b0 c0 a0 r0 bd of0).nms))=ps.filter fun p=>inN p (Lf.Fd.mk fm p0 b0 c0 a0 r0 bd of0).nms:=by
    congr 1
    funext p
    exact hnl p
  have hloc:loc dec nm ps bs (.mk fm p0 b0 c0 a0 r0 bd of0) y=(⟨fm,nm++dot++dec y.cnt++dot++fm,c0⟩,⟨y.cnt+1,y.out++(.mk (nm++dot++dec y.cnt++dot++fm) (ps.filter fun p=>inN p (addA [] (Lf.Fd.mk fm p0 b0 c0 a0 r0 bd of0).nms)) (bs.filter fun b=>inN b.p (ps.filter fun p=>inN p (addA [] (Lf.Fd.mk fm p0 b0 c0 a0 r0 bd of0).nms))) [] (c0.map argOf++a0) r0 (blk dec (nm++dot++dec y.cnt++dot++fm) (ps.filter fun p=>inN p (addA [] (Lf.Fd.mk fm p0 b0 c0 a0 r0 bd of0).nms)) (bs.filter fun b=>inN b.p (ps.filter fun p=>inN p (addA [] (Lf.Fd.mk fm p0 b0 c0 a0 r0 bd of0).nms))) [] bd ⟨0,[],(y.failO (chk (c0++a0) of0)).err,(y.failO (chk (c0++a0) of0)).pos⟩).1 of0::(blk dec (nm++dot++dec y.cnt++dot++fm) (ps.filter fun p=>inN p (addA [] (Lf.Fd.mk fm p0 b0 c0 a0 r0 bd of0).nms)) (bs.filter fun b=>inN b.p (ps.filter fun p=>inN p (addA [] (Lf.Fd.mk fm p0 b0 c0 a0 r0 bd of0).nms))) [] bd ⟨0,[],(y.failO (chk (c0++a0) of0)).err,(y.failO (chk (c0++a0) of0)).pos⟩).2.out),(blk dec (nm++dot++dec y.cnt++dot++fm) (ps.filter fun p=>inN p (addA [] (Lf.Fd.mk fm p0 b0 c0 a0 r0 bd of0).nms)) (bs.filter fun b=>inN b.p (ps.filter fun p=>inN p (addA [] (Lf.Fd.mk fm p0 b0 c0 a0 r0 bd of0).nms))) [] bd ⟨0,[],(y.failO (chk (c0++a0) of0)).err,(y.failO (chk (c0++a0) of0)).pos⟩).2.err,(blk dec (nm++dot++dec y.cnt++dot++fm) (ps.filter fun p=>inN p (addA [] (Lf.Fd.mk fm p0 b0 c0 a0 r0 bd of0).nms)) (bs.filter fun b=>inN b.p (ps.filter fun p=>inN p (addA [] (Lf.Fd.mk fm p0 b0 c0 a0 r0 bd of0).nms))) [] bd ⟨0,[],(y.failO (chk (c0++a0) of0)).err,(y.failO (chk (c0++a0) of0)).pos⟩).2.pos⟩):=by
    rw[loc,hfil]
  have hdl:=dec_len y.cnt (by have:=hy.c;omega)
  have hli:(nm++dot++dec y.cnt++dot++fm).size≤nm.size+fm.size+42:=by
    have hd:dot.size=1:=rfl
    simp only[ByteArray.size_append]
    omega
  have hPl:(ps.filter fun p=>inN p (addA [] (Lf.Fd.mk fm p0 b0 c0 a0 r0 bd of0).nms)).length≤1000:=by
    have:=List.length_filter_le (fun p=>inN p (addA [] (Lf.Fd.mk fm p0 b0 c0 a0 r0 bd of0).nms)) ps
    omega
  have hBl:(bs.filter fun b=>inN b.p (ps.filter fun p=>inN p (addA [] (Lf.Fd.mk fm p0 b0 c0 a0 r0 bd of0).nms))).length≤1000:=by
    have:=List.length_filter_le (fun b:Bd=>inN b.p (ps.filter fun p=>inN p (addA [] (Lf.Fd.mk fm p0 b0 c0 a0 r0 bd of0).nms))) bs
    omega
  have hb1:=hb (nm++dot++dec y.cnt++dot++fm) (ps.filter fun p=>inN p (addA [] (Lf.Fd.mk fm p0 b0 c0 a0 r0 bd of0).nms)) (bs.filter fun b=>inN b.p (ps.filter fun p=>inN p (addA [] (Lf.Fd.mk fm p0 b0 c0 a0 r0 bd of0).nms))) (by omega) hPl hBl ⟨0,[],0,0⟩ ⟨rfl,rfl,by simp only;omega,by simp only[List.length_nil];omega⟩
  have hg1:=blk_grow (dec:=dec) (nm++dot++dec y.cnt++dot++fm) (ps.filter fun p=>inN p (addA [] (Lf.Fd.mk fm p0 b0 c0 a0 r0 bd of0).nms)) (bs.filter fun b=>inN b.p (ps.filter fun p=>inN p (addA [] (Lf.Fd.mk fm p0 b0 c0 a0 r0 bd of0).nms))) bd [] ⟨0,[],0,0⟩
  have hk1:=fun x hx=>blk_keep (dec:=dec) (nm++dot++dec y.cnt++dot++fm) (ps.filter fun p=>inN p (addA [] (Lf.Fd.mk fm p0 b0 c0 a0 r0 bd of0).nms)) (bs.filter fun b=>inN b.p (ps.filter fun p=>inN p (addA [] (Lf.Fd.mk fm p0 b0 c0 a0 r0 bd of0).nms))) bd [] x hx
  clear hb hfil hnl
  rw[hloc]
  refine LC.intro (by rfl) Tryd.func46 isf46 rfl (by simp[Tryd.f46]) fun E Q hE hN hQ hQp=>K_start ?_
  show AW Tryd.prog E b46 _ _
  refine loc_a hE (by omega) hs (by have:=hy.c;omega) (by omega) (by omega) (fun e p hc σ=>?_) (fun hc=>?_)
  · have hf:y.failO (some (e,p))=⟨y.cnt,y.out,e,p⟩:=by show y.fail e p=_;unfold Ls.fail;rw[if_pos hy.e]
    rw[hc,hf] at hQp
    simp only at hQp
    have k:=hk1 ⟨0,[],e,p⟩ (chk_ne hc)
    rw[k.1,k.2] at hQp
    exact hQp (chk_ne hc) σ
  · have hf:(⟨0,[],(y.failO (chk (c0++a0) of0)).err,(y.failO (chk (c0++a0) of0)).pos⟩:Ls)=⟨0,[],0,0⟩:=by rw[hc];show(⟨0,[],y.err,y.pos⟩:Ls)=_;rw[hy.e,hy.p]
    rw[hf] at hQ hQp
    generalize (nm++dot++dec y.cnt++dot++fm)=li at*
    refine loc_b hE (by omega) hps hbs (by omega) (by omega) ?_
    generalize (bs.filter fun b=>inN b.p (ps.filter fun p=>inN p (addA [] (Lf.Fd.mk fm p0 b0 c0 a0 r0 bd of0).nms)))=BS at*
    generalize hPS:(ps.filter fun p=>inN p (addA [] (Lf.Fd.mk fm p0 b0 c0 a0 r0 bd of0).nms))=PS at*
    refine loc_d hE (by omega) (by have:=hy.o;omega) (by have:=hg1.2;simp only[List.length_nil] at this;omega) hb1 hQp (fun he σ m nc h1 h2=>?_)
    refine hQ he σ m nc h1 ?_
    rw[hN] at h2
    exact h2
theorem lift_c:∀ (N:Nat),N≤1001→∀ (nm:Nm) (ps:List Nm) (bs:List Bd) (l:List Lf.St),stSz l<N→nm.size+wtL l≤2 ^ 40→ps.length≤1000→bs.length≤1000→∀ (now:List Vs) (om:List (Nat×AObj)) (arg:AV) (x:Ls),((om=[]∧arg= .nilmap∧now=[])∨∃ es,om=[(1,.map es)]∧arg= .mp 1∧VM es now)→NV now→Ok x (stSz l)→LC 25 [.ptr 0 0,.sl (stl l),arg] (objL nm ps bs om) 3 (1+om.length) x (.sl (stl (blk dec nm ps bs now l x).1)) (blk dec nm ps bs now l x).2:=by
 intro N
 induction N with
 |zero=>intro _ nm ps bs l h;omega
 |succ N IH=>
  intro hN1 nm ps bs l hl hw hps hbs now om arg x hom hnv hx
  refine block_c nm ps bs l (W:=wtL l) (by omega) (by omega) (Nat.le_refl _) ?_ ?_ now om arg x hom hnv hx
  ·intro b hb hwb now' es y hvm hnv' hok
   exact IH (by omega) nm ps bs b (by omega) (by omega) hps hbs now' [(1,.map es)] (.mp 1) y (.inr ⟨es,rfl,rfl,hvm⟩) hnv' hok
  ·rintro⟨fm,p0,b0,c0,a0,r0,bd,of0⟩ hf hwf y hy
   refine loc_call nm ps bs fm p0 b0 c0 a0 r0 bd of0 (by omega) (by omega) hps hbs (fun li PS BS h1 h2 h3 z hz=>?_) y hy
   rw[Fd.sz] at hf
   exact IH (by omega) li PS BS bd (by omega) h1 h2 h3 [] [] .nilmap z (.inl ⟨rfl,rfl,rfl⟩) (fun v hv=>by cases hv) hz
end Go.Proofs.YtffmphmiicnaeaaDoor

set_option maxHeartbeats 4000000
set_option maxRecDepth 100000
namespace Go.Am
open Go
variable {P:Program}
theorem DCall.of_body1 {f : FuncId} {fn : Func} {c : Code} {vs : List AV} {hp : Nat → Option AObj} {nx np : Nat} {x : Option AV} {R : (Nat → Option AObj) → Prop} {i d1 : Nat} {ts : Array TypeId} {ty1 : TypeId} {p1 : String} {af1 : Array Edge}
    (hf:P.funcs[f]? =some fn) (hfn:isFn P f=true)
    (hb:fn.body=some (.seq (.region i #[⟨some d1,.call ⟨.builtin .recover, #[],ts⟩,ty1,p1,af1,none⟩] false) c))
    (hd1:d1<fn.ntmps) (hres:fn.results= #[]) (hn:vs.length≤fn.ntmps)
    (h:∀ (E:En) (Q:AEx→St→Prop),E.nt=fn.ntmps→E.np=np→(∀ σ,R σ.hp→Q .ret σ∧Q .norm σ)→AW P E c Q ⟨upd (mkPar 0 vs) d1 (recX x),hp,nx⟩):DCall P f vs hp nx np x R:=by
  refine⟨hfn,fun ρ V Z w args u hh hnp hnx hsz hrel hu=>?_⟩
  refine callsD_of_wpS hf hb fun c₀ cs hc=>?_
  have hsat:=sat_startF (nx:=nx) hn hh hnp hsz hrel
  have key : ∀ (v : Value) (u' : FrameMode), Rel ρ V Z w v (recX x) → settle u' = .returning → c.wpS P (bodyPostS P fn c₀ cs fun e u' w' => (∃ v, e = .returned v) ∧ settle u' = .returning ∧ ∃ ρ' V' Z' hp', HSat ρ' V' Z' w' hp' ∧ Ext w w' (OwnB ρ hp) ∧ (∀ id, id < np → V' id ∧ ρ' id = ρ id) ∧ (∀ b o, Z b o → Z' b o) ∧
      (∀ b o,Z' b o→Z b o∨w.heap.size≤b∨OwnB ρ hp b)∧(∀ id o b,hp' id=some o→(ρ' id).at b→b<w.heap.size→OwnB ρ hp b)∧R hp')
      (({ tmps:=args++Array.replicate (fn.ntmps - args.size) undef,defers:=[] } :Act).put (some d1) v) ({ c₀ with mode:=u' } ::cs) w:=by
    intro v u' hv hs
    have hs1:=hsat.val (d:=some d1) (fun n hn=>by cases hn;exact hd1) rfl rfl rfl hv
    have hbody:=h _ (fun e σ=>match e with| .ret| .norm=>R σ.hp|_=>False) rfl rfl (fun σ hσ=>⟨hσ,hσ⟩) ρ V Z _ w hs1 hnx
    refine wpS_of_wp (wpX_wp (wpX_mono ?_ hbody))
    rintro e a w' ⟨ρ',V',Z',σ,y,h1,h2,h3,h4⟩
    have hret:R σ.hp→a.defers=[]∧∃ u'',({ c₀ with mode:=u' } ::cs:List Frame)= { c₀ with mode:=u'' } ::cs∧∃ v,(results fn a.tmps).run P w'= .ok v w'∧(∃ v',Ending.returned v= .returned v')∧settle u''= .returning∧∃ ρ' V' Z' hp',HSat ρ' V' Z' w' hp'∧Ext w w' (OwnB ρ hp)∧(∀ id,id<np→V' id∧ρ' id=ρ id)∧(∀ b o,Z b o→Z' b o)∧
      (∀ b o,Z' b o→Z b o∨w.heap.size≤b∨OwnB ρ hp b)∧(∀ id o b,hp' id=some o→(ρ' id).at b→b<w.heap.size→OwnB ρ hp b)∧R hp':=by
      intro hR
      obtain⟨v,hv1,hv2⟩:=results_run h3 (fn:=fn) (r:= .tup []) (by rw[hres];rfl)
      exact⟨h3.df.none rfl,u',rfl,v,hv1,⟨v,rfl⟩,hs,ρ',V',Z',σ.hp,h3.hs,h3.ext,h3.pn,h3.z0,h3.zn,h3.ownd,hR⟩
    cases e<;>cases y<;>simp only[ExR] at h1
    · exact hret h2
    · exact h2.elim
    · exact hret h2
    · exact h2.elim
  apply wpS_seq
  apply wpS_region
  have hd1':d1<(args++Array.replicate (fn.ntmps - args.size) undef).size:=by have:=hsat.nt;simp only at this;omega
  revert key hd1'
  generalize args++Array.replicate (fn.ntmps - args.size) undef=T
  generalize bodyPostS P fn c₀ cs _=QQ
  intro key hd1'
  have hget:∀ v:Value,(T.setIfInBounds d1 v)[d1]?.getD undef=v:=by
    intro v
    rw[Array.getElem?_setIfInBounds_self]
    simp[hd1']
  have e2:List.range 1=[0]:=rfl
  have hrec:∀ g:Operand→Value,(execOp g ⟨some d1,.call ⟨.builtin .recover, #[],ts⟩,ty1,p1,af1,none⟩).run P w= .ok .recover w:=fun g=>rfl
  clear h hsat hrel
  cases x with
  |none=>
    have hu':u= .returning:=hu
    have hk:=key .nilIface .returning .nilif rfl
    have e:({ c₀ with mode:= .returning } :Frame)=c₀:=by rw[← hu', ← hc]
    rw[e] at hk
    simp only[List.size_toArray,List.length_cons,List.length_nil,Nat.zero_add,Nat.reduceAdd,e2]
    simp[wpOpsS,recoverD,hc,hu',Region.wanted,hrec,execOp,Act.put,Act.eval,Oper.upon,Exit.thenS,hget,Array.getD_eq_getD_getElem?]
    exact hk
  |some y=>
    obtain⟨v,hv1,hv2⟩:=hu
    have hk:=key v (.panicking [{ v,recovered:=true }]) hv2 rfl
    simp only[List.size_toArray,List.length_cons,List.length_nil,Nat.zero_add,Nat.reduceAdd,e2]
    simp[wpOpsS,recoverD,hc,hv1,Region.wanted,hrec,execOp,Act.put,Act.eval,Oper.upon,Exit.thenS,hget,Array.getD_eq_getD_getElem?]
    exact hk
def DFinG (P:Program) (fn:Func) (g:FuncId) (k:Nat) (r:AV) (x:Option AV) (σ:St):Prop:=
 ∃ kk,k≤kk∧(∀ y,x=some y→y.clo=true)∧(∀ t y,σ.fr t=some y→∃ i,i<k∧y= .ptr i 0)∧(∀ id o,σ.hp id=some o→id<kk∧o.ids (· <kk))∧
  ∃ R,DCall P g (ptrs k) σ.hp kk k x R∧∀ hp',R hp'→∃ r',resA P fn.results.toList ⟨σ.fr,hp',kk⟩=some r'∧r'.clo=true∧r'.snapOk (fun _=>none)∧r'.snap (fun _=>none)=r
theorem PCall.of_deferG {f g : FuncId} {fn : Func} {c0 c : Code} {vs : List AV} {r : AV} {i1 d7 k : Nat} {caps : Array Operand} {ty1 ty2 : TypeId} {p1 p2 : String} {af1 af2 : Array Edge} {ts : Array TypeId}
    (hf:P.funcs[f]? =some fn) (hfn:isFn P f=true)
    (hb:fn.body=some (.seq c0 (.seq (.region i1 #[⟨some d7,.makeFunc (.func g) #[] caps,ty1,p1,af1,none⟩,⟨none,.defer ⟨.value (.tmp d7), #[],ts⟩,ty2,p2,af2,none⟩] false) c)))
    (hd7:d7<fn.ntmps) (hn:vs.length≤fn.ntmps) (hclo:AV.cloL vs=true) (σ1:St) (hk:∀ i,i<k→∃ o,σ1.hp i=some o) (hcap:caps.toList.mapM (evA σ1)=some (ptrs k))
    (h0:∀ (E:En) (Q:AEx→St→Prop),E.nt=fn.ntmps→E.np=0→(∀ σ m,Ent 0 m σ σ1→Q .norm σ)→AW P E c0 Q ⟨mkPar 0 vs,mkHp [],0⟩)
    (h1:∀ (E:En) (Q:AEx→St→Prop),E.nt=fn.ntmps→E.np=k→(∀ σ,DFinG P fn g k r none σ→Q .ret σ∧Q .norm σ)→(∀ x σ,DFinG P fn g k r (some x) σ→Q (.pan x) σ)→AW P E c Q ⟨upd σ1.fr d7 (.fn (.func g) [] (ptrs k)),σ1.hp,σ1.nx⟩):PCall P f vs r:=by
  refine⟨hfn,fun ρ V Z w args hZ hgl hsz hrel=>?_⟩
  have hlen:args.size≤fn.ntmps:=by omega
  have hc:∀ (l:List AV),AV.cloL l=true→∀ i,i<l.length→(l.getD i default).clo=true:=by
    intro l
    induction l with
    |nil=>intro _ i hi;exact absurd hi (Nat.not_lt_zero _)
    |cons y l ih=>
      intro hl i hi
      simp only[AV.cloL,Bool.and_eq_true] at hl
      cases i with
      |zero=>simpa using hl.1
      |succ i=>simpa using ih hl.2 i (by simpa using hi)
  have hsat:=sat_startF (ρ:=ρ) (V:=fun _=>False) (Z:=Z) (w:=w) (hp:=mkHp []) (nx:=0) (np:=0) hn ⟨fun id o ho=>(by cases ho),fun id id' o o' b ho=>(by cases ho),fun id o b ho=>(by cases ho),hZ,hgl⟩ (fun id h=>absurd h (Nat.not_lt_zero _)) hsz
    (fun i hi=>clo_rel (hrel i hi) (hc vs hclo i hi) _ _)
  have hown:∀ b,¬ OwnB ρ (mkHp []) b:=by rintro b ⟨id,o,ho,_⟩;cases ho
  refine calls_of_wp_defers hf hb (wp_seq (wp_mono' ?_ (wpX_wp (h0 _ (fun e σ=>e= .norm∧∃ m,Ent 0 m σ σ1) rfl rfl (fun σ m he=>⟨rfl,m,he⟩) ρ _ Z _ w hsat (fun _ h=>h.elim)))))
  rintro e a w1 ⟨ρ1,V1,Z1,σ,x,h1',⟨rfl,m,he⟩,h3,h4⟩
  cases e<;>simp only[ExR] at h1'
  have hs1:=h3.ent he
  have hdf:a.defers=[]:=h3.df.none rfl
  obtain⟨hcs,hcr⟩:=evs_arr hs1 hcap
  have hrun1:∀ a:Act,(execOp a.eval ⟨some d7,.makeFunc (.func g) #[] caps,ty1,p1,af1,none⟩).run P w1= .ok (.value (.func (.func g) #[] (caps.map a.eval))) w1:=fun a=>by
    show(do pure (Next.value (← Instr.makeFunc (.func g) (#[].map a.eval) (caps.map a.eval))):Sem Next).run P w1=_
    simp[Instr.makeFunc]
  refine wp_seq (wp_region ?_)
  have e2:List.range 2=[0,1]:=rfl
  simp only[List.size_toArray,List.length_cons,List.length_nil,Nat.zero_add,Nat.reduceAdd,e2,wpOps]
  simp only[List.getElem?_toArray,List.getElem?_cons_zero,Region.wanted,if_true]
  refine .inl ?_
  unfold Oper.wp
  rw[hrun1]
  rw[Oper.upon_value]
  simp only[List.getElem?_toArray,List.getElem?_cons_succ,List.getElem?_cons_zero,Region.wanted,if_true]
  refine .inl ?_
  generalize hcv:caps.map a.eval=cv at*
  have hdget:(a.put (some d7) (.func (.func g) #[] cv)).eval (.tmp d7)= .func (.func g) #[] cv:=by
    have:d7<a.tmps.size:=by rw[h3.nt];exact hd7
    simp[Act.eval,Act.put,Array.getD_eq_getD_getElem?,this]
  have hrun2:(execOp (a.put (some d7) (.func (.func g) #[] cv)).eval ⟨none,.defer ⟨.value (.tmp d7), #[],ts⟩,ty2,p2,af2,none⟩).run P w1= .ok (.defer ⟨.fn (.func g) cv, #[]⟩) w1:=by
    show(do pure (Next.defer (← resolve (a.put (some d7) (.func (.func g) #[] cv)).eval ⟨.value (.tmp d7), #[],ts⟩ ty2)):Sem Next).run P w1=_
    unfold resolve
    simp only[hdget]
    simp[Deferred.ofValue]
  rw[hrun2,Oper.upon_defer]
  show c.wp P _ _ w1
  have hown2:OwnB ρ (mkHp [])=fun _=>False:=by funext b;simp[hown b]
  rw[hown2] at hs1
  have hrelf:Rel (fun i=>ρ1 (m i)) (fun i=>i<σ1.nx∧V1 (m i)) Z1 w1 (.func (.func g) #[] cv) (.fn (.func g) [] (ptrs k)):=
    .fn _ _ _ _ _ rfl (by rw[hcs]) (fun i hi=>absurd hi (Nat.not_lt_zero _)) hcr
  have hs2:=hs1.val (d:=some d7) (w':=w1) (fun n hn=>by cases hn;exact hd7) rfl rfl rfl hrelf
  have hVk:∀ id,id<k→id<σ1.nx∧V1 (m id):=fun id hid=>by obtain⟨o,ho⟩:=hk id hid;exact(hs1.hs.obj id o ho).1
  have hs3 : Sat ⟨fn.ntmps, [⟨.fn (.func g) cv, #[]⟩], w, fun _ => False, Z, k, fun i => ρ1 (m i), none, false, false⟩ (fun i => ρ1 (m i)) (fun i => i < σ1.nx ∧ V1 (m i)) Z1 ⟨upd σ1.fr d7 (.fn (.func g) [] (ptrs k)), σ1.hp, σ1.nx⟩
      { (a.put (some d7) (.func (.func g) #[] cv)) with defers:=⟨.fn (.func g) cv, #[]⟩::(a.put (some d7) (.func (.func g) #[] cv)).defers } w1:=
    ⟨hs2.nt,⟨[],by rw[putD,hdf];rfl,⟨by simp,by simp⟩,fun _=>rfl⟩,hs2.fr,hs2.hs,hs2.ext,hs2.ownd,hs2.z0,hs2.zn,fun id hid=>⟨hVk id hid,rfl⟩⟩
  have hbody:=h1 _ (fun e σ=>match e with| .ret| .norm=>DFinG P fn g k r none σ| .pan x=>DFinG P fn g k r (some x) σ| .exit _=>False) rfl rfl (fun σ hσ=>⟨hσ,hσ⟩) (fun x σ hσ=>hσ) _ _ Z1 _ w1 hs3 (fun id hid=>hid.1)
  refine wp_mono' ?_ (wpX_wp hbody)
  rintro e a2 w2 ⟨ρ2,V2,Z2,σ2,x2,k1,k2,k3,k4⟩
  have hfin:∀ (x:Option AV) (u:FrameMode),u≠ .run→DFinG P fn g k r x σ2→ModeR ρ2 V2 Z2 w2 u x→Leaves P fn a2.tmps (fun e w'=>∃ v Z',e= .returned v∧Rel ρ V Z' w' v r∧Ext w w' (fun _=>False)∧(∀ b o,Z b o→Z' b o)∧(∀ b o,Z' b o→Z b o∨(w.heap.size≤b∧b<w'.heap.size))) a2.defers u w2:=by
    rintro x u hu ⟨kk,gkk,g2,g3,g4,R,⟨gf,gD⟩,g6⟩ hmode
    rw[k3.df.none rfl]
    refine leaves_cons (f:=g) (args:= #[]++cv) hu (run_callFunc gf _) ?_
    have hpn:∀ id,id<k→V2 id∧ρ2 id=ρ1 (m id):=fun id hid=>k3.pn id hid
    have hs4:HSat ρ2 (fun i=>i<kk∧V2 i) Z2 w2 σ2.hp:=by
      refine⟨fun id o ho=>?_,k3.hs.inj,k3.hs.sep,k3.hs.lt,k3.hs.gl⟩
      obtain⟨q1,q2⟩:=k3.hs.obj id o ho
      have q3:=obj_fwd (ρ':=ρ2) (V':=fun i=>i<kk∧V2 i) (fun i=>i) (n:=kk) (fun id hid hv=>⟨⟨hid,hv⟩,rfl⟩) (g4 id o ho).1 q1 (g4 id o ho).2 q2
      rw[oren_id] at q3
      exact⟨⟨(g4 id o ho).1,q1⟩,q3⟩
    have hmode':ModeR ρ2 (fun i=>i<kk∧V2 i) Z2 w2 u x:=by
      cases x with
      |none=>exact hmode
      |some y=>
        obtain⟨v,q1,q2⟩:=hmode
        exact⟨v,q1,clo_rel q2 (g2 y rfl) _ _⟩
    rw[ptrs_len] at hcs hcr
    refine(gD ρ2 (fun i=>i<kk∧V2 i) Z2 w2 (#[]++cv) u hs4 (fun id hid=>⟨by omega,(hpn id hid).1⟩) (fun id h=>h.1) (by rw[ptrs_len];simpa using hcs) (fun i hi=>?_) hmode').mono ?_
    · rw[ptrs_len] at hi
      rw[ptrs_getD hi]
      have q1:=hcr i hi
      rw[ptrs_getD hi] at q1
      obtain⟨q2,_⟩:=q1.ptr_inv
      simp only[Array.empty_append]
      rw[q2, ← (hpn i hi).2]
      exact .ptr i 0 ⟨by omega,(hpn i hi).1⟩
    · rintro e u' w3 ⟨⟨v0,rfl⟩,q1,ρ3,V3,Z3,hp3,q2,q3,q4,q5,q6,q7,q8⟩
      show Leaves P fn a2.tmps _ [] (settle u') w3
      rw[q1]
      obtain⟨r',p1,p2,p3,p4⟩:=g6 hp3 q8
      have hownb:∀ b,OwnB ρ2 σ2.hp b→b<w2.heap.size∧¬ b<w.heap.size:=by
        rintro b ⟨id,o,ho,hb⟩
        exact⟨(k3.hs.obj id o ho).2.lt b hb,fun hlt=>k3.ownd id o b ho hb hlt⟩
      have hext:Ext w w3 (fun _=>False):=k3.ext.trans q3 (fun b hb hlt=>(hownb b hb).2 hlt) (fun b hb=>(hownb b hb).1)
      have hs5:Sat ⟨fn.ntmps,a2.defers,w,fun _=>False,Z,0,ρ,none,false,false⟩ ρ3 V3 Z3 ⟨σ2.fr,hp3,kk⟩ a2 w3:=by
        refine⟨k3.nt,⟨[],rfl,⟨by simp,by simp⟩,fun _=>rfl⟩,fun t y hy=>?_,q2,hext,fun id o b ho hb hlt=>?_,fun b o hz=>q5 _ _ (k3.z0 b o hz),fun b o hz=>?_,fun id hid=>absurd hid (Nat.not_lt_zero _)⟩
        · obtain⟨i,hi,rfl⟩:=g3 t y hy
          obtain⟨p5,_⟩:=(k3.fr t _ hy).ptr_inv
          rw[p5, ← (q4 i hi).2]
          exact .ptr i 0 (q4 i hi).1
        · exact(hownb b (q7 id o b ho hb (Nat.lt_of_lt_of_le hlt k3.ext.le))).2 hlt
        · rcases q6 b o hz with p|p|p
          · exact k3.zn b o p
          · exact .inr (.inl (Nat.le_trans k3.ext.le p))
          · exact .inr (.inl (Nat.le_of_not_lt (hownb b p).2))
      obtain⟨v,hv1,hv2⟩:=results_run hs5 p1
      have hv3:=snap_rel (σ:=⟨fun _=>none,fun _=>none,0⟩) (q2.sub (F:=fun _=>none) (fun id o ho=>by cases ho)) hv2 p3
      rw[p4] at hv3
      have hv4:Rel ρ3 V3 Z3 w3 v r:=hv3.mono (fun _ _=>rfl) (fun _ h=>h) (fun b o hz=>by
        rcases hz with hz|⟨id,sz,l,h,_⟩
        · exact hz
        · cases h) (fun _ _ _=>rfl)
      refine⟨v,hv1,v,Z3,rfl,clo_rel hv4 ?_ _ _,hext,fun b o hz=>hs5.z0 b o hz,fun b o hz=>?_⟩
      · rw[← p4];exact clo_snap p2
      · rcases hs5.zn b o hz with p|p|p
        · exact .inl p
        · exact .inr ⟨p,hs5.hs.lt b o hz⟩
        · exact p.elim
  cases e<;>cases x2<;>simp only[ExR] at k1
  · exact hfin none .returning (by simp) k2 rfl
  · exact k2.elim
  · exact hfin none .returning (by simp) k2 rfl
  · obtain⟨v,rfl,hv⟩:=k1
    exact hfin (some _) (.panicking _) (by simp) k2 ⟨v,rfl,hv⟩
end Go.Am
namespace Go.Proofs.YtffmphmiicnaeaaDoor
open Go.Am Go.Proofs Go.Lf
open Classical
attribute [local irreducible] AW CallP CallB
def zMd:List AV:=[.str ⟨#[]⟩,.nilsl,.nilsl,.nilsl,.nilsl,.nilsl]
theorem rec_none (l:List AV) (a b:AV):DCall Tryd.prog 24 (ptrs 3) (mkHp [(0,.cells l),(1,.cells [a]),(2,.cells [b])]) 3 3 none (fun hp'=>hp' 0=some (.cells l)∧hp' 1=some (.cells [a])∧hp' 2=some (.cells [b])):=by
 refine DCall.of_body1 Tryd.func24 isf24 rfl (by simp[Tryd.f24]) rfl (by simp[Tryd.f24,ptrs]) fun E Q hE hN hQ=>K_start ?_
 have ep:ptrs 3=[.ptr 0 0,.ptr 1 0,.ptr 2 0]:=rfl
 rw[ep]
 simp only[recX]
 repeat'(first|apply nx|refine zx ?_|rw[zw]|((first|refine hK _ ?_|refine hKp _ _ ?_);clear hK hKp K Kp;try clear hanc anc)|((with_reducible refine And.intro ?_ ?_);exact zb)|((first|refine zr hE fun K Kp hK hKp=>?_|refine zd true mixed hE fun K Kp hK hKp anc hanc=>?_|refine zd false mixed hE fun K Kp hK hKp anc hanc=>?_);simp only[go_sem])|(refine zg (fun hg=>?_) (fun hg=>?_)<;>simp only[go_sem,hg])|(refine zc (fun hc=>?_) (fun hc=>?_)<;>try exact zh hc))
 refine Kq_norm_nil ?_
 exact(hQ _ ⟨by simp only[go_sem],by simp only[go_sem],by simp only[go_sem]⟩).2
def IRec (C0:List AV) (a b:AV) (e p:Int) (D:Nat→Bool) (σ:Go.Am.St):Prop:=
 σ.nx=6291460∧σ.fr 0=some (.ptr 0 0)∧σ.fr 1=some (.ptr 1 0)∧σ.fr 2=some (.ptr 2 0)∧σ.fr 4=some (.ptr 4194308 0)∧(D 5=false→σ.hp 0=some (.cells C0))∧(D 6=false→σ.hp 1=some (.cells [a]))∧(D 7=false→σ.hp 2=some (.cells [b]))∧σ.hp 4194308=some (.cells [.i e,.i p])∧(D 0=true→σ.fr 12=some (.agg [.str ⟨#[]⟩,.nilsl,.nilsl,.nilsl,.nilsl,.nilsl]))∧(D 1=true→σ.fr 13=some (.ptr 4194308 0))∧(D 2=true→σ.fr 14=some (.i e))∧(D 3=true→σ.fr 15=some (.ptr 4194308 1))∧(D 4=true→σ.fr 16=some (.i p))∧(D 5=true→σ.hp 0=some (.cells [.str ⟨#[]⟩,.nilsl,.nilsl,.nilsl,.nilsl,.nilsl]))∧(D 6=true→σ.hp 1=some (.cells [.i e]))∧(D 7=true→σ.hp 2=some (.cells [.i p]))
theorem rec_some (l:List AV) (a b:AV) (e p:Int) (hl:l.length=6) (A:List Lf.Fd):DCall Tryd.prog 24 (ptrs 3) (mkHp [(0,.cells l),(1,.cells [a]),(2,.cells [b]),(3,.row 10 (fdl A))]) 4 3 (some (failL e p)) (fun hp'=>hp' 0=some (.cells zMd)∧hp' 1=some (.cells [.i e])∧hp' 2=some (.cells [.i p])):=by
 match l,hl with
 | [l0,l1,l2,l3,l4,l5],_=>
  refine DCall.of_body1 Tryd.func24 isf24 rfl (by simp[Tryd.f24]) rfl (by simp[Tryd.f24,ptrs]) fun E Q hE hN hQ=>K_start ?_
  have ep:ptrs 3=[.ptr 0 0,.ptr 1 0,.ptr 2 0]:=rfl
  rw[ep]
  simp only[recX,failL]
  repeat'(first|apply nx|refine zx ?_|rw[zw]|((first|refine hK _ ?_|refine hKp _ _ ?_);clear hK hKp K Kp;try clear hanc anc)|((with_reducible refine And.intro ?_ ?_);exact zb)|((fail_if_success refine K_stop 7 ?_);(first|refine zr hE fun K Kp hK hKp=>?_|refine zd true mixed hE fun K Kp hK hKp anc hanc=>?_|refine zd false mixed hE fun K Kp hK hKp anc hanc=>?_);simp only[go_sem])|(refine zg (fun hg=>?_) (fun hg=>?_)<;>simp only[go_sem,hg])|(refine zc (fun hc=>?_) (fun hc=>?_)<;>try exact zh hc))
  repeat(first|apply w1|apply w2)
  refine K_inv (n:=8) (IRec [l0,l1,l2,l3,l4,l5] a b e p) mixed hE ?_ ?_ (fun Kp hKp=>?_) ?_ rfl
  ·intro D D' σ h
   have:=fun j=>(h j).symm
   unfold IRec
   simp only[this]
   exact fun h=>h
  ·simp[IRec,go_sem]
  ·refine⟨?_,?_,?_,?_,?_,?_,?_,?_,trivial⟩
   all_goals rintro D' ⟨fr,hp,nx⟩ hD' hr ⟨hn,f0,f1,f2,f4,h0,h1,h2,h4194308,d0,d1,d2,d3,d4,s5,s6,s7⟩
   all_goals simp[Region.binds] at hn f0 f1 f2 f4 h0 h1 h2 h4194308 d0 d1 d2 d3 d4 s5 s6 s7 hD' hr
   all_goals subst hn
   all_goals try clear hQ'
   ·skip
    simp only[go_sem]
    (simp only[IRec,upd,updo];simp[f0,f1,f2,f4,h4194308];simp_all)
   ·skip
    simp only[go_sem,f4]
    (simp only[IRec,upd,updo];simp[f0,f1,f2,f4,h4194308];simp_all)
   ·skip
    have zd1:=d1 (by simp[hr,hD'])
    simp only[go_sem,zd1,h4194308]
    (simp only[IRec,upd,updo];simp[f0,f1,f2,f4,h4194308];simp_all)
   ·skip
    simp only[go_sem,f4]
    (simp only[IRec,upd,updo];simp[f0,f1,f2,f4,h4194308];simp_all)
   ·skip
    have zd3:=d3 (by simp[hr,hD'])
    simp only[go_sem,zd3,h4194308]
    (simp only[IRec,upd,updo];simp[f0,f1,f2,f4,h4194308];simp_all)
   ·skip
    have zd0:=d0 (by simp[hr,hD'])
    have zh0:=h0 (by simp[hr,hD'])
    simp only[go_sem,f0,zd0,zh0]
    (simp only[IRec,upd,updo];simp[f0,f1,f2,f4,h4194308];simp_all)
   ·skip
    have zd2:=d2 (by simp[hr,hD'])
    have zh1:=h1 (by simp[hr,hD'])
    simp only[go_sem,f1,zd2,zh1]
    (simp only[IRec,upd,updo];simp[f0,f1,f2,f4,h4194308];simp_all)
   ·skip
    have zd4:=d4 (by simp[hr,hD'])
    have zh2:=h2 (by simp[hr,hD'])
    simp only[go_sem,f2,zd4,zh2]
    (simp only[IRec,upd,updo];simp[f0,f1,f2,f4,h4194308];simp_all)
  rintro⟨fr,hp,nx⟩ D' hD' ⟨hn,f0,f1,f2,f4,h0,h1,h2,h4194308,d0,d1,d2,d3,d4,s5,s6,s7⟩
  simp only at hn f0 f1 f2 f4 h0 h1 h2 h4194308 d0 d1 d2 d3 d4 s5 s6 s7
  have zd0:=d0 (hD' 0)
  have zd1:=d1 (hD' 1)
  have zd2:=d2 (hD' 2)
  have zd3:=d3 (hD' 3)
  have zd4:=d4 (hD' 4)
  have zs5:=s5 (hD' 5)
  have zs6:=s6 (hD' 6)
  have zs7:=s7 (hD' 7)
  repeat(first|refine Kq_norm_code ?_|refine Kq_norm_blk ?_)
  refine Kq_norm_nil ?_
  exact(hQ _ ⟨zs5,zs6,zs7⟩).2
end Go.Proofs.YtffmphmiicnaeaaDoor
