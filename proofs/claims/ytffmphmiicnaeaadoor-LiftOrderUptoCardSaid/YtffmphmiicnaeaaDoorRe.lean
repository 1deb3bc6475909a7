/- A part of the proof: an abstract machine for the walks, and what the walked functions compute. -/
import Derived.Test.YtffmphmiicnaeaaDoorRd
import Derived.Test.YtffmphmiicnaeaaDoorRb
import Derived.Test.YtffmphmiicnaeaaDoorRc
set_option linter.unusedVariables false
set_option linter.unusedSimpArgs false
set_option maxHeartbeats 4000000
set_option maxRecDepth 100000
namespace Go.Proofs.YtffmphmiicnaeaaDoor
open Go.Am Go.Proofs Go.Lf
open Classical
attribute [local irreducible] AW CallP CallB
theorem mkFr_memL:∀ {l:List (Nat×AV)} {i:Nat} {y:AV},mkFr l i=some y→(i,y)∈l
 | [],i,y,h=>by cases h
 |p::l,i,y,h=>by
  unfold mkFr at h
  simp only[upd] at h
  split at h
  ·rename_i e;cases h;subst e;exact List.mem_cons_self ..
  ·exact List.mem_cons_of_mem _ (mkFr_memL h)
def zM:Md:=⟨⟨#[]⟩,[],[],[],[],[]⟩
def liftAV (x:Md):AV:=
 match liftL dec x.fs with
 | .ok z=> .tup [(⟨x.nm,x.us,x.ds,x.ts,x.ms,z.1++z.2⟩:Md).av,.i 0,.i 0]
 | .error e=> .tup [zM.av,.i e.1,.i e.2]
theorem lfin_none {C : List AV} {a b c d e f : AV} {σ : Am.St} {r : AV} (hC : C = [a, b, c, d, e, f]) (hc : AV.cloL C = true) (hs : (AV.tup [.agg C, .i 0, .i 0]).snapOk (fun _ => none)) (hr : (AV.tup [.agg C, .i 0, .i 0]).snap (fun _ => none) = r)
    (h2:σ.fr 2=some (.ptr 0 0)) (h3:σ.fr 3=some (.ptr 1 0)) (h4:σ.fr 4=some (.ptr 2 0)) (g0:σ.hp 0=some (.cells C)) (g1:σ.hp 1=some (.cells [.i 0])) (g2:σ.hp 2=some (.cells [.i 0])):
    ∃ σ3,Ent 0 (fun i=>i) σ σ3∧(∀ i,i<3→i<σ3.nx)∧DFinG Tryd.prog Tryd.f9 24 3 r none σ3:=by
  subst hC
  refine⟨mkSt [(2,.ptr 0 0),(3,.ptr 1 0),(4,.ptr 2 0)] [(0,.cells [a,b,c,d,e,f]),(1,.cells [.i 0]),(2,.cells [.i 0])] 3,ent_mk ?_ ?_ (by simp) (fun id h=>absurd h (Nat.not_lt_zero _)),fun i hi=>hi,3,Nat.le_refl _,fun y h=>(by cases h),?_,?_,_,rec_none _ _ _,?_⟩
  · intro p hp
    simp only[List.mem_cons,List.not_mem_nil,or_false] at hp
    rcases hp with rfl|rfl|rfl
    · exact⟨h2,show 0<3 by decide⟩
    · exact⟨h3,show 1<3 by decide⟩
    · exact⟨h4,show 2<3 by decide⟩
  · intro p hp
    simp only[List.mem_cons,List.not_mem_nil,or_false] at hp
    rcases hp with rfl|rfl|rfl
    · exact⟨by simp only[AObj.ren];rw[cloL_renL hc];exact g0,(show 0<3 by decide),cloL_idsL hc⟩
    · exact⟨g1,(show 1<3 by decide),⟨trivial,trivial⟩⟩
    · exact⟨g2,(show 2<3 by decide),⟨trivial,trivial⟩⟩
  · intro t y hy
    have:=mkFr_memL hy
    simp only[List.mem_cons,List.not_mem_nil,or_false,Prod.mk.injEq] at this
    rcases this with ⟨_,rfl⟩|⟨_,rfl⟩|⟨_,rfl⟩
    · exact⟨0,by decide,rfl⟩
    · exact⟨1,by decide,rfl⟩
    · exact⟨2,by decide,rfl⟩
  · refine mkHp_allP (p:=fun id o=>id<3∧o.ids (· <3)) (fun q hq=>?_)
    simp only[List.mem_cons,List.not_mem_nil,or_false] at hq
    rcases hq with rfl|rfl|rfl
    · exact⟨by show 0<3;decide,cloL_idsL hc⟩
    · exact⟨by show 1<3;decide,⟨trivial,trivial⟩⟩
    · exact⟨by show 2<3;decide,⟨trivial,trivial⟩⟩
  · rintro hp' ⟨k0,k1,k2⟩
    refine⟨.tup [.agg [a,b,c,d,e,f],.i 0,.i 0],?_,by simp only[AV.clo,AV.cloL,Bool.and_true];simpa [AV.cloL] using hc,hs,hr⟩
    simp[resA,rvA,Tryd.f9,go_sem,k0,k1,k2]
    rfl
theorem lfin_some {C : List AV} {A : List Lf.Fd} {σ : Am.St} {e p : Int} (hl : C.length = 6) (hc : AV.idsL (· < 4) C) (hre : AV.renL (fun i => i) C = C)
    (h2:σ.fr 2=some (.ptr 0 0)) (h3:σ.fr 3=some (.ptr 1 0)) (h4:σ.fr 4=some (.ptr 2 0)) (g0:σ.hp 0=some (.cells C)) (g1:σ.hp 1=some (.cells [.i 0])) (g2:σ.hp 2=some (.cells [.i 0])) (g3:σ.hp 3=some (.row 10 (fdl A))):
    ∃ σ3,Ent 0 (fun i=>i) σ σ3∧(∀ i,i<3→i<σ3.nx)∧DFinG Tryd.prog Tryd.f9 24 3 (.tup [zM.av,.i e,.i p]) (some (failL e p)) σ3:=by
  refine⟨mkSt [(2,.ptr 0 0),(3,.ptr 1 0),(4,.ptr 2 0)] [(0,.cells C),(1,.cells [.i 0]),(2,.cells [.i 0]),(3,.row 10 (fdl A))] 4,ent_mk ?_ ?_ (by simp) (fun id h=>absurd h (Nat.not_lt_zero _)),fun i hi=>(by show i<4;omega),4,(by decide),fun y h=>(by cases h;rfl),?_,?_,_,rec_some C _ _ e p hl A,?_⟩
  · intro p hp
    simp only[List.mem_cons,List.not_mem_nil,or_false] at hp
    rcases hp with rfl|rfl|rfl
    · exact⟨h2,show 0<4 by decide⟩
    · exact⟨h3,show 1<4 by decide⟩
    · exact⟨h4,show 2<4 by decide⟩
  · intro p hp
    simp only[List.mem_cons,List.not_mem_nil,or_false] at hp
    rcases hp with rfl|rfl|rfl|rfl
    · exact⟨by simp only[AObj.ren];rw[hre];exact g0,(show 0<4 by decide),hc⟩
    · exact⟨g1,(show 1<4 by decide),⟨trivial,trivial⟩⟩
    · exact⟨g2,(show 2<4 by decide),⟨trivial,trivial⟩⟩
    · exact⟨by simp only[AObj.ren];rw[cloL_renL (fdl_clo A)];exact g3,(show 3<4 by decide),cloL_idsL (fdl_clo A)⟩
  · intro t y hy
    have:=mkFr_memL hy
    simp only[List.mem_cons,List.not_mem_nil,or_false,Prod.mk.injEq] at this
    rcases this with ⟨_,rfl⟩|⟨_,rfl⟩|⟨_,rfl⟩
    · exact⟨0,by decide,rfl⟩
    · exact⟨1,by decide,rfl⟩
    · exact⟨2,by decide,rfl⟩
  · refine mkHp_allP (p:=fun id o=>id<4∧o.ids (· <4)) (fun q hq=>?_)
    simp only[List.mem_cons,List.not_mem_nil,or_false] at hq
    rcases hq with rfl|rfl|rfl|rfl
    · exact⟨by show 0<4;decide,hc⟩
    · exact⟨by show 1<4;decide,⟨trivial,trivial⟩⟩
    · exact⟨by show 2<4;decide,⟨trivial,trivial⟩⟩
    · exact⟨by show 3<4;decide,cloL_idsL (fdl_clo A)⟩
  · rintro hp' ⟨k0,k1,k2⟩
    refine⟨.tup [.agg zMd,.i e,.i p],?_,rfl,?_,rfl⟩
    · simp[resA,rvA,Tryd.f9,go_sem,k0,k1,k2,zMd]
      rfl
    · simp[AV.snapOk,AV.snapOkL,zMd]
theorem sumle {l:List Lf.Fd} {i:Nat} {f:Lf.Fd} (h:l[i]? =some f):f.sz+fdSz (l.drop (i+1))=fdSz (l.drop i):=by
 rw[drop_of h,fdSz]
theorem fdl_sn (A:List Lf.Fd) (f:Lf.Fd):fdl A++[f.av]=fdl (A++[f]):=by rw[fdl_app];rfl
theorem liftL_mk (fm : Nm) (p0 : List Nm) (b0 : List Bd) (c0 a0 : List Ad) (r0 : Tx) (bd : List Lf.St) (of0 : Int) (l : List Lf.Fd) : liftL dec (.mk fm p0 b0 c0 a0 r0 bd of0 :: l) = if 0 < c0.length then .error (1, of0) else if (blk dec fm p0 b0 [] bd ⟨0, [], 0, 0⟩).2.err ≠ 0 then .error ((blk dec fm p0 b0 [] bd ⟨0, [], 0, 0⟩).2.err, (blk dec fm p0 b0 [] bd ⟨0, [], 0, 0⟩).2.pos) else match liftL dec l with
    | .error e=> .error e
    | .ok z=> .ok (.mk fm p0 b0 c0 a0 r0 (blk dec fm p0 b0 [] bd ⟨0,[],0,0⟩).1 of0::z.1,(blk dec fm p0 b0 [] bd ⟨0,[],0,0⟩).2.out++z.2):=rfl
def ILt (M0:List AV) (A B R:List Lf.Fd) (F0 I0:List AV) (L0:List AV) (n0 i0:Int) (D:Nat→Bool) (σ:Go.Am.St):Prop:=
 σ.nx=8∧σ.fr 2=some (.ptr 0 0)∧σ.fr 3=some (.ptr 1 0)∧σ.fr 4=some (.ptr 2 0)∧σ.fr 7=some (.ptr 5 0)∧σ.fr 8=some (.ptr 6 0)∧σ.fr 13=some (.sl L0)∧σ.fr 14=some (.i n0)∧σ.fr 15=some (.i i0)∧(D 13=false→σ.fr 5=some (.rw 4))∧(D 12=false→σ.hp 0=some (.cells (M0++[.rw 3])))∧σ.hp 1=some (.cells [.i 0])∧σ.hp 2=some (.cells [.i 0])∧(D 4=false→σ.hp 3=some (.row 10 (fdl A)))∧(D 10=false→σ.hp 4=some (.row 10 (fdl B)))∧σ.hp 5=some (.cells F0)∧σ.hp 6=some (.cells I0)∧σ.hp 7=some (.row 10 (fdl R))∧(D 0=true→σ.fr 40=some (.ptr 0 5))∧(D 1=true→σ.fr 41=some (.rw 3))∧(D 2=true→σ.fr 42=some (.agg F0))∧(D 3=true→σ.fr 43=some (.rw 3145736))∧(D 4=true→σ.fr 44=some (.rw 4194312))∧(D 5=true→σ.fr 45=some (.rw 4))∧(D 6=true→σ.fr 46=some (.ptr 6 0))∧(D 7=true→σ.fr 47=some (.ptr 6 0))∧(D 8=true→σ.fr 48=some (.ptr 6 4))∧(D 9=true→σ.fr 49=some (.rw 7))∧(D 10=true→σ.fr 50=some (.rw 10485768))∧(D 11=true→σ.fr 51=some (.ptr 0 5))∧(D 13=true→σ.fr 5=some (.rw 10485768))∧(D 3=true→σ.hp 3145736=some (.row 10 [.agg F0]))∧(D 4=true→σ.hp 4194312=some (.row 10 (fdl A++[.agg F0])))∧(D 10=true→σ.hp 10485768=some (.row 10 (fdl B++fdl R)))∧(D 12=true→σ.hp 0=some (.cells (M0++[.rw 4194312])))∧(D 12=true→D 1=true)∧(D 13=true→D 5=true)
theorem lift_call (x:Md) (hz:fdSz x.fs≤1000) (hw:∀ f,f∈x.fs→f.wt≤2 ^ 40):PCall Tryd.prog 9 [x.av] (liftAV x):=by
 obtain⟨mn,us,ds,ts,ms,fs⟩:=x
 simp only at hz hw
 have hln:=fd_len_le fs
 unfold liftAV Md.av Md.cs
 simp only
 refine PCall.of_deferG (k:=3) Tryd.func9 isf9 rfl (by simp[Tryd.f9]) (by simp[Tryd.f9]) (by rfl) (mkSt [(1,.ptr 3 0),(2,.ptr 0 0),(3,.ptr 1 0),(4,.ptr 2 0)] [(0,.cells [.str ⟨#[]⟩,.nilsl,.nilsl,.nilsl,.nilsl,.nilsl]),(1,.cells [.i 0]),(2,.cells [.i 0]),(3,.cells [.str mn,.sl (nml us),.sl (dtl ds),.sl (trl ts),.sl (iml ms),.sl (fdl fs)])] 4) ?_ rfl ?_ ?_
 ·intro i hi
  have:i=0∨i=1∨i=2:=by omega
  rcases this with rfl|rfl|rfl<;>exact⟨_,rfl⟩
 ·intro E Q hE hN hQ
  refine K_start ?_
  repeat'(first|apply nx|refine zx ?_|rw[zw]|((first|refine hK _ ?_|refine hKp _ _ ?_);clear hK hKp K Kp;try clear hanc anc)|((with_reducible refine And.intro ?_ ?_);exact zb)|((first|refine zr hE fun K Kp hK hKp=>?_|refine zd true mixed hE fun K Kp hK hKp anc hanc=>?_|refine zd false mixed hE fun K Kp hK hKp anc hanc=>?_);simp only[go_sem])|(refine zg (fun hg=>?_) (fun hg=>?_)<;>simp only[go_sem,hg])|(refine zc (fun hc=>?_) (fun hc=>?_)<;>try exact zh hc))
  refine Kq_norm_nil ?_
  refine hQ _ (fun i=>if i=0 then 1048576 else if i=1 then 2097152 else if i=2 then 3145728 else 0) ?_
  refine ent_mk (by simp[go_sem]) (by simp[go_sem]) (by simp) (by simp[hN])
 ·intro E Q hE hN hQ hQp
  have ep:ptrs 3=[.ptr 0 0,.ptr 1 0,.ptr 2 0]:=rfl
  refine AW.repin 3 (fun i=>i) (fun i=>i) (σ':=mkSt [(1,.ptr 3 0),(2,.ptr 0 0),(3,.ptr 1 0),(4,.ptr 2 0)] [(0,.cells [.str ⟨#[]⟩,.nilsl,.nilsl,.nilsl,.nilsl,.nilsl]),(1,.cells [.i 0]),(2,.cells [.i 0]),(3,.cells [.str mn,.sl (nml us),.sl (dtl ds),.sl (trl ts),.sl (iml ms),.sl (fdl fs)])] 4) (ent_mk (by simp[go_sem]) (by simp[go_sem]) (by simp) (fun id h=>absurd h (Nat.not_lt_zero _))) (fun j hj=>?_) (fun i hi=>⟨by omega,rfl⟩) ?_
  ·have:j=0∨j=1∨j=2:=by omega
   rcases this with rfl|rfl|rfl<;>exact⟨_,rfl⟩
  intro E2 hE2 hN2
  rw[hE] at hE2
  rw[hN]
  generalize hQ2:repQ 3 _ Q=Q2
  have hret:∀ (σ:Am.St) (z:List Lf.Fd×List Lf.Fd),liftL dec fs= .ok z→σ.fr 2=some (.ptr 0 0)→σ.fr 3=some (.ptr 1 0)→σ.fr 4=some (.ptr 2 0)→σ.hp 0=some (.cells [.str mn,.sl (nml us),.sl (dtl ds),.sl (trl ts),.sl (iml ms),.sl (fdl (z.1++z.2))])→σ.hp 1=some (.cells [.i 0])→σ.hp 2=some (.cells [.i 0])→Q2 .ret σ:=by
   intro σ z k5 k6 k7 k8 k9 ka kb
   rw[k5] at hQ
   obtain⟨σ3,f1,f2,f3⟩:=lfin_none (r:= .tup [.agg [.str mn,.sl (nml us),.sl (dtl ds),.sl (trl ts),.sl (iml ms),.sl (fdl (z.1++z.2))],.i 0,.i 0]) rfl (by rfl) (by simp[AV.snapOk,AV.snapOkL]) rfl k6 k7 k8 k9 ka kb
   rw[← hQ2]
   exact⟨σ3,.ret,f1,f2,trivial,(hQ _ f3).1⟩
  have hpan:∀ (σ:Am.St) (A:List Lf.Fd) (e p:Int),liftL dec fs= .error (e,p)→σ.fr 2=some (.ptr 0 0)→σ.fr 3=some (.ptr 1 0)→σ.fr 4=some (.ptr 2 0)→σ.hp 0=some (.cells [.str mn,.sl (nml us),.sl (dtl ds),.sl (trl ts),.sl (iml ms),.rw 3])→σ.hp 1=some (.cells [.i 0])→σ.hp 2=some (.cells [.i 0])→σ.hp 3=some (.row 10 (fdl A))→Q2 (.pan (failL e p)) σ:=by
   intro σ A e p k5 k6 k7 k8 k9 ka kb kc
   rw[k5] at hQp
   obtain⟨σ3,f1,f2,f3⟩:=lfin_some (e:=e) (p:=p) (A:=A) (C:=[.str mn,.sl (nml us),.sl (dtl ds),.sl (trl ts),.sl (iml ms),.rw 3]) rfl (by simp[AV.idsL,AV.ids,go_sem]) (by simp[AV.renL,AV.ren,go_sem]) k6 k7 k8 k9 ka kb kc
   rw[← hQ2]
   exact⟨σ3,.pan (failL e p),f1,f2,⟨rfl,by simp[failL,AV.ids,AV.idsL]⟩,hQp _ _ f3⟩
  clear hQ2 hQ hQp hE hN
  have hE:=hE2
  have hN:=hN2
  clear hE2 hN2
  generalize E2=E at*
  generalize Q2=Q at*
  refine K_start ?_
  repeat'(first|apply nx|refine zx ?_|rw[zw]|((first|refine hK _ ?_|refine hKp _ _ ?_);clear hK hKp K Kp;try clear hanc anc)|((with_reducible refine And.intro ?_ ?_);exact zb)|((fail_if_success refine K_stop 6 ?_);(first|refine zr hE fun K Kp hK hKp=>?_|refine zd true mixed hE fun K Kp hK hKp anc hanc=>?_|refine zd false mixed hE fun K Kp hK hKp anc hanc=>?_);simp only[go_sem])|(refine zg (fun hg=>?_) (fun hg=>?_)<;>simp only[go_sem,hg])|(refine zc (fun hc=>?_) (fun hc=>?_)<;>try exact zh hc))
  refine AW.ent (σ':=mkSt [(2,.ptr 0 0),(3,.ptr 1 0),(4,.ptr 2 0),(5,.nilsl),(13,.sl (fdl fs)),(14,.i fs.length),(15,.i (0:Nat))] [(0,.cells [.str mn,.sl (nml us),.sl (dtl ds),.sl (trl ts),.sl (iml ms),.nilsl]),(1,.cells [.i 0]),(2,.cells [.i 0])] 3) (fun i=>i) ?_ ?_
  ·exact ent_mk (by simp[go_sem]) (by simp[go_sem]) (by simp) (fun id hid=>⟨rfl,by omega⟩)
  refine AW_nilc 0 5 10 (by simp[go_sem];rfl) rfl ?_
  refine AW_nil 5 10 (by rw[hE];decide) (by simp[go_sem]) ?_
  simp only[go_sem]
  refine K_loop (X:=Nat×List Lf.Fd×List Lf.Fd) (fun x=>x.1≤fs.length∧x.2.1.length=x.1∧x.2.2.length+fdSz (fs.drop x.1)≤1000∧liftL dec fs=match liftL dec (fs.drop x.1) with| .ok z=> .ok (x.2.1++z.1,x.2.2++z.2)| .error e=> .error e) (fun x=>mkSt [(2,.ptr 0 0),(3,.ptr 1 0),(4,.ptr 2 0),(5,.rw 4),(13,.sl (fdl fs)),(14,.i fs.length),(15,.i (x.1:Nat))] [(0,.cells [.str mn,.sl (nml us),.sl (dtl ds),.sl (trl ts),.sl (iml ms),.rw 3]),(1,.cells [.i 0]),(2,.cells [.i 0]),(3,.row 10 (fdl x.2.1)),(4,.row 10 (fdl x.2.2))] 5) (fun x=>fs.length - x.1) (0,[],[]) ⟨Nat.zero_le _,rfl,by simpa using hz,by simp only[List.drop_zero,List.nil_append];cases liftL dec fs<;>rfl⟩ (fun i=>i) ?_ ?_
  ·refine ent_mk (by simp[go_sem]) (by simp[go_sem]) (by simp) (fun id hid=>⟨rfl,by omega⟩)
  rintro⟨i,A,B⟩ ⟨hi,hA,hB,hL⟩
  simp only at hi hA hB hL
  by_cases hlt:i<fs.length
  ·obtain⟨f,hf⟩:=get?_of hlt
   have hsz:=sumle hf
   have hwf:=hw f (List.mem_of_getElem? hf)
   rw[drop_of hf] at hL
   obtain⟨fm,p0,b0,c0,a0,r0,bd,of0⟩:=f
   rw[Fd.sz] at hsz
   rw[Fd.wt] at hwf
   have hlc:=st_len_le bd
   rw[liftL_mk] at hL
   by_cases hcap:0<c0.length
   ·rw[if_pos hcap] at hL
    simp only at hL
    rw[hL] at hpan
    have hcap':decide ((c0.length:Int)>0)=true:=decide_eq_true (by omega)
    repeat'(first|apply nx|refine zx ?_|rw[zw]|((first|refine hK _ ?_|refine hKp _ _ ?_);clear hK hKp K Kp;try clear hanc anc)|((with_reducible refine And.intro ?_ ?_);exact zb)|((first|refine zr hE fun K Kp hK hKp=>?_|refine zd true mixed hE fun K Kp hK hKp anc hanc=>?_|refine zd false mixed hE fun K Kp hK hKp anc hanc=>?_);simp only[go_sem,lt_dec hlt,hf,Fd.av,hcap'])|(refine zg (fun hg=>?_) (fun hg=>?_)<;>simp only[go_sem,lt_dec hlt,hf,Fd.av,hcap',hg])|(refine zc (fun hc=>?_) (fun hc=>?_)<;>try exact zh hc))
    exact hpan _ A 1 of0 rfl (by simp only[go_sem]) (by simp only[go_sem]) (by simp only[go_sem]) (by simp only[go_sem]) (by simp only[go_sem]) (by simp only[go_sem]) (by simp only[go_sem])
   ·rw[if_neg hcap] at hL
    have hcap':decide ((c0.length:Int)>0)=false:=decide_eq_false (by omega)
    have hA':=lift_c 1001 (Nat.le_refl _) fm p0 b0 bd (by omega) (by omega) (by omega) (by omega) [] [] .nilmap ⟨0,[],0,0⟩ (.inl ⟨rfl,rfl,rfl⟩) (fun v hv=>by cases hv) ⟨rfl,rfl,by simp only;omega,by simp only[List.length_nil];omega⟩
    have hg1:=(blk_grow (dec:=dec) fm p0 b0 bd [] ⟨0,[],0,0⟩).2
    generalize blk dec fm p0 b0 [] bd ⟨0,[],0,0⟩=yy at hA' hg1 hL
    obtain⟨T,z⟩:=yy
    simp only[List.length_nil] at hA' hg1 hL
    repeat'(first|apply nx|refine zx ?_|rw[zw]|((first|refine hK _ ?_|refine hKp _ _ ?_);clear hK hKp K Kp;try clear hanc anc)|((with_reducible refine And.intro ?_ ?_);exact zb)|((fail_if_success refine K_stop 11 ?_);(first|refine zr hE fun K Kp hK hKp=>?_|refine zd true mixed hE fun K Kp hK hKp anc hanc=>?_|refine zd false mixed hE fun K Kp hK hKp anc hanc=>?_);simp only[go_sem,lt_dec hlt,hf,Fd.av,hcap'])|(refine zg (fun hg=>?_) (fun hg=>?_)<;>simp only[go_sem,lt_dec hlt,hf,Fd.av,hcap',hg])|(refine zc (fun hc=>?_) (fun hc=>?_)<;>try exact zh hc))
    refine AW.ent (σ':=mkSt [(2,.ptr 0 0),(3,.ptr 1 0),(4,.ptr 2 0),(5,.rw 4),(7,.ptr 5 0),(8,.ptr 6 0),(13,.sl (fdl fs)),(14,.i fs.length),(15,.i i)] [(0,.cells [.str mn,.sl (nml us),.sl (dtl ds),.sl (trl ts),.sl (iml ms),.rw 3]),(1,.cells [.i 0]),(2,.cells [.i 0]),(3,.row 10 (fdl A)),(4,.row 10 (fdl B)),(5,.cells [.str fm,.sl (nml p0),.sl (bdl b0),.sl (adl c0),.sl (adl a0),.str r0.n,.sl (Tx.avL r0.a),.i r0.o,.sl (stl bd),.i of0]),(6,.cells [.str fm,.sl (nml p0),.sl (bdl b0),.i 0,.nilsl])] 7) (fun i=>if i=5 then 3145733 else if i=6 then 16777221 else i) ?_ ?_
    ·exact ent_mk (by simp[go_sem]) (by simp[go_sem]) (by simp) (fun id hid=>⟨by rw[if_neg (by omega),if_neg (by omega)],by omega⟩)
    refine AW_nilc 6 4 10 (by simp[go_sem];rfl) rfl ?_
    repeat'(first|apply nx|refine zx ?_|rw[zw]|((first|refine hK _ ?_|refine hKp _ _ ?_);clear hK hKp K Kp;try clear hanc anc)|((with_reducible refine And.intro ?_ ?_);exact zb)|((first|refine zr hE fun K Kp hK hKp=>?_|refine zd true mixed hE fun K Kp hK hKp anc hanc=>?_|refine zd false mixed hE fun K Kp hK hKp anc hanc=>?_);simp only[go_sem])|(refine zg (fun hg=>?_) (fun hg=>?_)<;>simp only[go_sem,hg])|(refine zc (fun hc=>?_) (fun hc=>?_)<;>try exact zh hc))
    refine Hold.mk (LC.use1 hA' 6 7 3145737 (by decide) (by simp[AV.idsL,AV.ids,go_sem]) (by simp[AV.renL,AV.ren,go_sem]) (by rfl) (by simp only[go_sem,updo];rfl) (by simp only[go_sem,updo]) (fun he hpn g6 g7 hold=>?_) (fun he hpn hold=>?_))
    rotate_left
    ·rw[if_pos he] at hL
     simp only at hL
     have g0:=hold 0 (.cells [.str mn,.sl (nml us),.sl (dtl ds),.sl (trl ts),.sl (iml ms),.rw 3]) (by decide) (by decide) (by simp only[go_sem,updo])
     have g1:=hold 1 (.cells [.i 0]) (by decide) (by decide) (by simp only[go_sem,updo])
     have g2:=hold 2 (.cells [.i 0]) (by decide) (by decide) (by simp only[go_sem,updo])
     have g3:=hold 3 (.row 10 (fdl A)) (by decide) (by decide) (by simp only[go_sem,updo])
     exact hKp _ _ (hpan _ A _ _ hL (by simp only[go_sem]) (by simp only[go_sem]) (by simp only[go_sem]) g0 g1 g2 g3)
    rw[if_neg (by simpa using he)] at hL
    have g0:=hold 0 (.cells [.str mn,.sl (nml us),.sl (dtl ds),.sl (trl ts),.sl (iml ms),.rw 3]) (by decide) (by decide) (by simp only[go_sem,updo])
    have g1:=hold 1 (.cells [.i 0]) (by decide) (by decide) (by simp only[go_sem,updo])
    have g2:=hold 2 (.cells [.i 0]) (by decide) (by decide) (by simp only[go_sem,updo])
    have g3:=hold 3 (.row 10 (fdl A)) (by decide) (by decide) (by simp only[go_sem,updo])
    have g4:=hold 4 (.row 10 (fdl B)) (by decide) (by decide) (by simp only[go_sem,updo])
    have g5:=hold 5 (.cells [.str fm,.sl (nml p0),.sl (bdl b0),.sl (adl c0),.sl (adl a0),.str r0.n,.sl (Tx.avL r0.a),.i r0.o,.sl (stl bd),.i of0]) (by decide) (by decide) (by simp only[go_sem,updo])
    clear hold
    simp only[go_sem,putf,g5]
    repeat'(first|apply nx|refine zx ?_|rw[zw]|((first|refine hK _ ?_|refine hKp _ _ ?_);clear hK hKp K Kp;try clear hanc anc)|((with_reducible refine And.intro ?_ ?_);exact zb)|((first|refine zr hE fun K Kp hK hKp=>?_|refine zd true mixed hE fun K Kp hK hKp anc hanc=>?_|refine zd false mixed hE fun K Kp hK hKp anc hanc=>?_);simp only[go_sem,g0,g1,g2,g3,g4,g5,g6,g7])|(refine zg (fun hg=>?_) (fun hg=>?_)<;>simp only[go_sem,g0,g1,g2,g3,g4,g5,g6,g7,hg])|(refine zc (fun hc=>?_) (fun hc=>?_)<;>try exact zh hc))
    refine AW.ent (σ':=mkSt [(2,.ptr 0 0),(3,.ptr 1 0),(4,.ptr 2 0),(5,.rw 4),(7,.ptr 5 0),(8,.ptr 6 0),(13,.sl (fdl fs)),(14,.i fs.length),(15,.i i)] [(0,.cells [.str mn,.sl (nml us),.sl (dtl ds),.sl (trl ts),.sl (iml ms),.rw 3]),(1,.cells [.i 0]),(2,.cells [.i 0]),(3,.row 10 (fdl A)),(4,.row 10 (fdl B)),(5,.cells [.str fm,.sl (nml p0),.sl (bdl b0),.sl (adl c0),.sl (adl a0),.str r0.n,.sl (Tx.avL r0.a),.i r0.o,.sl (stl T),.i of0]),(6,.cells [.str fm,.sl (nml p0),.sl (bdl b0),.i z.cnt,.rw 7]),(7,.row 10 (fdl z.out))] 8) (fun i=>if i=7 then 3145737 else i) ?_ ?_
    ·exact ent_mk (by simp[go_sem]) (by simp[go_sem,g0,g1,g2,g3,g4,g5,g6,g7]) (by simp) (fun id hid=>⟨by rw[if_neg (by omega)],by omega⟩)
    clear g0 g1 g2 g3 g4 g5 g6 g7
    repeat(first|apply w1|apply w2)
    refine K_inv (n:=14) (ILt [.str mn,.sl (nml us),.sl (dtl ds),.sl (trl ts),.sl (iml ms)] A B z.out [.str fm,.sl (nml p0),.sl (bdl b0),.sl (adl c0),.sl (adl a0),.str r0.n,.sl (Tx.avL r0.a),.i r0.o,.sl (stl T),.i of0] [.str fm,.sl (nml p0),.sl (bdl b0),.i z.cnt,.rw 7] (fdl fs) fs.length i) mixed hE ?_ ?_ (fun Kp hKp=>?_) ?_ rfl
    ·intro D D' σ h
     have:=fun j=>(h j).symm
     unfold ILt
     simp only[this]
     exact fun h=>h
    ·simp[ILt,go_sem]
    ·refine⟨?_,?_,?_,?_,?_,?_,?_,?_,?_,?_,?_,?_,?_,?_,trivial⟩
     all_goals rintro D' ⟨fr,hp,nx⟩ hD' hr ⟨hn,f2,f3,f4,f7,f8,f13,f14,f15,f5,h0,h1,h2,h3,h4,h5,h6,h7,d0,d1,d2,d3,d4,d5,d6,d7,d8,d9,d10,d11,d13,e3,e4,e10,s12,o12_1,o13_5⟩
     all_goals simp[Region.binds] at hn f2 f3 f4 f7 f8 f13 f14 f15 f5 h0 h1 h2 h3 h4 h5 h6 h7 d0 d1 d2 d3 d4 d5 d6 d7 d8 d9 d10 d11 d13 e3 e4 e10 s12 o12_1 o13_5 hD' hr
     all_goals subst hn
     all_goals try clear hQ
     ·skip
      simp only[go_sem,f2]
      (simp only[ILt,upd,updo];simp[f2,f3,f4,f7,f8,f13,f14,f15,h1,h2,h5,h6,h7];simp_all)
     ·skip
      have zd0:=d0 (by first|(simp[hr,hD'];done)|(cases hq:D' 0<;>simp_all))
      have zh0:=h0 (by first|(simp[hr,hD'];done)|(cases hq:D' 12<;>simp_all))
      simp only[go_sem,zd0,zh0]
      (simp only[ILt,upd,updo];simp[f2,f3,f4,f7,f8,f13,f14,f15,h1,h2,h5,h6,h7];simp_all)
     ·skip
      simp only[go_sem,f7,h5]
      (simp only[ILt,upd,updo];simp[f2,f3,f4,f7,f8,f13,f14,f15,h1,h2,h5,h6,h7];simp_all)
     ·skip
      have zd2:=d2 (by first|(simp[hr,hD'];done)|(cases hq:D' 2<;>simp_all))
      simp only[go_sem,zd2]
      (simp only[ILt,upd,updo];simp[f2,f3,f4,f7,f8,f13,f14,f15,h1,h2,h5,h6,h7];simp_all)
     ·skip
      have zd1:=d1 (by first|(simp[hr,hD'];done)|(cases hq:D' 1<;>simp_all))
      have zd3:=d3 (by first|(simp[hr,hD'];done)|(cases hq:D' 3<;>simp_all))
      have zh3:=h3 (by first|(simp[hr,hD'];done)|(cases hq:D' 4<;>simp_all))
      have ze3:=e3 (by first|(simp[hr,hD'];done)|(cases hq:D' 3<;>simp_all))
      simp only[go_sem,zd1,zd3,zh3,ze3]
      refine⟨by simp only[Fits,fdl_ln,List.length_append,List.length_cons,List.length_nil];omega,?_⟩
      (simp only[ILt,upd,updo];simp[f2,f3,f4,f7,f8,f13,f14,f15,h1,h2,h5,h6,h7];simp_all)
     ·skip
      have zf5:=f5 (by first|(simp[hr,hD'];done)|(cases hq:D' 13<;>simp_all))
      simp only[go_sem,zf5]
      (simp only[ILt,upd,updo];simp[f2,f3,f4,f7,f8,f13,f14,f15,h1,h2,h5,h6,h7];simp_all)
     ·skip
      simp only[go_sem,f8]
      (simp only[ILt,upd,updo];simp[f2,f3,f4,f7,f8,f13,f14,f15,h1,h2,h5,h6,h7];simp_all)
     ·skip
      have zd6:=d6 (by first|(simp[hr,hD'];done)|(cases hq:D' 6<;>simp_all))
      simp only[go_sem,zd6]
      (simp only[ILt,upd,updo];simp[f2,f3,f4,f7,f8,f13,f14,f15,h1,h2,h5,h6,h7];simp_all)
     ·skip
      have zd7:=d7 (by first|(simp[hr,hD'];done)|(cases hq:D' 7<;>simp_all))
      simp only[go_sem,zd7]
      (simp only[ILt,upd,updo];simp[f2,f3,f4,f7,f8,f13,f14,f15,h1,h2,h5,h6,h7];simp_all)
     ·skip
      have zd8:=d8 (by first|(simp[hr,hD'];done)|(cases hq:D' 8<;>simp_all))
      simp only[go_sem,zd8,h6]
      (simp only[ILt,upd,updo];simp[f2,f3,f4,f7,f8,f13,f14,f15,h1,h2,h5,h6,h7];simp_all)
     ·skip
      have zd5:=d5 (by first|(simp[hr,hD'];done)|(cases hq:D' 5<;>simp_all))
      have zd9:=d9 (by first|(simp[hr,hD'];done)|(cases hq:D' 9<;>simp_all))
      have zh4:=h4 (by first|(simp[hr,hD'];done)|(cases hq:D' 10<;>simp_all))
      simp only[go_sem,zd5,zd9,zh4,h7]
      refine⟨by simp only[Fits,List.length_append,fdl_ln,List.length_cons,List.length_nil];omega,?_⟩
      (simp only[ILt,upd,updo];simp[f2,f3,f4,f7,f8,f13,f14,f15,h1,h2,h5,h6,h7];simp_all)
     ·skip
      simp only[go_sem,f2]
      (simp only[ILt,upd,updo];simp[f2,f3,f4,f7,f8,f13,f14,f15,h1,h2,h5,h6,h7];simp_all)
     ·skip
      have zd11:=d11 (by first|(simp[hr,hD'];done)|(cases hq:D' 11<;>simp_all))
      have zd4:=d4 (by first|(simp[hr,hD'];done)|(cases hq:D' 4<;>simp_all))
      have zh0:=h0 (by first|(simp[hr,hD'];done)|(cases hq:D' 12<;>simp_all))
      simp only[go_sem,zd11,zd4,zh0]
      (simp only[ILt,upd,updo];simp[f2,f3,f4,f7,f8,f13,f14,f15,h1,h2,h5,h6,h7];simp_all)
     ·skip
      have zd10:=d10 (by first|(simp[hr,hD'];done)|(cases hq:D' 10<;>simp_all))
      simp only[go_sem,zd10]
      (simp only[ILt,upd,updo];simp[f2,f3,f4,f7,f8,f13,f14,f15,h1,h2,h5,h6,h7];simp_all)
    rintro⟨fr,hp,nx⟩ D' hD' ⟨hn,f2,f3,f4,f7,f8,f13,f14,f15,f5,h0,h1,h2,h3,h4,h5,h6,h7,d0,d1,d2,d3,d4,d5,d6,d7,d8,d9,d10,d11,d13,e3,e4,e10,s12,o12_1,o13_5⟩
    simp only at hn f2 f3 f4 f7 f8 f13 f14 f15 f5 h0 h1 h2 h3 h4 h5 h6 h7 d0 d1 d2 d3 d4 d5 d6 d7 d8 d9 d10 d11 d13 e3 e4 e10 s12 o12_1 o13_5
    have zd0:=d0 (hD' 0)
    have zd1:=d1 (hD' 1)
    have zd2:=d2 (hD' 2)
    have zd3:=d3 (hD' 3)
    have zd4:=d4 (hD' 4)
    have zd5:=d5 (hD' 5)
    have zd6:=d6 (hD' 6)
    have zd7:=d7 (hD' 7)
    have zd8:=d8 (hD' 8)
    have zd9:=d9 (hD' 9)
    have zd10:=d10 (hD' 10)
    have zd11:=d11 (hD' 11)
    have zd13:=d13 (hD' 13)
    have ze3:=e3 (hD' 3)
    have ze4:=e4 (hD' 4)
    have ze10:=e10 (hD' 10)
    have zs12:=s12 (hD' 12)
    have ea:=fdl_sn A (.mk fm p0 b0 c0 a0 r0 T of0)
    rw[Fd.av] at ea
    have eb:=(fdl_app B z.out).symm
    repeat(first|refine Kq_norm_code ?_|refine Kq_norm_blk ?_)
    refine AW.ent (σ':=mkSt [(2,.ptr 0 0),(3,.ptr 1 0),(4,.ptr 2 0),(5,.rw 4),(13,.sl (fdl fs)),(14,.i fs.length),(15,.i i)] [(0,.cells [.str mn,.sl (nml us),.sl (dtl ds),.sl (trl ts),.sl (iml ms),.rw 3]),(1,.cells [.i 0]),(2,.cells [.i 0]),(3,.row 10 (fdl (A++[.mk fm p0 b0 c0 a0 r0 T of0]))),(4,.row 10 (fdl (B++z.out)))] 5) (fun i=>if i=3 then 4194312 else if i=4 then 10485768 else i) ?_ ?_
    ·refine ent_mk (by simp[go_sem,f2,f3,f4,f13,f14,f15,zd13]) ?_ (by simp) (fun id hid=>⟨by rw[if_neg (by omega),if_neg (by omega)],by omega⟩)
     simp[go_sem,zs12,ze4,ze10,h1,h2,ea,eb]
    clear zs12 ze10 ze4 ze3 zd0 zd1 zd2 zd3 zd4 zd5 zd6 zd7 zd8 zd9 zd10 zd11 zd13 f2 f3 f4 f5 f7 f8 f13 f14 f15 h0 h1 h2 h3 h4 h5 h6 h7 d0 d1 d2 d3 d4 d5 d6 d7 d8 d9 d10 d11 d13 e3 e4 e10 s12 hD' hn ea eb
    have u0:=inc_u hlt (by omega)
    clear nx
    repeat'(first|apply nx|refine zx ?_|rw[zw]|((first|refine hK _ ?_|refine hKp _ _ ?_);clear hK hKp K Kp;try clear hanc anc)|((with_reducible refine And.intro ?_ ?_);exact zb)|((first|refine zr hE fun K Kp hK hKp=>?_|refine zd true mixed hE fun K Kp hK hKp anc hanc=>?_|refine zd false mixed hE fun K Kp hK hKp anc hanc=>?_);simp only[go_sem,u0])|(refine zg (fun hg=>?_) (fun hg=>?_)<;>simp only[go_sem,u0,hg])|(refine zc (fun hc=>?_) (fun hc=>?_)<;>try exact zh hc))
    refine⟨(i+1,A++[.mk fm p0 b0 c0 a0 r0 T of0],B++z.out),⟨by simp only;omega,by simp only[List.length_append,List.length_cons,List.length_nil];omega,by simp only[List.length_append];omega,?_⟩,by simp only;omega,fun i=>i,?_⟩
    ·rw[hL]
     simp only
     cases liftL dec (List.drop (i+1) fs)<;>simp
    ·exact ent_mk (by simp[go_sem]) (by simp[go_sem]) (by simp) (fun id hid=>⟨rfl,by omega⟩)
  ·have hie:i=fs.length:=by omega
   subst hie
   rw[List.drop_length,liftL] at hL
   simp only[List.append_nil] at hL
   rw[hL] at hret
   repeat'(first|apply nx|refine zx ?_|rw[zw]|((first|refine hK _ ?_|refine hKp _ _ ?_);clear hK hKp K Kp;try clear hanc anc)|((with_reducible refine And.intro ?_ ?_);exact zb)|((fail_if_success refine K_stop 15 ?_);(first|refine zr hE fun K Kp hK hKp=>?_|refine zd true mixed hE fun K Kp hK hKp anc hanc=>?_|refine zd false mixed hE fun K Kp hK hKp anc hanc=>?_);simp only[go_sem,ge_dec])|(refine zg (fun hg=>?_) (fun hg=>?_)<;>simp only[go_sem,ge_dec,hg])|(refine zc (fun hc=>?_) (fun hc=>?_)<;>try exact zh hc))
   have eb:=(fdl_app A B).symm
   refine AW.ent (σ':=mkSt [(2,.ptr 0 0),(3,.ptr 1 0),(4,.ptr 2 0)] [(0,.cells [.str mn,.sl (nml us),.sl (dtl ds),.sl (trl ts),.sl (iml ms),.rw 3]),(1,.cells [.i 0]),(2,.cells [.i 0]),(3,.row 10 (fdl (A++B)))] 4) (fun i=>if i=3 then 4194309 else i) ?_ ?_
   ·exact ent_mk (by simp[go_sem]) (by simp[go_sem,eb]) (by simp) (fun id hid=>⟨by rw[if_neg (by omega)],by omega⟩)
   refine AW_frzCell 0 5 3 (xs:=fdl (A++B)) (by simp only[go_sem];rfl) rfl (by simp only[go_sem];rfl) (by decide) (fdl_clor _) ?_
   simp only[go_sem]
   repeat'(first|apply nx|refine zx ?_|rw[zw]|((first|refine hK _ ?_|refine hKp _ _ ?_);clear hK hKp K Kp;try clear hanc anc)|((with_reducible refine And.intro ?_ ?_);exact zb)|((first|refine zr hE fun K Kp hK hKp=>?_|refine zd true mixed hE fun K Kp hK hKp anc hanc=>?_|refine zd false mixed hE fun K Kp hK hKp anc hanc=>?_);simp only[go_sem])|(refine zg (fun hg=>?_) (fun hg=>?_)<;>simp only[go_sem,hg])|(refine zc (fun hc=>?_) (fun hc=>?_)<;>try exact zh hc))
   refine K_ret (hret _ (A,B) rfl (by simp only[go_sem]) (by simp only[go_sem]) (by simp only[go_sem]) (by simp only[go_sem]) (by simp only[go_sem]) (by simp only[go_sem]))

end Go.Proofs.YtffmphmiicnaeaaDoor

set_option maxHeartbeats 4000000
set_option maxRecDepth 100000
namespace Go.Lf
open Go Go.Am
def objR (nm:Nm) (ps:List Nm) (bs:List Bd) (om:List (Nat×AObj)) (x:Ls):Nat→Option AObj:=mkHp ([(0,.cells [.str nm,.sl (nml ps),.sl (bdl bs),.i x.cnt,.rw 2,.i x.err,.i x.pos]),(2,.row 10 (fdl x.out))]++om)
end Go.Lf
namespace Go.Proofs.YtffmphmiicnaeaaDoor
open Go.Am Go.Proofs Go.Lf
open Classical
attribute [local irreducible] AW CallP CallB
def RC (f:FuncId) (vs:List AV) (ob:Ls→Nat→Option AObj) (n np:Nat) (x:Ls) (r:AV) (y:Ls):Prop:=
 r.clo=true∧ACall Tryd.prog f vs (ob x) n np (fun r' hp'=>r'=r∧hp'=ob y) (fun _ _=>False)
theorem RC.intro {f : FuncId} {fn : Func} {c : Code} {vs : List AV} {ob : Ls → Nat → Option AObj} {n np : Nat} {x y : Ls} {r : AV} (hrc : r.clo = true) (hf : Tryd.prog.funcs[f]? = some fn) (hfn : isFn Tryd.prog f = true) (hb : fn.body = some c) (hn : vs.length ≤ fn.ntmps)
    (h:∀ (E:En) (Q:AEx→Am.St→Prop),E.nt=fn.ntmps→E.np=np→(∀ σ m nc,resA Tryd.prog fn.results.toList σ=some r→Ent np m σ ⟨fun _=>none,ob y,nc⟩→Q .ret σ∧Q .norm σ)→AW Tryd.prog E c Q ⟨mkPar 0 vs,ob x,n⟩):RC f vs ob n np x r y:=by
  refine⟨hrc,ACall.of_bodyR hf hfn hb hn fun E Q hE hN hQ hQp=>h E Q hE hN (fun σ m nc h1 h2=>?_)⟩
  exact hQ σ ⟨r,m,_,nc,by rw[clo_ren hrc];exact h1,clo_ids hrc,h2,rfl,rfl⟩
theorem objR_lt {nm:Nm} {ps:List Nm} {bs:List Bd} {om:List (Nat×AObj)} (hom:om=[]∨∃ now,om=[(1,.row 3 (vsl now))]) (x:Ls) (id:Nat) (o:AObj) (h:objR nm ps bs om x id=some o):id<3∧o.ids (· <3):=by
 refine mkHp_allP (p:=fun id o=>id<3∧o.ids (· <3)) (fun q hq=>?_) id o h
 rcases hom with rfl|⟨now,rfl⟩
 ·simp only[List.append_nil,List.mem_cons,List.not_mem_nil,or_false] at hq
  rcases hq with rfl|rfl
  ·exact⟨by show 0<3;decide,by simp[AObj.ids,AV.ids,AV.idsL,go_sem]⟩
  ·exact⟨by show 2<3;decide,by simp[AObj.ids,go_sem]⟩
 ·simp only[List.cons_append,List.nil_append,List.mem_cons,List.not_mem_nil,or_false] at hq
  rcases hq with rfl|rfl|rfl
  ·exact⟨by show 0<3;decide,by simp[AObj.ids,AV.ids,AV.idsL,go_sem]⟩
  ·exact⟨by show 2<3;decide,by simp[AObj.ids,go_sem]⟩
  ·exact⟨by show 1<3;decide,by simp[AObj.ids,go_sem]⟩
theorem RC.use1 {nm : Nm} {ps : List Nm} {bs : List Bd} {f : FuncId} {vs us : List AV} {x y : Ls} {r : AV} (hA : RC f vs (objR nm ps bs []) 3 1 x r y) (X Y B : Nat) (hXY : X ≠ Y) (hvs : AV.idsL (· < 1) vs) (hus : us = AV.renL (fun i => if i = 2 then Y else X) vs)
    {fr:Nat→Option AV} {hp0:Nat→Option AObj} {n0 k:Nat} {d:Option Nat} {K:Am.St→Prop} {Kp:AV→Am.St→Prop} (hB:n0+1048576*k+1=B)
    (h0:hp0 X=some (.cells [.str nm,.sl (nml ps),.sl (bdl bs),.i x.cnt,.rw Y,.i x.err,.i x.pos])) (h2:hp0 Y=some (.row 10 (fdl x.out)))
    (hK:∀ hpn,hpn X=some (.cells [.str nm,.sl (nml ps),.sl (bdl bs),.i y.cnt,.rw B,.i y.err,.i y.pos])→hpn B=some (.row 10 (fdl y.out))→(∀ id o,id≠X→id≠Y→hp0 id=some o→hpn id=some o)→K ⟨putf fr d r,hpn,n0⟩):
    CallB Tryd.prog f us ⟨fr,hp0,n0⟩ k d K Kp:=by
  subst hB
  obtain⟨hrc,hA⟩:=hA
  have hl:=objR_lt (nm:=nm) (ps:=ps) (bs:=bs) (om:=[]) (.inl rfl)
  refine CallB.use hA (fun i=>if i=2 then Y else X) hus (idsL_imp (fun i hi=>by omega) hvs) (fun id o ho=>?_) (fun id id' o o' ho ho' h=>?_) (fun id hid=>⟨by omega,?_⟩) ?_ ?_ ?_ ?_
  · refine⟨?_,hl x id o ho⟩
    revert id o
    exact mkHp_allP (p:=fun id o=>hp0 (if id=2 then Y else X)=some (o.ren fun i=>if i=2 then Y else X)) (by simp[h0,h2,AObj.ren,AV.renL,AV.ren,go_sem])
  · have q : ∀ id o, objR nm ps bs [] x id = some o → id = 0 ∨ id = 2 := fun id o h => by
      refine mkHp_allP (p:=fun id _=>id=0∨id=2) (fun q hq=>?_) id o h
      simp only[List.append_nil,List.mem_cons,List.not_mem_nil,or_false] at hq
      rcases hq with rfl|rfl<;>simp
    have a:=q _ _ ho
    have b:=q _ _ ho'
    rcases a with rfl|rfl<;>rcases b with rfl|rfl<;>simp at h<;>first|rfl|(exact absurd h hXY)|(exact absurd h.symm hXY)
  · obtain rfl:id=0:=by omega
    simp[objR,mkHp,updo]
  · rintro r' hp' ⟨rfl,rfl⟩
    exact⟨clo_ids hrc,fun id o ho=>⟨by have:=(hl y id o ho).1;omega,objids_mono _ (fun j hj=>by omega) (hl y id o ho).2⟩⟩
  · rintro r' hp' h
    exact h.elim
  · rintro r' hp' fr' hpn ⟨rfl,rfl⟩ hfr hobj hold
    rw[clo_ren hrc] at hfr
    have e:fr'=putf fr d r':=by subst hfr;cases d<;>rfl
    subst e
    have b0:backM (fun i=>if i=2 then Y else X) 1 (n0+1048576*k) 0=X:=by rw[backM_lt (by omega)];simp
    have b2:backM (fun i=>if i=2 then Y else X) 1 (n0+1048576*k) 2=n0+1048576*k+1:=by rw[backM_ge (by omega)]
    have g0:=hobj 0 _ rfl
    have g2:=hobj 2 _ rfl
    rw[b0] at g0
    rw[b2] at g2
    simp only[AObj.ren,AV.renL,AV.ren,b2,nml_ren,bdl_ren,fdl_ren] at g0 g2
    refine hK hpn g0 g2 fun id o i0 iY ho=>hold id o ho fun j hj e=>?_
    split at e
    · exact iY e.symm
    · exact i0 e.symm
  · rintro v hp' hpn h
    exact h.elim
theorem RC.use2 {nm : Nm} {ps : List Nm} {bs : List Bd} {now : List Vs} {f : FuncId} {vs us : List AV} {x y : Ls} {r : AV} (hA : RC f vs (objR nm ps bs [(1, .row 3 (vsl now))]) 3 2 x r y) (M Y B : Nat) (hM : 2 ≤ M) (hY : 2 ≤ Y) (hMY : M ≠ Y) (hvs : AV.idsL (· < 2) vs) (hus : us = AV.renL (fun i => if i = 2 then Y else if i = 1 then M else 0) vs)
    {fr:Nat→Option AV} {hp0:Nat→Option AObj} {n0 k:Nat} {d:Option Nat} {K:Am.St→Prop} {Kp:AV→Am.St→Prop} (hB:n0+1048576*k=B)
    (h0:hp0 0=some (.cells [.str nm,.sl (nml ps),.sl (bdl bs),.i x.cnt,.rw Y,.i x.err,.i x.pos])) (h1:hp0 M=some (.row 3 (vsl now))) (h2:hp0 Y=some (.row 10 (fdl x.out)))
    (hK:∀ hpn,hpn 0=some (.cells [.str nm,.sl (nml ps),.sl (bdl bs),.i y.cnt,.rw B,.i y.err,.i y.pos])→hpn M=some (.row 3 (vsl now))→hpn B=some (.row 10 (fdl y.out))→(∀ id o,id≠0→id≠M→id≠Y→hp0 id=some o→hpn id=some o)→K ⟨putf fr d r,hpn,n0⟩):
    CallB Tryd.prog f us ⟨fr,hp0,n0⟩ k d K Kp:=by
  subst hB
  obtain⟨hrc,hA⟩:=hA
  have hl:=objR_lt (nm:=nm) (ps:=ps) (bs:=bs) (om:=[(1,.row 3 (vsl now))]) (.inr ⟨now,rfl⟩)
  have her:=fun m=>vsl_ren m now
  refine CallB.use hA (fun i=>if i=2 then Y else if i=1 then M else 0) hus (idsL_imp (fun i hi=>by omega) hvs) (fun id o ho=>?_) (fun id id' o o' ho ho' h=>?_) (fun id hid=>⟨by omega,?_⟩) ?_ ?_ ?_ ?_
  · refine⟨?_,hl x id o ho⟩
    revert id o
    exact mkHp_allP (p:=fun id o=>hp0 (if id=2 then Y else if id=1 then M else 0)=some (o.ren fun i=>if i=2 then Y else if i=1 then M else 0)) (by simp[h0,h1,h2,AObj.ren,AV.renL,AV.ren,go_sem,her])
  · have a:=(hl x id o ho).1
    have b:=(hl x id' o' ho').1
    rcases(by omega:id=0∨id=1∨id=2) with rfl|rfl|rfl<;>rcases(by omega:id'=0∨id'=1∨id'=2) with rfl|rfl|rfl<;>simp at h<;>omega
  · rcases(by omega:id=0∨id=1) with rfl|rfl<;>simp[objR,mkHp,updo]
  · rintro r' hp' ⟨rfl,rfl⟩
    exact⟨clo_ids hrc,fun id o ho=>⟨by have:=(hl y id o ho).1;omega,objids_mono _ (fun j hj=>by omega) (hl y id o ho).2⟩⟩
  · rintro r' hp' h
    exact h.elim
  · rintro r' hp' fr' hpn ⟨rfl,rfl⟩ hfr hobj hold
    rw[clo_ren hrc] at hfr
    have e:fr'=putf fr d r':=by subst hfr;cases d<;>rfl
    subst e
    have b0:backM (fun i=>if i=2 then Y else if i=1 then M else 0) 2 (n0+1048576*k) 0=0:=by rw[backM_lt (by omega)];simp
    have b1:backM (fun i=>if i=2 then Y else if i=1 then M else 0) 2 (n0+1048576*k) 1=M:=by rw[backM_lt (by omega)];simp
    have b2:backM (fun i=>if i=2 then Y else if i=1 then M else 0) 2 (n0+1048576*k) 2=n0+1048576*k:=by rw[backM_ge (by omega)];rfl
    have g0:=hobj 0 _ rfl
    have g1:=hobj 1 _ rfl
    have g2:=hobj 2 _ rfl
    rw[b0] at g0
    rw[b1] at g1
    rw[b2] at g2
    simp only[AObj.ren,AV.renL,AV.ren,b2,nml_ren,bdl_ren,fdl_ren,her] at g0 g1 g2
    refine hK hpn g0 g1 g2 fun id o i0 iM iY ho=>hold id o ho fun j hj e=>?_
    split at e
    · exact iY e.symm
    · split at e
      · exact iM e.symm
      · exact i0 e.symm
  · rintro v hp' hpn h
    exact h.elim
end Go.Proofs.YtffmphmiicnaeaaDoor

set_option maxHeartbeats 4000000
set_option maxRecDepth 100000
namespace Go.Proofs.YtffmphmiicnaeaaDoor
open Go.Am Go.Proofs Go.Lf
open Classical
attribute [local irreducible] AW CallP CallB
variable {nm:Nm} {ps:List Nm} {bs:List Bd}
end Go.Proofs.YtffmphmiicnaeaaDoor

set_option maxHeartbeats 4000000
set_option maxRecDepth 100000
namespace Go.Proofs.YtffmphmiicnaeaaDoor
open Go.Am Go.Proofs Go.Lf
open Classical
attribute [local irreducible] AW CallP CallB
theorem dec_small {n:Nat} (h:n<10):dec n=⟨#[UInt8.ofNat (48+n)]⟩:=by
 unfold dec Lib.itoa
 rw[if_neg (by omega),Int.toNat_natCast,Lib.decDigits,dif_pos h]

variable {nm:Nm} {ps:List Nm} {bs:List Bd}
end Go.Proofs.YtffmphmiicnaeaaDoor

set_option maxHeartbeats 4000000
set_option maxRecDepth 100000
namespace Go.Proofs.YtffmphmiicnaeaaDoor
open Go.Am Go.Proofs Go.Lf
open Classical
attribute [local irreducible] AW CallP CallB
variable {nm:Nm} {ps:List Nm} {bs:List Bd} {E:En} {Q:AEx→Am.St→Prop}
end Go.Proofs.YtffmphmiicnaeaaDoor

set_option maxHeartbeats 4000000
set_option maxRecDepth 100000
namespace Go.Proofs.YtffmphmiicnaeaaDoor
open Go.Am Go.Proofs Go.Lf
open Classical
attribute [local irreducible] AW CallP CallB
variable {nm:Nm} {ps:List Nm} {bs:List Bd} {E:En} {Q:AEx→Am.St→Prop}
end Go.Proofs.YtffmphmiicnaeaaDoor

set_option maxHeartbeats 4000000
set_option maxRecDepth 100000
namespace Go.Proofs.YtffmphmiicnaeaaDoor
open Go.Am Go.Proofs Go.Lf
open Classical
attribute [local irreducible] AW CallP CallB
variable {nm:Nm} {ps:List Nm} {bs:List Bd} {E:En} {Q:AEx→Am.St→Prop}
end Go.Proofs.YtffmphmiicnaeaaDoor

set_option maxHeartbeats 4000000
set_option maxRecDepth 100000
namespace Go.Proofs.YtffmphmiicnaeaaDoor
open Go.Am Go.Proofs Go.Lf
open Classical
attribute [local irreducible] AW CallP CallB
variable {nm:Nm} {ps:List Nm} {bs:List Bd} {E:En} {Q:AEx→Am.St→Prop}
end Go.Proofs.YtffmphmiicnaeaaDoor
