/- A part of the proof: an abstract machine for the walks, and what the walked functions compute. -/
import Derived.Test.YtffmphmiicnaeaaDoorRd
import Derived.Test.YtffmphmiicnaeaaDoorRb
import Derived.Test.YtffmphmiicnaeaaDoorRc
set_option linter.unusedVariables false
set_option linter.unusedSimpArgs false
set_option maxHeartbeats 4000000
set_option maxRecDepth 100000
namespace Go.Proofs.YtffmphmiicnaeaaDoor
open Go.Am Go.Proofs Go.Lf
open Classical
attribute [local irreducible] AW CallP CallB
theorem mkFr_memL:∀ {l:List (Nat×AV)} {i:Nat} {y:AV},mkFr l i=some y→(i,y)∈l
 | [],i,y,h=>by cases h
 |p::l,i,y,h=>by
  unfold mkFr at h
  simp only[upd] at h
  split at h
  ·rename_i e;cases h;subst e;exact List.mem_cons_self ..
  ·exact List.mem_cons_of_mem _ (mkFr_memL h)
def zM:Md:=⟨⟨#[]⟩,[],[],[],[],[]⟩
def liftAV (x:Md):AV:=
 match liftL dec x.fs with
 | .ok z=> .tup [(⟨x.nm,x.us,x.ds,x.ts,x.ms,z.1++z.2⟩:Md).av,.i 0,.i 0]
 | .error e=> .tup [zM.av,.i e.1,.i e.2]
theorem lfin_none {C : List AV} {a b c d e f : AV} {σ : Am.St} {r : AV} (hC : C = [a, b, c, d, e, f]) (hc : AV.cloL C = true) (hs : (AV.tup [.agg C, .i 0, .i 0]).snapOk (fun _ => none)) (hr : (AV.tup [.agg C, .i 0, .i 0]).snap (fun _ => none) = r)
    (h2:σ.fr 2=some (.ptr 0 0)) (h3:σ.fr 3=some (.ptr 1 0)) (h4:σ.fr 4=some (.ptr 2 0)) (g0:σ.hp 0=some (.cells C)) (g1:σ.hp 1=some (.cells [.i 0])) (g2:σ.hp 2=some (.cells [.i 0])):
    ∃ σ3,Ent 0 (fun i=>i) σ σ3∧(∀ i,i<3→i<σ3.nx)∧DFinG Tryd.prog Tryd.f9 24 3 r none σ3:=by
  subst hC
  refine⟨mkSt [(2,.ptr 0 0),(3,.ptr 1 0),(4,.ptr 2 0)] [(0,.cells [a,b,c,d,e,f]),(1,.cells [.i 0]),(2,.cells [.i 0])] 3,ent_mk ?_ ?_ (by simp) (fun id h=>absurd h (Nat.not_lt_zero _)),fun i hi=>hi,3,Nat.le_refl _,fun y h=>(by cases h),?_,?_,_,rec_none _ _ _,?_⟩
  · intro p hp
    simp only[List.mem_cons,List.not_mem_nil,or_false] at hp
    rcases hp with rfl|rfl|rfl
    · exact⟨h2,show 0<3 by decide⟩
    · exact⟨h3,show 1<3 by decide⟩
    · exact⟨h4,show 2<3 by decide⟩
  · intro p hp
    simp only[List.mem_cons,List.not_mem_nil,or_false] at hp
    rcases hp with rfl|rfl|rfl
    · exact⟨by simp only[AObj.ren];rw[cloL_renL hc];exact g0,(show 0<3 by decide),cloL_idsL hc⟩
    · exact⟨g1,(show 1<3 by decide),⟨trivial,trivial⟩⟩
    · exact⟨g2,(show 2<3 by decide),⟨trivial,trivial⟩⟩
  · intro t y hy
    have:=mkFr_memL hy
    simp only[List.mem_cons,List.not_mem_nil,or_false,Prod.mk.injEq] at this
    rcases this with ⟨_,rfl⟩|⟨_,rfl⟩|⟨_,rfl⟩
    · exact⟨0,by decide,rfl⟩
    · exact⟨1,by decide,rfl⟩
    · exact⟨2,by decide,rfl⟩
  · refine mkHp_allP (p:=fun id o=>id<3∧o.ids (· <3)) (fun q hq=>?_)
    simp only[List.mem_cons,List.not_mem_nil,or_false] at hq
    rcases hq with rfl|rfl|rfl
    · exact⟨by show 0<3;decide,cloL_idsL hc⟩
    · exact⟨by show 1<3;decide,⟨trivial,trivial⟩⟩
    · exact⟨by show 2<3;decide,⟨trivial,trivial⟩⟩
  · rintro hp' ⟨k0,k1,k2⟩
    refine⟨.tup [.agg [a,b,c,d,e,f],.i 0,.i 0],?_,by simp only[AV.clo,AV.cloL,Bool.and_true];simpa [AV.cloL] using hc,hs,hr⟩
    simp[resA,rvA,Tryd.f9,go_sem,k0,k1,k2]
    rfl
theorem lfin_some {C : List AV} {A : List Lf.Fd} {σ : Am.St} {e p : Int} (hl : C.length = 6) (hc : AV.idsL (· < 4) C) (hre : AV.renL (fun i => i) C = C)
    (h2:σ.fr 2=some (.ptr 0 0)) (h3:σ.fr 3=some (.ptr 1 0)) (h4:σ.fr 4=some (.ptr 2 0)) (g0:σ.hp 0=some (.cells C)) (g1:σ.hp 1=some (.cells [.i 0])) (g2:σ.hp 2=some (.cells [.i 0])) (g3:σ.hp 3=some (.row 10 (fdl A))):
    ∃ σ3,Ent 0 (fun i=>i) σ σ3∧(∀ i,i<3→i<σ3.nx)∧DFinG Tryd.prog Tryd.f9 24 3 (.tup [zM.av,.i e,.i p]) (some (failL e p)) σ3:=by
  refine⟨mkSt [(2,.ptr 0 0),(3,.ptr 1 0),(4,.ptr 2 0)] [(0,.cells C),(1,.cells [.i 0]),(2,.cells [.i 0]),(3,.row 10 (fdl A))] 4,ent_mk ?_ ?_ (by simp) (fun id h=>absurd h (Nat.not_lt_zero _)),fun i hi=>(by show i<4;omega),4,(by decide),fun y h=>(by cases h;rfl),?_,?_,_,rec_some C _ _ e p hl A,?_⟩
  · intro p hp
    simp only[List.mem_cons,List.not_mem_nil,or_false] at hp
    rcases hp with rfl|rfl|rfl
    · exact⟨h2,show 0<4 by decide⟩
    · exact⟨h3,show 1<4 by decide⟩
    · exact⟨h4,show 2<4 by decide⟩
  · intro p hp
    simp only[List.mem_cons,List.not_mem_nil,or_false] at hp
    rcases hp with rfl|rfl|rfl|rfl
    · exact⟨by simp only[AObj.ren];rw[hre];exact g0,(show 0<4 by decide),hc⟩
    · exact⟨g1,(show 1<4 by decide),⟨trivial,trivial⟩⟩
    · exact⟨g2,(show 2<4 by decide),⟨trivial,trivial⟩⟩
    · exact⟨by simp only[AObj.ren];rw[cloL_renL (fdl_clo A)];exact g3,(show 3<4 by decide),cloL_idsL (fdl_clo A)⟩
  · intro t y hy
    have:=mkFr_memL hy
    simp only[List.mem_cons,List.not_mem_nil,or_false,Prod.mk.injEq] at this
    rcases this with ⟨_,rfl⟩|⟨_,rfl⟩|⟨_,rfl⟩
    · exact⟨0,by decide,rfl⟩
    · exact⟨1,by decide,rfl⟩
    · exact⟨2,by decide,rfl⟩
  · refine mkHp_allP (p:=fun id o=>id<4∧o.ids (· <4)) (fun q hq=>?_)
    simp only[List.mem_cons,List.not_mem_nil,or_false] at hq
    rcases hq with rfl|rfl|rfl|rfl
    · exact⟨by show 0<4;decide,hc⟩
    · exact⟨by show 1<4;decide,⟨trivial,trivial⟩⟩
    · exact⟨by show 2<4;decide,⟨trivial,trivial⟩⟩
    · exact⟨by show 3<4;decide,cloL_idsL (fdl_clo A)⟩
  · rintro hp' ⟨k0,k1,k2⟩
    refine⟨.tup [.agg zMd,.i e,.i p],?_,rfl,?_,rfl⟩
    · simp[resA,rvA,Tryd.f9,go_sem,k0,k1,k2,zMd]
      rfl
    · simp[AV.snapOk,AV.snapOkL,zMd]
theorem sumle {l:List Lf.Fd} {i:Nat} {f:Lf.Fd} (h:l[i]? =some f):f.sz+fdSz (l.drop (i+1))=fdSz (l.drop i):=by
 rw[drop_of h,fdSz]
theorem fdl_sn (A:List Lf.Fd) (f:Lf.Fd):fdl A++[f.av]=fdl (A++[f]):=by rw[fdl_app];rfl
theorem liftL_mk (fm : Nm) (p0 : List Nm) (b0 : List Bd) (c0 a0 : List Ad) (r0 : Tx) (bd : List Lf.St) (of0 : Int) (l : List Lf.Fd) : liftL dec (.mk fm p0 b0 c0 a0 r0 bd of0 :: l) = if 0 < c0.length then .error (1, of0) else if (blk dec fm p0 b0 [] bd ⟨0, [], 0, 0⟩).2.err ≠ 0 then .error ((blk dec fm p0 b0 [] bd ⟨0, [], 0, 0⟩).2.err, (blk dec fm p0 b0 [] bd ⟨0, [], 0, 0⟩).2.pos) else match liftL dec l with
    | .error e=> .error e
    | .ok z=> .ok (.mk fm p0 b0 c0 a0 r0 (blk dec fm p0 b0 [] bd ⟨0,[],0,0⟩).1 of0::z.1,(blk dec fm p0 b0 [] bd ⟨0,[],0,0⟩).2.out++z.2):=rfl
def ILt (M0:List AV) (A B R:List Lf.Fd) (F0 I0:List AV) (L0:List AV) (n0 i0:Int) (D:Nat→Bool) (σ:Go.Am.St):Prop:=
 σ.nx=8∧σ.fr 2=some (.ptr 0 0)∧σ.fr 3=some (.ptr 1 0)∧σ.fr 4=some (.ptr 2 0)∧σ.fr 7=some (.ptr 5 0)∧σ.fr 8=some (.ptr 6 0)∧σ.fr 13=some (.sl L0)∧σ.fr 14=some (.i n0)∧σ.fr 15=some (.i i0)∧(D 13=false→σ.fr 5=some (.rw 4))∧(D 12=false→σ.hp 0=some (.cells (M0++[.rw 3])))∧σ.hp 1=some (.cells [.i 0])∧σ.hp 2=some (.cells [.i 0])∧(D 4=false→σ.hp 3=some (.row 10 (fdl A)))∧(D 10=false→σ.hp 4=some (.row 10 (fdl B)))∧σ.hp 5=some (.cells F0)∧σ.hp 6=some (.cells I0)∧σ.hp 7=some (.row 10 (fdl R))∧(D 0=true→σ.fr 40=some (.ptr 0 5))∧(D 1=true→σ.fr 41=some (.rw 3))∧(D 2=true→σ.fr 42=some (.agg F0))∧(D 3=true→σ.fr 43=some (.rw 3145736))∧(D 4=true→σ.fr 44=some (.rw 4194312))∧(D 5=true→σ.fr 45=some (.rw 4))∧(D 6=true→σ.fr 46=some (.ptr 6 0))∧(D 7=true→σ.fr 47=some (.ptr 6 0))∧(D 8=true→σ.fr 48=some (.ptr 6 4))∧(D 9=true→σ.fr 49=some (.rw 7))∧(D 10=true→σ.fr 50=some (.rw 10485768))∧(D 11=true→σ.fr 51=some (.ptr 0 5))∧(D 13=true→σ.fr 5=some (.rw 10485768))∧(D 3=true→σ.hp 3145736=some (.row 10 [.agg F0]))∧(D 4=true→σ.hp 4194312=some (.row 10 (fdl A++[.agg F0])))∧(D 10=true→σ.hp 10485768=some (.row 10 (fdl B++fdl R)))∧(D 12=true→σ.hp 0=some (.cells (M0++[.rw 4194312])))∧(D 12=true→D 1=true)∧(D 13=true→D 5=true)
theorem lift_call (x:Md) (hz:fdSz x.fs≤1000) (hw:∀ f,f∈x.fs→f.wt≤2 ^ 40):PCall Tryd.prog 9 [x.av] (liftAV x):=by
 obtain⟨mn,us,ds,ts,ms,fs⟩:=x
 simp only at hz hw
 have hln:=fd_len_le fs
 unfold liftAV Md.av Md.cs
 simp only
 refine PCall.of_deferG (k:=3) Tryd.func9 isf9 rfl (by simp[Tryd.f9]) (by simp[Tryd.f9]) (by rfl) (mkSt [(1,.ptr 3 0),(2,.ptr 0 0),(3,.ptr 1 0),(4,.ptr 2 0)] [(0,.cells [.str ⟨#[]⟩,.nilsl,.nilsl,.nilsl,.nilsl,.nilsl]),(1,.cells [.i 0]),(2,.cells [.i 0]),(3,.cells [.str mn,.sl (nml us),.sl (dtl ds),.sl (trl ts),.sl (iml ms),.sl (fdl fs)])] 4) ?_ rfl ?_ ?_
 ·intro i hi
  have:i=0∨i=1∨i=2:=by omega
  rcases this with rfl|rfl|rfl<;>exact⟨_,rfl⟩
 ·intro E Q hE hN hQ
  refine K_start ?_
  repeat'(first|apply nx|refine zx ?_|rw[zw]|((first|refine hK _ ?_|refine hKp _ _ ?_);clear hK hKp K Kp;try clear hanc anc)|((with_reducible refine And.intro ?_ ?_);exact zb)|((first|refine zr hE fun K Kp hK hKp=>?_|refine zd true mixed hE fun K Kp hK hKp anc hanc=>?_|refine zd false mixed hE fun K Kp hK hKp anc hanc=>?_);simp only[go_sem])|(refine zg (fun hg=>?_) (fun hg=>?_)<;>simp only[go_sem,hg])|(refine zc (fun hc=>?_) (fun hc=>?_)<;>try exact zh hc))
  refine Kq_norm_nil ?_
  refine hQ _ (fun i=>if i=0 then 1048576 else if i=1 then 2097152 else if i=2 then 3145728 else 0) ?_
  refine ent_mk (by simp[go_sem]) (by simp[go_sem]) (by simp) (by simp[hN])
 ·intro E Q hE hN hQ hQp
  have ep:ptrs 3=[.ptr 0 0,.ptr 1 0,.ptr 2 0]:=rfl
  refine AW.repin 3 (fun i=>i) (fun i=>i) (σ':=mkSt [(1,.ptr 3 0),(2,.ptr 0 0),(3,.ptr 1 0),(4,.ptr 2 0)] [(0,.cells [.str ⟨#[]⟩,.nilsl,.nilsl,.nilsl,.nilsl,.nilsl]),(1,.cells [.i 0]),(2,.cells [.i 0]),(3,.cells [.str mn,.sl (nml us),.sl (dtl ds),.sl (trl ts),.sl (iml ms),.sl (fdl fs)])] 4) (ent_mk (by simp[go_sem]) (by simp[go_sem]) (by simp) (fun id h=>absurd h (Nat.not_lt_zero _))) (fun j hj=>?_) (fun i hi=>⟨by omega,rfl⟩) ?_
  ·have:j=0∨j=1∨j=2:=by omega
   rcases this with rfl|rfl|rfl<;>exact⟨_,rfl⟩
  intro E2 hE2 hN2
  rw[hE] at hE2
  rw[hN]
  generalize hQ2:repQ 3 _ Q=Q2
  have hret:∀ (σ:Am.St) (z:List Lf.Fd×List Lf.Fd),liftL dec fs= .ok z→σ.fr 2=some (.ptr 0 0)→σ.fr 3=some (.ptr 1 0)→σ.fr 4=some (.ptr 2 0)→σ.hp 0=some (.cells [.str mn,.sl (nml us),.sl (dtl ds),.sl (trl ts),.sl (iml ms),.sl (fdl (z.1++z.2))])→σ.hp 1=some (.cells [.i 0])→σ.hp 2=some (.cells [.i 0])→Q2 .ret σ:=by
   intro σ z k5 k6 k7 k8 k9 ka kb
   rw[k5] at hQ
   obtain⟨σ3,f1,f2,f3⟩:=lfin_none (r:= .tup [.agg [.str mn,.sl (nml us),.sl (dtl ds),.sl (trl ts),.sl (iml ms),.sl (fdl (z.1++z.2))],.i 0,.i 0]) rfl (by rfl) (by simp[AV.snapOk,AV.snapOkL]) rfl k6 k7 k8 k9 ka kb
   rw[← hQ2]
   exact⟨σ3,.ret,f1,f2,trivial,(hQ _ f3).1⟩
  have hpan:∀ (σ:Am.St) (A:List Lf.Fd) (e p:Int),liftL dec fs= .error (e,p)→σ.fr 2=some (.ptr 0 0)→σ.fr 3=some (.ptr 1 0)→σ.fr 4=some (.ptr 2 0)→σ.hp 0=some (.cells [.str mn,.sl (nml us),.sl (dtl ds),.sl (trl ts),.sl (iml ms),.rw 3])→σ.hp 1=some (.cells [.i 0])→σ.hp 2=some (.cells [.i 0])→σ.hp 3=some (.row 10 (fdl A))→Q2 (.pan (failL e p)) σ:=by
   intro σ A e p k5 k6 k7 k8 k9 ka kb kc
   rw[k5] at hQp
   obtain⟨σ3,f1,f2,f3⟩:=lfin_some (e:=e) (p:=p) (A:=A) (C:=[.str mn,.sl (nml us),.sl (dtl ds),.sl (trl ts),.sl (iml ms),.rw 3]) rfl (by simp[AV.idsL,AV.ids,go_sem]) (by simp[AV.renL,AV.ren,go_sem]) k6 k7 k8 k9 ka kb kc
   rw[← hQ2]
   exact⟨σ3,.pan (failL e p),f1,f2,⟨rfl,by simp[failL,AV.ids,AV.idsL]⟩,hQp _ _ f3⟩
  clear hQ2 hQ hQp hE hN
  have hE:=hE2
  have hN:=hN2
  clear hE2 hN2
  generalize E2=E at*
  generalize Q2=Q at*
  refine K_start ?_
  repeat'(first|apply nx|refine zx ?_|rw[zw]|((first|refine hK _ ?_|refine hKp _ _ ?_);clear hK hKp K Kp;try clear hanc anc)|((with_reducible refine And.intro ?_ ?_);exact zb)|((fail_if_success refine K_stop 6 ?_);(first|refine zr hE fun K Kp hK hKp=>?_|refine zd true mixed hE fun K Kp hK hKp anc hanc=>?_|refine zd false mixed hE fun K Kp hK hKp anc hanc=>?_);simp only[go_sem])|(refine zg (fun hg=>?_) (fun hg=>?_)<;>simp only[go_sem,hg])|(refine zc (fun hc=>?_) (fun hc=>?_)<;>try exact zh hc))
  refine AW.ent (σ':=mkSt [(2,.ptr 0 0),(3,.ptr 1 0),(4,.ptr 2 0),(5,.nilsl),(13,.sl (fdl fs)),(14,.i fs.length),(15,.i (0:Nat))] [(0,.cells [.str mn,.sl (nml us),.sl (dtl ds),.sl (trl ts),.sl (iml ms),.nilsl]),(1,.cells [.i 0]),(2,.cells [.i 0])] 3) (fun i=>i) ?_ ?_
  ·exact ent_mk (by simp[go_sem]) (by simp[go_sem]) (by simp) (fun id hid=>⟨rfl,by omega⟩)
  refine AW_nilc 0 5 10 (by simp[go_sem];rfl) rfl ?_
  refine AW_nil 5 10 (by rw[hE];decide) (by simp[go_sem]) ?_
  simp only[go_sem]
  refine K_loop (X:=Nat×List Lf.Fd×List Lf.Fd) (fun x=>x.1≤fs.length∧x.2.1.length=x.1∧x.2.2.length+fdSz (fs.drop x.1)≤1000∧liftL dec fs=match liftL dec (fs.drop x.1) with| .ok z=> .ok (x.2.1++z.1,x.2.2++z.2)| .error e=> .error e) (fun x=>mkSt [(2,.ptr 0 0),(3,.ptr 1 0),(4,.ptr 2 0),(5,.rw 4),(13,.sl (fdl fs)),(14,.i fs.length),(15,.i (x.1:Nat))] [(0,.cells [.str mn,.sl (nml us),.sl (dtl ds),.sl (trl ts),.sl (iml ms),.rw 3]),(1,.cells [.i 0]),(2,.cells [.i 0]),(3,.row 10 (fdl x.2.1)),(4,.row 10 (fdl x.2.2))] 5) (fun x=>fs.length - x.1) (0,[],[]) ⟨Nat.zero_le _,rfl,by simpa using hz,by simp only[List.drop_zero,List.nil_append];cases liftL dec fs<;>rfl⟩ (fun i=>i) ?_ ?_
  ·refine ent_mk (by simp[go_sem]) (by simp[go_sem]) (by simp) (fun id hid=>⟨rfl,by omega⟩)
  rintro⟨i,A,B⟩ ⟨hi,hA,hB,hL⟩
  simp only at hi hA hB hL
  by_cases hlt:i<fs.length
  ·obtain⟨f,hf⟩:=get?_of hlt
   have hsz:=sumle hf
   have hwf:=hw f (List.mem_of_getElem? hf)
   rw[drop_of hf] at hL
   obtain⟨fm,p0,b0,c0,a0,r0,bd,of0⟩:=f
   rw[Fd.sz] at hsz
   rw[Fd.wt] at hwf
   have hlc:=st_len_le bd
   rw[liftL_mk] at hL
   by_cases hcap:0<c0.length
   ·rw[if_pos hcap] at hL
    simp only at hL
    rw[hL] at hpan
    have hcap':decide ((c0.length:Int)>0)=true:=decide_eq_true (by omega)
    repeat'(first|apply nx|refine zx ?_|rw[zw]|((first|refine hK _ ?_|refine hKp _ _ ?_);clear hK hKp K Kp;try clear hanc anc)|((with_reducible refine And.intro ?_ ?_);exact zb)|((first|refine zr hE fun K Kp hK hKp=>?_|refine zd true mixed hE fun K Kp hK hKp anc hanc=>?_|refine zd false mixed hE fun K Kp hK hKp anc hanc=>?_);simp only[go_sem,lt_dec hlt,hf,Fd.av,hcap'])|(refine zg (fun hg=>?_) (fun hg=>?_)<;>simp only[go_sem,lt_dec hlt,hf,Fd.av,hcap',hg])|(refine zc (fun hc=>?_) (fun hc=>?_)<;>try exact zh hc))
    exact hpan _ A 1 of0 rfl (by simp only[go_sem]) (by simp only[go_sem]) (by simp only[go_sem]) (by simp only[go_sem]) (by simp only[go_sem]) (by simp only[go_sem]) (by simp only[go_sem])
   ·rw[if_neg hcap] at hL
    have hcap':decide ((c0.length:Int)>0)=false:=decide_eq_false (by omega)
    have hA':=lift_c 1001 (Nat.le_refl _) fm p0 b0 bd (by omega) (by omega) (by omega) (by omega) [] [] .nilmap ⟨0,[],0,0⟩ (.inl ⟨rfl,rfl,rfl⟩) (fun v hv=>by cases hv) ⟨rfl,rfl,by simp only;omega,by simp only[List.length_nil];omega⟩
    have hg1:=(blk_grow (dec:=dec) fm p0 b0 bd [] ⟨0,[],0,0⟩).2
    generalize blk dec fm p0 b0 [] bd ⟨0,[],0,0⟩=yy at hA' hg1 hL
    obtain⟨T,z⟩:=yy
    simp only[List.length_nil] at hA' hg1 hL
    repeat'(first|apply nx|refine zx ?_|rw[zw]|((first|refine hK _ ?_|refine hKp _ _ ?_);clear hK hKp K Kp;try clear hanc anc)|((with_reducible refine And.intro ?_ ?_);exact zb)|((fail_if_success refine K_stop 11 ?_);(first|refine zr hE fun K Kp hK hKp=>?_|refine zd true mixed hE fun K Kp hK hKp anc hanc=>?_|refine zd false mixed hE fun K Kp hK hKp anc hanc=>?_);simp only[go_sem,lt_dec hlt,hf,Fd.av,hcap'])|(refine zg (fun hg=>?_) (fun hg=>?_)<;>simp only[go_sem,lt_dec hlt,hf,Fd.av,hcap',hg])|(refine zc (fun hc=>?_) (fun hc=>?_)<;>try exact zh hc))
    refine AW.ent (σ':=mkSt [(2,.ptr 0 0),(3,.ptr 1 0),(4,.ptr 2 0),(5,.rw 4),(7,.ptr 5 0),(8,.ptr 6 0),(13,.sl (fdl fs)),(14,.i fs.length),(15,.i i)] [(0,.cells [.str mn,.sl (nml us),.sl (dtl ds),.sl (trl ts),.sl (iml ms),.rw 3]),(1,.cells [.i 0]),(2,.cells [.i 0]),(3,.row 10 (fdl A)),(4,.row 10 (fdl B)),(5,.cells [.str fm,.sl (nml p0),.sl (bdl b0),.sl (adl c0),.sl (adl a0),.str r0.n,.sl (Tx.avL r0.a),.i r0.o,.sl (stl bd),.i of0]),(6,.cells [.str fm,.sl (nml p0),.sl (bdl b0),.i 0,.nilsl])] 7) (fun i=>if i=5 then 3145733 else if i=6 then 16777221 else i) ?_ ?_
    ·exact ent_mk (by simp[go_sem]) (by simp[go_sem]) (by simp) (fun id hid=>⟨by rw[if_neg (by omega),if_neg (by omega)],by omega⟩)
    refine AW_nilc 6 4 10 (by simp[go_sem];rfl) rfl ?_
    repeat'(first|apply nx|refine zx ?_|rw[zw]|((first|refine hK _ ?_|refine hKp _ _ ?_);clear hK hKp K Kp;try clear hanc anc)|((with_reducible refine And.intro ?_ ?_);exact zb)|((first|refine zr hE fun K Kp hK hKp=>?_|refine zd true mixed hE fun K Kp hK hKp anc hanc=>?_|refine zd false mixed hE fun K Kp hK hKp anc hanc=>?_);simp only[go_sem])|(refine zg (fun hg=>?_) (fun hg=>?_)<;>simp only[go_sem,hg])|(refine zc (fun hc=>?_) (fun hc=>?_)<;>try exact zh hc))
    refine Hold.mk (LC.use1 hA' 6 7 3145737 (by decide) (by simp[AV.idsL,AV.ids,go_sem]) (by simp[AV.renL,AV.ren,go_sem]) (by rfl) (by simp only[go_sem,updo];rfl) (by simp only[go_sem,updo]) (fun he hpn g6 g7 hold=>?_) (fun he hpn hold=>?_))
    rotate_left
    ·rw[if_pos he] at hL
     simp only at hL
     have g0:=hold 0 (.cells [.str mn,.sl (nml us),.sl (dtl ds),.sl (trl ts),.sl (iml ms),.rw 3]) (by decide) (by decide) (by simp only[go_sem,updo])
     have g1:=hold 1 (.cells [.i 0]) (by decide) (by decide) (by simp only[go_sem,updo])
     have g2:=hold 2 (.cells [.i 0]) (by decide) (by decide) (by simp only[go_sem,updo])
     have g3:=hold 3 (.row 10 (fdl A)) (by decide) (by decide) (by simp only[go_sem,updo])
     exact hKp _ _ (hpan _ A _ _ hL (by simp only[go_sem]) (by simp only[go_sem]) (by simp only[go_sem]) g0 g1 g2 g3)
    rw[if_neg (by simpa using he)] at hL
    have g0:=hold 0 (.cells [.str mn,.sl (nml us),.sl (dtl ds),.sl (trl ts),.sl (iml ms),.rw 3]) (by decide) (by decide) (by simp only[go_sem,updo])
    have g1:=hold 1 (.cells [.i 0]) (by decide) (by decide) (by simp only[go_sem,updo])
    have g2:=hold 2 (.cells [.i 0]) (by decide) (by decide) (by simp only[go_sem,updo])
    have g3:=hold 3 (.row 10 (fdl A)) (by decide) (by decide) (by simp only[go_sem,updo])
    have g4:=hold 4 (.row 10 (fdl B)) (by decide) (by decide) (by simp only[go_sem,updo])
    have g5:=hold 5 (.cells [.str fm,.sl (nml p0),.sl (bdl b0),.sl (adl c0),.sl (adl a0),.str r0.n,.sl (Tx.avL r0.a),.i r0.o,.sl (stl bd),.i of0]) (by decide) (by decide) (by simp only[go_sem,updo])
    clear hold
    simp only[go_sem,putf,g5]
    repeat'(first|apply nx|refine zx ?_|rw[zw]|((first|refine hK _ ?_|refine hKp _ _ ?_);clear hK hKp K Kp;try clear hanc anc)|((with_reducible refine And.intro ?_ ?_);exact zb)|((first|refine zr hE fun K Kp hK hKp=>?_|refine zd true mixed hE fun K Kp hK hKp anc hanc=>?_|refine zd false mixed hE fun K Kp hK hKp anc hanc=>?_);simp only[go_sem,g0,g1,g2,g3,g4,g5,g6,g7])|(refine zg (fun hg=>?_) (fun hg=>?_)<;>simp only[go_sem,g0,g1,g2,g3,g4,g5,g6,g7,hg])|(refine zc (fun hc=>?_) (fun hc=>?_)<;>try exact zh hc))
    refine AW.ent (σ':=mkSt [(2,.ptr 0 0),(3,.ptr 1 0),(4,.ptr 2 0),(5,.rw 4),(7,.ptr 5 0),(8,.ptr 6 0),(13,.sl (fdl fs)),(14,.i fs.length),(15,.i i)] [(0,.cells [.str mn,.sl (nml us),.sl (dtl ds),.sl (trl ts),.sl (iml ms),.rw 3]),(1,.cells [.i 0]),(2,.cells [.i 0]),(3,.row 10 (fdl A)),(4,.row 10 (fdl B)),(5,.cells [.str fm,.sl (nml p0),.sl (bdl b0),.sl (adl c0),.sl (adl a0),.str r0.n,.sl (Tx.avL r0.a),.i r0.o,.sl (stl T),.i of0]),(6,.cells [.str fm,.sl (nml p0),.sl (bdl b0),.i z.cnt,.rw 7]),(7,.row 10 (fdl z.out))] 8) (fun i=>if i=7 then 3145737 else i) ?_ ?_
    ·exact ent_mk (by simp[go_sem]) (by simp[go_sem,g0,g1,g2,g3,g4,g5,g6,g7]) (by simp) (fun id hid=>⟨by rw[if_neg (by omega)],by omega⟩)
    clear g0 g1 g2 g3 g4 g5 g6 g7
    repeat(first|apply w1|apply w2)
    refine K_inv (n:=14) (ILt [.str mn,.sl (nml us),.sl (dtl ds),.sl (trl ts),.sl (iml ms)] A B z.out [.str fm,.sl (nml p0),.sl (bdl b0),.sl (adl c0),.sl (adl a0),.str r0.n,.sl (Tx.avL r0.a),.i r0.o,.sl (stl T),.i of0] [.str fm,.sl (nml p0),.sl (bdl b0),.i z.cnt,.rw 7] (fdl fs) fs.length i) mixed hE ?_ ?_ (fun Kp hKp=>?_) ?_ rfl
    ·intro D D' σ h
     have:=fun j=>(h j).symm
     unfold ILt
     simp only[this]
     exact fun h=>h
    ·simp[ILt,go_sem]
    ·refine⟨?_,?_,?_,?_,?_,?_,?_,?_,?_,?_,?_,?_,?_,?_,trivial⟩
     all_goals rintro D' ⟨fr,hp,nx⟩ hD' hr ⟨hn,f2,f3,f4,f7,f8,f13,f14,f15,f5,h0,h1,h2,h3,h4,h5,h6,h7,d0,d1,d2,d3,d4,d5,d6,d7,d8,d9,d10,d11,d13,e3,e4,e10,s12,o12_1,o13_5⟩
     all_goals simp[Region.binds] at hn f2 f3 f4 f7 f8 f13 f14 f15 f5 h0 h1 h2 h3 h4 h5 h6 h7 d0 d1 d2 d3 d4 d5 d6 d7 d8 d9 d10 d11 d13 e3 e4 e10 s12 o12_1 o13_5 hD' hr
     all_goals subst hn
     all_goals try clear hQ
     ·skip
      simp only[go_sem,f2]
      (simp only[ILt,upd,updo];simp[f2,f3,f4,f7,f8,f13,f14,f15,h1,h2,h5,h6,h7];simp_all)
     ·skip
      have zd0:=d0 (by first|(simp[hr,hD'];done)|(cases hq:D' 0<;>simp_all))
      have zh0:=h0 (by first|(simp[hr,hD'];done)|(cases hq:D' 12<;>simp_all))
      simp only[go_sem,zd0,zh0]
      (simp only[ILt,upd,updo];simp[f2,f3,f4,f7,f8,f13,f14,f15,h1,h2,h5,h6,h7];simp_all)
     ·skip
      simp only[go_sem,f7,h5]
      (simp only[ILt,upd,updo];simp[f2,f3,f4,f7,f8,f13,f14,f15,h1,h2,h5,h6,h7];simp_all)
     ·skip
      have zd2:=d2 (by first|(simp[hr,hD'];done)|(cases hq:D' 2<;>simp_all))
      simp only[go_sem,zd2]
      (simp only[ILt,upd,updo];simp[f2,f3,f4,f7,f8,f13,f14,f15,h1,h2,h5,h6,h7];simp_all)
     ·skip
      have zd1:=d1 (by first|(simp[hr,hD'];done)|(cases hq:D' 1<;>simp_all))
      have zd3:=d3 (by first|(simp[hr,hD'];done)|(cases hq:D' 3<;>simp_all))
      have zh3:=h3 (by first|(simp[hr,hD'];done)|(cases hq:D' 4<;>simp_all))
      have ze3:=e3 (by first|(simp[hr,hD'];done)|(cases hq:D' 3<;>simp_all))
      simp only[go_sem,zd1,zd3,zh3,ze3]
      refine⟨by simp only[Fits,fdl_ln,List.length_append,List.length_cons,List.length_nil];omega,?_⟩
      (simp only[ILt,upd,updo];simp[f2,f3,f4,f7,f8,f13,f14,f15,h1,h2,h5,h6,h7];simp_all)
     ·skip
      have zf5:=f5 (by first|(simp[hr,hD'];done)|(cases hq:D' 13<;>simp_all))
      simp only[go_sem,zf5]
      (simp only[ILt,upd,updo];simp[f2,f3,f4,f7,f8,f13,f14,f15,h1,h2,h5,h6,h7];simp_all)
     ·skip
      simp only[go_sem,f8]
      (simp only[ILt,upd,updo];simp[f2,f3,f4,f7,f8,f13,f14,f15,h1,h2,h5,h6,h7];simp_all)
     ·skip
      have zd6:=d6 (by first|(simp[hr,hD'];done)|(cases hq:D' 6<;>simp_all))
      simp only[go_sem,zd6]
      (simp only[ILt,upd,updo];simp[f2,f3,f4,f7,f8,f13,f14,f15,h1,h2,h5,h6,h7];simp_all)
     ·skip
      have zd7:=d7 (by first|(simp[hr,hD'];done)|(cases hq:D' 7<;>simp_all))
      simp only[go_sem,zd7]
      (simp only[ILt,upd,updo];simp[f2,f3,f4,f7,f8,f13,f14,f15,h1,h2,h5,h6,h7];simp_all)
     ·skip
      have zd8:=d8 (by first|(simp[hr,hD'];done)|(cases hq:D' 8<;>simp_all))
      simp only[go_sem,zd8,h6]
      (simp only[ILt,upd,updo];simp[f2,f3,f4,f7,f8,f13,f14,f15,h1,h2,h5,h6,h7];simp_all)
     ·skip
      have zd5:=d5 (by first|(simp[hr,hD'];done)|(cases hq:D' 5<;>simp_all))
      have zd9:=d9 (by first|(simp[hr,hD'];done)|(cases hq:D' 9<;>simp_all))
      have zh4:=h4 (by first|(simp[hr,hD'];done)|(cases hq:D' 10<;>simp_all))
      simp only[go_sem,zd5,zd9,zh4,h7]
      refine⟨by simp only[Fits,List.length_append,fdl_ln,List.length_cons,List.length_nil];omega,?_⟩
      (simp only[ILt,upd,updo];simp[f2,f3,f4,f7,f8,f13,f14,f15,h1,h2,h5,h6,h7];simp_all)
     ·skip
      simp only[go_sem,f2]
      (simp only[ILt,upd,updo];simp[f2,f3,f4,f7,f8,f13,f14,f15,h1,h2,h5,h6,h7];simp_all)
     ·skip
      have zd11:=d11 (by first|(simp[hr,hD'];done)|(cases hq:D' 11<;>simp_all))
      have zd4:=d4 (by first|(simp[hr,hD'];done)|(cases hq:D' 4<;>simp_all))
      have zh0:=h0 (by first|(simp[hr,hD'];done)|(cases hq:D' 12<;>simp_all))
      simp only[go_sem,zd11,zd4,zh0]
      (simp only[ILt,upd,updo];simp[f2,f3,f4,f7,f8,f13,f14,f15,h1,h2,h5,h6,h7];simp_all)
     ·skip
      have zd10:=d10 (by first|(simp[hr,hD'];done)|(cases hq:D' 10<;>simp_all))
      simp only[go_sem,zd10]
      (simp only[ILt,upd,updo];simp[f2,f3,f4,f7,f8,f13,f14,f15,h1,h2,h5,h6,h7];simp_all)
    rintro⟨fr,hp,nx⟩ D' hD' ⟨hn,f2,f3,f4,f7,f8,f13,f14,f15,f5,h0,h1,h2,h3,h4,h5,h6,h7,d0,d1,d2,d3,d4,d5,d6,d7,d8,d9,d10,d11,d13,e3,e4,e10,s12,o12_1,o13_5⟩
    simp only at hn f2 f3 f4 f7 f8 f13 f14 f15 f5 h0 h1 h2 h3 h4 h5 h6 h7 d0 d1 d2 d3 d4 d5 d6 d7 d8 d9 d10 d11 d13 e3 e4 e10 s12 o12_1 o13_5
    have zd0:=d0 (hD' 0)
    have zd1:=d1 (hD' 1)
    have zd2:=d2 (hD' 2)
    have zd3:=d3 (hD' 3)
    have zd4:=d4 (hD' 4)
    have zd5:=d5 (hD' 5)
    have zd6:=d6 (hD' 6)
    have zd7:=d7 (hD' 7)
    have zd8:=d8 (hD' 8)
    have zd9:=d9 (hD' 9)
    have zd10:=d10 (hD' 10)
    have zd11:=d11 (hD' 11)
    have zd13:=d13 (hD' 13)
    have ze3:=e3 (hD' 3)
    have ze4:=e4 (hD' 4)
    have ze10:=e10 (hD' 10)
    have zs12:=s12 (hD' 12)
    have ea:=fdl_sn A (.mk fm p0 b0 c0 a0 r0 T of0)
    rw[Fd.av] at ea
    have eb:=(fdl_app B z.out).symm
    repeat(first|refine Kq_norm_code ?_|refine Kq_norm_blk ?_)
    refine AW.ent (σ':=mkSt [(2,.ptr 0 0),(3,.ptr 1 0),(4,.ptr 2 0),(5,.rw 4),(13,.sl (fdl fs)),(14,.i fs.length),(15,.i i)] [(0,.cells [.str mn,.sl (nml us),.sl (dtl ds),.sl (trl ts),.sl (iml ms),.rw 3]),(1,.cells [.i 0]),(2,.cells [.i 0]),(3,.row 10 (fdl (A++[.mk fm p0 b0 c0 a0 r0 T of0]))),(4,.row 10 (fdl (B++z.out)))] 5) (fun i=>if i=3 then 4194312 else if i=4 then 10485768 else i) ?_ ?_
    ·refine ent_mk (by simp[go_sem,f2,f3,f4,f13,f14,f15,zd13]) ?_ (by simp) (fun id hid=>⟨by rw[if_neg (by omega),if_neg (by omega)],by omega⟩)
     simp[go_sem,zs12,ze4,ze10,h1,h2,ea,eb]
    clear zs12 ze10 ze4 ze3 zd0 zd1 zd2 zd3 zd4 zd5 zd6 zd7 zd8 zd9 zd10 zd11 zd13 f2 f3 f4 f5 f7 f8 f13 f14 f15 h0 h1 h2 h3 h4 h5 h6 h7 d0 d1 d2 d3 d4 d5 d6 d7 d8 d9 d10 d11 d13 e3 e4 e10 s12 hD' hn ea eb
    have u0:=inc_u hlt (by omega)
    clear nx
    repeat'(first|apply nx|refine zx ?_|rw[zw]|((first|refine hK _ ?_|refine hKp _ _ ?_);clear hK hKp K Kp;try clear hanc anc)|((with_reducible refine And.intro ?_ ?_);exact zb)|((first|refine zr hE fun K Kp hK hKp=>?_|refine zd true mixed hE fun K Kp hK hKp anc hanc=>?_|refine zd false mixed hE fun K Kp hK hKp anc hanc=>?_);simp only[go_sem,u0])|(refine zg (fun hg=>?_) (fun hg=>?_)<;>simp only[go_sem,u0,hg])|(refine zc (fun hc=>?_) (fun hc=>?_)<;>try exact zh hc))
    refine⟨(i+1,A++[.mk fm p0 b0 c0 a0 r0 T of0],B++z.out),⟨by simp only;omega,by simp only[List.length_append,List.length_cons,List.length_nil];omega,by simp only[List.length_append];omega,?_⟩,by simp only;omega,fun i=>i,?_⟩
    ·rw[hL]
     simp only
     cases liftL dec (List.drop (i+1) fs)<;>simp
    ·exact ent_mk (by simp[go_sem]) (by simp[go_sem]) (by simp) (fun id hid=>⟨rfl,by omega⟩)
  ·have hie:i=fs.length:=by omega
   subst hie
   rw[List.drop_length,liftL] at hL
   simp only[List.append_nil] at hL
   rw[hL] at hret
   repeat'(first|apply nx|refine zx ?_|rw[zw]|((first|refine hK _ ?_|refine hKp _ _ ?_);clear hK hKp K Kp;try clear hanc anc)|((with_reducible refine And.intro ?_ ?_);exact zb)|((fail_if_success refine K_stop 15 ?_);(first|refine zr hE fun K Kp hK hKp=>?_|refine zd true mixed hE fun K Kp hK hKp anc hanc=>?_|refine zd false mixed hE fun K Kp hK hKp anc hanc=>?_);simp only[go_sem,ge_dec])|(refine zg (fun hg=>?_) (fun hg=>?_)<;>simp only[go_sem,ge_dec,hg])|(refine zc (fun hc=>?_) (fun hc=>?_)<;>try exact zh hc))
   have eb:=(fdl_app A B).symm
   refine AW.ent (σ':=mkSt [(2,.ptr 0 0),(3,.ptr 1 0),(4,.ptr 2 0)] [(0,.cells [.str mn,.sl (nml us),.sl (dtl ds),.sl (trl ts),.sl (iml ms),.rw 3]),(1,.cells [.i 0]),(2,.cells [.i 0]),(3,.row 10 (fdl (A++B)))] 4) (fun i=>if i=3 then 4194309 else i) ?_ ?_
   ·exact ent_mk (by simp[go_sem]) (by simp[go_sem,eb]) (by simp) (fun id hid=>⟨by rw[if_neg (by omega)],by omega⟩)
   refine AW_frzCell 0 5 3 (xs:=fdl (A++B)) (by simp only[go_sem];rfl) rfl (by simp only[go_sem];rfl) (by decide) (fdl_clor _) ?_
   simp only[go_sem]
   repeat'(first|apply nx|refine zx ?_|rw[zw]|((first|refine hK _ ?_|refine hKp _ _ ?_);clear hK hKp K Kp;try clear hanc anc)|((with_reducible refine And.intro ?_ ?_);exact zb)|((first|refine zr hE fun K Kp hK hKp=>?_|refine zd true mixed hE fun K Kp hK hKp anc hanc=>?_|refine zd false mixed hE fun K Kp hK hKp anc hanc=>?_);simp only[go_sem])|(refine zg (fun hg=>?_) (fun hg=>?_)<;>simp only[go_sem,hg])|(refine zc (fun hc=>?_) (fun hc=>?_)<;>try exact zh hc))
   refine K_ret (hret _ (A,B) rfl (by simp only[go_sem]) (by simp only[go_sem]) (by simp only[go_sem]) (by simp only[go_sem]) (by simp only[go_sem]) (by simp only[go_sem]))

theorem inN_app (n:Nm) (a b:List Nm):inN n (a++b)=(inN n a||inN n b):=by simp[inN]
theorem inN_cons (n m:Nm) (b:List Nm):inN n (m::b)=(decide (m=n)||inN n b):=by simp[inN]
theorem inN_nmsL (n:Nm):∀ l:List Tx,inN n (Tx.nmsL l)=l.any fun t=>decide (t.n=n)||inN n (Tx.nmsL t.a)
 | []=>rfl
 | .mk m a o::l=>by rw[Tx.nmsL,inN_app,Tx.nms,inN_cons,inN_nmsL n l,List.any_cons];rfl
theorem ment80:∀ (N:Nat) (l:List Tx) (n:Nm),Tx.szL l<N→N≤2 ^ 40→PCall Tryd.prog 80 [.sl (Tx.avL l),.str n] (.bool (inN n (Tx.nmsL l))):=by
 intro N
 induction N with
 |zero=>intro l n hl;omega
 |succ N IH=>
  intro l n hl hN2
  have hln:=Tx.len_le l
  rw[inN_nmsL]
  generalize hP:(fun t:Tx=>decide (t.n=n)||inN n (Tx.nmsL t.a))=P
  generalize hrr:l.any P=rr
  refine PCall.intro Tryd.func80 rfl isf80 (by simp[Tryd.f80]) (by simp[AV.cloL,AV.clo]) fun E Q hE hN hQ=>K_start ?_
  repeat'(first|apply nx|refine zx ?_|rw[zw]|((first|refine hK _ ?_|refine hKp _ _ ?_);clear hK hKp K Kp;try clear hanc anc)|((with_reducible refine And.intro ?_ ?_);exact zb)|((first|refine zr hE fun K Kp hK hKp=>?_|refine zd true mixed hE fun K Kp hK hKp anc hanc=>?_|refine zd false mixed hE fun K Kp hK hKp anc hanc=>?_);simp only[go_sem])|(refine zg (fun hg=>?_) (fun hg=>?_)<;>simp only[go_sem,hg])|(refine zc (fun hc=>?_) (fun hc=>?_)<;>try exact zh hc))
  refine K_loop (X:=Nat) (fun i=>i≤l.length∧rr=(l.drop i).any P) (fun i=>mkSt [(0,.sl (Tx.avL l)),(1,.str n),(5,.i (i:Nat))] [] 0) (fun i=>l.length - i) 0 ⟨Nat.zero_le _,by simp[hrr]⟩ (fun i=>i) ?_ ?_
  ·refine ent_mk (by simp[go_sem]) (by simp[go_sem]) (by simp) (by simp[hN])
  rintro i ⟨hi,hr⟩
  by_cases hlt:i<l.length
  ·obtain⟨x,hx⟩:=get?_of hlt
   have u1:=inc_u hlt (by omega)
   have hm:=Tx.mem_le (List.mem_of_getElem? hx)
   rw[Tx.sz_a] at hm
   have c:=IH x.a n (by omega) (by omega)
   have hPx:P x=(decide (x.n=n)||inN n (Tx.nmsL x.a)):=by rw[← hP]
   rw[drop_of hx,List.any_cons,hPx] at hr
   clear hPx hrr hP IH
   generalize hb:inN n (Tx.nmsL x.a)=b at*
   generalize hd:decide (x.n=n)=d at*
   cases d
   ·cases b
    ·repeat'(first|apply nx|refine zx ?_|rw[zw]|((first|refine hK _ ?_|refine hKp _ _ ?_);clear hK hKp K Kp;try clear hanc anc)|((with_reducible refine And.intro ?_ ?_);exact zb)|((first|refine zr hE fun K Kp hK hKp=>?_|refine zd true mixed hE fun K Kp hK hKp anc hanc=>?_|refine zd false mixed hE fun K Kp hK hKp anc hanc=>?_|(apply zm;exact zu;exact c;exact zs;exact zl));simp only[go_sem,lt_dec hlt,hx,u1,Tx.av_eq,hd])|(refine zg (fun hg=>?_) (fun hg=>?_)<;>simp only[go_sem,lt_dec hlt,hx,u1,Tx.av_eq,hd,hg])|(refine zc (fun hc=>?_) (fun hc=>?_)<;>try exact zh hc))
     refine⟨i+1,⟨hlt,by simpa using hr⟩,by omega,fun i=>i,?_⟩
     refine ent_mk (by simp[go_sem]) (by simp[go_sem]) (by simp) (by simp[hN])
    ·obtain rfl:rr=true:=by simpa using hr
     repeat'(first|apply nx|refine zx ?_|rw[zw]|((first|refine hK _ ?_|refine hKp _ _ ?_);clear hK hKp K Kp;try clear hanc anc)|((with_reducible refine And.intro ?_ ?_);exact zb)|((first|refine zr hE fun K Kp hK hKp=>?_|refine zd false mixed hE fun K Kp hK hKp anc hanc=>?_|(apply zm;exact zu;exact c;exact zs;exact zl));simp only[go_sem,lt_dec hlt,hx,u1,Tx.av_eq,hd])|(refine zg (fun hg=>?_) (fun hg=>?_)<;>simp only[go_sem,lt_dec hlt,hx,u1,Tx.av_eq,hd,hg])|(refine zc (fun hc=>?_) (fun hc=>?_)<;>try exact zh hc)|(refine K_ret ?_;refine zt hQ ?_))
     simp[AV.snap]
   ·obtain rfl:rr=true:=by simpa using hr
    repeat'(first|apply nx|refine zx ?_|rw[zw]|((first|refine hK _ ?_|refine hKp _ _ ?_);clear hK hKp K Kp;try clear hanc anc)|((with_reducible refine And.intro ?_ ?_);exact zb)|((first|refine zr hE fun K Kp hK hKp=>?_|refine zd false mixed hE fun K Kp hK hKp anc hanc=>?_|(apply zm;exact zu;exact c;exact zs;exact zl));simp only[go_sem,lt_dec hlt,hx,u1,Tx.av_eq,hd])|(refine zg (fun hg=>?_) (fun hg=>?_)<;>simp only[go_sem,lt_dec hlt,hx,u1,Tx.av_eq,hd,hg])|(refine zc (fun hc=>?_) (fun hc=>?_)<;>try exact zh hc)|(refine K_ret ?_;refine zt hQ ?_))
    simp[AV.snap]
  ·have hie:i=l.length:=by omega
   subst hie
   rw[List.drop_length] at hr
   obtain rfl:rr=false:=hr
   repeat'(first|apply nx|refine zx ?_|rw[zw]|((first|refine hK _ ?_|refine hKp _ _ ?_);clear hK hKp K Kp;try clear hanc anc)|((with_reducible refine And.intro ?_ ?_);exact zb)|((first|refine zr hE fun K Kp hK hKp=>?_|refine zd false mixed hE fun K Kp hK hKp anc hanc=>?_);simp only[go_sem,ge_dec])|(refine zg (fun hg=>?_) (fun hg=>?_)<;>simp only[go_sem,ge_dec,hg])|(refine zc (fun hc=>?_) (fun hc=>?_)<;>try exact zh hc)|(refine K_ret ?_;refine zt hQ ?_))
   simp[AV.snap]
theorem inN_flat {α:Type} (n:Nm) (f:α→List Nm) (l:List α):inN n (l.flatMap f)=l.any fun a=>inN n (f a):=by
 induction l with
 |nil=>rfl
 |cons a l ih=>rw[List.flatMap_cons,inN_app,ih,List.any_cons]
theorem ment1 (t:Tx) (n:Nm) (ht:t.sz<2 ^ 40):PCall Tryd.prog 80 [.sl [t.av],.str n] (.bool (inN n t.nms)):=by
 have c:=ment80 (2 ^ 40) [t] n (by simpa [Tx.szL] using ht) (by omega)
 have e:Tx.nmsL [t]=t.nms:=by rw[Tx.nmsL,Tx.nmsL,List.append_nil]
 rw[e] at c
 exact c
theorem ment79 (l:List Ad) (n:Nm) (hl:adSz l<2 ^ 40):PCall Tryd.prog 79 [.sl (adl l),.str n] (.bool (inN n (l.flatMap fun a=>a.ty.nms))):=by
 have hln:=ad_len l
 rw[inN_flat]
 generalize hP:(fun a:Ad=>inN n a.ty.nms)=P
 generalize hrr:l.any P=rr
 refine PCall.intro Tryd.func79 rfl isf79 (by simp[Tryd.f79]) (by simp[AV.cloL,AV.clo]) fun E Q hE hN hQ=>K_start ?_
 repeat'(first|apply nx|refine zx ?_|rw[zw]|((first|refine hK _ ?_|refine hKp _ _ ?_);clear hK hKp K Kp;try clear hanc anc)|((with_reducible refine And.intro ?_ ?_);exact zb)|((first|refine zr hE fun K Kp hK hKp=>?_|refine zd true mixed hE fun K Kp hK hKp anc hanc=>?_|refine zd false mixed hE fun K Kp hK hKp anc hanc=>?_);simp only[go_sem])|(refine zg (fun hg=>?_) (fun hg=>?_)<;>simp only[go_sem,hg])|(refine zc (fun hc=>?_) (fun hc=>?_)<;>try exact zh hc))
 refine K_loop (X:=Nat) (fun i=>i≤l.length∧rr=(l.drop i).any P) (fun i=>mkSt [(0,.sl (adl l)),(1,.str n),(5,.i (i:Nat))] [] 0) (fun i=>l.length - i) 0 ⟨Nat.zero_le _,by simp[hrr]⟩ (fun i=>i) ?_ ?_
 ·refine ent_mk (by simp[go_sem]) (by simp[go_sem]) (by simp) (by simp[hN])
 rintro i ⟨hi,hr⟩
 by_cases hlt:i<l.length
 ·obtain⟨x,hx⟩:=get?_of hlt
  have u1:=inc_u hlt (by omega)
  have hm:x.ty.sz≤adSz l:=sum_mem (f:=fun a:Ad=>a.ty.sz) (List.mem_of_getElem? hx)
  have c:=ment1 x.ty n (by omega)
  rw[Tx.av_eq] at c
  have hPx:P x=inN n x.ty.nms:=by rw[← hP]
  rw[drop_of hx,List.any_cons,hPx] at hr
  clear hPx hrr hP
  generalize hb:inN n x.ty.nms=b at*
  cases b
  ·repeat'(first|apply nx|refine zx ?_|rw[zw]|((first|refine hK _ ?_|refine hKp _ _ ?_);clear hK hKp K Kp;try clear hanc anc)|((with_reducible refine And.intro ?_ ?_);exact zb)|((first|refine zr hE fun K Kp hK hKp=>?_|refine zd true mixed hE fun K Kp hK hKp anc hanc=>?_|refine zd false mixed hE fun K Kp hK hKp anc hanc=>?_|(apply zm;exact zu;exact c;exact zs;exact zl));simp only[go_sem,lt_dec hlt,hx,u1,Ad.av])|(refine zg (fun hg=>?_) (fun hg=>?_)<;>simp only[go_sem,lt_dec hlt,hx,u1,Ad.av,hg])|(refine zc (fun hc=>?_) (fun hc=>?_)<;>try exact zh hc))
   refine⟨i+1,⟨hlt,by simpa using hr⟩,by omega,fun i=>i,?_⟩
   refine ent_mk (by simp[go_sem]) (by simp[go_sem]) (by simp) (by simp[hN])
  ·obtain rfl:rr=true:=by simpa using hr
   repeat'(first|apply nx|refine zx ?_|rw[zw]|((first|refine hK _ ?_|refine hKp _ _ ?_);clear hK hKp K Kp;try clear hanc anc)|((with_reducible refine And.intro ?_ ?_);exact zb)|((first|refine zr hE fun K Kp hK hKp=>?_|refine zd false mixed hE fun K Kp hK hKp anc hanc=>?_|(apply zm;exact zu;exact c;exact zs;exact zl));simp only[go_sem,lt_dec hlt,hx,u1,Ad.av])|(refine zg (fun hg=>?_) (fun hg=>?_)<;>simp only[go_sem,lt_dec hlt,hx,u1,Ad.av,hg])|(refine zc (fun hc=>?_) (fun hc=>?_)<;>try exact zh hc)|(refine K_ret ?_;refine zt hQ ?_))
   simp[AV.snap]
 ·have hie:i=l.length:=by omega
  subst hie
  rw[List.drop_length] at hr
  obtain rfl:rr=false:=hr
  repeat'(first|apply nx|refine zx ?_|rw[zw]|((first|refine hK _ ?_|refine hKp _ _ ?_);clear hK hKp K Kp;try clear hanc anc)|((with_reducible refine And.intro ?_ ?_);exact zb)|((first|refine zr hE fun K Kp hK hKp=>?_|refine zd false mixed hE fun K Kp hK hKp anc hanc=>?_);simp only[go_sem,ge_dec])|(refine zg (fun hg=>?_) (fun hg=>?_)<;>simp only[go_sem,ge_dec,hg])|(refine zc (fun hc=>?_) (fun hc=>?_)<;>try exact zh hc)|(refine K_ret ?_;refine zt hQ ?_))
  simp[AV.snap]
theorem ment70 {N:Nat} (h2:N≤2 ^ 39) (h:∀ (l:List Lf.St) (n:Nm),stSz l<N→PCall Tryd.prog 81 [.sl (stl l),.str n] (.bool (inN n (stN l)))):∀ (f:Lf.Fd) (n:Nm),f.sz≤N→PCall Tryd.prog 70 [f.av,.str n] (.bool (inN n f.nms))
 | .mk nm ps bs cs ag res b off,n,ht=>by
  rw[Fd.sz] at ht
  have c1:=ment79 cs n (by omega)
  have c2:=ment79 ag n (by omega)
  have c3:=ment1 res n (by omega)
  rw[Tx.av_eq] at c3
  have c4:=h b n (by omega)
  rw[Fd.av,Fd.nms,inN_app,inN_app,inN_app]
  generalize inN n (cs.flatMap fun a=>a.ty.nms)=b1 at*
  generalize inN n (ag.flatMap fun a=>a.ty.nms)=b2 at*
  generalize inN n res.nms=b3 at*
  generalize inN n (stN b)=b4 at*
  refine PCall.intro Tryd.func70 rfl isf70 (by simp[Tryd.f70]) (by simp[AV.cloL,AV.clo]) fun E Q hE hN hQ=>K_start ?_
  cases b1<;>cases b2<;>cases b3
  all_goals
   repeat'(first|apply nx|refine zx ?_|rw[zw]|((first|refine hK _ ?_|refine hKp _ _ ?_);clear hK hKp K Kp;try clear hanc anc)|((with_reducible refine And.intro ?_ ?_);exact zb)|((first|refine zr hE fun K Kp hK hKp=>?_|refine zd false mixed hE fun K Kp hK hKp anc hanc=>?_|(apply zm;exact zu;(first|exact c1|exact c2|exact c3|exact c4);exact zs;exact zl));simp only[go_sem])|(refine zg (fun hg=>?_) (fun hg=>?_)<;>simp only[go_sem,hg])|(refine zc (fun hc=>?_) (fun hc=>?_)<;>try exact zh hc)|(refine K_ret ?_;refine zt hQ ?_))
   simp[AV.snap]
theorem inN_stN (n:Nm):∀ l:List Lf.St,inN n (stN l)=l.any fun s=>inN n s.nms
 | []=>rfl
 |s::l=>by rw[stN,inN_app,inN_stN n l,List.any_cons]
theorem inN_arN (n:Nm):∀ l:List Ar,inN n (arN l)=l.any fun s=>inN n s.nms
 | []=>rfl
 |s::l=>by rw[arN,inN_app,inN_arN n l,List.any_cons]
theorem inN_fdN (n:Nm):∀ l:List Lf.Fd,inN n (fdN l)=l.any fun s=>inN n s.nms
 | []=>rfl
 |s::l=>by rw[fdN,inN_app,inN_fdN n l,List.any_cons]
theorem ment81:∀ (N:Nat) (l:List Lf.St) (n:Nm),stSz l<N→N≤2 ^ 39→PCall Tryd.prog 81 [.sl (stl l),.str n] (.bool (inN n (stN l))):=by
 intro N
 induction N with
 |zero=>intro l n hl;omega
 |succ N IH=>
  intro l n hl hN2
  have hln:=st_len_le l
  rw[inN_stN]
  generalize hP:(fun s:Lf.St=>inN n s.nms)=P
  generalize hrr:l.any P=rr
  refine PCall.intro Tryd.func81 rfl isf81 (by simp[Tryd.f81]) (by simp[AV.cloL,AV.clo]) fun E Q hE hN hQ=>K_start ?_
  repeat'(first|apply nx|refine zx ?_|rw[zw]|((first|refine hK _ ?_|refine hKp _ _ ?_);clear hK hKp K Kp;try clear hanc anc)|((with_reducible refine And.intro ?_ ?_);exact zb)|((first|refine zr hE fun K Kp hK hKp=>?_|refine zd true mixed hE fun K Kp hK hKp anc hanc=>?_|refine zd false mixed hE fun K Kp hK hKp anc hanc=>?_);simp only[go_sem])|(refine zg (fun hg=>?_) (fun hg=>?_)<;>simp only[go_sem,hg])|(refine zc (fun hc=>?_) (fun hc=>?_)<;>try exact zh hc))
  refine K_loop (X:=Nat) (fun i=>i≤l.length∧rr=(l.drop i).any P) (fun i=>mkSt [(0,.sl (stl l)),(1,.str n),(5,.i (i:Nat))] [] 0) (fun i=>l.length - i) 0 ⟨Nat.zero_le _,by simp[hrr]⟩ (fun i=>i) ?_ ?_
  ·refine ent_mk (by simp[go_sem]) (by simp[go_sem]) (by simp) (by simp[hN])
  rintro i ⟨hi,hr⟩
  by_cases hlt:i<l.length
  case neg=>
   have hie:i=l.length:=by omega
   subst hie
   rw[List.drop_length] at hr
   obtain rfl:rr=false:=hr
   repeat'(first|apply nx|refine zx ?_|rw[zw]|((first|refine hK _ ?_|refine hKp _ _ ?_);clear hK hKp K Kp;try clear hanc anc)|((with_reducible refine And.intro ?_ ?_);exact zb)|((first|refine zr hE fun K Kp hK hKp=>?_|refine zd false mixed hE fun K Kp hK hKp anc hanc=>?_);simp only[go_sem,ge_dec])|(refine zg (fun hg=>?_) (fun hg=>?_)<;>simp only[go_sem,ge_dec,hg])|(refine zc (fun hc=>?_) (fun hc=>?_)<;>try exact zh hc)|(refine K_ret ?_;refine zt hQ ?_))
   simp[AV.snap]
  obtain⟨x,hx⟩:=get?_of hlt
  have u1:=inc_u hlt (by omega)
  have hm:=st_mem_le (List.mem_of_getElem? hx)
  have hPx:P x=inN n x.nms:=by rw[← hP]
  rw[drop_of hx,List.any_cons,hPx] at hr
  clear hPx hrr hP
  obtain⟨k,nm,ns,ty,ex,th,el,ar,fn,off⟩:=x
  rw[St.sz,Ex.sz] at hm
  have har:=ar_len_le ar
  have hfn:=fd_len_le fn
  have c1:=ment80 (2 ^ 40) ty n (by omega) (by omega)
  have c2:=ment80 (2 ^ 40) ex.ty n (by omega) (by omega)
  have c3:=IH th n (by omega) (by omega)
  have c4:=IH el n (by omega) (by omega)
  have IHa:=fun(l:List Lf.St) (n:Nm) (h:stSz l<N)=>IH l n h (by omega)
  have hN3:N≤2 ^ 39:=by omega
  rw[St.nms,inN_app,inN_app,inN_app,inN_app,inN_app,inN_arN,inN_fdN] at hr
  generalize hrest:(List.drop (i+1) l).any P=rest at hr
  generalize inN n (Tx.nmsL ty)=b1 at*
  generalize inN n (Tx.nmsL ex.ty)=b2 at*
  generalize inN n (stN th)=b3 at*
  generalize inN n (stN el)=b4 at*
  generalize hPA:(fun s:Ar=>inN n s.nms)=PA at hr
  generalize hPF:(fun s:Lf.Fd=>inN n s.nms)=PF at hr
  by_cases hb4:(b1||(b2||(b3||b4)))=true
  case pos=>
   obtain rfl:rr=true:=by
    revert hb4 hr
    cases b1<;>cases b2<;>cases b3<;>cases b4<;>simp
   clear hr
   cases b1<;>cases b2<;>cases b3<;>cases b4<;>try(exact absurd hb4 (by decide))
   all_goals
    repeat'(first|apply nx|refine zx ?_|rw[zw]|((first|refine hK _ ?_|refine hKp _ _ ?_);clear hK hKp K Kp;try clear hanc anc)|((with_reducible refine And.intro ?_ ?_);exact zb)|((first|refine zr hE fun K Kp hK hKp=>?_|refine zd false mixed hE fun K Kp hK hKp anc hanc=>?_|(apply zm;exact zu;(first|exact c1|exact c2|exact c3|exact c4);exact zs;exact zl));simp only[go_sem,lt_dec hlt,hx,u1,St.av])|(refine zg (fun hg=>?_) (fun hg=>?_)<;>simp only[go_sem,lt_dec hlt,hx,u1,St.av,hg])|(refine zc (fun hc=>?_) (fun hc=>?_)<;>try exact zh hc)|(refine K_ret ?_;refine zt hQ ?_))
    simp[AV.snap]
  obtain⟨rfl,rfl,rfl,rfl⟩:b1=false∧b2=false∧b3=false∧b4=false:=by
   revert hb4
   cases b1<;>cases b2<;>cases b3<;>cases b4<;>simp
  simp only[Bool.false_or] at hr
  clear hb4
  repeat'(first|apply nx|refine zx ?_|rw[zw]|((first|refine hK _ ?_|refine hKp _ _ ?_);clear hK hKp K Kp;try clear hanc anc)|((with_reducible refine And.intro ?_ ?_);exact zb)|((first|refine zr hE fun K Kp hK hKp=>?_|refine zd true mixed hE fun K Kp hK hKp anc hanc=>?_|refine zd false mixed hE fun K Kp hK hKp anc hanc=>?_|(apply zm;exact zu;(first|exact c1|exact c2|exact c3|exact c4);exact zs;exact zl));simp only[go_sem,lt_dec hlt,hx,u1,St.av])|(refine zg (fun hg=>?_) (fun hg=>?_)<;>simp only[go_sem,lt_dec hlt,hx,u1,St.av,hg])|(refine zc (fun hc=>?_) (fun hc=>?_)<;>try exact zh hc))
  refine K_loop (X:=Nat) (fun q=>q≤ar.length∧rr=(((ar.drop q).any PA||fn.any PF)||rest)) (fun q=>mkSt [(0,.sl (stl l)),(1,.str n),(5,.i (i:Nat)),(6,.ptr 0 0),(7,.i (q:Nat))] [(0,.cells [.i k,.str nm,.sl (nml ns),.sl (Tx.avL ty),.i ex.k,.str ex.op,.str ex.nm,.str ex.vr,.sl (nml ex.ns),.i ex.num,.sl (Tx.avL ex.ty),.i ex.off,.sl (stl th),.sl (stl el),.sl (arl ar),.sl (fdl fn),.i off])] 1) (fun q=>ar.length - q) 0 ⟨Nat.zero_le _,by simpa using hr⟩ (fun i=>8388608) ?_ ?_
  ·refine ent_mk (by simp[go_sem]) (by simp[go_sem]) (by simp) (by simp[hN])
  clear hr
  rintro q ⟨hq,hr⟩
  by_cases hltq:q<ar.length
  case pos=>
   obtain⟨⟨v,ns1,bb,of1⟩,ha⟩:=get?_of hltq
   have v1:=inc_u hltq (by omega)
   have hma:=ar_mem_le (List.mem_of_getElem? ha)
   rw[Ar.sz] at hma
   have d:=IH bb n (by omega) (by omega)
   have hPx:PA (.mk v ns1 bb of1)=inN n (stN bb):=by rw[← hPA];show inN n (Ar.nms (.mk v ns1 bb of1))=_;rw[Ar.nms]
   rw[drop_of ha,List.any_cons,hPx] at hr
   generalize inN n (stN bb)=b at*
   cases b
   ·repeat'(first|apply nx|refine zx ?_|rw[zw]|((first|refine hK _ ?_|refine hKp _ _ ?_);clear hK hKp K Kp;try clear hanc anc)|((with_reducible refine And.intro ?_ ?_);exact zb)|((first|refine zr hE fun K Kp hK hKp=>?_|refine zd true mixed hE fun K Kp hK hKp anc hanc=>?_|refine zd false mixed hE fun K Kp hK hKp anc hanc=>?_|(apply zm;exact zu;exact d;exact zs;exact zl));simp only[go_sem,lt_dec hltq,ha,Ar.av,v1])|(refine zg (fun hg=>?_) (fun hg=>?_)<;>simp only[go_sem,lt_dec hltq,ha,Ar.av,v1,hg])|(refine zc (fun hc=>?_) (fun hc=>?_)<;>try exact zh hc))
    refine⟨q+1,⟨hltq,by simpa using hr⟩,by omega,fun i=>i,?_⟩
    refine ent_mk (by simp[go_sem]) (by simp[go_sem]) (by simp) (by simp[hN])
   ·obtain rfl:rr=true:=by simpa using hr
    repeat'(first|apply nx|refine zx ?_|rw[zw]|((first|refine hK _ ?_|refine hKp _ _ ?_);clear hK hKp K Kp;try clear hanc anc)|((with_reducible refine And.intro ?_ ?_);exact zb)|((first|refine zr hE fun K Kp hK hKp=>?_|refine zd false mixed hE fun K Kp hK hKp anc hanc=>?_|(apply zm;exact zu;exact d;exact zs;exact zl));simp only[go_sem,lt_dec hltq,ha,Ar.av,v1])|(refine zg (fun hg=>?_) (fun hg=>?_)<;>simp only[go_sem,lt_dec hltq,ha,Ar.av,v1,hg])|(refine zc (fun hc=>?_) (fun hc=>?_)<;>try exact zh hc)|(refine K_ret ?_;refine zt hQ ?_))
    simp[AV.snap]
  have hqe:q=ar.length:=by omega
  subst hqe
  rw[List.drop_length] at hr
  simp only[List.any_nil,Bool.false_or] at hr
  repeat'(first|apply nx|refine zx ?_|rw[zw]|((first|refine hK _ ?_|refine hKp _ _ ?_);clear hK hKp K Kp;try clear hanc anc)|((with_reducible refine And.intro ?_ ?_);exact zb)|((first|refine zr hE fun K Kp hK hKp=>?_|refine zd true mixed hE fun K Kp hK hKp anc hanc=>?_|refine zd false mixed hE fun K Kp hK hKp anc hanc=>?_);simp only[go_sem,ge_dec])|(refine zg (fun hg=>?_) (fun hg=>?_)<;>simp only[go_sem,ge_dec,hg])|(refine zc (fun hc=>?_) (fun hc=>?_)<;>try exact zh hc))
  refine K_loop (X:=Nat) (fun q=>q≤fn.length∧rr=((fn.drop q).any PF||rest)) (fun q=>mkSt [(0,.sl (stl l)),(1,.str n),(5,.i (i:Nat)),(6,.ptr 0 0),(8,.i (q:Nat))] [(0,.cells [.i k,.str nm,.sl (nml ns),.sl (Tx.avL ty),.i ex.k,.str ex.op,.str ex.nm,.str ex.vr,.sl (nml ex.ns),.i ex.num,.sl (Tx.avL ex.ty),.i ex.off,.sl (stl th),.sl (stl el),.sl (arl ar),.sl (fdl fn),.i off])] 1) (fun q=>fn.length - q) 0 ⟨Nat.zero_le _,by simpa using hr⟩ (fun i=>i) ?_ ?_
  ·refine ent_mk (by simp[go_sem]) (by simp[go_sem]) (by simp) (by simp[hN])
  clear hr
  rintro q ⟨hq,hr⟩
  by_cases hltq:q<fn.length
  case pos=>
   obtain⟨f,hf⟩:=get?_of hltq
   have v1:=inc_u hltq (by omega)
   have hmf:=fd_mem_le (List.mem_of_getElem? hf)
   have d:=ment70 hN3 IHa f n (by omega)
   have hPx:PF f=inN n f.nms:=by rw[← hPF]
   rw[drop_of hf,List.any_cons,hPx] at hr
   generalize inN n f.nms=b at*
   cases f with|mk a1 a2 a3 a4 a5 a6 a7 a8=>?_
   rw[Fd.av] at d
   cases b
   ·repeat'(first|apply nx|refine zx ?_|rw[zw]|((first|refine hK _ ?_|refine hKp _ _ ?_);clear hK hKp K Kp;try clear hanc anc)|((with_reducible refine And.intro ?_ ?_);exact zb)|((first|refine zr hE fun K Kp hK hKp=>?_|refine zd true mixed hE fun K Kp hK hKp anc hanc=>?_|refine zd false mixed hE fun K Kp hK hKp anc hanc=>?_|(apply zm;exact zu;exact d;exact zs;exact zl));simp only[go_sem,lt_dec hltq,hf,Fd.av,v1])|(refine zg (fun hg=>?_) (fun hg=>?_)<;>simp only[go_sem,lt_dec hltq,hf,Fd.av,v1,hg])|(refine zc (fun hc=>?_) (fun hc=>?_)<;>try exact zh hc))
    refine⟨q+1,⟨hltq,by simpa using hr⟩,by omega,fun i=>i,?_⟩
    refine ent_mk (by simp[go_sem]) (by simp[go_sem]) (by simp) (by simp[hN])
   ·obtain rfl:rr=true:=by simpa using hr
    repeat'(first|apply nx|refine zx ?_|rw[zw]|((first|refine hK _ ?_|refine hKp _ _ ?_);clear hK hKp K Kp;try clear hanc anc)|((with_reducible refine And.intro ?_ ?_);exact zb)|((first|refine zr hE fun K Kp hK hKp=>?_|refine zd false mixed hE fun K Kp hK hKp anc hanc=>?_|(apply zm;exact zu;exact d;exact zs;exact zl));simp only[go_sem,lt_dec hltq,hf,Fd.av,v1])|(refine zg (fun hg=>?_) (fun hg=>?_)<;>simp only[go_sem,lt_dec hltq,hf,Fd.av,v1,hg])|(refine zc (fun hc=>?_) (fun hc=>?_)<;>try exact zh hc)|(refine K_ret ?_;refine zt hQ ?_))
    simp[AV.snap]
  have hqe:q=fn.length:=by omega
  subst hqe
  rw[List.drop_length] at hr
  simp only[List.any_nil,Bool.false_or] at hr
  repeat'(first|apply nx|refine zx ?_|rw[zw]|((first|refine hK _ ?_|refine hKp _ _ ?_);clear hK hKp K Kp;try clear hanc anc)|((with_reducible refine And.intro ?_ ?_);exact zb)|((first|refine zr hE fun K Kp hK hKp=>?_|refine zd true mixed hE fun K Kp hK hKp anc hanc=>?_|refine zd false mixed hE fun K Kp hK hKp anc hanc=>?_);simp only[go_sem,ge_dec,u1])|(refine zg (fun hg=>?_) (fun hg=>?_)<;>simp only[go_sem,ge_dec,u1,hg])|(refine zc (fun hc=>?_) (fun hc=>?_)<;>try exact zh hc))
  refine⟨i+1,⟨hlt,?_⟩,by omega,fun i=>i,?_⟩
  ·rw[hrest];exact hr
  ·refine ent_mk (by simp[go_sem]) (by simp[go_sem]) (by simp) (by simp[hN])
end Go.Proofs.YtffmphmiicnaeaaDoor

set_option maxHeartbeats 4000000
set_option maxRecDepth 100000
namespace Go.Lf
open Go Go.Am
def objR (nm:Nm) (ps:List Nm) (bs:List Bd) (om:List (Nat×AObj)) (x:Ls):Nat→Option AObj:=mkHp ([(0,.cells [.str nm,.sl (nml ps),.sl (bdl bs),.i x.cnt,.rw 2,.i x.err,.i x.pos]),(2,.row 10 (fdl x.out))]++om)
end Go.Lf
namespace Go.Proofs.YtffmphmiicnaeaaDoor
open Go.Am Go.Proofs Go.Lf
open Classical
attribute [local irreducible] AW CallP CallB
def RC (f:FuncId) (vs:List AV) (ob:Ls→Nat→Option AObj) (n np:Nat) (x:Ls) (r:AV) (y:Ls):Prop:=
 r.clo=true∧ACall Tryd.prog f vs (ob x) n np (fun r' hp'=>r'=r∧hp'=ob y) (fun _ _=>False)
theorem RC.intro {f : FuncId} {fn : Func} {c : Code} {vs : List AV} {ob : Ls → Nat → Option AObj} {n np : Nat} {x y : Ls} {r : AV} (hrc : r.clo = true) (hf : Tryd.prog.funcs[f]? = some fn) (hfn : isFn Tryd.prog f = true) (hb : fn.body = some c) (hn : vs.length ≤ fn.ntmps)
    (h:∀ (E:En) (Q:AEx→Am.St→Prop),E.nt=fn.ntmps→E.np=np→(∀ σ m nc,resA Tryd.prog fn.results.toList σ=some r→Ent np m σ ⟨fun _=>none,ob y,nc⟩→Q .ret σ∧Q .norm σ)→AW Tryd.prog E c Q ⟨mkPar 0 vs,ob x,n⟩):RC f vs ob n np x r y:=by
  refine⟨hrc,ACall.of_bodyR hf hfn hb hn fun E Q hE hN hQ hQp=>h E Q hE hN (fun σ m nc h1 h2=>?_)⟩
  exact hQ σ ⟨r,m,_,nc,by rw[clo_ren hrc];exact h1,clo_ids hrc,h2,rfl,rfl⟩
theorem objR_lt {nm:Nm} {ps:List Nm} {bs:List Bd} {om:List (Nat×AObj)} (hom:om=[]∨∃ now,om=[(1,.row 3 (vsl now))]) (x:Ls) (id:Nat) (o:AObj) (h:objR nm ps bs om x id=some o):id<3∧o.ids (· <3):=by
 refine mkHp_allP (p:=fun id o=>id<3∧o.ids (· <3)) (fun q hq=>?_) id o h
 rcases hom with rfl|⟨now,rfl⟩
 ·simp only[List.append_nil,List.mem_cons,List.not_mem_nil,or_false] at hq
  rcases hq with rfl|rfl
  ·exact⟨by show 0<3;decide,by simp[AObj.ids,AV.ids,AV.idsL,go_sem]⟩
  ·exact⟨by show 2<3;decide,by simp[AObj.ids,go_sem]⟩
 ·simp only[List.cons_append,List.nil_append,List.mem_cons,List.not_mem_nil,or_false] at hq
  rcases hq with rfl|rfl|rfl
  ·exact⟨by show 0<3;decide,by simp[AObj.ids,AV.ids,AV.idsL,go_sem]⟩
  ·exact⟨by show 2<3;decide,by simp[AObj.ids,go_sem]⟩
  ·exact⟨by show 1<3;decide,by simp[AObj.ids,go_sem]⟩
theorem RC.use1 {nm : Nm} {ps : List Nm} {bs : List Bd} {f : FuncId} {vs us : List AV} {x y : Ls} {r : AV} (hA : RC f vs (objR nm ps bs []) 3 1 x r y) (X Y B : Nat) (hXY : X ≠ Y) (hvs : AV.idsL (· < 1) vs) (hus : us = AV.renL (fun i => if i = 2 then Y else X) vs)
    {fr:Nat→Option AV} {hp0:Nat→Option AObj} {n0 k:Nat} {d:Option Nat} {K:Am.St→Prop} {Kp:AV→Am.St→Prop} (hB:n0+1048576*k+1=B)
    (h0:hp0 X=some (.cells [.str nm,.sl (nml ps),.sl (bdl bs),.i x.cnt,.rw Y,.i x.err,.i x.pos])) (h2:hp0 Y=some (.row 10 (fdl x.out)))
    (hK:∀ hpn,hpn X=some (.cells [.str nm,.sl (nml ps),.sl (bdl bs),.i y.cnt,.rw B,.i y.err,.i y.pos])→hpn B=some (.row 10 (fdl y.out))→(∀ id o,id≠X→id≠Y→hp0 id=some o→hpn id=some o)→K ⟨putf fr d r,hpn,n0⟩):
    CallB Tryd.prog f us ⟨fr,hp0,n0⟩ k d K Kp:=by
  subst hB
  obtain⟨hrc,hA⟩:=hA
  have hl:=objR_lt (nm:=nm) (ps:=ps) (bs:=bs) (om:=[]) (.inl rfl)
  refine CallB.use hA (fun i=>if i=2 then Y else X) hus (idsL_imp (fun i hi=>by omega) hvs) (fun id o ho=>?_) (fun id id' o o' ho ho' h=>?_) (fun id hid=>⟨by omega,?_⟩) ?_ ?_ ?_ ?_
  · refine⟨?_,hl x id o ho⟩
    revert id o
    exact mkHp_allP (p:=fun id o=>hp0 (if id=2 then Y else X)=some (o.ren fun i=>if i=2 then Y else X)) (by simp[h0,h2,AObj.ren,AV.renL,AV.ren,go_sem])
  · have q : ∀ id o, objR nm ps bs [] x id = some o → id = 0 ∨ id = 2 := fun id o h => by
      refine mkHp_allP (p:=fun id _=>id=0∨id=2) (fun q hq=>?_) id o h
      simp only[List.append_nil,List.mem_cons,List.not_mem_nil,or_false] at hq
      rcases hq with rfl|rfl<;>simp
    have a:=q _ _ ho
    have b:=q _ _ ho'
    rcases a with rfl|rfl<;>rcases b with rfl|rfl<;>simp at h<;>first|rfl|(exact absurd h hXY)|(exact absurd h.symm hXY)
  · obtain rfl:id=0:=by omega
    simp[objR,mkHp,updo]
  · rintro r' hp' ⟨rfl,rfl⟩
    exact⟨clo_ids hrc,fun id o ho=>⟨by have:=(hl y id o ho).1;omega,objids_mono _ (fun j hj=>by omega) (hl y id o ho).2⟩⟩
  · rintro r' hp' h
    exact h.elim
  · rintro r' hp' fr' hpn ⟨rfl,rfl⟩ hfr hobj hold
    rw[clo_ren hrc] at hfr
    have e:fr'=putf fr d r':=by subst hfr;cases d<;>rfl
    subst e
    have b0:backM (fun i=>if i=2 then Y else X) 1 (n0+1048576*k) 0=X:=by rw[backM_lt (by omega)];simp
    have b2:backM (fun i=>if i=2 then Y else X) 1 (n0+1048576*k) 2=n0+1048576*k+1:=by rw[backM_ge (by omega)]
    have g0:=hobj 0 _ rfl
    have g2:=hobj 2 _ rfl
    rw[b0] at g0
    rw[b2] at g2
    simp only[AObj.ren,AV.renL,AV.ren,b2,nml_ren,bdl_ren,fdl_ren] at g0 g2
    refine hK hpn g0 g2 fun id o i0 iY ho=>hold id o ho fun j hj e=>?_
    split at e
    · exact iY e.symm
    · exact i0 e.symm
  · rintro v hp' hpn h
    exact h.elim
theorem RC.use2 {nm : Nm} {ps : List Nm} {bs : List Bd} {now : List Vs} {f : FuncId} {vs us : List AV} {x y : Ls} {r : AV} (hA : RC f vs (objR nm ps bs [(1, .row 3 (vsl now))]) 3 2 x r y) (M Y B : Nat) (hM : 2 ≤ M) (hY : 2 ≤ Y) (hMY : M ≠ Y) (hvs : AV.idsL (· < 2) vs) (hus : us = AV.renL (fun i => if i = 2 then Y else if i = 1 then M else 0) vs)
    {fr:Nat→Option AV} {hp0:Nat→Option AObj} {n0 k:Nat} {d:Option Nat} {K:Am.St→Prop} {Kp:AV→Am.St→Prop} (hB:n0+1048576*k=B)
    (h0:hp0 0=some (.cells [.str nm,.sl (nml ps),.sl (bdl bs),.i x.cnt,.rw Y,.i x.err,.i x.pos])) (h1:hp0 M=some (.row 3 (vsl now))) (h2:hp0 Y=some (.row 10 (fdl x.out)))
    (hK:∀ hpn,hpn 0=some (.cells [.str nm,.sl (nml ps),.sl (bdl bs),.i y.cnt,.rw B,.i y.err,.i y.pos])→hpn M=some (.row 3 (vsl now))→hpn B=some (.row 10 (fdl y.out))→(∀ id o,id≠0→id≠M→id≠Y→hp0 id=some o→hpn id=some o)→K ⟨putf fr d r,hpn,n0⟩):
    CallB Tryd.prog f us ⟨fr,hp0,n0⟩ k d K Kp:=by
  subst hB
  obtain⟨hrc,hA⟩:=hA
  have hl:=objR_lt (nm:=nm) (ps:=ps) (bs:=bs) (om:=[(1,.row 3 (vsl now))]) (.inr ⟨now,rfl⟩)
  have her:=fun m=>vsl_ren m now
  refine CallB.use hA (fun i=>if i=2 then Y else if i=1 then M else 0) hus (idsL_imp (fun i hi=>by omega) hvs) (fun id o ho=>?_) (fun id id' o o' ho ho' h=>?_) (fun id hid=>⟨by omega,?_⟩) ?_ ?_ ?_ ?_
  · refine⟨?_,hl x id o ho⟩
    revert id o
    exact mkHp_allP (p:=fun id o=>hp0 (if id=2 then Y else if id=1 then M else 0)=some (o.ren fun i=>if i=2 then Y else if i=1 then M else 0)) (by simp[h0,h1,h2,AObj.ren,AV.renL,AV.ren,go_sem,her])
  · have a:=(hl x id o ho).1
    have b:=(hl x id' o' ho').1
    rcases(by omega:id=0∨id=1∨id=2) with rfl|rfl|rfl<;>rcases(by omega:id'=0∨id'=1∨id'=2) with rfl|rfl|rfl<;>simp at h<;>omega
  · rcases(by omega:id=0∨id=1) with rfl|rfl<;>simp[objR,mkHp,updo]
  · rintro r' hp' ⟨rfl,rfl⟩
    exact⟨clo_ids hrc,fun id o ho=>⟨by have:=(hl y id o ho).1;omega,objids_mono _ (fun j hj=>by omega) (hl y id o ho).2⟩⟩
  · rintro r' hp' h
    exact h.elim
  · rintro r' hp' fr' hpn ⟨rfl,rfl⟩ hfr hobj hold
    rw[clo_ren hrc] at hfr
    have e:fr'=putf fr d r':=by subst hfr;cases d<;>rfl
    subst e
    have b0:backM (fun i=>if i=2 then Y else if i=1 then M else 0) 2 (n0+1048576*k) 0=0:=by rw[backM_lt (by omega)];simp
    have b1:backM (fun i=>if i=2 then Y else if i=1 then M else 0) 2 (n0+1048576*k) 1=M:=by rw[backM_lt (by omega)];simp
    have b2:backM (fun i=>if i=2 then Y else if i=1 then M else 0) 2 (n0+1048576*k) 2=n0+1048576*k:=by rw[backM_ge (by omega)];rfl
    have g0:=hobj 0 _ rfl
    have g1:=hobj 1 _ rfl
    have g2:=hobj 2 _ rfl
    rw[b0] at g0
    rw[b1] at g1
    rw[b2] at g2
    simp only[AObj.ren,AV.renL,AV.ren,b2,nml_ren,bdl_ren,fdl_ren,her] at g0 g1 g2
    refine hK hpn g0 g1 g2 fun id o i0 iM iY ho=>hold id o ho fun j hj e=>?_
    split at e
    · exact iY e.symm
    · split at e
      · exact iM e.symm
      · exact i0 e.symm
  · rintro v hp' hpn h
    exact h.elim
end Go.Proofs.YtffmphmiicnaeaaDoor

set_option maxHeartbeats 4000000
set_option maxRecDepth 100000
namespace Go.Proofs.YtffmphmiicnaeaaDoor
open Go.Am Go.Proofs Go.Lf
open Classical
attribute [local irreducible] AW CallP CallB
variable {nm:Nm} {ps:List Nm} {bs:List Bd}
theorem rfail_c (x:Ls) (e p:Int):RC 50 [.ptr 0 0,.i e,.i p] (objR nm ps bs []) 3 1 x (.tup []) (x.fail e p):=by
 by_cases h:x.err=0
 ·rw[show x.fail e p=⟨x.cnt,x.out,e,p⟩ from if_pos h]
  have hd:(x.err==0)=true:=by simpa using h
  refine RC.intro (by rfl) Tryd.func50 isf50 rfl (by simp[Tryd.f50]) fun E Q hE hN hQ=>K_start ?_
  show AW Tryd.prog E _ _ (mkSt [(0,.ptr 0 0),(1,.i e),(2,.i p)] [(0,.cells [.str nm,.sl (nml ps),.sl (bdl bs),.i x.cnt,.rw 2,.i x.err,.i x.pos]),(2,.row 10 (fdl x.out))] 3)
  repeat'(first|apply nx|refine zx ?_|rw[zw]|((first|refine hK _ ?_|refine hKp _ _ ?_);clear hK hKp K Kp;try clear hanc anc)|((with_reducible refine And.intro ?_ ?_);exact zb)|((first|refine zr hE fun K Kp hK hKp=>?_|refine zd true mixed hE fun K Kp hK hKp anc hanc=>?_|refine zd false mixed hE fun K Kp hK hKp anc hanc=>?_);simp only[go_sem,hd])|(refine zg (fun hg=>?_) (fun hg=>?_)<;>simp only[go_sem,hd,hg])|(refine zc (fun hc=>?_) (fun hc=>?_)<;>try exact zh hc))
  refine Kq_norm_nil ?_
  refine(hQ _ (fun i=>i) 3 rfl ?_).2
  show Ent _ _ _ (mkSt [] [(0,.cells [.str nm,.sl (nml ps),.sl (bdl bs),.i x.cnt,.rw 2,.i e,.i p]),(2,.row 10 (fdl x.out))] 3)
  exact ent_mk (by simp) (by simp[go_sem]) (by simp) (fun id hid=>⟨rfl,by omega⟩)
 ·rw[show x.fail e p=x from if_neg h]
  have hd:(x.err==0)=false:=by simpa using h
  refine RC.intro (by rfl) Tryd.func50 isf50 rfl (by simp[Tryd.f50]) fun E Q hE hN hQ=>K_start ?_
  show AW Tryd.prog E _ _ (mkSt [(0,.ptr 0 0),(1,.i e),(2,.i p)] [(0,.cells [.str nm,.sl (nml ps),.sl (bdl bs),.i x.cnt,.rw 2,.i x.err,.i x.pos]),(2,.row 10 (fdl x.out))] 3)
  repeat'(first|apply nx|refine zx ?_|rw[zw]|((first|refine hK _ ?_|refine hKp _ _ ?_);clear hK hKp K Kp;try clear hanc anc)|((with_reducible refine And.intro ?_ ?_);exact zb)|((first|refine zr hE fun K Kp hK hKp=>?_|refine zd true mixed hE fun K Kp hK hKp anc hanc=>?_|refine zd false mixed hE fun K Kp hK hKp anc hanc=>?_);simp only[go_sem,hd])|(refine zg (fun hg=>?_) (fun hg=>?_)<;>simp only[go_sem,hd,hg])|(refine zc (fun hc=>?_) (fun hc=>?_)<;>try exact zh hc))
  refine Kq_norm_nil ?_
  refine(hQ _ (fun i=>i) 3 rfl ?_).2
  show Ent _ _ _ (mkSt [] [(0,.cells [.str nm,.sl (nml ps),.sl (bdl bs),.i x.cnt,.rw 2,.i x.err,.i x.pos]),(2,.row 10 (fdl x.out))] 3)
  exact ent_mk (by simp) (by simp[go_sem]) (by simp) (fun id hid=>⟨rfl,by omega⟩)
end Go.Proofs.YtffmphmiicnaeaaDoor

set_option maxHeartbeats 4000000
set_option maxRecDepth 100000
namespace Go.Proofs.YtffmphmiicnaeaaDoor
open Go.Am Go.Proofs Go.Lf
open Classical
attribute [local irreducible] AW CallP CallB
theorem dec_small {n:Nat} (h:n<10):dec n=⟨#[UInt8.ofNat (48+n)]⟩:=by
 unfold dec Lib.itoa
 rw[if_neg (by omega),Int.toNat_natCast,Lib.decDigits,dif_pos h]
theorem dec_big {n:Nat} (h:¬ n<10):dec n=dec (n / 10)++⟨#[UInt8.ofNat (48+n % 10)]⟩:=by
 unfold dec Lib.itoa
 rw[if_neg (by omega),if_neg (by omega),Int.toNat_natCast,Int.toNat_natCast,Lib.decDigits,dif_neg h]
 apply ByteArray.ext
 simp
theorem u8_dig {d:Nat} (h:d<10):IntKind.u8.wrap (48+(d:Int))=((48+d:Nat):Int)∧strOf [.int .u8 ((48+d:Nat):Int)]=⟨#[UInt8.ofNat (48+d)]⟩:=by
 rcases(by omega:d=0∨d=1∨d=2∨d=3∨d=4∨d=5∨d=6∨d=7∨d=8∨d=9) with rfl|rfl|rfl|rfl|rfl|rfl|rfl|rfl|rfl|rfl
 all_goals exact⟨rfl,rfl⟩
theorem decimal_c:∀ (N n:Nat),n<N→N≤2 ^ 40→PCall Tryd.prog 68 [.i n] (.str (dec n)):=by
 intro N
 induction N with
 |zero=>intro n h;omega
 |succ N IH=>
  intro n hn hN
  have m1:Int.tmod (n:Int) 10=((n % 10:Nat):Int):=rfl
  have d1:Int.tdiv (n:Int) 10=((n / 10:Nat):Int):=rfl
  have x1:max ((n % 10:Nat):Int) (0 - ((n % 10:Nat):Int))=((n % 10:Nat):Int):=by omega
  obtain⟨w8,e8⟩:=u8_dig (Nat.mod_lt n (by decide:0<10))
  have h8:U8s [.int .u8 (IntKind.u8.wrap (48+max ((n % 10:Nat):Int) (0 - ((n % 10:Nat):Int))))]:=by
   unfold U8s
   intro x hx
   exact⟨_,List.mem_singleton.1 hx⟩
  have lt0:decide ((n:Int)<0)=false:=decide_eq_false (by omega)
  by_cases h:n<10
  ·have hd:=dec_small h
   rw[Nat.mod_eq_of_lt h] at m1 w8 e8 x1
   rw[Nat.mod_eq_of_lt h] at h8
   rw[x1] at h8
   rw[Nat.div_eq_of_lt h] at d1
   rw[hd]
   refine PCall.intro Tryd.func68 rfl isf68 (by simp[Tryd.f68]) (by simp[AV.cloL,AV.clo]) fun E Q hE hN hQ=>K_start ?_
   repeat'(first|apply nx|refine zx ?_|rw[zw]|((first|refine hK _ ?_|refine hKp _ _ ?_);clear hK hKp K Kp;try clear hanc anc)|((with_reducible refine And.intro ?_ ?_);exact zb)|((first|refine zr hE fun K Kp hK hKp=>?_|refine zd false mixed hE fun K Kp hK hKp anc hanc=>?_);simp only[go_sem,m1,d1,x1,w8,e8,lt0])|(refine zg (fun hg=>?_) (fun hg=>?_)<;>simp only[go_sem,m1,d1,x1,w8,e8,lt0,hg])|(refine zc (fun hc=>?_) (fun hc=>?_)<;>try exact zh hc)|(refine K_ret ?_;refine zt hQ ?_))
   all_goals simp[AV.snap]
  ·have hd:=dec_big h
   rw[x1] at h8
   have c:=IH (n / 10) (by omega) (by omega)
   have hne:(((n / 10:Nat):Int) !=0)=true:=by simp;omega
   have hl:=dec_len (n / 10) (by omega)
   rw[hd]
   refine PCall.intro Tryd.func68 rfl isf68 (by simp[Tryd.f68]) (by simp[AV.cloL,AV.clo]) fun E Q hE hN hQ=>K_start ?_
   have hne2:(((n / 10:Nat):Int)==0)=false:=by simp;omega
   repeat'(first|apply nx|refine zx ?_|rw[zw]|((first|refine hK _ ?_|refine hKp _ _ ?_);clear hK hKp K Kp;try clear hanc anc)|((with_reducible refine And.intro ?_ ?_);exact zb)|((first|refine zr hE fun K Kp hK hKp=>?_|refine zd true mixed hE fun K Kp hK hKp anc hanc=>?_|refine zd false mixed hE fun K Kp hK hKp anc hanc=>?_|(apply zm;exact zu;exact c;exact zs;exact zl));simp only[go_sem,m1,d1,x1,w8,e8,lt0,hne,hne2])|(refine zg (fun hg=>?_) (fun hg=>?_)<;>simp only[go_sem,m1,d1,x1,w8,e8,lt0,hne,hne2,hg])|(refine zc (fun hc=>?_) (fun hc=>?_)<;>try exact zh hc))
   refine⟨by have hs:(#[UInt8.ofNat (48+n % 10)]:Array UInt8).size=1:=rfl;omega,?_⟩
   repeat'(first|apply nx|refine zx ?_|rw[zw]|((first|refine hK _ ?_|refine hKp _ _ ?_);clear hK hKp K Kp;try clear hanc anc)|((with_reducible refine And.intro ?_ ?_);exact zb)|((first|refine zr hE fun K Kp hK hKp=>?_|refine zd false mixed hE fun K Kp hK hKp anc hanc=>?_|(apply zm;exact zu;exact c;exact zs;exact zl));simp only[go_sem,m1,d1,x1,w8,e8,lt0,hne,hne2])|(refine zg (fun hg=>?_) (fun hg=>?_)<;>simp only[go_sem,m1,d1,x1,w8,e8,lt0,hne,hne2,hg])|(refine zc (fun hc=>?_) (fun hc=>?_)<;>try exact zh hc)|(refine K_ret ?_;refine zt hQ ?_))
   all_goals first|(simp[AV.snap];done)|(exfalso;simp_all;done)

variable {nm:Nm} {ps:List Nm} {bs:List Bd}
def ICk (L0 F0:List AV) (O:List Lf.Fd) (cs ag:List Ad) (D:Nat→Bool) (σ:Go.Am.St):Prop:=
 σ.nx=4∧σ.fr 0=some (.ptr 0 0)∧σ.fr 3=some (.ptr 3 0)∧σ.hp 0=some (.cells L0)∧σ.hp 2=some (.row 10 (fdl O))∧σ.hp 3=some (.cells F0)∧(D 0=true→σ.fr 7=some (.rw 4))∧(D 1=true→σ.fr 8=some (.ptr 3 3))∧(D 2=true→σ.fr 9=some (.sl (adl cs)))∧(D 3=true→σ.fr 10=some (.rw 3145732))∧(D 4=true→σ.fr 11=some (.ptr 3 4))∧(D 5=true→σ.fr 12=some (.sl (adl ag)))∧(D 6=true→σ.fr 13=some (.rw 6291460))∧(D 7=true→σ.fr 4=some (.rw 6291460))∧(D 0=true→D 3=false→σ.hp 4=some (.row 6 []))∧(D 3=true→D 6=false→σ.hp 3145732=some (.row 6 (adl cs)))∧(D 6=true→σ.hp 6291460=some (.row 6 (adl cs++adl ag)))
theorem rcheck_a {E : En} {Q : AEx → Am.St → Prop} (hE : E.nt = Tryd.f69.ntmps) (hN : E.np = 1) (x : Ls) (fm : Nm) (p0 : List Nm) (b0 : List Bd) (cs ag : List Ad) (r0 : Tx) (bd : List Lf.St) (of0 : Int) (hc : cs.length ≤ 2 ^ 20) (ha : ag.length ≤ 2 ^ 20)
    (H:∀ σ m nc,resA Tryd.prog Tryd.f69.results.toList σ=some (.tup [])→Ent 1 m σ ⟨fun _=>none,objR nm ps bs [] (x.failO (chk (cs++ag) of0)),nc⟩→Q .ret σ∧Q .norm σ):
    AW Tryd.prog E (Tryd.f69.body.getD .skip) Q (mkSt [(0,.ptr 0 0),(1,.agg [.str fm,.sl (nml p0),.sl (bdl b0),.sl (adl cs),.sl (adl ag),.str r0.n,.sl (Tx.avL r0.a),.i r0.o,.sl (stl bd),.i of0])] [(0,.cells [.str nm,.sl (nml ps),.sl (bdl bs),.i x.cnt,.rw 2,.i x.err,.i x.pos]),(2,.row 10 (fdl x.out))] 3):=by
  refine K_start ?_
  simp only[Tryd.f69,Option.getD]
  repeat'(first|apply nx|refine zx ?_|rw[zw]|((first|refine hK _ ?_|refine hKp _ _ ?_);clear hK hKp K Kp;try clear hanc anc)|((with_reducible refine And.intro ?_ ?_);exact zb)|((fail_if_success refine K_stop 1 ?_);(first|refine zr hE fun K Kp hK hKp=>?_|refine zd true mixed hE fun K Kp hK hKp anc hanc=>?_|refine zd false mixed hE fun K Kp hK hKp anc hanc=>?_);simp only[go_sem])|(refine zg (fun hg=>?_) (fun hg=>?_)<;>simp only[go_sem,hg])|(refine zc (fun hc=>?_) (fun hc=>?_)<;>try exact zh hc))
  refine AW.ent (σ':=mkSt [(0,.ptr 0 0),(3,.ptr 3 0)] [(0,.cells [.str nm,.sl (nml ps),.sl (bdl bs),.i x.cnt,.rw 2,.i x.err,.i x.pos]),(2,.row 10 (fdl x.out)),(3,.cells [.str fm,.sl (nml p0),.sl (bdl b0),.sl (adl cs),.sl (adl ag),.str r0.n,.sl (Tx.avL r0.a),.i r0.o,.sl (stl bd),.i of0])] 4) (fun i=>i) ?_ ?_
  · exact ent_mk (by simp[go_sem]) (by simp[go_sem]) (by simp) (fun id hid=>⟨rfl,by omega⟩)
  repeat(first|apply w1|apply w2)
  refine K_inv (n:=8) (ICk [.str nm,.sl (nml ps),.sl (bdl bs),.i x.cnt,.rw 2,.i x.err,.i x.pos] [.str fm,.sl (nml p0),.sl (bdl b0),.sl (adl cs),.sl (adl ag),.str r0.n,.sl (Tx.avL r0.a),.i r0.o,.sl (stl bd),.i of0] x.out cs ag) mixed hE ?_ ?_ (fun Kp hKp=>?_) ?_ rfl
  · intro D D' σ h
    have:=fun j=>(h j).symm
    unfold ICk
    simp only[this]
    exact fun h=>h
  · simp[ICk,go_sem]
  · refine⟨?_,?_,?_,?_,?_,?_,?_,?_,trivial⟩
    all_goals rintro D' ⟨fr,hp,nx⟩ hD' hr ⟨hn,f0,f3,h0,h2,h3,d0,d1,d2,d3,d4,d5,d6,d7,e0,e3,e6⟩
    all_goals simp[Region.binds] at hn f0 f3 h0 h2 h3 d0 d1 d2 d3 d4 d5 d6 d7 e0 e3 e6 hD' hr
    all_goals subst hn
    all_goals try clear H
    · skip
      simp only[go_sem]
      (simp only[ICk,upd,updo];simp[f0,f3,h0,h2,h3];simp_all)
    · skip
      simp only[go_sem,f3]
      (simp only[ICk,upd,updo];simp[f0,f3,h0,h2,h3];simp_all)
    · skip
      have zd1:=d1 (by simp[hr,hD'])
      simp only[go_sem,zd1,h3]
      (simp only[ICk,upd,updo];simp[f0,f3,h0,h2,h3];simp_all)
    · skip
      have zd0:=d0 (by simp[hr,hD'])
      have zd2:=d2 (by simp[hr,hD'])
      have ze0:=e0 (by simp[hr,hD']) (by simp[hr,hD'])
      simp only[go_sem,zd0,zd2,ze0]
      refine⟨⟨adl_szok _,by simp only[Fits];omega⟩,?_⟩
      (simp only[ICk,upd,updo];simp[f0,f3,h0,h2,h3];simp_all)
    · skip
      simp only[go_sem,f3]
      (simp only[ICk,upd,updo];simp[f0,f3,h0,h2,h3];simp_all)
    · skip
      have zd4:=d4 (by simp[hr,hD'])
      simp only[go_sem,zd4,h3]
      (simp only[ICk,upd,updo];simp[f0,f3,h0,h2,h3];simp_all)
    · skip
      have zd3:=d3 (by simp[hr,hD'])
      have zd5:=d5 (by simp[hr,hD'])
      have ze3:=e3 (by simp[hr,hD']) (by simp[hr,hD'])
      simp only[go_sem,zd3,zd5,ze3]
      refine⟨⟨adl_szok _,by simp only[Fits,adl_ln];omega⟩,?_⟩
      (simp only[ICk,upd,updo];simp[f0,f3,h0,h2,h3];simp_all)
    · skip
      have zd6:=d6 (by simp[hr,hD'])
      simp only[go_sem,zd6]
      (simp only[ICk,upd,updo];simp[f0,f3,h0,h2,h3];simp_all)
  rintro⟨fr,hp,nx⟩ D' hD' ⟨hn,f0,f3,h0,h2,h3,d0,d1,d2,d3,d4,d5,d6,d7,e0,e3,e6⟩
  simp only at hn f0 f3 h0 h2 h3 d0 d1 d2 d3 d4 d5 d6 d7 e0 e3 e6
  have zd0:=d0 (hD' 0)
  have zd1:=d1 (hD' 1)
  have zd2:=d2 (hD' 2)
  have zd3:=d3 (hD' 3)
  have zd4:=d4 (hD' 4)
  have zd5:=d5 (hD' 5)
  have zd6:=d6 (hD' 6)
  have zd7:=d7 (hD' 7)
  have ze6:=e6 (hD' 6)
  have eb:adl cs++adl ag=adl (cs++ag):=by simp[adl]
  rw[eb] at ze6
  have hlen:(cs++ag).length=cs.length+ag.length:=List.length_append
  generalize cs++ag=all at*
  repeat(first|refine Kq_norm_code ?_|refine Kq_norm_blk ?_)
  refine AW.ent (σ':=mkSt [(0,.ptr 0 0),(3,.ptr 3 0),(4,.rw 4)] [(0,.cells [.str nm,.sl (nml ps),.sl (bdl bs),.i x.cnt,.rw 2,.i x.err,.i x.pos]),(2,.row 10 (fdl x.out)),(3,.cells [.str fm,.sl (nml p0),.sl (bdl b0),.sl (adl cs),.sl (adl ag),.str r0.n,.sl (Tx.avL r0.a),.i r0.o,.sl (stl bd),.i of0]),(4,.row 6 (adl all))] 5) (fun i=>if i=4 then 6291460 else i) ?_ ?_
  · refine ent_mk (by simp[go_sem,f0,f3,zd7]) ?_ (by simp) (fun id hid=>⟨by rw[if_neg (by omega)],by omega⟩)
    simp[go_sem,h0,h2,h3,ze6]
  clear ze6 zd0 zd1 zd2 zd3 zd4 zd5 zd6 zd7 f0 f3 h0 h2 h3 d0 d1 d2 d3 d4 d5 d6 d7 e0 e3 e6 hD' hn eb
  clear nx
  refine AW_frz1 4 4 (by simp only[go_sem]) (by simp only[go_sem];rfl) (adl_clor _) ?_
  simp only[go_sem]
  repeat'(first|apply nx|refine zx ?_|rw[zw]|((first|refine hK _ ?_|refine hKp _ _ ?_);clear hK hKp K Kp;try clear hanc anc)|((with_reducible refine And.intro ?_ ?_);exact zb)|((first|refine zr hE fun K Kp hK hKp=>?_|refine zd true mixed hE fun K Kp hK hKp anc hanc=>?_|refine zd false mixed hE fun K Kp hK hKp anc hanc=>?_);simp only[go_sem])|(refine zg (fun hg=>?_) (fun hg=>?_)<;>simp only[go_sem,hg])|(refine zc (fun hc=>?_) (fun hc=>?_)<;>try exact zh hc))
  refine K_loop (X:=Nat) (fun i=>i≤all.length∧twice [] all=twice ((all.take i).map Ad.nm).reverse (all.drop i)) (fun i=>mkSt [(0,.ptr 0 0),(3,.ptr 3 0),(4,.sl (adl all)),(5,.i (i:Nat))] [(0,.cells [.str nm,.sl (nml ps),.sl (bdl bs),.i x.cnt,.rw 2,.i x.err,.i x.pos]),(2,.row 10 (fdl x.out)),(3,.cells [.str fm,.sl (nml p0),.sl (bdl b0),.sl (adl cs),.sl (adl ag),.str r0.n,.sl (Tx.avL r0.a),.i r0.o,.sl (stl bd),.i of0])] 4) (fun i=>all.length - i) 0 ⟨Nat.zero_le _,rfl⟩ (fun i=>i) ?_ ?_
  · refine ent_mk (by simp[go_sem]) (by simp[go_sem]) (by simp) (fun id hid=>⟨rfl,by omega⟩)
  rintro i ⟨hi,he⟩
  by_cases hlt:i<all.length
  case neg=>
    obtain rfl:i=all.length:=by omega
    rw[List.drop_length,twice] at he
    by_cases h8:8<all.length
    · have q:decide ((all.length:Int)>8)=true:=decide_eq_true (by omega)
      have hck:chk all of0=some (2,of0):=by rw[chk,he];simp only;rw[if_pos h8]
      rw[hck] at H
      repeat'(first|apply nx|refine zx ?_|rw[zw]|((first|refine hK _ ?_|refine hKp _ _ ?_);clear hK hKp K Kp;try clear hanc anc)|((with_reducible refine And.intro ?_ ?_);exact zb)|((first|refine zr hE fun K Kp hK hKp=>?_|refine zd true mixed hE fun K Kp hK hKp anc hanc=>?_|refine zd false mixed hE fun K Kp hK hKp anc hanc=>?_);simp only[go_sem,ge_dec,q])|(refine zg (fun hg=>?_) (fun hg=>?_)<;>simp only[go_sem,ge_dec,q,hg])|(refine zc (fun hc=>?_) (fun hc=>?_)<;>try exact zh hc))
      refine Hold.mk (RC.use1 (rfail_c x 2 of0) 0 2 10485765 (by decide) (by simp[AV.idsL,AV.ids]) (by simp[AV.renL,AV.ren]) rfl (by simp only[go_sem,updo];rfl) (by simp only[go_sem,updo]) (fun hpn g0 g2 hold=>?_))
      clear hold
      simp only[go_sem,putf]
      repeat'(first|apply nx|refine zx ?_|rw[zw]|((first|refine hK _ ?_|refine hKp _ _ ?_);clear hK hKp K Kp;try clear hanc anc)|((with_reducible refine And.intro ?_ ?_);exact zb)|((first|refine zr hE fun K Kp hK hKp=>?_|refine zd true mixed hE fun K Kp hK hKp anc hanc=>?_|refine zd false mixed hE fun K Kp hK hKp anc hanc=>?_);simp only[go_sem])|(refine zg (fun hg=>?_) (fun hg=>?_)<;>simp only[go_sem,hg])|(refine zc (fun hc=>?_) (fun hc=>?_)<;>try exact zh hc))
      refine Kq_norm_nil ?_
      refine(H _ (fun i=>if i=2 then 10485765 else i) 3 rfl ?_).2
      show Ent _ _ _ (mkSt [] [(0,.cells [.str nm,.sl (nml ps),.sl (bdl bs),.i (x.fail 2 of0).cnt,.rw 2,.i (x.fail 2 of0).err,.i (x.fail 2 of0).pos]),(2,.row 10 (fdl (x.fail 2 of0).out))] 3)
      exact ent_mk (by simp) (by simp[go_sem,g0,g2]) (by simp) (fun id hid=>⟨by rw[if_neg (by omega)],by omega⟩)
    · have q:decide ((all.length:Int)>8)=false:=decide_eq_false (by omega)
      have hck:chk all of0=none:=by rw[chk,he];simp only;rw[if_neg h8]
      rw[hck] at H
      repeat'(first|apply nx|refine zx ?_|rw[zw]|((first|refine hK _ ?_|refine hKp _ _ ?_);clear hK hKp K Kp;try clear hanc anc)|((with_reducible refine And.intro ?_ ?_);exact zb)|((first|refine zr hE fun K Kp hK hKp=>?_|refine zd true mixed hE fun K Kp hK hKp anc hanc=>?_|refine zd false mixed hE fun K Kp hK hKp anc hanc=>?_);simp only[go_sem,ge_dec,q])|(refine zg (fun hg=>?_) (fun hg=>?_)<;>simp only[go_sem,ge_dec,q,hg])|(refine zc (fun hc=>?_) (fun hc=>?_)<;>try exact zh hc))
      refine Kq_norm_nil ?_
      refine(H _ (fun i=>i) 3 rfl ?_).2
      show Ent _ _ _ (mkSt [] [(0,.cells [.str nm,.sl (nml ps),.sl (bdl bs),.i x.cnt,.rw 2,.i x.err,.i x.pos]),(2,.row 10 (fdl x.out))] 3)
      exact ent_mk (by simp) (by simp[go_sem]) (by simp) (fun id hid=>⟨rfl,by omega⟩)
  obtain⟨a,hx⟩:=get?_of hlt
  have u1:=inc_u hlt (by omega)
  rw[drop_of hx,twice,inN_rev] at he
  have ht:(all.take (i+1)).map Ad.nm=(all.take i).map Ad.nm++[a.nm]:=by rw[List.take_add_one,hx];simp
  repeat'(first|apply nx|refine zx ?_|rw[zw]|((first|refine hK _ ?_|refine hKp _ _ ?_);clear hK hKp K Kp;try clear hanc anc)|((with_reducible refine And.intro ?_ ?_);exact zb)|((first|refine zr hE fun K Kp hK hKp=>?_|refine zd true mixed hE fun K Kp hK hKp anc hanc=>?_|refine zd false mixed hE fun K Kp hK hKp anc hanc=>?_);simp only[go_sem,lt_dec hlt])|(refine zg (fun hg=>?_) (fun hg=>?_)<;>simp only[go_sem,lt_dec hlt,hg])|(refine zc (fun hc=>?_) (fun hc=>?_)<;>try exact zh hc))
  refine K_loop (X:=Nat) (fun j=>j≤i∧inN a.nm ((all.take j).map Ad.nm)=false) (fun j=>mkSt [(0,.ptr 0 0),(3,.ptr 3 0),(4,.sl (adl all)),(5,.i (i:Nat)),(6,.i (j:Nat))] [(0,.cells [.str nm,.sl (nml ps),.sl (bdl bs),.i x.cnt,.rw 2,.i x.err,.i x.pos]),(2,.row 10 (fdl x.out)),(3,.cells [.str fm,.sl (nml p0),.sl (bdl b0),.sl (adl cs),.sl (adl ag),.str r0.n,.sl (Tx.avL r0.a),.i r0.o,.sl (stl bd),.i of0])] 4) (fun j=>i - j) 0 ⟨Nat.zero_le _,rfl⟩ (fun i=>i) ?_ ?_
  · refine ent_mk (by simp[go_sem]) (by simp[go_sem]) (by simp) (fun id hid=>⟨rfl,by omega⟩)
  rintro j ⟨hj,hn⟩
  by_cases hlj:j<i
  case neg=>
    obtain rfl:j=i:=by omega
    repeat'(first|apply nx|refine zx ?_|rw[zw]|((first|refine hK _ ?_|refine hKp _ _ ?_);clear hK hKp K Kp;try clear hanc anc)|((with_reducible refine And.intro ?_ ?_);exact zb)|((first|refine zr hE fun K Kp hK hKp=>?_|refine zd true mixed hE fun K Kp hK hKp anc hanc=>?_|refine zd false mixed hE fun K Kp hK hKp anc hanc=>?_);simp only[go_sem,ge_dec,u1])|(refine zg (fun hg=>?_) (fun hg=>?_)<;>simp only[go_sem,ge_dec,u1,hg])|(refine zc (fun hc=>?_) (fun hc=>?_)<;>try exact zh hc))
    rw[if_neg (by rw[hn];decide)] at he
    refine⟨j+1,⟨hlt,?_⟩,by omega,fun i=>i,?_⟩
    · rw[he,ht,List.reverse_append];rfl
    · refine ent_mk (by simp[go_sem]) (by simp[go_sem]) (by simp) (fun id hid=>⟨rfl,by omega⟩)
  obtain⟨b,hy⟩:=get?_of (show j<all.length by omega)
  have v1:=inc_u hlj (by omega)
  have htj:(all.take (j+1)).map Ad.nm=(all.take j).map Ad.nm++[b.nm]:=by rw[List.take_add_one,hy];simp
  by_cases heq:b.nm=a.nm
  · have hd:decide (b.nm=a.nm)=true:=decide_eq_true heq
    have hin:inN a.nm ((all.take i).map Ad.nm)=true:=by
      rw[inN_iff, ← heq]
      exact List.mem_map.2 ⟨b,List.mem_of_getElem? (i:=j) (by rw[List.getElem?_take_of_lt hlj];exact hy),rfl⟩
    rw[if_pos hin] at he
    have hck:chk all of0=some (7,a.off):=by rw[chk,he]
    rw[hck] at H
    repeat'(first|apply nx|refine zx ?_|rw[zw]|((first|refine hK _ ?_|refine hKp _ _ ?_);clear hK hKp K Kp;try clear hanc anc)|((with_reducible refine And.intro ?_ ?_);exact zb)|((first|refine zr hE fun K Kp hK hKp=>?_|refine zd true mixed hE fun K Kp hK hKp anc hanc=>?_|refine zd false mixed hE fun K Kp hK hKp anc hanc=>?_);simp only[go_sem,lt_dec hlj,hx,hy,Ad.av,hd])|(refine zg (fun hg=>?_) (fun hg=>?_)<;>simp only[go_sem,lt_dec hlj,hx,hy,Ad.av,hd,hg])|(refine zc (fun hc=>?_) (fun hc=>?_)<;>try exact zh hc))
    refine Hold.mk (RC.use1 (rfail_c x 7 a.off) 0 2 20971525 (by decide) (by simp[AV.idsL,AV.ids]) (by simp[AV.renL,AV.ren]) rfl (by simp only[go_sem,updo];rfl) (by simp only[go_sem,updo]) (fun hpn g0 g2 hold=>?_))
    clear hold
    simp only[go_sem,putf]
    repeat'(first|apply nx|refine zx ?_|rw[zw]|((first|refine hK _ ?_|refine hKp _ _ ?_);clear hK hKp K Kp;try clear hanc anc)|((with_reducible refine And.intro ?_ ?_);exact zb)|((first|refine zr hE fun K Kp hK hKp=>?_|refine zd true mixed hE fun K Kp hK hKp anc hanc=>?_|refine zd false mixed hE fun K Kp hK hKp anc hanc=>?_);simp only[go_sem])|(refine zg (fun hg=>?_) (fun hg=>?_)<;>simp only[go_sem,hg])|(refine zc (fun hc=>?_) (fun hc=>?_)<;>try exact zh hc))
    refine K_ret (H _ (fun i=>if i=2 then 20971525 else i) 3 rfl ?_).1
    show Ent _ _ _ (mkSt [] [(0,.cells [.str nm,.sl (nml ps),.sl (bdl bs),.i (x.fail 7 a.off).cnt,.rw 2,.i (x.fail 7 a.off).err,.i (x.fail 7 a.off).pos]),(2,.row 10 (fdl (x.fail 7 a.off).out))] 3)
    exact ent_mk (by simp) (by simp[go_sem,g0,g2]) (by simp) (fun id hid=>⟨by rw[if_neg (by omega)],by omega⟩)
  · have hd:decide (b.nm=a.nm)=false:=decide_eq_false heq
    repeat'(first|apply nx|refine zx ?_|rw[zw]|((first|refine hK _ ?_|refine hKp _ _ ?_);clear hK hKp K Kp;try clear hanc anc)|((with_reducible refine And.intro ?_ ?_);exact zb)|((first|refine zr hE fun K Kp hK hKp=>?_|refine zd true mixed hE fun K Kp hK hKp anc hanc=>?_|refine zd false mixed hE fun K Kp hK hKp anc hanc=>?_);simp only[go_sem,lt_dec hlj,hx,hy,Ad.av,hd,v1])|(refine zg (fun hg=>?_) (fun hg=>?_)<;>simp only[go_sem,lt_dec hlj,hx,hy,Ad.av,hd,v1,hg])|(refine zc (fun hc=>?_) (fun hc=>?_)<;>try exact zh hc))
    refine⟨j+1,⟨hlj,?_⟩,by omega,fun i=>i,?_⟩
    · rw[htj,inN_app,hn,inN_cons]
      simp[heq,inN]
    · refine ent_mk (by simp[go_sem]) (by simp[go_sem]) (by simp) (fun id hid=>⟨rfl,by omega⟩)
theorem rcheck_c (x : Ls) (fm : Nm) (p0 : List Nm) (b0 : List Bd) (cs ag : List Ad) (r0 : Tx) (bd : List Lf.St) (of0 : Int) (hc : cs.length ≤ 2 ^ 20) (ha : ag.length ≤ 2 ^ 20) :
    RC 69 [.ptr 0 0,(Lf.Fd.mk fm p0 b0 cs ag r0 bd of0).av] (objR nm ps bs []) 3 1 x (.tup []) (x.failO (chk (cs++ag) of0)):=by
  rw[Fd.av]
  exact RC.intro (by rfl) Tryd.func69 isf69 rfl (by simp[Tryd.f69]) fun E Q hE hN hQ=>rcheck_a hE hN x fm p0 b0 cs ag r0 bd of0 hc ha hQ
end Go.Proofs.YtffmphmiicnaeaaDoor

set_option maxHeartbeats 4000000
set_option maxRecDepth 100000
namespace Go.Proofs.YtffmphmiicnaeaaDoor
open Go.Am Go.Proofs Go.Lf
open Classical
attribute [local irreducible] AW CallP CallB
variable {nm:Nm} {ps:List Nm} {bs:List Bd} {E:En} {Q:AEx→Am.St→Prop}
noncomputable def b51:Code:=Tryd.f51.body.getD .skip
noncomputable def rst5:Code:=sq2 (sq2 (sq2 (sq2 (sq2 b51))))
theorem rloc_a (hE : E.nt = Tryd.f51.ntmps) (hnp : E.np ≤ 1) {fm : Nm} {p0 : List Nm} {b0 : List Bd} {c0 a0 : List Ad} {r0 : Tx} {bd : List Lf.St} {of0 : Int} {y z : Ls} (hs : (Lf.Fd.mk fm p0 b0 c0 a0 r0 bd of0).sz ≤ 1000) (hy : y.cnt ≤ 2 ^ 20) (hn1 : nm.size ≤ 2 ^ 41) (hn2 : fm.size ≤ 2 ^ 40)
    (hz:z=(⟨y.cnt+1,y.out,y.err,y.pos⟩:Ls).failO (chk (c0++a0) of0))
    (H:AW Tryd.prog E (sq1 (sq1 rst5)) (Kq Tryd.prog E [.code (sq2 (sq1 rst5)),.code (sq2 rst5)] Q) (mkSt [(0,.ptr 0 0),(3,.ptr 3 0),(4,.ptr 4 0),(5,.str (nm++dot++dec y.cnt++dot++fm)),(6,.ptr 5 0)] [(0,.cells [.str nm,.sl (nml ps),.sl (bdl bs),.i z.cnt,.rw 2,.i z.err,.i z.pos]),(2,.row 10 (fdl z.out)),(3,.cells [.str fm,.sl (nml p0),.sl (bdl b0),.sl (adl c0),.sl (adl a0),.str r0.n,.sl (Tx.avL r0.a),.i r0.o,.sl (stl bd),.i of0]),(4,.cells [.str ⟨#[]⟩,.str ⟨#[]⟩,.nilsl]),(5,.cells [.str (nm++dot++dec y.cnt++dot++fm),.nilsl,.nilsl,.nilsl,.nilsl,.str r0.n,.sl (Tx.avL r0.a),.i r0.o,.nilsl,.i of0])] 6)):
    AW Tryd.prog E b51 (Kq Tryd.prog E [] Q) ⟨mkPar 0 [.ptr 0 0,(Lf.Fd.mk fm p0 b0 c0 a0 r0 bd of0).av],objR nm ps bs [] y,3⟩:=by
  rw[Fd.sz] at hs
  have hc0:=ad_len c0
  have ha0:=ad_len a0
  have ck:=rcheck_c (nm:=nm) (ps:=ps) (bs:=bs) ⟨y.cnt+1,y.out,y.err,y.pos⟩ fm p0 b0 c0 a0 r0 bd of0 (by omega) (by omega)
  rw[← hz] at ck
  have ci:=decimal_c (y.cnt+1) y.cnt (by omega) (by omega)
  have hdl:=dec_len y.cnt (by omega)
  have hd0:(#[46]:Array UInt8).size=1:=rfl
  have u1:IntKind.i64.wrap ((y.cnt:Int)+1)=((y.cnt+1:Nat):Int):=by rw[wrap64 (by omega) (by omega)];omega
  rw[Fd.av] at ck ⊢
  unfold objR
  simp only[List.append_nil]
  simp only[b51,Tryd.f51,Option.getD,rst5,sq1,sq2] at H ⊢
  repeat'(first|apply nx|refine zx ?_|rw[zw]|((first|refine hK _ ?_|refine hKp _ _ ?_);clear hK hKp K Kp;try clear hanc anc)|((with_reducible refine And.intro ?_ ?_);exact zb)|((first|refine zr hE fun K Kp hK hKp=>?_|refine zd true mixed hE fun K Kp hK hKp anc hanc=>?_|refine zd false mixed hE fun K Kp hK hKp anc hanc=>?_|(apply zm;exact zu;exact ci;exact zs;exact zl));simp only[go_sem,u1])|(refine zg (fun hg=>?_) (fun hg=>?_)<;>simp only[go_sem,u1,hg])|(refine zc (fun hc=>?_) (fun hc=>?_)<;>try exact zh hc))
  refine Hold.mk (RC.use1 ck 0 2 29360132 (by decide) (by simp[AV.idsL,AV.ids,go_sem]) (by simp[AV.renL,AV.ren,go_sem]) (by rfl) (by simp only[go_sem,updo]) (by simp only[go_sem,updo]) (fun hpn g0 g2 hold=>?_))
  have g3:=hold 3 (.cells [.str fm,.sl (nml p0),.sl (bdl b0),.sl (adl c0),.sl (adl a0),.str r0.n,.sl (Tx.avL r0.a),.i r0.o,.sl (stl bd),.i of0]) (by decide) (by decide) (by simp only[go_sem,updo])
  have g4:=hold 1048579 (.cells [.str ⟨#[]⟩,.str ⟨#[]⟩,.nilsl]) (by decide) (by decide) (by simp only[go_sem,updo])
  clear hold
  simp only[go_sem,putf]
  repeat'(first|apply nx|refine zx ?_|rw[zw]|((first|refine hK _ ?_|refine hKp _ _ ?_);clear hK hKp K Kp;try clear hanc anc)|((with_reducible refine And.intro ?_ ?_);exact zb)|((fail_if_success refine K_stop 5 ?_);(first|refine zr hE fun K Kp hK hKp=>?_|refine zd true mixed hE fun K Kp hK hKp anc hanc=>?_|refine zd false mixed hE fun K Kp hK hKp anc hanc=>?_);simp only[go_sem,g0,g2,g3,g4])|(refine zg (fun hg=>?_) (fun hg=>?_)<;>simp only[go_sem,g0,g2,g3,g4,hg])|(refine zc (fun hc=>?_) (fun hc=>?_)<;>try exact zh hc))
  refine AW.ent (fun i=>if i=2 then 29360132 else if i=4 then 1048579 else if i=5 then 36700163 else i) ?_ H
  refine ent_mk (by simp[go_sem,dot]) ?_ (by simp) (fun id hid=>⟨by rw[if_neg (by omega),if_neg (by omega),if_neg (by omega)],by omega⟩)
  simp[go_sem,g0,g2,g3,g4,dot]
end Go.Proofs.YtffmphmiicnaeaaDoor

set_option maxHeartbeats 4000000
set_option maxRecDepth 100000
namespace Go.Proofs.YtffmphmiicnaeaaDoor
open Go.Am Go.Proofs Go.Lf
open Classical
attribute [local irreducible] AW CallP CallB
variable {nm:Nm} {ps:List Nm} {bs:List Bd} {E:En} {Q:AEx→Am.St→Prop}
def INl (L0 F0 V0:List AV) (O:List Lf.Fd) (ps L:List Nm) (li p:Nm) (N0:List AV) (i:Nat) (D:Nat→Bool) (σ:Go.Am.St):Prop:=
 σ.nx=7∧σ.fr 0=some (.ptr 0 0)∧σ.fr 3=some (.ptr 3 0)∧σ.fr 4=some (.ptr 4 0)∧σ.fr 5=some (.str li)∧σ.fr 6=some (.ptr 5 0)∧σ.fr 7=some (.i i)∧σ.hp 0=some (.cells L0)∧σ.hp 2=some (.row 10 (fdl O))∧σ.hp 3=some (.cells F0)∧σ.hp 4=some (.cells V0)∧(D 12=false→σ.hp 5=some (.cells (.str li:: .rw 6::N0)))∧(D 10=false→σ.hp 6=some (.row 1 (nml L)))∧(D 0=true→σ.fr 61=some (.ptr 5 1))∧(D 1=true→σ.fr 62=some (.rw 6))∧(D 2=true→σ.fr 63=some (.ptr 0 0))∧(D 3=true→σ.fr 64=some (.ptr 0 0))∧(D 4=true→σ.fr 65=some (.ptr 0 1))∧(D 5=true→σ.fr 66=some (.sl (nml ps)))∧(D 6=true→σ.fr 67=some (.i i))∧(D 7=true→σ.fr 68=some (.eptr (.str p) 0))∧(D 8=true→σ.fr 69=some (.str p))∧(D 9=true→σ.fr 70=some (.rw 9437191))∧(D 10=true→σ.fr 71=some (.rw 10485767))∧(D 11=true→σ.fr 72=some (.ptr 5 1))∧(D 9=true→σ.hp 9437191=some (.row 1 [.str p]))∧(D 10=true→σ.hp 10485767=some (.row 1 (nml L++[.str p])))∧(D 12=true→σ.hp 5=some (.cells (.str li:: .rw 10485767::N0)))∧(D 12=true→D 1=true)
theorem rloc_b (hE : E.nt = Tryd.f51.ntmps) (hnp : E.np ≤ 1) {fm li : Nm} {p0 : List Nm} {b0 : List Bd} {c0 a0 : List Ad} {r0 : Tx} {bd : List Lf.St} {of0 : Int} {z : Ls} (hs : (Lf.Fd.mk fm p0 b0 c0 a0 r0 bd of0).sz ≤ 1000) (hps : ps.length ≤ 1000)
    (H:AW Tryd.prog E (sq1 (sq1 (sq2 rst5))) (Kq Tryd.prog E [.code (sq2 (sq1 (sq2 rst5))),.code (sq2 (sq2 rst5))] Q) (mkSt [(0,.ptr 0 0),(3,.ptr 3 0),(4,.ptr 4 0),(5,.str li),(6,.ptr 5 0)] [(0,.cells [.str nm,.sl (nml ps),.sl (bdl bs),.i z.cnt,.rw 2,.i z.err,.i z.pos]),(2,.row 10 (fdl z.out)),(3,.cells [.str fm,.sl (nml p0),.sl (bdl b0),.sl (adl c0),.sl (adl a0),.str r0.n,.sl (Tx.avL r0.a),.i r0.o,.sl (stl bd),.i of0]),(4,.cells [.str ⟨#[]⟩,.str ⟨#[]⟩,.nilsl]),(5,.cells [.str li,.sl (nml (ps.filter fun p=>inN p (Lf.Fd.mk fm p0 b0 c0 a0 r0 bd of0).nms)),.nilsl,.nilsl,.nilsl,.str r0.n,.sl (Tx.avL r0.a),.i r0.o,.nilsl,.i of0])] 6)):
    AW Tryd.prog E (sq1 (sq1 rst5)) (Kq Tryd.prog E [.code (sq2 (sq1 rst5)),.code (sq2 rst5)] Q) (mkSt [(0,.ptr 0 0),(3,.ptr 3 0),(4,.ptr 4 0),(5,.str li),(6,.ptr 5 0)] [(0,.cells [.str nm,.sl (nml ps),.sl (bdl bs),.i z.cnt,.rw 2,.i z.err,.i z.pos]),(2,.row 10 (fdl z.out)),(3,.cells [.str fm,.sl (nml p0),.sl (bdl b0),.sl (adl c0),.sl (adl a0),.str r0.n,.sl (Tx.avL r0.a),.i r0.o,.sl (stl bd),.i of0]),(4,.cells [.str ⟨#[]⟩,.str ⟨#[]⟩,.nilsl]),(5,.cells [.str li,.nilsl,.nilsl,.nilsl,.nilsl,.str r0.n,.sl (Tx.avL r0.a),.i r0.o,.nilsl,.i of0])] 6):=by
  have hm70:=fun p=>ment70 (N:=2 ^ 39) (Nat.le_refl _) (fun l n h=>ment81 _ l n h (Nat.le_refl _)) (.mk fm p0 b0 c0 a0 r0 bd of0) p (by omega)
  generalize hpr:(fun p=>inN p (Lf.Fd.mk fm p0 b0 c0 a0 r0 bd of0).nms)=pr at H
  have hmp:∀ p,PCall Tryd.prog 70 [.agg [.str fm,.sl (nml p0),.sl (bdl b0),.sl (adl c0),.sl (adl a0),.str r0.n,.sl (Tx.avL r0.a),.i r0.o,.sl (stl bd),.i of0],.str p] (.bool (pr p)):=fun p=>by
    have:=hm70 p
    rw[Fd.av] at this
    rw[← hpr]
    exact this
  clear hm70 hpr hs
  simp only[b51,Tryd.f51,Option.getD,rst5,sq1,sq2] at H ⊢
  refine AW_nilc 5 1 1 (by simp[go_sem];rfl) rfl ?_
  repeat'(first|apply nx|refine zx ?_|rw[zw]|((first|refine hK _ ?_|refine hKp _ _ ?_);clear hK hKp K Kp;try clear hanc anc)|((with_reducible refine And.intro ?_ ?_);exact zb)|((first|refine zr hE fun K Kp hK hKp=>?_|refine zd true mixed hE fun K Kp hK hKp anc hanc=>?_|refine zd false mixed hE fun K Kp hK hKp anc hanc=>?_);simp only[go_sem])|(refine zg (fun hg=>?_) (fun hg=>?_)<;>simp only[go_sem,hg])|(refine zc (fun hc=>?_) (fun hc=>?_)<;>try exact zh hc))
  refine K_loop (X:=Nat) (fun i=>i≤ps.length) (fun i=>mkSt [(0,.ptr 0 0),(3,.ptr 3 0),(4,.ptr 4 0),(5,.str li),(6,.ptr 5 0),(7,.i (i:Nat))] [(0,.cells [.str nm,.sl (nml ps),.sl (bdl bs),.i z.cnt,.rw 2,.i z.err,.i z.pos]),(2,.row 10 (fdl z.out)),(3,.cells [.str fm,.sl (nml p0),.sl (bdl b0),.sl (adl c0),.sl (adl a0),.str r0.n,.sl (Tx.avL r0.a),.i r0.o,.sl (stl bd),.i of0]),(4,.cells [.str ⟨#[]⟩,.str ⟨#[]⟩,.nilsl]),(5,.cells [.str li,.rw 6,.nilsl,.nilsl,.nilsl,.str r0.n,.sl (Tx.avL r0.a),.i r0.o,.nilsl,.i of0]),(6,.row 1 (nml ((ps.take i).filter pr)))] 7) (fun i=>ps.length - i) 0 (Nat.zero_le _) (fun i=>i) ?_ ?_
  · exact ent_mk (by simp[go_sem]) (by simp[go_sem,nml]) (by simp) (fun id hid=>⟨rfl,by omega⟩)
  rintro i hi
  by_cases hlt:i<ps.length
  case neg=>
    obtain rfl:i=ps.length:=by omega
    rw[List.take_length]
    repeat'(first|apply nx|refine zx ?_|rw[zw]|((first|refine hK _ ?_|refine hKp _ _ ?_);clear hK hKp K Kp;try clear hanc anc)|((with_reducible refine And.intro ?_ ?_);exact zb)|((fail_if_success refine K_stop 10 ?_);(first|refine zr hE fun K Kp hK hKp=>?_|refine zd true mixed hE fun K Kp hK hKp anc hanc=>?_|refine zd false mixed hE fun K Kp hK hKp anc hanc=>?_);simp only[go_sem,ge_dec])|(refine zg (fun hg=>?_) (fun hg=>?_)<;>simp only[go_sem,ge_dec,hg])|(refine zc (fun hc=>?_) (fun hc=>?_)<;>try exact zh hc))
    refine AW.ent (σ':=mkSt [(0,.ptr 0 0),(3,.ptr 3 0),(4,.ptr 4 0),(5,.str li),(6,.ptr 5 0)] [(0,.cells [.str nm,.sl (nml ps),.sl (bdl bs),.i z.cnt,.rw 2,.i z.err,.i z.pos]),(2,.row 10 (fdl z.out)),(3,.cells [.str fm,.sl (nml p0),.sl (bdl b0),.sl (adl c0),.sl (adl a0),.str r0.n,.sl (Tx.avL r0.a),.i r0.o,.sl (stl bd),.i of0]),(4,.cells [.str ⟨#[]⟩,.str ⟨#[]⟩,.nilsl]),(5,.cells [.str li,.rw 6,.nilsl,.nilsl,.nilsl,.str r0.n,.sl (Tx.avL r0.a),.i r0.o,.nilsl,.i of0]),(6,.row 1 (nml (ps.filter pr)))] 7) (fun i=>i) ?_ ?_
    · exact ent_mk (by simp[go_sem]) (by simp[go_sem]) (by simp) (fun id hid=>⟨rfl,by omega⟩)
    refine AW_frzCell 5 1 6 (xs:=nml (ps.filter pr)) (by simp only[go_sem];rfl) rfl (by simp only[go_sem];rfl) (by decide) (nml_clor _) ?_
    refine AW.ent (fun i=>i) ?_ H
    exact ent_mk (by simp[go_sem]) (by simp[go_sem]) (by simp) (fun id hid=>⟨rfl,by omega⟩)
  obtain⟨p,hx⟩:=get?_of hlt
  have u1:=inc_u hlt (by omega)
  have c:=hmp p
  have ht:(ps.take (i+1)).filter pr=(ps.take i).filter pr++(if pr p=true then [p] else []):=by
    rw[List.take_add_one,hx,List.filter_append]
    congr 1
    simp only[Option.toList,List.filter_cons,List.filter_nil]
  have hln:((ps.take i).filter pr).length≤1000:=by
    have h1:=List.length_filter_le pr (ps.take i)
    rw[List.length_take] at h1
    omega
  cases hb:pr p with
  |false=>
    rw[hb] at c ht
    rw[if_neg (by decide),List.append_nil] at ht
    repeat'(first|apply nx|refine zx ?_|rw[zw]|((first|refine hK _ ?_|refine hKp _ _ ?_);clear hK hKp K Kp;try clear hanc anc)|((with_reducible refine And.intro ?_ ?_);exact zb)|((first|refine zr hE fun K Kp hK hKp=>?_|refine zd true mixed hE fun K Kp hK hKp anc hanc=>?_|refine zd false mixed hE fun K Kp hK hKp anc hanc=>?_|(apply zm;exact zu;exact c;exact zs;exact zl));simp only[go_sem,lt_dec hlt,hx,u1])|(refine zg (fun hg=>?_) (fun hg=>?_)<;>simp only[go_sem,lt_dec hlt,hx,u1,hg])|(refine zc (fun hc=>?_) (fun hc=>?_)<;>try exact zh hc))
    refine⟨i+1,hlt,by omega,fun i=>i,?_⟩
    rw[ht]
    exact ent_mk (by simp[go_sem]) (by simp[go_sem]) (by simp) (fun id hid=>⟨rfl,by omega⟩)
  |true=>
    rw[hb] at c ht
    rw[if_pos rfl] at ht
    repeat'(first|apply nx|refine zx ?_|rw[zw]|((first|refine hK _ ?_|refine hKp _ _ ?_);clear hK hKp K Kp;try clear hanc anc)|((with_reducible refine And.intro ?_ ?_);exact zb)|((fail_if_success refine K_stop 9 ?_);(first|refine zr hE fun K Kp hK hKp=>?_|refine zd true mixed hE fun K Kp hK hKp anc hanc=>?_|refine zd false mixed hE fun K Kp hK hKp anc hanc=>?_|(apply zm;exact zu;exact c;exact zs;exact zl));simp only[go_sem,lt_dec hlt,hx,u1])|(refine zg (fun hg=>?_) (fun hg=>?_)<;>simp only[go_sem,lt_dec hlt,hx,u1,hg])|(refine zc (fun hc=>?_) (fun hc=>?_)<;>try exact zh hc))
    refine AW.ent (σ':=mkSt [(0,.ptr 0 0),(3,.ptr 3 0),(4,.ptr 4 0),(5,.str li),(6,.ptr 5 0),(7,.i i)] [(0,.cells [.str nm,.sl (nml ps),.sl (bdl bs),.i z.cnt,.rw 2,.i z.err,.i z.pos]),(2,.row 10 (fdl z.out)),(3,.cells [.str fm,.sl (nml p0),.sl (bdl b0),.sl (adl c0),.sl (adl a0),.str r0.n,.sl (Tx.avL r0.a),.i r0.o,.sl (stl bd),.i of0]),(4,.cells [.str ⟨#[]⟩,.str ⟨#[]⟩,.nilsl]),(5,.cells [.str li,.rw 6,.nilsl,.nilsl,.nilsl,.str r0.n,.sl (Tx.avL r0.a),.i r0.o,.nilsl,.i of0]),(6,.row 1 (nml ((ps.take i).filter pr)))] 7) (fun i=>i) ?_ ?_
    · exact ent_mk (by simp[go_sem]) (by simp[go_sem]) (by simp) (fun id hid=>⟨rfl,by omega⟩)
    generalize hL:(ps.take i).filter pr=L at ht hln ⊢
    repeat(first|apply w1|apply w2)
    refine K_inv (n:=13) (INl [.str nm,.sl (nml ps),.sl (bdl bs),.i z.cnt,.rw 2,.i z.err,.i z.pos] [.str fm,.sl (nml p0),.sl (bdl b0),.sl (adl c0),.sl (adl a0),.str r0.n,.sl (Tx.avL r0.a),.i r0.o,.sl (stl bd),.i of0] [.str ⟨#[]⟩,.str ⟨#[]⟩,.nilsl] z.out ps L li p [.nilsl,.nilsl,.nilsl,.str r0.n,.sl (Tx.avL r0.a),.i r0.o,.nilsl,.i of0] i) mixed hE ?_ ?_ (fun Kp hKp=>?_) ?_ rfl
    · intro D D' σ h
      have:=fun j=>(h j).symm
      unfold INl
      simp only[this]
      exact fun h=>h
    · simp[INl,go_sem,hx]
    · refine⟨?_,?_,?_,?_,?_,?_,?_,?_,?_,?_,?_,?_,?_,trivial⟩
      all_goals rintro D' ⟨fr,hp,nx⟩ hD' hr ⟨hn,f0,f3,f4,f5,f6,f7,h0,h2,h3,h4,h5,h6,d0,d1,d2,d3,d4,d5,d6,d7,d8,d9,d10,d11,e9,e10,s12,o12_1⟩
      all_goals simp[Region.binds] at hn f0 f3 f4 f5 f6 f7 h0 h2 h3 h4 h5 h6 d0 d1 d2 d3 d4 d5 d6 d7 d8 d9 d10 d11 e9 e10 s12 o12_1 hD' hr
      all_goals subst hn
      all_goals try clear H
      · skip
        simp only[go_sem,f6,hx]
        (simp only[INl,upd,updo];simp[f0,f3,f4,f5,f6,f7,h0,h2,h3,h4];simp_all)
      · skip
        have zd0:=d0 (by first|(simp[hr,hD'];done)|(cases hq:D' 0<;>simp_all))
        have zh5:=h5 (by first|(simp[hr,hD'];done)|(cases hq:D' 12<;>simp_all))
        simp only[go_sem,zd0,zh5,hx]
        (simp only[INl,upd,updo];simp[f0,f3,f4,f5,f6,f7,h0,h2,h3,h4];simp_all)
      · skip
        simp only[go_sem,f0,hx]
        (simp only[INl,upd,updo];simp[f0,f3,f4,f5,f6,f7,h0,h2,h3,h4];simp_all)
      · skip
        have zd2:=d2 (by first|(simp[hr,hD'];done)|(cases hq:D' 2<;>simp_all))
        simp only[go_sem,zd2,hx]
        (simp only[INl,upd,updo];simp[f0,f3,f4,f5,f6,f7,h0,h2,h3,h4];simp_all)
      · skip
        have zd3:=d3 (by first|(simp[hr,hD'];done)|(cases hq:D' 3<;>simp_all))
        simp only[go_sem,zd3,hx]
        (simp only[INl,upd,updo];simp[f0,f3,f4,f5,f6,f7,h0,h2,h3,h4];simp_all)
      · skip
        have zd4:=d4 (by first|(simp[hr,hD'];done)|(cases hq:D' 4<;>simp_all))
        simp only[go_sem,zd4,h0,hx]
        (simp only[INl,upd,updo];simp[f0,f3,f4,f5,f6,f7,h0,h2,h3,h4];simp_all)
      · skip
        simp only[go_sem,f7,hx]
        (simp only[INl,upd,updo];simp[f0,f3,f4,f5,f6,f7,h0,h2,h3,h4];simp_all)
      · skip
        have zd5:=d5 (by first|(simp[hr,hD'];done)|(cases hq:D' 5<;>simp_all))
        have zd6:=d6 (by first|(simp[hr,hD'];done)|(cases hq:D' 6<;>simp_all))
        simp only[go_sem,zd5,zd6,hx]
        (simp only[INl,upd,updo];simp[f0,f3,f4,f5,f6,f7,h0,h2,h3,h4];simp_all)
      · skip
        have zd7:=d7 (by first|(simp[hr,hD'];done)|(cases hq:D' 7<;>simp_all))
        simp only[go_sem,zd7,hx]
        (simp only[INl,upd,updo];simp[f0,f3,f4,f5,f6,f7,h0,h2,h3,h4];simp_all)
      · skip
        have zd8:=d8 (by first|(simp[hr,hD'];done)|(cases hq:D' 8<;>simp_all))
        simp only[go_sem,zd8,hx]
        (simp only[INl,upd,updo];simp[f0,f3,f4,f5,f6,f7,h0,h2,h3,h4];simp_all)
      · skip
        have zd1:=d1 (by first|(simp[hr,hD'];done)|(cases hq:D' 1<;>simp_all))
        have zd9:=d9 (by first|(simp[hr,hD'];done)|(cases hq:D' 9<;>simp_all))
        have zh6:=h6 (by first|(simp[hr,hD'];done)|(cases hq:D' 10<;>simp_all))
        have ze9:=e9 (by first|(simp[hr,hD'];done)|(cases hq:D' 9<;>simp_all))
        simp only[go_sem,zd1,zd9,zh6,ze9,hx]
        refine⟨by simp only[Fits,nml_ln,List.length_cons,List.length_nil];omega,?_⟩
        (simp only[INl,upd,updo];simp[f0,f3,f4,f5,f6,f7,h0,h2,h3,h4];simp_all)
      · skip
        simp only[go_sem,f6,hx]
        (simp only[INl,upd,updo];simp[f0,f3,f4,f5,f6,f7,h0,h2,h3,h4];simp_all)
      · skip
        have zd11:=d11 (by first|(simp[hr,hD'];done)|(cases hq:D' 11<;>simp_all))
        have zd10:=d10 (by first|(simp[hr,hD'];done)|(cases hq:D' 10<;>simp_all))
        have zh5:=h5 (by first|(simp[hr,hD'];done)|(cases hq:D' 12<;>simp_all))
        simp only[go_sem,zd11,zd10,zh5,hx]
        (simp only[INl,upd,updo];simp[f0,f3,f4,f5,f6,f7,h0,h2,h3,h4];simp_all)
    rintro⟨fr,hp,nx⟩ D' hD' ⟨hn,f0,f3,f4,f5,f6,f7,h0,h2,h3,h4,h5,h6,d0,d1,d2,d3,d4,d5,d6,d7,d8,d9,d10,d11,e9,e10,s12,o12_1⟩
    simp only at hn f0 f3 f4 f5 f6 f7 h0 h2 h3 h4 h5 h6 d0 d1 d2 d3 d4 d5 d6 d7 d8 d9 d10 d11 e9 e10 s12 o12_1
    have zd0:=d0 (hD' 0)
    have zd1:=d1 (hD' 1)
    have zd2:=d2 (hD' 2)
    have zd3:=d3 (hD' 3)
    have zd4:=d4 (hD' 4)
    have zd5:=d5 (hD' 5)
    have zd6:=d6 (hD' 6)
    have zd7:=d7 (hD' 7)
    have zd8:=d8 (hD' 8)
    have zd9:=d9 (hD' 9)
    have zd10:=d10 (hD' 10)
    have zd11:=d11 (hD' 11)
    have ze9:=e9 (hD' 9)
    have ze10:=e10 (hD' 10)
    have zs12:=s12 (hD' 12)
    have eL:nml L++[.str p]=nml (L++[p]):=by simp[nml]
    rw[eL] at ze10
    repeat(first|refine Kq_norm_code ?_|refine Kq_norm_blk ?_)
    refine AW.ent (σ':=mkSt [(0,.ptr 0 0),(3,.ptr 3 0),(4,.ptr 4 0),(5,.str li),(6,.ptr 5 0),(7,.i i)] [(0,.cells [.str nm,.sl (nml ps),.sl (bdl bs),.i z.cnt,.rw 2,.i z.err,.i z.pos]),(2,.row 10 (fdl z.out)),(3,.cells [.str fm,.sl (nml p0),.sl (bdl b0),.sl (adl c0),.sl (adl a0),.str r0.n,.sl (Tx.avL r0.a),.i r0.o,.sl (stl bd),.i of0]),(4,.cells [.str ⟨#[]⟩,.str ⟨#[]⟩,.nilsl]),(5,.cells [.str li,.rw 6,.nilsl,.nilsl,.nilsl,.str r0.n,.sl (Tx.avL r0.a),.i r0.o,.nilsl,.i of0]),(6,.row 1 (nml (L++[p])))] 7) (fun i=>if i=6 then 10485767 else i) ?_ ?_
    · refine ent_mk (by simp[go_sem,f0,f3,f4,f5,f6,f7]) ?_ (by simp) (fun id hid=>⟨by rw[if_neg (by omega)],by omega⟩)
      simp[go_sem,h0,h2,h3,h4,zs12,ze10]
    clear zs12 ze10 zd0 zd1 zd2 zd3 zd4 zd5 zd6 zd7 zd8 zd9 zd10 zd11 f0 f3 f4 f5 f6 f7 h0 h2 h3 h4 h5 h6 d0 d1 d2 d3 d4 d5 d6 d7 d8 d9 d10 d11 e9 e10 s12 hD' hn
    clear nx
    repeat'(first|apply nx|refine zx ?_|rw[zw]|((first|refine hK _ ?_|refine hKp _ _ ?_);clear hK hKp K Kp;try clear hanc anc)|((with_reducible refine And.intro ?_ ?_);exact zb)|((first|refine zr hE fun K Kp hK hKp=>?_|refine zd true mixed hE fun K Kp hK hKp anc hanc=>?_|refine zd false mixed hE fun K Kp hK hKp anc hanc=>?_);simp only[go_sem,u1])|(refine zg (fun hg=>?_) (fun hg=>?_)<;>simp only[go_sem,u1,hg])|(refine zc (fun hc=>?_) (fun hc=>?_)<;>try exact zh hc))
    refine⟨i+1,hlt,by omega,fun i=>i,?_⟩
    rw[ht]
    exact ent_mk (by simp[go_sem]) (by simp[go_sem]) (by simp) (fun id hid=>⟨rfl,by omega⟩)
end Go.Proofs.YtffmphmiicnaeaaDoor

set_option maxHeartbeats 4000000
set_option maxRecDepth 100000
namespace Go.Proofs.YtffmphmiicnaeaaDoor
open Go.Am Go.Proofs Go.Lf
open Classical
attribute [local irreducible] AW CallP CallB
variable {nm:Nm} {ps:List Nm} {bs:List Bd} {E:En} {Q:AEx→Am.St→Prop}
def INm (L0 F0 V0:List AV) (O:List Lf.Fd) (bs L:List Bd) (li:Nm) (PS:List Nm) (bp bt:Nm) (bo:Int) (N0:List AV) (i:Nat) (D:Nat→Bool) (σ:Go.Am.St):Prop:=
 σ.nx=7∧σ.fr 0=some (.ptr 0 0)∧σ.fr 3=some (.ptr 3 0)∧σ.fr 4=some (.ptr 4 0)∧σ.fr 5=some (.str li)∧σ.fr 6=some (.ptr 5 0)∧σ.fr 8=some (.i i)∧σ.hp 0=some (.cells L0)∧σ.hp 2=some (.row 10 (fdl O))∧σ.hp 3=some (.cells F0)∧σ.hp 4=some (.cells V0)∧(D 12=false→σ.hp 5=some (.cells (.str li:: .sl (nml PS):: .rw 6::N0)))∧(D 10=false→σ.hp 6=some (.row 3 (bdl L)))∧(D 0=true→σ.fr 103=some (.ptr 5 2))∧(D 1=true→σ.fr 104=some (.rw 6))∧(D 2=true→σ.fr 105=some (.ptr 0 0))∧(D 3=true→σ.fr 106=some (.ptr 0 0))∧(D 4=true→σ.fr 107=some (.ptr 0 2))∧(D 5=true→σ.fr 108=some (.sl (bdl bs)))∧(D 6=true→σ.fr 109=some (.i i))∧(D 7=true→σ.fr 110=some (.eptr (.agg [.str bp,.str bt,.i bo]) 0))∧(D 8=true→σ.fr 111=some (.agg [.str bp,.str bt,.i bo]))∧(D 9=true→σ.fr 112=some (.rw 9437191))∧(D 10=true→σ.fr 113=some (.rw 10485767))∧(D 11=true→σ.fr 114=some (.ptr 5 2))∧(D 9=true→σ.hp 9437191=some (.row 3 [.agg [.str bp,.str bt,.i bo]]))∧(D 10=true→σ.hp 10485767=some (.row 3 (bdl L++[.agg [.str bp,.str bt,.i bo]])))∧(D 12=true→σ.hp 5=some (.cells (.str li:: .sl (nml PS):: .rw 10485767::N0)))∧(D 12=true→D 1=true)
theorem rloc_c (hE : E.nt = Tryd.f51.ntmps) (hnp : E.np ≤ 1) {fm li : Nm} {p0 PS : List Nm} {b0 : List Bd} {c0 a0 : List Ad} {r0 : Tx} {bd : List Lf.St} {of0 : Int} {z : Ls} (hPS : PS.length ≤ 1000) (hbs : bs.length ≤ 1000)
    (H:AW Tryd.prog E (sq1 (sq1 (sq2 (sq2 rst5)))) (Kq Tryd.prog E [.code (sq2 (sq1 (sq2 (sq2 rst5)))),.code (sq2 (sq2 (sq2 rst5)))] Q) (mkSt [(0,.ptr 0 0),(3,.ptr 3 0),(4,.ptr 4 0),(5,.str li),(6,.ptr 5 0)] [(0,.cells [.str nm,.sl (nml ps),.sl (bdl bs),.i z.cnt,.rw 2,.i z.err,.i z.pos]),(2,.row 10 (fdl z.out)),(3,.cells [.str fm,.sl (nml p0),.sl (bdl b0),.sl (adl c0),.sl (adl a0),.str r0.n,.sl (Tx.avL r0.a),.i r0.o,.sl (stl bd),.i of0]),(4,.cells [.str ⟨#[]⟩,.str ⟨#[]⟩,.nilsl]),(5,.cells [.str li,.sl (nml PS),.sl (bdl (bs.filter fun b=>inN b.p PS)),.nilsl,.nilsl,.str r0.n,.sl (Tx.avL r0.a),.i r0.o,.nilsl,.i of0])] 6)):
    AW Tryd.prog E (sq1 (sq1 (sq2 rst5))) (Kq Tryd.prog E [.code (sq2 (sq1 (sq2 rst5))),.code (sq2 (sq2 rst5))] Q) (mkSt [(0,.ptr 0 0),(3,.ptr 3 0),(4,.ptr 4 0),(5,.str li),(6,.ptr 5 0)] [(0,.cells [.str nm,.sl (nml ps),.sl (bdl bs),.i z.cnt,.rw 2,.i z.err,.i z.pos]),(2,.row 10 (fdl z.out)),(3,.cells [.str fm,.sl (nml p0),.sl (bdl b0),.sl (adl c0),.sl (adl a0),.str r0.n,.sl (Tx.avL r0.a),.i r0.o,.sl (stl bd),.i of0]),(4,.cells [.str ⟨#[]⟩,.str ⟨#[]⟩,.nilsl]),(5,.cells [.str li,.sl (nml PS),.nilsl,.nilsl,.nilsl,.str r0.n,.sl (Tx.avL r0.a),.i r0.o,.nilsl,.i of0])] 6):=by
  generalize hpr:(fun b:Bd=>inN b.p PS)=pr at H
  simp only[b51,Tryd.f51,Option.getD,rst5,sq1,sq2] at H ⊢
  refine AW_nilc 5 2 3 (by simp[go_sem];rfl) rfl ?_
  repeat'(first|apply nx|refine zx ?_|rw[zw]|((first|refine hK _ ?_|refine hKp _ _ ?_);clear hK hKp K Kp;try clear hanc anc)|((with_reducible refine And.intro ?_ ?_);exact zb)|((first|refine zr hE fun K Kp hK hKp=>?_|refine zd true mixed hE fun K Kp hK hKp anc hanc=>?_|refine zd false mixed hE fun K Kp hK hKp anc hanc=>?_);simp only[go_sem])|(refine zg (fun hg=>?_) (fun hg=>?_)<;>simp only[go_sem,hg])|(refine zc (fun hc=>?_) (fun hc=>?_)<;>try exact zh hc))
  refine K_loop (X:=Nat) (fun i=>i≤bs.length) (fun i=>mkSt [(0,.ptr 0 0),(3,.ptr 3 0),(4,.ptr 4 0),(5,.str li),(6,.ptr 5 0),(8,.i (i:Nat))] [(0,.cells [.str nm,.sl (nml ps),.sl (bdl bs),.i z.cnt,.rw 2,.i z.err,.i z.pos]),(2,.row 10 (fdl z.out)),(3,.cells [.str fm,.sl (nml p0),.sl (bdl b0),.sl (adl c0),.sl (adl a0),.str r0.n,.sl (Tx.avL r0.a),.i r0.o,.sl (stl bd),.i of0]),(4,.cells [.str ⟨#[]⟩,.str ⟨#[]⟩,.nilsl]),(5,.cells [.str li,.sl (nml PS),.rw 6,.nilsl,.nilsl,.str r0.n,.sl (Tx.avL r0.a),.i r0.o,.nilsl,.i of0]),(6,.row 3 (bdl ((bs.take i).filter pr)))] 7) (fun i=>bs.length - i) 0 (Nat.zero_le _) (fun i=>i) ?_ ?_
  · exact ent_mk (by simp[go_sem]) (by simp[go_sem,bdl]) (by simp) (fun id hid=>⟨rfl,by omega⟩)
  rintro i hi
  by_cases hlt:i<bs.length
  case neg=>
    obtain rfl:i=bs.length:=by omega
    rw[List.take_length]
    repeat'(first|apply nx|refine zx ?_|rw[zw]|((first|refine hK _ ?_|refine hKp _ _ ?_);clear hK hKp K Kp;try clear hanc anc)|((with_reducible refine And.intro ?_ ?_);exact zb)|((fail_if_success refine K_stop 18 ?_);(first|refine zr hE fun K Kp hK hKp=>?_|refine zd true mixed hE fun K Kp hK hKp anc hanc=>?_|refine zd false mixed hE fun K Kp hK hKp anc hanc=>?_);simp only[go_sem,ge_dec])|(refine zg (fun hg=>?_) (fun hg=>?_)<;>simp only[go_sem,ge_dec,hg])|(refine zc (fun hc=>?_) (fun hc=>?_)<;>try exact zh hc))
    refine AW.ent (σ':=mkSt [(0,.ptr 0 0),(3,.ptr 3 0),(4,.ptr 4 0),(5,.str li),(6,.ptr 5 0)] [(0,.cells [.str nm,.sl (nml ps),.sl (bdl bs),.i z.cnt,.rw 2,.i z.err,.i z.pos]),(2,.row 10 (fdl z.out)),(3,.cells [.str fm,.sl (nml p0),.sl (bdl b0),.sl (adl c0),.sl (adl a0),.str r0.n,.sl (Tx.avL r0.a),.i r0.o,.sl (stl bd),.i of0]),(4,.cells [.str ⟨#[]⟩,.str ⟨#[]⟩,.nilsl]),(5,.cells [.str li,.sl (nml PS),.rw 6,.nilsl,.nilsl,.str r0.n,.sl (Tx.avL r0.a),.i r0.o,.nilsl,.i of0]),(6,.row 3 (bdl (bs.filter pr)))] 7) (fun i=>i) ?_ ?_
    · exact ent_mk (by simp[go_sem]) (by simp[go_sem]) (by simp) (fun id hid=>⟨rfl,by omega⟩)
    refine AW_frzCell 5 2 6 (xs:=bdl (bs.filter pr)) (by simp only[go_sem];rfl) rfl (by simp only[go_sem];rfl) (by decide) (bdl_clor _) ?_
    refine AW.ent (fun i=>i) ?_ H
    exact ent_mk (by simp[go_sem]) (by simp[go_sem]) (by simp) (fun id hid=>⟨rfl,by omega⟩)
  clear H
  obtain⟨⟨bp,bt,bo⟩,hx⟩:=get?_of hlt
  have u1:=inc_u hlt (by omega)
  have hpb:pr ⟨bp,bt,bo⟩=inN bp PS:=by rw[← hpr]
  have ht:(bs.take (i+1)).filter pr=(bs.take i).filter pr++(if pr ⟨bp,bt,bo⟩=true then [⟨bp,bt,bo⟩] else []):=by
    rw[List.take_add_one,hx,List.filter_append]
    congr 1
    simp only[Option.toList,List.filter_cons,List.filter_nil]
  have hln:((bs.take i).filter pr).length≤1000:=by
    have h1:=List.length_filter_le pr (bs.take i)
    rw[List.length_take] at h1
    omega
  rw[hpb] at ht
  clear hpb hpr
  generalize hL:(bs.take i).filter pr=L at ht hln ⊢
  repeat'(first|apply nx|refine zx ?_|rw[zw]|((first|refine hK _ ?_|refine hKp _ _ ?_);clear hK hKp K Kp;try clear hanc anc)|((with_reducible refine And.intro ?_ ?_);exact zb)|((first|refine zr hE fun K Kp hK hKp=>?_|refine zd true mixed hE fun K Kp hK hKp anc hanc=>?_|refine zd false mixed hE fun K Kp hK hKp anc hanc=>?_);simp only[go_sem,lt_dec hlt])|(refine zg (fun hg=>?_) (fun hg=>?_)<;>simp only[go_sem,lt_dec hlt,hg])|(refine zc (fun hc=>?_) (fun hc=>?_)<;>try exact zh hc))
  refine K_loop (X:=Nat) (fun j=>j≤PS.length∧inN bp (PS.take j)=false) (fun j=>mkSt [(0,.ptr 0 0),(3,.ptr 3 0),(4,.ptr 4 0),(5,.str li),(6,.ptr 5 0),(8,.i (i:Nat)),(9,.i (j:Nat))] [(0,.cells [.str nm,.sl (nml ps),.sl (bdl bs),.i z.cnt,.rw 2,.i z.err,.i z.pos]),(2,.row 10 (fdl z.out)),(3,.cells [.str fm,.sl (nml p0),.sl (bdl b0),.sl (adl c0),.sl (adl a0),.str r0.n,.sl (Tx.avL r0.a),.i r0.o,.sl (stl bd),.i of0]),(4,.cells [.str ⟨#[]⟩,.str ⟨#[]⟩,.nilsl]),(5,.cells [.str li,.sl (nml PS),.rw 6,.nilsl,.nilsl,.str r0.n,.sl (Tx.avL r0.a),.i r0.o,.nilsl,.i of0]),(6,.row 3 (bdl L))] 7) (fun j=>PS.length - j) 0 ⟨Nat.zero_le _,rfl⟩ (fun i=>i) ?_ ?_
  · exact ent_mk (by simp[go_sem]) (by simp[go_sem,hL]) (by simp) (fun id hid=>⟨rfl,by omega⟩)
  rintro j ⟨hj,hn⟩
  by_cases hlj:j<PS.length
  case neg=>
    obtain rfl:j=PS.length:=by omega
    rw[List.take_length] at hn
    rw[hn,if_neg (by decide),List.append_nil] at ht
    repeat'(first|apply nx|refine zx ?_|rw[zw]|((first|refine hK _ ?_|refine hKp _ _ ?_);clear hK hKp K Kp;try clear hanc anc)|((with_reducible refine And.intro ?_ ?_);exact zb)|((first|refine zr hE fun K Kp hK hKp=>?_|refine zd true mixed hE fun K Kp hK hKp anc hanc=>?_|refine zd false mixed hE fun K Kp hK hKp anc hanc=>?_);simp only[go_sem,ge_dec,u1])|(refine zg (fun hg=>?_) (fun hg=>?_)<;>simp only[go_sem,ge_dec,u1,hg])|(refine zc (fun hc=>?_) (fun hc=>?_)<;>try exact zh hc))
    refine⟨i+1,hlt,by omega,fun i=>i,?_⟩
    rw[ht]
    exact ent_mk (by simp[go_sem]) (by simp[go_sem]) (by simp) (fun id hid=>⟨rfl,by omega⟩)
  obtain⟨p,hy⟩:=get?_of hlj
  have v1:=inc_u hlj (by omega)
  by_cases heq:p=bp
  case neg=>
    have hd:decide (p=bp)=false:=decide_eq_false heq
    repeat'(first|apply nx|refine zx ?_|rw[zw]|((first|refine hK _ ?_|refine hKp _ _ ?_);clear hK hKp K Kp;try clear hanc anc)|((with_reducible refine And.intro ?_ ?_);exact zb)|((first|refine zr hE fun K Kp hK hKp=>?_|refine zd true mixed hE fun K Kp hK hKp anc hanc=>?_|refine zd false mixed hE fun K Kp hK hKp anc hanc=>?_);simp only[go_sem,lt_dec hlj,hx,hy,Bd.av,hd,v1])|(refine zg (fun hg=>?_) (fun hg=>?_)<;>simp only[go_sem,lt_dec hlj,hx,hy,Bd.av,hd,v1,hg])|(refine zc (fun hc=>?_) (fun hc=>?_)<;>try exact zh hc))
    refine⟨j+1,⟨hlj,?_⟩,by omega,fun i=>i,?_⟩
    · rw[List.take_add_one,hy,inN_app,hn]
      simp[heq,inN]
    · exact ent_mk (by simp[go_sem]) (by simp[go_sem]) (by simp) (fun id hid=>⟨rfl,by omega⟩)
  have hd:decide (p=bp)=true:=decide_eq_true heq
  have hin:inN bp PS=true:=by
    rw[inN_iff, ← heq]
    exact List.mem_of_getElem? hy
  rw[hin,if_pos rfl] at ht
  repeat'(first|apply nx|refine zx ?_|rw[zw]|((first|refine hK _ ?_|refine hKp _ _ ?_);clear hK hKp K Kp;try clear hanc anc)|((with_reducible refine And.intro ?_ ?_);exact zb)|((fail_if_success refine K_stop 17 ?_);(first|refine zr hE fun K Kp hK hKp=>?_|refine zd true mixed hE fun K Kp hK hKp anc hanc=>?_|refine zd false mixed hE fun K Kp hK hKp anc hanc=>?_);simp only[go_sem,lt_dec hlj,hx,hy,Bd.av,hd])|(refine zg (fun hg=>?_) (fun hg=>?_)<;>simp only[go_sem,lt_dec hlj,hx,hy,Bd.av,hd,hg])|(refine zc (fun hc=>?_) (fun hc=>?_)<;>try exact zh hc))
  refine AW.ent (σ':=mkSt [(0,.ptr 0 0),(3,.ptr 3 0),(4,.ptr 4 0),(5,.str li),(6,.ptr 5 0),(8,.i i)] [(0,.cells [.str nm,.sl (nml ps),.sl (bdl bs),.i z.cnt,.rw 2,.i z.err,.i z.pos]),(2,.row 10 (fdl z.out)),(3,.cells [.str fm,.sl (nml p0),.sl (bdl b0),.sl (adl c0),.sl (adl a0),.str r0.n,.sl (Tx.avL r0.a),.i r0.o,.sl (stl bd),.i of0]),(4,.cells [.str ⟨#[]⟩,.str ⟨#[]⟩,.nilsl]),(5,.cells [.str li,.sl (nml PS),.rw 6,.nilsl,.nilsl,.str r0.n,.sl (Tx.avL r0.a),.i r0.o,.nilsl,.i of0]),(6,.row 3 (bdl L))] 7) (fun i=>i) ?_ ?_
  · exact ent_mk (by simp[go_sem]) (by simp[go_sem]) (by simp) (fun id hid=>⟨rfl,by omega⟩)
  repeat(first|apply w1|apply w2)
  refine K_inv (n:=13) (INm [.str nm,.sl (nml ps),.sl (bdl bs),.i z.cnt,.rw 2,.i z.err,.i z.pos] [.str fm,.sl (nml p0),.sl (bdl b0),.sl (adl c0),.sl (adl a0),.str r0.n,.sl (Tx.avL r0.a),.i r0.o,.sl (stl bd),.i of0] [.str ⟨#[]⟩,.str ⟨#[]⟩,.nilsl] z.out bs L li PS bp bt bo [.nilsl,.nilsl,.str r0.n,.sl (Tx.avL r0.a),.i r0.o,.nilsl,.i of0] i) mixed hE ?_ ?_ (fun Kp hKp=>?_) ?_ rfl
  · intro D D' σ h
    have:=fun j=>(h j).symm
    unfold INm
    simp only[this]
    exact fun h=>h
  · simp[INm,go_sem,hx,Bd.av]
  · refine⟨?_,?_,?_,?_,?_,?_,?_,?_,?_,?_,?_,?_,?_,trivial⟩
    all_goals rintro D' ⟨fr,hp,nx⟩ hD' hr ⟨hn,f0,f3,f4,f5,f6,f8,h0,h2,h3,h4,h5,h6,d0,d1,d2,d3,d4,d5,d6,d7,d8,d9,d10,d11,e9,e10,s12,o12_1⟩
    all_goals simp[Region.binds] at hn f0 f3 f4 f5 f6 f8 h0 h2 h3 h4 h5 h6 d0 d1 d2 d3 d4 d5 d6 d7 d8 d9 d10 d11 e9 e10 s12 o12_1 hD' hr
    all_goals subst hn
    all_goals try clear hQ'
    · skip
      simp only[go_sem,f6,hx,Bd.av]
      (simp only[INm,upd,updo];simp[f0,f3,f4,f5,f6,f8,h0,h2,h3,h4];simp_all)
    · skip
      have zd0:=d0 (by first|(simp[hr,hD'];done)|(cases hq:D' 0<;>simp_all))
      have zh5:=h5 (by first|(simp[hr,hD'];done)|(cases hq:D' 12<;>simp_all))
      simp only[go_sem,zd0,zh5,hx,Bd.av]
      (simp only[INm,upd,updo];simp[f0,f3,f4,f5,f6,f8,h0,h2,h3,h4];simp_all)
    · skip
      simp only[go_sem,f0,hx,Bd.av]
      (simp only[INm,upd,updo];simp[f0,f3,f4,f5,f6,f8,h0,h2,h3,h4];simp_all)
    · skip
      have zd2:=d2 (by first|(simp[hr,hD'];done)|(cases hq:D' 2<;>simp_all))
      simp only[go_sem,zd2,hx,Bd.av]
      (simp only[INm,upd,updo];simp[f0,f3,f4,f5,f6,f8,h0,h2,h3,h4];simp_all)
    · skip
      have zd3:=d3 (by first|(simp[hr,hD'];done)|(cases hq:D' 3<;>simp_all))
      simp only[go_sem,zd3,hx,Bd.av]
      (simp only[INm,upd,updo];simp[f0,f3,f4,f5,f6,f8,h0,h2,h3,h4];simp_all)
    · skip
      have zd4:=d4 (by first|(simp[hr,hD'];done)|(cases hq:D' 4<;>simp_all))
      simp only[go_sem,zd4,h0,hx,Bd.av]
      (simp only[INm,upd,updo];simp[f0,f3,f4,f5,f6,f8,h0,h2,h3,h4];simp_all)
    · skip
      simp only[go_sem,f8,hx,Bd.av]
      (simp only[INm,upd,updo];simp[f0,f3,f4,f5,f6,f8,h0,h2,h3,h4];simp_all)
    · skip
      have zd5:=d5 (by first|(simp[hr,hD'];done)|(cases hq:D' 5<;>simp_all))
      have zd6:=d6 (by first|(simp[hr,hD'];done)|(cases hq:D' 6<;>simp_all))
      simp only[go_sem,zd5,zd6,hx,Bd.av]
      (simp only[INm,upd,updo];simp[f0,f3,f4,f5,f6,f8,h0,h2,h3,h4];simp_all)
    · skip
      have zd7:=d7 (by first|(simp[hr,hD'];done)|(cases hq:D' 7<;>simp_all))
      simp only[go_sem,zd7,hx,Bd.av]
      (simp only[INm,upd,updo];simp[f0,f3,f4,f5,f6,f8,h0,h2,h3,h4];simp_all)
    · skip
      have zd8:=d8 (by first|(simp[hr,hD'];done)|(cases hq:D' 8<;>simp_all))
      simp only[go_sem,zd8,hx,Bd.av]
      (simp only[INm,upd,updo];simp[f0,f3,f4,f5,f6,f8,h0,h2,h3,h4];simp_all)
    · skip
      have zd1:=d1 (by first|(simp[hr,hD'];done)|(cases hq:D' 1<;>simp_all))
      have zd9:=d9 (by first|(simp[hr,hD'];done)|(cases hq:D' 9<;>simp_all))
      have zh6:=h6 (by first|(simp[hr,hD'];done)|(cases hq:D' 10<;>simp_all))
      have ze9:=e9 (by first|(simp[hr,hD'];done)|(cases hq:D' 9<;>simp_all))
      simp only[go_sem,zd1,zd9,zh6,ze9,hx,Bd.av]
      refine⟨by simp only[Fits,bdl_ln,List.length_cons,List.length_nil];omega,?_⟩
      (simp only[INm,upd,updo];simp[f0,f3,f4,f5,f6,f8,h0,h2,h3,h4];simp_all)
    · skip
      simp only[go_sem,f6,hx,Bd.av]
      (simp only[INm,upd,updo];simp[f0,f3,f4,f5,f6,f8,h0,h2,h3,h4];simp_all)
    · skip
      have zd11:=d11 (by first|(simp[hr,hD'];done)|(cases hq:D' 11<;>simp_all))
      have zd10:=d10 (by first|(simp[hr,hD'];done)|(cases hq:D' 10<;>simp_all))
      have zh5:=h5 (by first|(simp[hr,hD'];done)|(cases hq:D' 12<;>simp_all))
      simp only[go_sem,zd11,zd10,zh5,hx,Bd.av]
      (simp only[INm,upd,updo];simp[f0,f3,f4,f5,f6,f8,h0,h2,h3,h4];simp_all)
  rintro⟨fr,hp,nx⟩ D' hD' ⟨hn,f0,f3,f4,f5,f6,f8,h0,h2,h3,h4,h5,h6,d0,d1,d2,d3,d4,d5,d6,d7,d8,d9,d10,d11,e9,e10,s12,o12_1⟩
  simp only at hn f0 f3 f4 f5 f6 f8 h0 h2 h3 h4 h5 h6 d0 d1 d2 d3 d4 d5 d6 d7 d8 d9 d10 d11 e9 e10 s12 o12_1
  have zd0:=d0 (hD' 0)
  have zd1:=d1 (hD' 1)
  have zd2:=d2 (hD' 2)
  have zd3:=d3 (hD' 3)
  have zd4:=d4 (hD' 4)
  have zd5:=d5 (hD' 5)
  have zd6:=d6 (hD' 6)
  have zd7:=d7 (hD' 7)
  have zd8:=d8 (hD' 8)
  have zd9:=d9 (hD' 9)
  have zd10:=d10 (hD' 10)
  have zd11:=d11 (hD' 11)
  have ze9:=e9 (hD' 9)
  have ze10:=e10 (hD' 10)
  have zs12:=s12 (hD' 12)
  have eL:bdl L++[.agg [.str bp,.str bt,.i bo]]=bdl (L++[⟨bp,bt,bo⟩]):=by simp[bdl,Bd.av]
  rw[eL] at ze10
  repeat(first|refine Kq_norm_code ?_|refine Kq_norm_blk ?_)
  refine AW.ent (σ':=mkSt [(0,.ptr 0 0),(3,.ptr 3 0),(4,.ptr 4 0),(5,.str li),(6,.ptr 5 0),(8,.i i)] [(0,.cells [.str nm,.sl (nml ps),.sl (bdl bs),.i z.cnt,.rw 2,.i z.err,.i z.pos]),(2,.row 10 (fdl z.out)),(3,.cells [.str fm,.sl (nml p0),.sl (bdl b0),.sl (adl c0),.sl (adl a0),.str r0.n,.sl (Tx.avL r0.a),.i r0.o,.sl (stl bd),.i of0]),(4,.cells [.str ⟨#[]⟩,.str ⟨#[]⟩,.nilsl]),(5,.cells [.str li,.sl (nml PS),.rw 6,.nilsl,.nilsl,.str r0.n,.sl (Tx.avL r0.a),.i r0.o,.nilsl,.i of0]),(6,.row 3 (bdl (L++[⟨bp,bt,bo⟩])))] 7) (fun i=>if i=6 then 10485767 else i) ?_ ?_
  · refine ent_mk (by simp[go_sem,f0,f3,f4,f5,f6,f8]) ?_ (by simp) (fun id hid=>⟨by rw[if_neg (by omega)],by omega⟩)
    simp[go_sem,h0,h2,h3,h4,zs12,ze10]
  clear zs12 ze10 zd0 zd1 zd2 zd3 zd4 zd5 zd6 zd7 zd8 zd9 zd10 zd11 f0 f3 f4 f5 f6 f8 h0 h2 h3 h4 h5 h6 d0 d1 d2 d3 d4 d5 d6 d7 d8 d9 d10 d11 e9 e10 s12 hD' hn
  clear nx
  repeat'(first|apply nx|refine zx ?_|rw[zw]|((first|refine hK _ ?_|refine hKp _ _ ?_);clear hK hKp K Kp;try clear hanc anc)|((with_reducible refine And.intro ?_ ?_);exact zb)|((first|refine zr hE fun K Kp hK hKp=>?_|refine zd true mixed hE fun K Kp hK hKp anc hanc=>?_|refine zd false mixed hE fun K Kp hK hKp anc hanc=>?_);simp only[go_sem,u1])|(refine zg (fun hg=>?_) (fun hg=>?_)<;>simp only[go_sem,u1,hg])|(refine zc (fun hc=>?_) (fun hc=>?_)<;>try exact zh hc))
  refine⟨i+1,hlt,by omega,fun i=>i,?_⟩
  rw[ht]
  exact ent_mk (by simp[go_sem]) (by simp[go_sem]) (by simp) (fun id hid=>⟨rfl,by omega⟩)
end Go.Proofs.YtffmphmiicnaeaaDoor

set_option maxHeartbeats 4000000
set_option maxRecDepth 100000
namespace Go.Proofs.YtffmphmiicnaeaaDoor
open Go.Am Go.Proofs Go.Lf
open Classical
attribute [local irreducible] AW CallP CallB
variable {nm:Nm} {ps:List Nm} {bs:List Bd} {E:En} {Q:AEx→Am.St→Prop}
def INa (L0 F0 V0:List AV) (O:List Lf.Fd) (c0 L:List Ad) (li:Nm) (PS:List Nm) (BS:List Bd) (a ga:Ad) (N0:List AV) (i:Nat) (D:Nat→Bool) (σ:Go.Am.St):Prop:=
 σ.nx=7∧σ.fr 0=some (.ptr 0 0)∧σ.fr 3=some (.ptr 3 0)∧σ.fr 4=some (.ptr 4 0)∧σ.fr 5=some (.str li)∧σ.fr 6=some (.ptr 5 0)∧σ.fr 10=some (.i i)∧σ.hp 0=some (.cells L0)∧σ.hp 2=some (.row 10 (fdl O))∧σ.hp 3=some (.cells F0)∧σ.hp 4=some (.cells V0)∧(D 11=false→σ.hp 5=some (.cells (.str li:: .sl (nml PS):: .sl (bdl BS):: .nilsl:: .rw 6::N0)))∧(D 9=false→σ.hp 6=some (.row 6 (adl L)))∧(D 0=true→σ.fr 122=some (.ptr 5 4))∧(D 1=true→σ.fr 123=some (.rw 6))∧(D 2=true→σ.fr 124=some (.ptr 3 3))∧(D 3=true→σ.fr 125=some (.sl (adl c0)))∧(D 4=true→σ.fr 126=some (.i i))∧(D 5=true→σ.fr 127=some (.eptr (.agg [.str a.nm,.str a.ty.n,.sl (Tx.avL a.ty.a),.i a.ty.o,.i a.cp,.i a.off]) 0))∧(D 6=true→σ.fr 128=some (.agg [.str a.nm,.str a.ty.n,.sl (Tx.avL a.ty.a),.i a.ty.o,.i a.cp,.i a.off]))∧(D 7=true→σ.fr 129=some (.agg [.str ga.nm,.str ga.ty.n,.sl (Tx.avL ga.ty.a),.i ga.ty.o,.i ga.cp,.i ga.off]))∧(D 8=true→σ.fr 130=some (.rw 8388615))∧(D 9=true→σ.fr 131=some (.rw 9437191))∧(D 10=true→σ.fr 132=some (.ptr 5 4))∧(D 8=true→σ.hp 8388615=some (.row 6 [.agg [.str ga.nm,.str ga.ty.n,.sl (Tx.avL ga.ty.a),.i ga.ty.o,.i ga.cp,.i ga.off]]))∧(D 9=true→σ.hp 9437191=some (.row 6 (adl L++[.agg [.str ga.nm,.str ga.ty.n,.sl (Tx.avL ga.ty.a),.i ga.ty.o,.i ga.cp,.i ga.off]])))∧(D 11=true→σ.hp 5=some (.cells (.str li:: .sl (nml PS):: .sl (bdl BS):: .nilsl:: .rw 9437191::N0)))∧(D 11=true→D 1=true)
theorem rloc_d (hE : E.nt = Tryd.f51.ntmps) (hnp : E.np ≤ 1) {fm li : Nm} {p0 PS : List Nm} {b0 BS : List Bd} {c0 a0 : List Ad} {r0 : Tx} {bd : List Lf.St} {of0 : Int} {z : Ls} (hc0 : c0.length ≤ 1000) (ha0 : a0.length ≤ 1000)
    (H:AW Tryd.prog E (sq1 (sq2 (sq2 (sq2 (sq2 rst5))))) (Kq Tryd.prog E [.code (sq2 (sq2 (sq2 (sq2 (sq2 rst5)))))] Q) (mkSt [(0,.ptr 0 0),(3,.ptr 3 0),(4,.ptr 4 0),(5,.str li),(6,.ptr 5 0)] [(0,.cells [.str nm,.sl (nml ps),.sl (bdl bs),.i z.cnt,.rw 2,.i z.err,.i z.pos]),(2,.row 10 (fdl z.out)),(3,.cells [.str fm,.sl (nml p0),.sl (bdl b0),.sl (adl c0),.sl (adl a0),.str r0.n,.sl (Tx.avL r0.a),.i r0.o,.sl (stl bd),.i of0]),(4,.cells [.str ⟨#[]⟩,.str ⟨#[]⟩,.nilsl]),(5,.cells [.str li,.sl (nml PS),.sl (bdl BS),.nilsl,.sl (adl (c0.map argOf++a0)),.str r0.n,.sl (Tx.avL r0.a),.i r0.o,.nilsl,.i of0])] 6)):
    AW Tryd.prog E (sq1 (sq1 (sq2 (sq2 rst5)))) (Kq Tryd.prog E [.code (sq2 (sq1 (sq2 (sq2 rst5)))),.code (sq2 (sq2 (sq2 rst5)))] Q) (mkSt [(0,.ptr 0 0),(3,.ptr 3 0),(4,.ptr 4 0),(5,.str li),(6,.ptr 5 0)] [(0,.cells [.str nm,.sl (nml ps),.sl (bdl bs),.i z.cnt,.rw 2,.i z.err,.i z.pos]),(2,.row 10 (fdl z.out)),(3,.cells [.str fm,.sl (nml p0),.sl (bdl b0),.sl (adl c0),.sl (adl a0),.str r0.n,.sl (Tx.avL r0.a),.i r0.o,.sl (stl bd),.i of0]),(4,.cells [.str ⟨#[]⟩,.str ⟨#[]⟩,.nilsl]),(5,.cells [.str li,.sl (nml PS),.sl (bdl BS),.nilsl,.nilsl,.str r0.n,.sl (Tx.avL r0.a),.i r0.o,.nilsl,.i of0])] 6):=by
  simp only[b51,Tryd.f51,Option.getD,rst5,sq1,sq2] at H ⊢
  refine AW_nilc 5 4 6 (by simp[go_sem];rfl) rfl ?_
  repeat'(first|apply nx|refine zx ?_|rw[zw]|((first|refine hK _ ?_|refine hKp _ _ ?_);clear hK hKp K Kp;try clear hanc anc)|((with_reducible refine And.intro ?_ ?_);exact zb)|((first|refine zr hE fun K Kp hK hKp=>?_|refine zd true mixed hE fun K Kp hK hKp anc hanc=>?_|refine zd false mixed hE fun K Kp hK hKp anc hanc=>?_);simp only[go_sem])|(refine zg (fun hg=>?_) (fun hg=>?_)<;>simp only[go_sem,hg])|(refine zc (fun hc=>?_) (fun hc=>?_)<;>try exact zh hc))
  refine K_loop (X:=Nat) (fun i=>i≤c0.length) (fun i=>mkSt [(0,.ptr 0 0),(3,.ptr 3 0),(4,.ptr 4 0),(5,.str li),(6,.ptr 5 0),(10,.i (i:Nat))] [(0,.cells [.str nm,.sl (nml ps),.sl (bdl bs),.i z.cnt,.rw 2,.i z.err,.i z.pos]),(2,.row 10 (fdl z.out)),(3,.cells [.str fm,.sl (nml p0),.sl (bdl b0),.sl (adl c0),.sl (adl a0),.str r0.n,.sl (Tx.avL r0.a),.i r0.o,.sl (stl bd),.i of0]),(4,.cells [.str ⟨#[]⟩,.str ⟨#[]⟩,.nilsl]),(5,.cells [.str li,.sl (nml PS),.sl (bdl BS),.nilsl,.rw 6,.str r0.n,.sl (Tx.avL r0.a),.i r0.o,.nilsl,.i of0]),(6,.row 6 (adl ((c0.take i).map argOf)))] 7) (fun i=>c0.length - i) 0 (Nat.zero_le _) (fun i=>i) ?_ ?_
  · exact ent_mk (by simp[go_sem]) (by simp[go_sem,adl]) (by simp) (fun id hid=>⟨rfl,by omega⟩)
  rintro i hi
  by_cases hlt:i<c0.length
  case neg=>
    obtain rfl:i=c0.length:=by omega
    rw[List.take_length]
    repeat'(first|apply nx|refine zx ?_|rw[zw]|((first|refine hK _ ?_|refine hKp _ _ ?_);clear hK hKp K Kp;try clear hanc anc)|((with_reducible refine And.intro ?_ ?_);exact zb)|((first|refine zr hE fun K Kp hK hKp=>?_|refine zd true mixed hE fun K Kp hK hKp anc hanc=>?_|refine zd false mixed hE fun K Kp hK hKp anc hanc=>?_);simp only[go_sem,ge_dec])|(refine zg (fun hg=>?_) (fun hg=>?_)<;>simp only[go_sem,ge_dec,hg])|(refine zc (fun hc=>?_) (fun hc=>?_)<;>try exact zh hc))
    refine⟨⟨adl_szok _,by simp only[Fits];omega⟩,?_⟩
    repeat'(first|apply nx|refine zx ?_|rw[zw]|((first|refine hK _ ?_|refine hKp _ _ ?_);clear hK hKp K Kp;try clear hanc anc)|((with_reducible refine And.intro ?_ ?_);exact zb)|((fail_if_success refine K_stop 23 ?_);(first|refine zr hE fun K Kp hK hKp=>?_|refine zd true mixed hE fun K Kp hK hKp anc hanc=>?_|refine zd false mixed hE fun K Kp hK hKp anc hanc=>?_);simp only[go_sem])|(refine zg (fun hg=>?_) (fun hg=>?_)<;>simp only[go_sem,hg])|(refine zc (fun hc=>?_) (fun hc=>?_)<;>try exact zh hc))
    have eA:adl (c0.map argOf)++adl a0=adl (c0.map argOf++a0):=by simp[adl]
    refine AW.ent (σ':=mkSt [(0,.ptr 0 0),(3,.ptr 3 0),(4,.ptr 4 0),(5,.str li),(6,.ptr 5 0)] [(0,.cells [.str nm,.sl (nml ps),.sl (bdl bs),.i z.cnt,.rw 2,.i z.err,.i z.pos]),(2,.row 10 (fdl z.out)),(3,.cells [.str fm,.sl (nml p0),.sl (bdl b0),.sl (adl c0),.sl (adl a0),.str r0.n,.sl (Tx.avL r0.a),.i r0.o,.sl (stl bd),.i of0]),(4,.cells [.str ⟨#[]⟩,.str ⟨#[]⟩,.nilsl]),(5,.cells [.str li,.sl (nml PS),.sl (bdl BS),.nilsl,.rw 6,.str r0.n,.sl (Tx.avL r0.a),.i r0.o,.nilsl,.i of0]),(6,.row 6 (adl (c0.map argOf++a0)))] 7) (fun i=>if i=6 then 9437191 else i) ?_ ?_
    · exact ent_mk (by simp[go_sem]) (by simp[go_sem,eA]) (by simp) (fun id hid=>⟨by rw[if_neg (by omega)],by omega⟩)
    refine AW_frzCell 5 4 6 (xs:=adl (c0.map argOf++a0)) (by simp only[go_sem];rfl) rfl (by simp only[go_sem];rfl) (by decide) (adl_clor _) ?_
    refine AW.ent (fun i=>i) ?_ H
    exact ent_mk (by simp[go_sem]) (by simp[go_sem]) (by simp) (fun id hid=>⟨rfl,by omega⟩)
  clear H
  obtain⟨a,hx⟩:=get?_of hlt
  have u1:=inc_u hlt (by omega)
  have ht:(c0.take (i+1)).map argOf=(c0.take i).map argOf++[argOf a]:=by rw[List.take_add_one,hx];simp
  have hln:((c0.take i).map argOf).length≤1000:=by rw[List.length_map,List.length_take];omega
  have ca:=rargument_c a
  generalize hL:(c0.take i).map argOf=L at ht hln ⊢
  repeat'(first|apply nx|refine zx ?_|rw[zw]|((first|refine hK _ ?_|refine hKp _ _ ?_);clear hK hKp K Kp;try clear hanc anc)|((with_reducible refine And.intro ?_ ?_);exact zb)|((fail_if_success refine K_stop 21 ?_);(first|refine zr hE fun K Kp hK hKp=>?_|refine zd true mixed hE fun K Kp hK hKp anc hanc=>?_|refine zd false mixed hE fun K Kp hK hKp anc hanc=>?_);simp only[go_sem,lt_dec hlt])|(refine zg (fun hg=>?_) (fun hg=>?_)<;>simp only[go_sem,lt_dec hlt,hg])|(refine zc (fun hc=>?_) (fun hc=>?_)<;>try exact zh hc))
  refine AW.ent (σ':=mkSt [(0,.ptr 0 0),(3,.ptr 3 0),(4,.ptr 4 0),(5,.str li),(6,.ptr 5 0),(10,.i i)] [(0,.cells [.str nm,.sl (nml ps),.sl (bdl bs),.i z.cnt,.rw 2,.i z.err,.i z.pos]),(2,.row 10 (fdl z.out)),(3,.cells [.str fm,.sl (nml p0),.sl (bdl b0),.sl (adl c0),.sl (adl a0),.str r0.n,.sl (Tx.avL r0.a),.i r0.o,.sl (stl bd),.i of0]),(4,.cells [.str ⟨#[]⟩,.str ⟨#[]⟩,.nilsl]),(5,.cells [.str li,.sl (nml PS),.sl (bdl BS),.nilsl,.rw 6,.str r0.n,.sl (Tx.avL r0.a),.i r0.o,.nilsl,.i of0]),(6,.row 6 (adl L))] 7) (fun i=>i) ?_ ?_
  · exact ent_mk (by simp[go_sem]) (by simp[go_sem,hL]) (by simp) (fun id hid=>⟨rfl,by omega⟩)
  generalize hga:argOf a=ga at*
  unfold Ad.av at ca
  repeat(first|apply w1|apply w2)
  refine K_inv (n:=12) (INa [.str nm,.sl (nml ps),.sl (bdl bs),.i z.cnt,.rw 2,.i z.err,.i z.pos] [.str fm,.sl (nml p0),.sl (bdl b0),.sl (adl c0),.sl (adl a0),.str r0.n,.sl (Tx.avL r0.a),.i r0.o,.sl (stl bd),.i of0] [.str ⟨#[]⟩,.str ⟨#[]⟩,.nilsl] z.out c0 L li PS BS a ga [.str r0.n,.sl (Tx.avL r0.a),.i r0.o,.nilsl,.i of0] i) mixed hE ?_ ?_ (fun Kp hKp=>?_) ?_ rfl
  · intro D D' σ h
    have:=fun j=>(h j).symm
    unfold INa
    simp only[this]
    exact fun h=>h
  · simp[INa,go_sem,hx,Ad.av]
  · refine⟨?_,?_,?_,?_,?_,?_,?_,?_,?_,?_,?_,?_,trivial⟩
    all_goals rintro D' ⟨fr,hp,nx⟩ hD' hr ⟨hn,f0,f3,f4,f5,f6,f10,h0,h2,h3,h4,h5,h6,d0,d1,d2,d3,d4,d5,d6,d7,d8,d9,d10,e8,e9,s11,o11_1⟩
    all_goals simp[Region.binds] at hn f0 f3 f4 f5 f6 f10 h0 h2 h3 h4 h5 h6 d0 d1 d2 d3 d4 d5 d6 d7 d8 d9 d10 e8 e9 s11 o11_1 hD' hr
    all_goals subst hn
    all_goals try clear hQ'
    · skip
      simp only[go_sem,f6,hx,Ad.av]
      (simp only[INa,upd,updo];simp[f0,f3,f4,f5,f6,f10,h0,h2,h3,h4];simp_all)
    · skip
      have zd0:=d0 (by first|(simp[hr,hD'];done)|(cases hq:D' 0<;>simp_all))
      have zh5:=h5 (by first|(simp[hr,hD'];done)|(cases hq:D' 11<;>simp_all))
      simp only[go_sem,zd0,zh5,hx,Ad.av]
      (simp only[INa,upd,updo];simp[f0,f3,f4,f5,f6,f10,h0,h2,h3,h4];simp_all)
    · skip
      simp only[go_sem,f3,hx,Ad.av]
      (simp only[INa,upd,updo];simp[f0,f3,f4,f5,f6,f10,h0,h2,h3,h4];simp_all)
    · skip
      have zd2:=d2 (by first|(simp[hr,hD'];done)|(cases hq:D' 2<;>simp_all))
      simp only[go_sem,zd2,h3,hx,Ad.av]
      (simp only[INa,upd,updo];simp[f0,f3,f4,f5,f6,f10,h0,h2,h3,h4];simp_all)
    · skip
      simp only[go_sem,f10,hx,Ad.av]
      (simp only[INa,upd,updo];simp[f0,f3,f4,f5,f6,f10,h0,h2,h3,h4];simp_all)
    · skip
      have zd3:=d3 (by first|(simp[hr,hD'];done)|(cases hq:D' 3<;>simp_all))
      have zd4:=d4 (by first|(simp[hr,hD'];done)|(cases hq:D' 4<;>simp_all))
      simp only[go_sem,zd3,zd4,hx,Ad.av]
      (simp only[INa,upd,updo];simp[f0,f3,f4,f5,f6,f10,h0,h2,h3,h4];simp_all)
    · skip
      have zd5:=d5 (by first|(simp[hr,hD'];done)|(cases hq:D' 5<;>simp_all))
      simp only[go_sem,zd5,hx,Ad.av]
      (simp only[INa,upd,updo];simp[f0,f3,f4,f5,f6,f10,h0,h2,h3,h4];simp_all)
    · skip
      have zd6:=d6 (by first|(simp[hr,hD'];done)|(cases hq:D' 6<;>simp_all))
      simp only[go_sem,zd6,hx,Ad.av]
      refine CallB_mk (by simp only[go_sem,zd6]<;>rfl) ca (by simp[go_sem,CloRow,AV.cells,AV.clo,zd6]) (by first|exact .inl rfl|exact .inr rfl|(right;simp[go_sem])) ?_
      simp only[go_sem]
      (simp only[INa,upd,updo];simp[f0,f3,f4,f5,f6,f10,h0,h2,h3,h4];simp_all)
    · skip
      have zd7:=d7 (by first|(simp[hr,hD'];done)|(cases hq:D' 7<;>simp_all))
      simp only[go_sem,zd7,hx,Ad.av]
      (simp only[INa,upd,updo];simp[f0,f3,f4,f5,f6,f10,h0,h2,h3,h4];simp_all)
    · skip
      have zd1:=d1 (by first|(simp[hr,hD'];done)|(cases hq:D' 1<;>simp_all))
      have zd8:=d8 (by first|(simp[hr,hD'];done)|(cases hq:D' 8<;>simp_all))
      have zh6:=h6 (by first|(simp[hr,hD'];done)|(cases hq:D' 9<;>simp_all))
      have ze8:=e8 (by first|(simp[hr,hD'];done)|(cases hq:D' 8<;>simp_all))
      simp only[go_sem,zd1,zd8,zh6,ze8,hx,Ad.av]
      refine⟨by simp only[Fits,adl_ln,List.length_cons,List.length_nil];omega,?_⟩
      (simp only[INa,upd,updo];simp[f0,f3,f4,f5,f6,f10,h0,h2,h3,h4];simp_all)
    · skip
      simp only[go_sem,f6,hx,Ad.av]
      (simp only[INa,upd,updo];simp[f0,f3,f4,f5,f6,f10,h0,h2,h3,h4];simp_all)
    · skip
      have zd10:=d10 (by first|(simp[hr,hD'];done)|(cases hq:D' 10<;>simp_all))
      have zd9:=d9 (by first|(simp[hr,hD'];done)|(cases hq:D' 9<;>simp_all))
      have zh5:=h5 (by first|(simp[hr,hD'];done)|(cases hq:D' 11<;>simp_all))
      simp only[go_sem,zd10,zd9,zh5,hx,Ad.av]
      (simp only[INa,upd,updo];simp[f0,f3,f4,f5,f6,f10,h0,h2,h3,h4];simp_all)
  rintro⟨fr,hp,nx⟩ D' hD' ⟨hn,f0,f3,f4,f5,f6,f10,h0,h2,h3,h4,h5,h6,d0,d1,d2,d3,d4,d5,d6,d7,d8,d9,d10,e8,e9,s11,o11_1⟩
  simp only at hn f0 f3 f4 f5 f6 f10 h0 h2 h3 h4 h5 h6 d0 d1 d2 d3 d4 d5 d6 d7 d8 d9 d10 e8 e9 s11 o11_1
  have zd0:=d0 (hD' 0)
  have zd1:=d1 (hD' 1)
  have zd2:=d2 (hD' 2)
  have zd3:=d3 (hD' 3)
  have zd4:=d4 (hD' 4)
  have zd5:=d5 (hD' 5)
  have zd6:=d6 (hD' 6)
  have zd7:=d7 (hD' 7)
  have zd8:=d8 (hD' 8)
  have zd9:=d9 (hD' 9)
  have zd10:=d10 (hD' 10)
  have ze8:=e8 (hD' 8)
  have ze9:=e9 (hD' 9)
  have zs11:=s11 (hD' 11)
  have eL:=adl_snoc L ga
  unfold Ad.av at eL
  rw[eL] at ze9
  repeat(first|refine Kq_norm_code ?_|refine Kq_norm_blk ?_)
  refine AW.ent (σ':=mkSt [(0,.ptr 0 0),(3,.ptr 3 0),(4,.ptr 4 0),(5,.str li),(6,.ptr 5 0),(10,.i i)] [(0,.cells [.str nm,.sl (nml ps),.sl (bdl bs),.i z.cnt,.rw 2,.i z.err,.i z.pos]),(2,.row 10 (fdl z.out)),(3,.cells [.str fm,.sl (nml p0),.sl (bdl b0),.sl (adl c0),.sl (adl a0),.str r0.n,.sl (Tx.avL r0.a),.i r0.o,.sl (stl bd),.i of0]),(4,.cells [.str ⟨#[]⟩,.str ⟨#[]⟩,.nilsl]),(5,.cells [.str li,.sl (nml PS),.sl (bdl BS),.nilsl,.rw 6,.str r0.n,.sl (Tx.avL r0.a),.i r0.o,.nilsl,.i of0]),(6,.row 6 (adl (L++[ga])))] 7) (fun i=>if i=6 then 9437191 else i) ?_ ?_
  · refine ent_mk (by simp[go_sem,f0,f3,f4,f5,f6,f10]) ?_ (by simp) (fun id hid=>⟨by rw[if_neg (by omega)],by omega⟩)
    simp[go_sem,h0,h2,h3,h4,zs11,ze9]
  clear zs11 ze9 zd0 zd1 zd2 zd3 zd4 zd5 zd6 zd7 zd8 zd9 zd10 f0 f3 f4 f5 f6 f10 h0 h2 h3 h4 h5 h6 d0 d1 d2 d3 d4 d5 d6 d7 d8 d9 d10 e8 e9 s11 hD' hn
  clear nx
  repeat'(first|apply nx|refine zx ?_|rw[zw]|((first|refine hK _ ?_|refine hKp _ _ ?_);clear hK hKp K Kp;try clear hanc anc)|((with_reducible refine And.intro ?_ ?_);exact zb)|((first|refine zr hE fun K Kp hK hKp=>?_|refine zd true mixed hE fun K Kp hK hKp anc hanc=>?_|refine zd false mixed hE fun K Kp hK hKp anc hanc=>?_);simp only[go_sem,u1])|(refine zg (fun hg=>?_) (fun hg=>?_)<;>simp only[go_sem,u1,hg])|(refine zc (fun hc=>?_) (fun hc=>?_)<;>try exact zh hc))
  refine⟨i+1,hlt,by omega,fun i=>i,?_⟩
  rw[ht]
  exact ent_mk (by simp[go_sem]) (by simp[go_sem]) (by simp) (fun id hid=>⟨rfl,by omega⟩)
end Go.Proofs.YtffmphmiicnaeaaDoor
