/- A part of the proof: an abstract machine for the walks, and what the walked functions compute. -/
import Derived.Test.YtfgjjnfdcgkpoaaCn
import Derived.Test.YtfgjjnfdcgkpoaaCe
import Derived.Test.YtfgjjnfdcgkpoaaCg
set_option linter.unusedVariables false
set_option linter.unusedSimpArgs false
set_option maxHeartbeats 4000000
set_option maxRecDepth 100000
namespace Go.Hv
open Go Go.Am Go.Proofs.Ytfgjjnfdcgkpoaa
structure Ed where
 h:Hp
 ou:List (Int×Int)
 dp:Int
 cd:Int
 st:Int
 sh:Bool
def stD (D:List Dt) (tk:Int) (e:Ed) (v:Vl):Ed:=
 if(dropS D e.h v).2.2≠0 then e
 else⟨(dropS D e.h v).1,e.ou++(dropS D e.h v).2.1.out.map fun p=>(tk,p),e.dp+((dropS D e.h v).2.1.cnt:Int),e.cd+(countS e.h v - ((dropS D e.h v).2.1.cnt:Int)),if(dropS D e.h v).2.1.pan then 3 else e.st,(dropS D e.h v).2.1.pan⟩
def stS (e:Ed) (v:Vl):Ed:=if(closeS e.h v).2=0 then { e with h:=(closeS e.h v).1,cd:=e.cd+countS e.h v } else e
def stE (D:List Dt) (tk:Int) (e:Ed) (v:Vl):Ed:=if e.sh then stS e v else stD D tk e v
end Go.Hv
namespace Go.Proofs.Ytfgjjnfdcgkpoaa
open Go.Am Go.Proofs Go.Hv
open Classical
attribute [local irreducible] AW CallP CallB CallY
def ftF (b:Bool):AV:=if b then .fn (.func 39) [] [] else .fn (.func 37) [] []
abbrev enC (w:Wd) (tk:Int) (X:Nat) (e:Ed):List AV:=[.sl (dl w.D),.sl w.R,.i w.mn,.sl (cl e.h.cells),.sl (bl e.h.arenas),.rw 1,.sl (chl w.cn),.rw X,.i w.md,.i e.dp,.i e.cd,.i tk,.i e.st,ftF e.sh]
def objE (w:Wd) (tk:Int) (e:Ed):Nat→Option AObj:=mkHp [(0,.cells (enC w tk 2 e)),(1,.row 7 (tsl w.ts)),(2,.row 2 (oul e.ou))]
theorem objE_0 (w:Wd) (tk:Int) (e:Ed):objE w tk e 0=some (.cells (enC w tk 2 e)):=rfl
theorem objE_1 (w:Wd) (tk:Int) (e:Ed):objE w tk e 1=some (.row 7 (tsl w.ts)):=rfl
theorem objE_2 (w:Wd) (tk:Int) (e:Ed):objE w tk e 2=some (.row 2 (oul e.ou)):=rfl
theorem ftF_clo (b:Bool):(ftF b).clo=true:=by cases b<;>rfl
@[go_sem] theorem ftF_ren (m:Nat→Nat) (b:Bool):(ftF b).ren m=ftF b:=clo_ren (ftF_clo b)
@[go_sem] theorem ftF_ids (p:Nat→Prop) (b:Bool):(ftF b).ids p=True:=eq_true (clo_ids (ftF_clo b))
theorem famE (w:Wd) (tk:Int):Fam (objE w tk) 3:=by
 refine⟨fun e id ob ho=>?_,fun e id hid=>?_⟩
 ·simp only[objE,mkHp,updo] at ho
  repeat' split at ho
  all_goals first|(cases ho;done)|skip
  all_goals cases ho;subst_vars
  all_goals exact⟨by decide,by simp[AObj.ids,AV.ids,AV.idsL,go_sem]⟩
 ·have:id=0∨id=1∨id=2:=by omega
  rcases this with rfl|rfl|rfl<;>simp[objE,mkHp,updo]
theorem finE {E : En} {w : Wd} {tk : Int} {e : Ed} {G : Ed → Prop} {σ : St} (X : Nat) (hX : 2 ≤ X) (hG : G e) (h0 : σ.hp 0 = some (.cells (enC w tk X e))) (h1 : σ.hp 1 = some (.row 7 (tsl w.ts))) (h2 : σ.hp X = some (.row 2 (oul e.ou))) :
    ∃ r m hc nc,resA Try.prog [] σ=some (AV.ren m r)∧r.ids (· <nc)∧Ent 2 m σ ⟨fun _=>none,hc,nc⟩∧(r= .tup []∧∃ x',hc=objE w tk x'∧G x'):=by
  refine⟨.tup [],fun i=>if i=2 then X else i,objE w tk e,3,rfl,trivial,?_,rfl,e,rfl,hG⟩
  show Ent _ _ _ (mkSt [] [(0,.cells (enC w tk 2 e)),(1,.row 7 (tsl w.ts)),(2,.row 2 (oul e.ou))] 3)
  refine ent_mk (by simp) (by simp[go_sem,h0,h1,h2]) (by simp;omega) (fun id hid=>⟨if_neg (by omega),by omega⟩)
structure EB (e:Ed):Prop where
 h:HB e.h
 o:e.ou.length≤2 ^ 40
 d: -(2 ^ 60)≤e.dp∧e.dp≤2 ^ 60
 c: -(2 ^ 60)≤e.cd∧e.cd≤2 ^ 60
theorem count_bd {h:Hp} {v:Vl} (hm:Sm h v) (h60:h.cells.length≤100):0≤countS h v∧countS h v≤2 ^ 30:=by
 unfold countS
 cases hs:walkS h v with
 |none=>simp
 |some o=>have:=walk_len hm h60 hs;simp only;omega
theorem shut_m (w:Wd) (tk:Int) (e:Ed) (v:Vl) (hb:EB e) (h60:e.h.cells.length≤100) (hv:v.sz≤2 ^ 20):MCall Try.prog 39 [.ptr 0 0,.agg v.cs] (objE w tk) 3 2 e (fun e'=>e'=stS e v):=by
 have hm:=hb.h.sm hv
 have c1:=count_call e.h v hm
 have c2:=close_call e.h v hm
 have hct:=count_bd hm h60
 have hcd:=hb.c
 rw[show v.cs=[.i v.kind,.i v.id,.i v.var,.i v.n,.sl (Vl.avL v.fs),.bool v.excl,.sl (il v.path),.sl (il v.loans)] from rfl]
 rw[Vl.av_eq,Hp.av_eq] at c1 c2
 unfold stS
 generalize closeS e.h v=r at*
 generalize countS e.h v=n at*
 obtain⟨h',er⟩:=r
 simp only at*
 have u1:IntKind.i64.wrap (e.cd+n)=e.cd+n:=by rw[wrap64 (by omega) (by omega)]
 by_cases he:er=0
 ·have q:(er==0)=true:=by simpa using he
  rw[if_pos he]
  refine MCall.intro Try.func39 isf39 rfl (by simp[Try.f39]) rfl fun E Q hE hN hQ=>K_start ?_
  repeat'(first|apply nx|refine zx ?_|rw[zw]|((first|refine hK _ ?_|refine hKp _ _ ?_);clear hK hKp K Kp;try clear hanc anc)|((with_reducible refine And.intro ?_ ?_);exact zb)|((first|refine zr hE fun K Kp hK hKp=>?_|refine zd true mixed hE fun K Kp hK hKp anc hanc=>?_|refine zd false mixed hE fun K Kp hK hKp anc hanc=>?_|(apply zm;exact zu;(first|exact c1|exact c2);exact zs;exact zl));simp only[go_sem,objE_0,Hp.av_eq,q,u1])|(refine zg (fun hg=>?_) (fun hg=>?_)<;>simp only[go_sem,objE_0,Hp.av_eq,q,u1,hg])|(refine zc (fun hc=>?_) (fun hc=>?_)<;>try exact zh hc))
  refine Kq_norm_nil ?_
  exact(hQ _ (finE (E:=E) 2 (by decide) rfl (by simp[updo]) (by simp[updo,objE_1]) (by simp[updo,objE_2]))).2
 ·have q:(er==0)=false:=by simpa using he
  rw[if_neg he]
  refine MCall.intro Try.func39 isf39 rfl (by simp[Try.f39]) rfl fun E Q hE hN hQ=>K_start ?_
  repeat'(first|apply nx|refine zx ?_|rw[zw]|((first|refine hK _ ?_|refine hKp _ _ ?_);clear hK hKp K Kp;try clear hanc anc)|((with_reducible refine And.intro ?_ ?_);exact zb)|((first|refine zr hE fun K Kp hK hKp=>?_|refine zd true mixed hE fun K Kp hK hKp anc hanc=>?_|refine zd false mixed hE fun K Kp hK hKp anc hanc=>?_|(apply zm;exact zu;(first|exact c1|exact c2);exact zs;exact zl));simp only[go_sem,objE_0,Hp.av_eq,q])|(refine zg (fun hg=>?_) (fun hg=>?_)<;>simp only[go_sem,objE_0,Hp.av_eq,q,hg])|(refine zc (fun hc=>?_) (fun hc=>?_)<;>try exact zh hc))
  refine Kq_norm_nil ?_
  exact(hQ _ (finE (E:=E) 2 (by decide) rfl (by simp[updo,objE_0]) (by simp[updo,objE_1]) (by simp[updo,objE_2]))).2
theorem drop_m (w:Wd) (tk:Int) (e:Ed) (v:Vl) (hsh:e.sh=false) (hb:EB e) (h60:e.h.cells.length≤100) (hv:v.sz≤2 ^ 20) (hD:w.D.length≤2 ^ 30):MCall Try.prog 37 [.ptr 0 0,.agg v.cs] (objE w tk) 3 2 e (fun e'=>e'=stD w.D tk e v):=by
 have hm:=hb.h.sm hv
 have c1:=count_call e.h v hm
 have c2:=drop_call w.D e.h v hm hD
 have hct:=count_bd hm h60
 have hln:=drop_len w.D hm h60
 have hcd:=hb.c
 have hdd:=hb.d
 have hoo:=hb.o
 rw[show v.cs=[.i v.kind,.i v.id,.i v.var,.i v.n,.sl (Vl.avL v.fs),.bool v.excl,.sl (il v.path),.sl (il v.loans)] from rfl]
 unfold resD at c2
 rw[Vl.av_eq,Hp.av_eq] at c1 c2
 unfold stD
 generalize dropS w.D e.h v=r at*
 generalize countS e.h v=n at*
 obtain⟨h',⟨out,cnt,pan⟩,er⟩:=r
 simp only at*
 by_cases he:er=0
 case neg=>
  have q:(er !=0)=true:=by simpa using he
  rw[if_pos he]
  refine MCall.intro Try.func37 isf37 rfl (by simp[Try.f37]) rfl fun E Q hE hN hQ=>K_start ?_
  repeat'(first|apply nx|refine zx ?_|rw[zw]|((first|refine hK _ ?_|refine hKp _ _ ?_);clear hK hKp K Kp;try clear hanc anc)|((with_reducible refine And.intro ?_ ?_);exact zb)|((first|refine zr hE fun K Kp hK hKp=>?_|refine zd true mixed hE fun K Kp hK hKp anc hanc=>?_|refine zd false mixed hE fun K Kp hK hKp anc hanc=>?_|(apply zm;exact zu;(first|exact c1|exact c2);exact zs;exact zl));simp only[go_sem,objE_0,Hp.av_eq,q])|(refine zg (fun hg=>?_) (fun hg=>?_)<;>simp only[go_sem,objE_0,Hp.av_eq,q,hg])|(refine zc (fun hc=>?_) (fun hc=>?_)<;>try exact zh hc))
  exact K_ret (hQ _ (finE (E:=E) 2 (by decide) rfl (by simp[updo,objE_0]) (by simp[updo,objE_1]) (by simp[updo,objE_2]))).1
 have q:(er !=0)=false:=by simpa using he
 rw[if_neg (by simpa using he)]
 refine MCall.intro Try.func37 isf37 rfl (by simp[Try.f37]) rfl fun E Q hE hN hQ=>K_start ?_
 repeat'(first|apply nx|refine zx ?_|rw[zw]|((first|refine hK _ ?_|refine hKp _ _ ?_);clear hK hKp K Kp;try clear hanc anc)|((with_reducible refine And.intro ?_ ?_);exact zb)|((first|refine zr hE fun K Kp hK hKp=>?_|refine zd true mixed hE fun K Kp hK hKp anc hanc=>?_|refine zd false mixed hE fun K Kp hK hKp anc hanc=>?_|(apply zm;exact zu;(first|exact c1|exact c2);exact zs;exact zl));simp only[go_sem,objE_0,Hp.av_eq,q])|(refine zg (fun hg=>?_) (fun hg=>?_)<;>simp only[go_sem,objE_0,Hp.av_eq,q,hg])|(refine zc (fun hc=>?_) (fun hc=>?_)<;>try exact zh hc))
 refine K_loop (X:=Nat) (fun i=>i≤out.length) (fun i=>mkSt [(0,.ptr 0 0),(4,.i n),(5,.ptr 3 0),(7,.i (cnt:Int)),(8,.bool pan),(40,.sl (il out)),(41,.i out.length),(42,.i (i:Nat))] [(0,.cells (enC w tk 2 e)),(1,.row 7 (tsl w.ts)),(2,.row 2 (oul (e.ou++(out.take i).map fun p=>(tk,p)))),(3,.cells [.sl (cl h'.cells),.sl (bl h'.arenas)])] 4) (fun i=>out.length - i) 0 (Nat.zero_le _) (fun i=>if i=3 then 29360131 else i) ?_ ?_
 ·refine ent_mk (by simp[go_sem]) (by simp[go_sem,objE_0,objE_1,objE_2]) (by simp) (by rw[hN];exact fun id hid=>⟨if_neg (by omega),by omega⟩)
 intro i hi
 by_cases hlt:i<out.length
 ·obtain⟨p,hp⟩:=get?_of hlt
  have u1:IntKind.i64.wrap ((i:Int)+1)=((i+1:Nat):Int):=by rw[wrap64 (by omega) (by omega)];omega
  have hol:(e.ou++(out.take i).map fun p=>(tk,p)).length≤2 ^ 41:=by simp;omega
  have hst:e.ou++(out.take (i+1)).map (fun p=>(tk,p))=(e.ou++(out.take i).map fun p=>(tk,p))++[(tk,p)]:=by
   rw[List.take_add_one,hp];simp
  have htl:(out.take i).length=i:=by rw[List.length_take];omega
  repeat'(first|apply nx|refine zx ?_|rw[zw]|((first|refine hK _ ?_|refine hKp _ _ ?_);clear hK hKp K Kp;try clear hanc anc)|((with_reducible refine And.intro ?_ ?_);exact zb)|((first|refine zr hE fun K Kp hK hKp=>?_|refine zd true mixed hE fun K Kp hK hKp anc hanc=>?_|refine zd false mixed hE fun K Kp hK hKp anc hanc=>?_);simp only[go_sem,lt_dec hlt,hp,u1,htl])|(refine zg (fun hg=>?_) (fun hg=>?_)<;>simp only[go_sem,lt_dec hlt,hp,u1,htl,hg])|(refine zc (fun hc=>?_) (fun hc=>?_)<;>try exact zh hc))
  refine⟨i+1,hlt,by omega,fun i=>if i=2 then 17825796 else i,?_⟩
  rw[hst]
  refine ent_mk (by simp[go_sem]) (by simp[go_sem]) (by simp) (by rw[hN];exact fun id hid=>⟨if_neg (by omega),by omega⟩)
 ·obtain rfl:i=out.length:=by omega
  rw[List.take_length]
  have u2:IntKind.i64.wrap (e.dp+(cnt:Int))=e.dp+cnt:=by rw[wrap64 (by omega) (by omega)]
  have u3:IntKind.i64.wrap (n - (cnt:Int))=n - cnt:=by rw[wrap64 (by omega) (by omega)]
  have u4:IntKind.i64.wrap (e.cd+(n - (cnt:Int)))=e.cd+(n - cnt):=by rw[wrap64 (by omega) (by omega)]
  have hft:ftF e.sh= .fn (.func 37) [] []:=by rw[hsh];rfl
  cases pan
  ·repeat'(first|apply nx|refine zx ?_|rw[zw]|((first|refine hK _ ?_|refine hKp _ _ ?_);clear hK hKp K Kp;try clear hanc anc)|((with_reducible refine And.intro ?_ ?_);exact zb)|((first|refine zr hE fun K Kp hK hKp=>?_|refine zd true mixed hE fun K Kp hK hKp anc hanc=>?_|refine zd false mixed hE fun K Kp hK hKp anc hanc=>?_);simp only[go_sem,ge_dec,u2,u3,u4])|(refine zg (fun hg=>?_) (fun hg=>?_)<;>simp only[go_sem,ge_dec,u2,u3,u4,hg])|(refine zc (fun hc=>?_) (fun hc=>?_)<;>try exact zh hc))
   refine Kq_norm_nil ?_
   exact(hQ _ (finE (E:=E) 2 (by decide) rfl (by simp[updo,hft];rfl) (by simp[updo]) (by simp[updo]))).2
  ·repeat'(first|apply nx|refine zx ?_|rw[zw]|((first|refine hK _ ?_|refine hKp _ _ ?_);clear hK hKp K Kp;try clear hanc anc)|((with_reducible refine And.intro ?_ ?_);exact zb)|((first|refine zr hE fun K Kp hK hKp=>?_|refine zd true mixed hE fun K Kp hK hKp anc hanc=>?_|refine zd false mixed hE fun K Kp hK hKp anc hanc=>?_);simp only[go_sem,ge_dec,u2,u3,u4])|(refine zg (fun hg=>?_) (fun hg=>?_)<;>simp only[go_sem,ge_dec,u2,u3,u4,hg])|(refine zc (fun hc=>?_) (fun hc=>?_)<;>try exact zh hc))
   refine Kq_norm_nil ?_
   exact(hQ _ (finE (E:=E) 2 (by decide) rfl (by simp[updo];rfl) (by simp[updo]) (by simp[updo]))).2
end Go.Proofs.Ytfgjjnfdcgkpoaa

set_option maxHeartbeats 4000000
set_option maxRecDepth 100000
namespace Go.Proofs.Ytfgjjnfdcgkpoaa
open Go.Am Go.Proofs Go.Hv
open Classical
attribute [local irreducible] AW CallP CallB CallY
theorem tsl_cons (x:Tsk) (l:List Tsk):tsl (x::l)=x.av::tsl l:=rfl
theorem oul_cons (x:Int×Int) (l:List (Int×Int)):oul (x::l)=ouv x::oul l:=rfl
theorem cloneO_nc (l:List (Int×Int)) (hl:l.length≤2 ^ 30):ACall Try.prog 52 [.sl (oul l)] (fun _=>none) 0 0 (fun r hp'=>r= .rw 0∧hp'=mkHp [(0,.row 2 (oul l))]) (fun _ _=>False):=by
 refine ACall.of_bodyR Try.func52 isf52 rfl (by simp[Try.f52]) fun E Q hE hN hQ hQp=>K_start ?_
 have hlen:(oul l).length=l.length:=oul_len l
 have hs0:∀ n,SzOk ([]:List AV) n:=fun n x h=>by cases h
 have hs1:=hs0 2
 cases l with
 |nil=>
  repeat(first|refine K_seq ?_|refine K_blk ?_|refine AW_skip ?_|refine Kq_norm_code ?_|refine Kq_norm_blk ?_)
  refine zr hE fun K Kp hK hKp=>?_
  simp only[go_sem,oul_nil]
  refine hK _ ?_;clear hK hKp K Kp;try clear hanc anc
  repeat(first|refine Kq_norm_code ?_|refine Kq_norm_blk ?_|refine Kq_norm_lp ?_)
  repeat(first|refine K_seq ?_|refine K_blk ?_|refine AW_skip ?_|refine Kq_norm_code ?_|refine Kq_norm_blk ?_)
  refine AW_nilq Try.underlying32 (by rw[hE];decide) (by rw[hE];decide) (by decide) (by simp only[go_sem,oul_nil]) fun b=>?_
  cases b
  ·repeat'(first|apply nx|refine zx ?_|rw[zw]|((first|refine hK _ ?_|refine hKp _ _ ?_);clear hK hKp K Kp;try clear hanc anc)|((with_reducible refine And.intro ?_ ?_);exact zb)|((first|refine zr hE fun K Kp hK hKp=>?_|refine zd true mixed hE fun K Kp hK hKp anc hanc=>?_|refine zd false mixed hE fun K Kp hK hKp anc hanc=>?_);simp only[go_sem,oul_nil])|(refine zg (fun hg=>?_) (fun hg=>?_)<;>simp only[go_sem,oul_nil,hg])|(refine zc (fun hc=>?_) (fun hc=>?_)<;>try exact zh hc))
   refine K_ret (hQ _ ⟨.rw 0,fun _=>3145728,_,1,resA_tmp (by simp only[go_sem,oul_nil]),(by simp[AV.ids,AV.idsL]),?_,rfl,rfl⟩).1
   show Ent _ _ _ (mkSt [] [(0,.row 2 (oul []))] 1)
   refine ent_mk (by simp[go_sem,oul_nil]) (by simp[go_sem,oul_nil]) (by simp) (by simp[hN])
  ·repeat'(first|apply nx|refine zx ?_|rw[zw]|((first|refine hK _ ?_|refine hKp _ _ ?_);clear hK hKp K Kp;try clear hanc anc)|((with_reducible refine And.intro ?_ ?_);exact zb)|((first|refine zr hE fun K Kp hK hKp=>?_|refine zd true mixed hE fun K Kp hK hKp anc hanc=>?_|refine zd false mixed hE fun K Kp hK hKp anc hanc=>?_);simp only[go_sem,oul_nil])|(refine zg (fun hg=>?_) (fun hg=>?_)<;>simp only[go_sem,oul_nil,hg])|(refine zc (fun hc=>?_) (fun hc=>?_)<;>try exact zh hc))
   refine AW_nil 2 2 (by rw[hE];decide) (by simp only[go_sem]) ?_
   refine K_ret (hQ _ ⟨.rw 0,fun _=>2097152,_,1,resA_tmp (by simp only[go_sem,oul_nil]),(by simp[AV.ids,AV.idsL]),?_,rfl,rfl⟩).1
   show Ent _ _ _ (mkSt [] [(0,.row 2 (oul []))] 1)
   refine ent_mk (by simp[go_sem,oul_nil]) (by simp[go_sem,oul_nil]) (by simp) (by simp[hN])
 |cons x l=>
  have hsz:=of_eq_true (szok_oul (x::l))
  rw[oul_cons] at hsz
  simp only[List.length_cons] at hl
  repeat'(first|apply nx|refine zx ?_|rw[zw]|((first|refine hK _ ?_|refine hKp _ _ ?_);clear hK hKp K Kp;try clear hanc anc)|((with_reducible refine And.intro ?_ ?_);exact zb)|((first|refine zr hE fun K Kp hK hKp=>?_|refine zd true mixed hE fun K Kp hK hKp anc hanc=>?_|refine zd false mixed hE fun K Kp hK hKp anc hanc=>?_);simp only[go_sem,oul_cons])|(refine zg (fun hg=>?_) (fun hg=>?_)<;>simp only[go_sem,oul_cons,hg])|(refine zc (fun hc=>?_) (fun hc=>?_)<;>try exact zh hc))
  refine⟨⟨hsz,by simp only[Fits];omega⟩,?_⟩
  repeat'(first|apply nx|refine zx ?_|rw[zw]|((first|refine hK _ ?_|refine hKp _ _ ?_);clear hK hKp K Kp;try clear hanc anc)|((with_reducible refine And.intro ?_ ?_);exact zb)|((first|refine zr hE fun K Kp hK hKp=>?_|refine zd true mixed hE fun K Kp hK hKp anc hanc=>?_|refine zd false mixed hE fun K Kp hK hKp anc hanc=>?_);simp only[go_sem,oul_cons])|(refine zg (fun hg=>?_) (fun hg=>?_)<;>simp only[go_sem,oul_cons,hg])|(refine zc (fun hc=>?_) (fun hc=>?_)<;>try exact zh hc))
  refine K_ret (hQ _ ⟨.rw 0,fun _=>5242880,_,1,resA_tmp (by simp only[go_sem,oul_cons,ouv]),(by simp[AV.ids,AV.idsL]),?_,rfl,rfl⟩).1
  show Ent _ _ _ (mkSt [] [(0,.row 2 (oul (x::l)))] 1)
  refine ent_mk (by simp[go_sem,oul_cons,ouv]) (by simp[go_sem,oul_cons,ouv]) (by simp) (by simp[hN])
theorem cloneT_nc (l:List Tsk) (hl:l.length≤2 ^ 30):ACall Try.prog 53 [.sl (tsl l)] (fun _=>none) 0 0 (fun r hp'=>r= .rw 0∧hp'=mkHp [(0,.row 7 (tsl l))]) (fun _ _=>False):=by
 refine ACall.of_bodyR Try.func53 isf53 rfl (by simp[Try.f53]) fun E Q hE hN hQ hQp=>K_start ?_
 have hlen:(tsl l).length=l.length:=tsl_len l
 have hs0:∀ n,SzOk ([]:List AV) n:=fun n x h=>by cases h
 have hs1:=hs0 7
 cases l with
 |nil=>
  repeat(first|refine K_seq ?_|refine K_blk ?_|refine AW_skip ?_|refine Kq_norm_code ?_|refine Kq_norm_blk ?_)
  refine zr hE fun K Kp hK hKp=>?_
  simp only[go_sem,tsl_nil]
  refine hK _ ?_;clear hK hKp K Kp;try clear hanc anc
  repeat(first|refine Kq_norm_code ?_|refine Kq_norm_blk ?_|refine Kq_norm_lp ?_)
  repeat(first|refine K_seq ?_|refine K_blk ?_|refine AW_skip ?_|refine Kq_norm_code ?_|refine Kq_norm_blk ?_)
  refine AW_nilq Try.underlying30 (by rw[hE];decide) (by rw[hE];decide) (by decide) (by simp only[go_sem,tsl_nil]) fun b=>?_
  cases b
  ·repeat'(first|apply nx|refine zx ?_|rw[zw]|((first|refine hK _ ?_|refine hKp _ _ ?_);clear hK hKp K Kp;try clear hanc anc)|((with_reducible refine And.intro ?_ ?_);exact zb)|((first|refine zr hE fun K Kp hK hKp=>?_|refine zd true mixed hE fun K Kp hK hKp anc hanc=>?_|refine zd false mixed hE fun K Kp hK hKp anc hanc=>?_);simp only[go_sem,tsl_nil])|(refine zg (fun hg=>?_) (fun hg=>?_)<;>simp only[go_sem,tsl_nil,hg])|(refine zc (fun hc=>?_) (fun hc=>?_)<;>try exact zh hc))
   refine K_ret (hQ _ ⟨.rw 0,fun _=>3145728,_,1,resA_tmp (by simp only[go_sem,tsl_nil]),(by simp[AV.ids,AV.idsL]),?_,rfl,rfl⟩).1
   show Ent _ _ _ (mkSt [] [(0,.row 7 (tsl []))] 1)
   refine ent_mk (by simp[go_sem,tsl_nil]) (by simp[go_sem,tsl_nil]) (by simp) (by simp[hN])
  ·repeat'(first|apply nx|refine zx ?_|rw[zw]|((first|refine hK _ ?_|refine hKp _ _ ?_);clear hK hKp K Kp;try clear hanc anc)|((with_reducible refine And.intro ?_ ?_);exact zb)|((first|refine zr hE fun K Kp hK hKp=>?_|refine zd true mixed hE fun K Kp hK hKp anc hanc=>?_|refine zd false mixed hE fun K Kp hK hKp anc hanc=>?_);simp only[go_sem,tsl_nil])|(refine zg (fun hg=>?_) (fun hg=>?_)<;>simp only[go_sem,tsl_nil,hg])|(refine zc (fun hc=>?_) (fun hc=>?_)<;>try exact zh hc))
   refine AW_nil 2 7 (by rw[hE];decide) (by simp only[go_sem]) ?_
   refine K_ret (hQ _ ⟨.rw 0,fun _=>2097152,_,1,resA_tmp (by simp only[go_sem,tsl_nil]),(by simp[AV.ids,AV.idsL]),?_,rfl,rfl⟩).1
   show Ent _ _ _ (mkSt [] [(0,.row 7 (tsl []))] 1)
   refine ent_mk (by simp[go_sem,tsl_nil]) (by simp[go_sem,tsl_nil]) (by simp) (by simp[hN])
 |cons x l=>
  have hsz:=of_eq_true (szok_tsl (x::l))
  rw[tsl_cons] at hsz
  simp only[List.length_cons] at hl
  repeat'(first|apply nx|refine zx ?_|rw[zw]|((first|refine hK _ ?_|refine hKp _ _ ?_);clear hK hKp K Kp;try clear hanc anc)|((with_reducible refine And.intro ?_ ?_);exact zb)|((first|refine zr hE fun K Kp hK hKp=>?_|refine zd true mixed hE fun K Kp hK hKp anc hanc=>?_|refine zd false mixed hE fun K Kp hK hKp anc hanc=>?_);simp only[go_sem,tsl_cons])|(refine zg (fun hg=>?_) (fun hg=>?_)<;>simp only[go_sem,tsl_cons,hg])|(refine zc (fun hc=>?_) (fun hc=>?_)<;>try exact zh hc))
  refine⟨⟨hsz,by simp only[Fits];omega⟩,?_⟩
  repeat'(first|apply nx|refine zx ?_|rw[zw]|((first|refine hK _ ?_|refine hKp _ _ ?_);clear hK hKp K Kp;try clear hanc anc)|((with_reducible refine And.intro ?_ ?_);exact zb)|((first|refine zr hE fun K Kp hK hKp=>?_|refine zd true mixed hE fun K Kp hK hKp anc hanc=>?_|refine zd false mixed hE fun K Kp hK hKp anc hanc=>?_);simp only[go_sem,tsl_cons])|(refine zg (fun hg=>?_) (fun hg=>?_)<;>simp only[go_sem,tsl_cons,hg])|(refine zc (fun hc=>?_) (fun hc=>?_)<;>try exact zh hc))
  refine K_ret (hQ _ ⟨.rw 0,fun _=>5242880,_,1,resA_tmp (by simp only[go_sem,tsl_cons,ouv]),(by simp[AV.ids,AV.idsL]),?_,rfl,rfl⟩).1
  show Ent _ _ _ (mkSt [] [(0,.row 7 (tsl (x::l)))] 1)
  refine ent_mk (by simp[go_sem,tsl_cons,ouv]) (by simp[go_sem,tsl_cons,ouv]) (by simp) (by simp[hN])
theorem valuesF_nc (t:Tsk):ACall Try.prog 54 [t.av] (fun _=>none) 0 0 (fun r hp'=>r= .fn (.func 70) [] [.ptr 0 0]∧hp'=mkHp [(0,.cells t.cs)]) (fun _ _=>False):=by
 rw[Tsk.av_eq]
 refine ACall.of_bodyR Try.func54 isf54 rfl (by simp[Try.f54]) fun E Q hE hN hQ hQp=>K_start ?_
 repeat'(first|apply nx|refine zx ?_|rw[zw]|((first|refine hK _ ?_|refine hKp _ _ ?_);clear hK hKp K Kp;try clear hanc anc)|((with_reducible refine And.intro ?_ ?_);exact zb)|((first|refine zr hE fun K Kp hK hKp=>?_|refine zd true mixed hE fun K Kp hK hKp anc hanc=>?_|refine zd false mixed hE fun K Kp hK hKp anc hanc=>?_);simp only[go_sem])|(refine zg (fun hg=>?_) (fun hg=>?_)<;>simp only[go_sem,hg])|(refine zc (fun hc=>?_) (fun hc=>?_)<;>try exact zh hc))
 refine K_ret (hQ _ ⟨.fn (.func 70) [] [.ptr 0 0],fun i=>i,_,1,resA_tmp (by simp only[go_sem,Tsk.cs]),(by simp[AV.ids,AV.idsL]),?_,rfl,rfl⟩).1
 show Ent _ _ _ (mkSt [] [(0,.cells t.cs)] 1)
 refine ent_mk (by simp[go_sem,Tsk.cs]) (by simp[go_sem,Tsk.cs]) (by simp) (by simp[hN])
theorem fate_use {w : Wd} {tk : Int} {e e2 : Ed} {v : Vl} {f : FuncId} (hA : MCall Try.prog f [.ptr 0 0, .agg v.cs] (objE w tk) 3 2 e (fun e' => e' = e2)) {fr : Nat → Option AV} {hp0 : Nat → Option AObj} {n0 k : Nat} {d : Option Nat} {K : St → Prop} {Kp : AV → St → Prop} (Y B : Nat) (hY : 2 ≤ Y) (hYn : Y ≠ 0) (hB : n0 + 1048576 * k = B)
    (h0:hp0 0=some (.cells (enC w tk Y e))) (h1:hp0 1=some (.row 7 (tsl w.ts))) (h2:hp0 Y=some (.row 2 (oul e.ou)))
    (hK:∀ hpn,hpn 0=some (.cells (enC w tk B e2))→hpn 1=some (.row 7 (tsl w.ts))→hpn B=some (.row 2 (oul e2.ou))→(∀ id o,id≠0→id≠1→id≠Y→hp0 id=some o→hpn id=some o)→K ⟨putf fr d (.tup []),hpn,n0⟩):
    CallB Try.prog f [.ptr 0 0,.agg [.i v.kind,.i v.id,.i v.var,.i v.n,.sl (Vl.avL v.fs),.bool v.excl,.sl (il v.path),.sl (il v.loans)]] ⟨fr,hp0,n0⟩ k d K Kp:=by
  subst hB
  refine CallB.use hA (fun i=>if i=2 then Y else i) (by simp[AV.renL,AV.ren,Vl.cs,go_sem]) (by simp[AV.ids,AV.idsL,Vl.cs,go_sem]) (fun id o ho=>?_) (fun id id' o o' ho ho' h=>?_) (fun id hid=>⟨by omega,(famE w tk).all e id (by omega)⟩) ?_ (fun _ _ h=>h.elim) ?_ (fun _ _ _ h=>h.elim)
  · refine⟨?_,(famE w tk).lt e id o ho⟩
    revert id o
    exact mkHp_allP (p:=fun id o=>hp0 (if id=2 then Y else id)=some (o.ren fun i=>if i=2 then Y else i)) (by simp[h0,h1,h2,AObj.ren,AV.renL,AV.ren,go_sem])
  · have a:=((famE w tk).lt e id o ho).1
    have b:=((famE w tk).lt e id' o' ho').1
    split at h<;>split at h<;>omega
  · rintro r hp' ⟨rfl,x',rfl,rfl⟩
    exact⟨trivial,fun id o ho=>⟨by have:=((famE w tk).lt x' id o ho).1;omega,objids_mono _ (fun j hj=>by omega) ((famE w tk).lt x' id o ho).2⟩⟩
  · rintro r hp' fr' hpn ⟨rfl,x',rfl,rfl⟩ hfr hobj hold
    have hfr2:fr'=putf fr d (.tup []):=by rw[hfr];cases d<;>simp[St.put,putf,AV.ren,AV.renL]
    subst hfr2
    have b0:backM (fun i=>if i=2 then Y else i) 2 (n0+1048576*k) 0=0:=by rw[backM_lt (by omega)];simp
    have b1:backM (fun i=>if i=2 then Y else i) 2 (n0+1048576*k) 1=1:=by rw[backM_lt (by omega)];simp
    have b2:backM (fun i=>if i=2 then Y else i) 2 (n0+1048576*k) 2=n0+1048576*k:=by rw[backM_ge (by omega)];omega
    have g0:=hobj 0 _ (objE_0 w tk x')
    have g1:=hobj 1 _ (objE_1 w tk x')
    have g2:=hobj 2 _ (objE_2 w tk x')
    rw[b0] at g0
    rw[b1] at g1
    rw[b2] at g2
    simp only[AObj.ren,AV.renL,AV.ren,b1,b2,dl_ren,cl_ren,bl_ren,chl_ren,tsl_ren,oul_ren,ftF_ren] at g0 g1 g2
    refine hK hpn g0 g1 g2 fun id o i0 i1 iY ho=>hold id o ho fun j hj e=>?_
    have:j<3:=by
      cases hj2:objE w tk _ j with
      |none=>exact absurd hj2 hj
      |some o=>exact((famE w tk).lt _ j o hj2).1
    split at e<;>omega
end Go.Proofs.Ytfgjjnfdcgkpoaa

set_option maxHeartbeats 4000000
set_option maxRecDepth 100000
namespace Go.Hv
open Go Go.Am Go.Proofs.Ytfgjjnfdcgkpoaa
def readyT (w:Wd) (tk:Int):Option Tsk:=if 0≤tk then(match w.ts[tk.toNat]? with|some t=>if t.st=0 then some t else none|none=>none) else none
def Wd.ed (w:Wd) (st:Int) (sh:Bool):Ed:=⟨w.h,w.ou,w.dp,w.cd,st,sh⟩
def runE' (w:Wd) (tk st:Int) (sh:Bool) (t:Tsk):Ed:=(valsT t).foldl (stE w.D tk) (w.ed st sh)
def endW (w:Wd) (tk st:Int) (sh:Bool):Wd:=
 match readyT w tk with
 |none=>w
 |some t=> { w with h:=(runE' w tk st sh t).h,ts:=w.ts.set tk.toNat { t with st:=(runE' w tk st sh t).st,fs:=[],ls:=[] },ou:=(runE' w tk st sh t).ou,dp:=(runE' w tk st sh t).dp,cd:=(runE' w tk st sh t).cd }
end Go.Hv
namespace Go.Proofs.Ytfgjjnfdcgkpoaa
open Go.Am Go.Proofs Go.Hv
open Classical
attribute [local irreducible] AW CallP CallB CallY
attribute [local simp] ftF_clo
structure WS (w:Wd):Prop where
 h:HB w.h
 c:w.h.cells.length≤60
 t:w.ts.length≤8
 tb:∀ t,t∈w.ts→TB t
 tv:∀ t,t∈w.ts→∀ a,a∈t.fs→∀ v,v∈a.sl→v.sz≤2 ^ 20
 D:w.D.length≤60
 o:w.ou.length≤300
 d: -(2 ^ 40)≤w.dp∧w.dp≤2 ^ 40
 k: -(2 ^ 40)≤w.cd∧w.cd≤2 ^ 40
theorem end_none (w:Wd) (tk st:Int) (sh:Bool) (hr:readyT w tk=none) (hw:w.ts.length≤2 ^ 40):PCall Try.prog 36 [w.av,.i tk,.i st,ftF sh] w.av:=by
 rw[Wd.av_eq]
 unfold readyT at hr
 by_cases h1:0≤tk
 ·have q1:decide (tk<0)=false:=decide_eq_false (by omega)
  obtain⟨m,rfl⟩:∃ m:Nat,tk=m:=⟨tk.toNat,by omega⟩
  rw[if_pos h1,Int.toNat_natCast] at hr
  by_cases h2:m<w.ts.length
  ·obtain⟨t,ht⟩:=get?_of h2
   have q2:decide ((m:Int)≥(w.ts.length:Int))=false:=decide_eq_false (by omega)
   rw[ht] at hr
   have hs:t.st≠0:=fun h=>by simp[h] at hr
   have q3:(t.st !=0)=true:=by simpa using hs
   refine PCall.intro Try.func36 rfl isf36 (by simp[Try.f36]) (by simp[AV.cloL,AV.clo]) fun E Q hE hN hQ=>K_start ?_
   repeat'(first|apply nx|refine zx ?_|rw[zw]|((first|refine hK _ ?_|refine hKp _ _ ?_);clear hK hKp K Kp;try clear hanc anc)|((with_reducible refine And.intro ?_ ?_);exact zb)|((first|refine zr hE fun K Kp hK hKp=>?_|refine zd true mixed hE fun K Kp hK hKp anc hanc=>?_|refine zd false mixed hE fun K Kp hK hKp anc hanc=>?_);simp only[go_sem,q1,q2,lt_dec h2,ht,Tsk.av_eq,q3])|(refine zg (fun hg=>?_) (fun hg=>?_)<;>simp only[go_sem,q1,q2,lt_dec h2,ht,Tsk.av_eq,q3,hg])|(refine zc (fun hc=>?_) (fun hc=>?_)<;>try exact zh hc))
   refine K_ret (hQ _ ⟨.agg w.cs,by simp[resA,rvA,Try.f36,go_sem,Wd.cs];rfl,by simp[AV.snapOk,AV.snapOkL,Wd.cs],by simp[AV.snap,AV.snapL,Wd.cs],rfl⟩).1
  ·have q2:decide ((m:Int)≥(w.ts.length:Int))=true:=decide_eq_true (by omega)
   refine PCall.intro Try.func36 rfl isf36 (by simp[Try.f36]) (by simp[AV.cloL,AV.clo]) fun E Q hE hN hQ=>K_start ?_
   repeat'(first|apply nx|refine zx ?_|rw[zw]|((first|refine hK _ ?_|refine hKp _ _ ?_);clear hK hKp K Kp;try clear hanc anc)|((with_reducible refine And.intro ?_ ?_);exact zb)|((first|refine zr hE fun K Kp hK hKp=>?_|refine zd true mixed hE fun K Kp hK hKp anc hanc=>?_|refine zd false mixed hE fun K Kp hK hKp anc hanc=>?_);simp only[go_sem,q1,q2])|(refine zg (fun hg=>?_) (fun hg=>?_)<;>simp only[go_sem,q1,q2,hg])|(refine zc (fun hc=>?_) (fun hc=>?_)<;>try exact zh hc))
   refine K_ret (hQ _ ⟨.agg w.cs,by simp[resA,rvA,Try.f36,go_sem,Wd.cs];rfl,by simp[AV.snapOk,AV.snapOkL,Wd.cs],by simp[AV.snap,AV.snapL,Wd.cs],rfl⟩).1
 ·have q1:decide (tk<0)=true:=decide_eq_true (by omega)
  refine PCall.intro Try.func36 rfl isf36 (by simp[Try.f36]) (by simp[AV.cloL,AV.clo]) fun E Q hE hN hQ=>K_start ?_
  repeat'(first|apply nx|refine zx ?_|rw[zw]|((first|refine hK _ ?_|refine hKp _ _ ?_);clear hK hKp K Kp;try clear hanc anc)|((with_reducible refine And.intro ?_ ?_);exact zb)|((first|refine zr hE fun K Kp hK hKp=>?_|refine zd true mixed hE fun K Kp hK hKp anc hanc=>?_|refine zd false mixed hE fun K Kp hK hKp anc hanc=>?_);simp only[go_sem,q1])|(refine zg (fun hg=>?_) (fun hg=>?_)<;>simp only[go_sem,q1,hg])|(refine zc (fun hc=>?_) (fun hc=>?_)<;>try exact zh hc))
  refine K_ret (hQ _ ⟨.agg w.cs,by simp[resA,rvA,Try.f36,go_sem,Wd.cs];rfl,by simp[AV.snapOk,AV.snapOkL,Wd.cs],by simp[AV.snap,AV.snapL,Wd.cs],rfl⟩).1
def objW2 (w:Wd) (tk:Int) (t:Tsk) (e:Ed):Nat→Option AObj:=mkHp [(0,.cells (enC w tk 20 e)),(1,.row 7 (tsl w.ts)),(2,.cells [.ptr 0 0]),(3,.cells t.cs),(4,.cells [.nilsl,.nilsl,.i 0,.nilsl,.nilsl,.nilsl,.nilsl,.nilsl,.i 0,.i 0,.i 0]),(20,.row 2 (oul e.ou))]
theorem objW2_0 (w:Wd) (tk:Int) (t:Tsk) (e:Ed):objW2 w tk t e 0=some (.cells (enC w tk 20 e)):=rfl
theorem objW2_1 (w:Wd) (tk:Int) (t:Tsk) (e:Ed):objW2 w tk t e 1=some (.row 7 (tsl w.ts)):=rfl
theorem objW2_2 (w:Wd) (tk:Int) (t:Tsk) (e:Ed):objW2 w tk t e 2=some (.cells [.ptr 0 0]):=rfl
theorem objW2_3 (w:Wd) (tk:Int) (t:Tsk) (e:Ed):objW2 w tk t e 3=some (.cells t.cs):=rfl
theorem objW2_4 (w:Wd) (tk:Int) (t:Tsk) (e:Ed):objW2 w tk t e 4=some (.cells [.nilsl,.nilsl,.i 0,.nilsl,.nilsl,.nilsl,.nilsl,.nilsl,.i 0,.i 0,.i 0]):=rfl
theorem objW2_20 (w:Wd) (tk:Int) (t:Tsk) (e:Ed):objW2 w tk t e 20=some (.row 2 (oul e.ou)):=rfl
structure GB (i:Nat) (e:Ed):Prop where
 h:HB e.h
 c:e.h.cells.length≤60
 o:(e.ou.length:Int)≤300+(i:Int)*2 ^ 30
 d: -(2 ^ 40)≤e.dp∧e.dp≤2 ^ 40+(i:Int)*2 ^ 30
 k: -(2 ^ 40) - (i:Int)*2 ^ 30≤e.cd∧e.cd≤2 ^ 40+(i:Int)*2 ^ 30
theorem GB.start {w:Wd} (hw:WS w) (st:Int) (sh:Bool):GB 0 (w.ed st sh):=
 ⟨hw.h,hw.c,by have:=hw.o;simp only[Wd.ed];omega,by simpa [Wd.ed] using hw.d,by simpa [Wd.ed] using hw.k⟩
theorem GB.eb {i:Nat} {e:Ed} (hg:GB i e) (hi:i≤100):EB e:=
 ⟨hg.h,by have:=hg.o;omega,by have:=hg.d;omega,by have:=hg.k;omega⟩
theorem drop_cells (D:List Dt) (h:Hp) (v:Vl):(dropS D h v).1.cells.length≤h.cells.length:=by
 unfold dropS
 split
 ·exact Nat.zero_le _
 ·split
  ·exact Nat.zero_le _
  ·rw[closedS,clrC_len];exact Nat.le_refl _
theorem close_cells (h:Hp) (v:Vl):(closeS h v).1.cells.length≤h.cells.length:=by
 unfold closeS
 split
 ·rw[closedS,clrC_len];exact Nat.le_refl _
 ·exact Nat.zero_le _
theorem GB.step {i:Nat} {e:Ed} {D:List Dt} {tk:Int} {v:Vl} (hg:GB i e) (hv:v.sz≤2 ^ 20) (hi:i≤100):GB (i+1) (stE D tk e v):=by
 have hm:=hg.h.sm hv
 have h60:e.h.cells.length≤100:=by have:=hg.c;omega
 have hct:=count_bd hm h60
 have hln:=drop_len D hm h60
 have hdc:=drop_cells D e.h v
 have hcc:=close_cells e.h v
 have g1:=hg.h.drop D v
 have g2:=hg.h.close v
 obtain⟨a1,a2,a3,a4,a5⟩:=hg
 have e1:((i+1:Nat):Int)=(i:Int)+1:=by omega
 generalize hn:countS e.h v=n at*
 unfold stE
 split
 ·unfold stS
  rw[hn]
  split
  ·refine⟨g2,Nat.le_trans hcc a2,(by show(e.ou.length:Int)≤_;omega),⟨a4.1,?_⟩,?_⟩
   ·show e.dp≤_
    omega
   ·show -(2 ^ 40) - ((i+1:Nat):Int)*2 ^ 30≤e.cd+n∧e.cd+n≤2 ^ 40+((i+1:Nat):Int)*2 ^ 30
    omega
  ·exact⟨a1,a2,by omega,by omega,by omega⟩
 ·unfold stD
  rw[hn]
  generalize dropS D e.h v=r at*
  obtain⟨h',⟨out,cnt,pan⟩,er⟩:=r
  simp only at hln hdc g1 ⊢
  split
  ·exact⟨a1,a2,by omega,by omega,by omega⟩
  ·refine⟨g1,Nat.le_trans hdc a2,?_,?_,?_⟩
   ·show((e.ou++out.map fun p=>(tk,p)).length:Int)≤_
    rw[List.length_append,List.length_map]
    omega
   ·show -(2 ^ 40)≤e.dp+(cnt:Int)∧e.dp+(cnt:Int)≤2 ^ 40+((i+1:Nat):Int)*2 ^ 30
    omega
   ·show -(2 ^ 40) - ((i+1:Nat):Int)*2 ^ 30≤e.cd+(n - (cnt:Int))∧e.cd+(n - (cnt:Int))≤2 ^ 40+((i+1:Nat):Int)*2 ^ 30
    omega
theorem valsT_len {t:Tsk} (ht:TB t):(valsT t).length≤64:=by
 have:=valsF_len ht.s 0
 rw[valsT_eq];have:=ht.f;omega
theorem valsT_sz {t:Tsk} (h:∀ a,a∈t.fs→∀ v,v∈a.sl→v.sz≤2 ^ 20):∀ v,v∈valsT t→v.sz≤2 ^ 20:=by
 intro v hv
 obtain⟨a,ha,hv⟩:=List.mem_flatMap.1 hv
 obtain⟨i,_,hi⟩:=List.mem_filterMap.1 hv
 exact h a (List.mem_reverse.1 ha) v (List.mem_of_getElem? hi)
theorem ent_famM {np : Nat} {fr : Nat → Option AV} {hp : Nat → Option AObj} {nx N : Nat} {m : Nat → Nat} {o : AObj} {L : List (Nat × AObj)} (hm : ∀ a b, a < 1000000 → b < 1000000 → m a = m b → a = b) (hm0 : ∀ a, a < np → m a = a) (hL : ∀ p, p ∈ L → hp (m p.1) = some (p.2.ren m) ∧ p.1 < 1000000 ∧ p.2.ids (· < 1000000)) (hN : hp (m N) = some (o.ren m)) (hN2 : N < 1000000) (ho : o.ids (· < 1000000)) (hnp : np ≤ 1000000) :
    Ent np m ⟨fr,hp,nx⟩ ⟨mkFr [],updo (mkHp L) N (some o),1000000⟩:=by
  have key:∀ id ob,updo (mkHp L) N (some o) id=some ob→hp (m id)=some (ob.ren m)∧id<1000000∧ob.ids (· <1000000):=by
    intro id ob h
    simp only[updo] at h
    split at h
    · rename_i e
      cases h
      rw[e]
      exact⟨hN,hN2,ho⟩
    · exact mkHp_allP (p:=fun id ob=>hp (m id)=some (ob.ren m)∧id<1000000∧ob.ids (· <1000000)) hL id ob h
  exact ent_gen (by simp) key (fun a b oa ob ha hb h=>hm a b (key a oa ha).2.1 (key b ob hb).2.1 h) (fun id hid=>⟨hm0 id hid,by omega⟩)
theorem AW_setTsk {E : En} {c : Code} {Q : AEx → St → Prop} {fr : Nat → Option AV} {hp : Nat → Option AObj} {nx : Nat} (X : Nat) {L : List Tsk} {n : Nat} {t : Tsk} (hX : hp X = some (.row 7 ((tsl L).set n (.agg [.i t.st, .nilsl, .nilsl, .i t.al, .i t.ck, .i t.nx, .sl (il t.ce)]))))
    (h:AW Try.prog E c Q ⟨fr,updo hp X (some (.row 7 (tsl (L.set n { t with fs:=[],ls:=[] })))),nx⟩):AW Try.prog E c Q ⟨fr,hp,nx⟩:=by
  refine AW_snpRow X (tsl (L.set n { t with fs:=[],ls:=[] })) hX (by simp[tsl_len]) (fun i hi=>?_) h
  rw[← tsl_set]
  refine snp_set (.inr ⟨?_,?_⟩) _ _ _ hi
  · simp[AV.snapOk,AV.snapOkL]
  · rfl
theorem end_some (w:Wd) (m:Nat) (st:Int) (sh:Bool) (t:Tsk) (ht:w.ts[m]? =some t) (h0:t.st=0) (hw:WS w):PCall Try.prog 36 [w.av,.i (m:Nat),.i st,ftF sh] (endW w m st sh).av:=by
 have hrd:readyT w (m:Int)=some t:=by
  unfold readyT
  rw[if_pos (by omega),Int.toNat_natCast,ht]
  simp[h0]
 have hml:m<w.ts.length:=(List.getElem?_eq_some_iff.1 ht).1
 have htb:=hw.tb t (List.mem_of_getElem? ht)
 have q1:decide ((m:Int)<0)=false:=decide_eq_false (by omega)
 have q2:decide ((m:Int)≥(w.ts.length:Int))=false:=decide_eq_false (by have:=hw.t;omega)
 have q3:(t.st !=0)=false:=by simp[h0]
 have k1:=cloneO_nc w.ou (by have:=hw.o;omega)
 have k2:=cloneT_nc w.ts (by have:=hw.t;omega)
 have k3:=valuesF_nc t
 rw[Wd.av_eq]
 refine PCall.introM Try.func36 rfl isf36 (by simp[Try.f36]) (by simp[AV.cloL,AV.clo]) fun E Q hE hN hM hQ=>K_start ?_
 repeat'(first|apply nx|refine zx ?_|rw[zw]|((first|refine hK _ ?_|refine hKp _ _ ?_);clear hK hKp K Kp;try clear hanc anc)|((with_reducible refine And.intro ?_ ?_);exact zb)|((first|refine zr hE fun K Kp hK hKp=>?_|refine zd true mixed hE fun K Kp hK hKp anc hanc=>?_|refine zd false mixed hE fun K Kp hK hKp anc hanc=>?_);simp only[go_sem,q1,q2,lt_dec hml,ht,Tsk.av_eq,q3])|(refine zg (fun hg=>?_) (fun hg=>?_)<;>simp only[go_sem,q1,q2,lt_dec hml,ht,Tsk.av_eq,q3,hg])|(refine zc (fun hc=>?_) (fun hc=>?_)<;>try exact zh hc))
 refine Hold.mk (CallB.newP k1 (by simp[AV.cloL,AV.clo]) (by simp[AV.ids,AV.idsL]) (by intro p hp;simp only[List.mem_cons,List.not_mem_nil,or_false] at hp;subst hp;exact⟨by show 0<1048576;decide,by simp[AObj.ids,AV.ids,AV.idsL,go_sem]⟩) ?_)
 simp only[go_sem,AObj.ren]
 refine hK _ ?_
 clear hK hKp K Kp
 repeat'(first|apply nx|refine zx ?_|rw[zw]|((first|refine hK _ ?_|refine hKp _ _ ?_);clear hK hKp K Kp;try clear hanc anc)|((with_reducible refine And.intro ?_ ?_);exact zb)|((first|refine zr hE fun K Kp hK hKp=>?_|refine zd true mixed hE fun K Kp hK hKp anc hanc=>?_|refine zd false mixed hE fun K Kp hK hKp anc hanc=>?_);simp only[go_sem,lt_dec hml,ht,Tsk.av_eq])|(refine zg (fun hg=>?_) (fun hg=>?_)<;>simp only[go_sem,lt_dec hml,ht,Tsk.av_eq,hg])|(refine zc (fun hc=>?_) (fun hc=>?_)<;>try exact zh hc))
 refine Hold.mk (CallB.newP k2 (by simp[AV.cloL,AV.clo]) (by simp[AV.ids,AV.idsL]) (by intro p hp;simp only[List.mem_cons,List.not_mem_nil,or_false] at hp;subst hp;exact⟨by show 0<1048576;decide,by simp[AObj.ids,AV.ids,AV.idsL,go_sem]⟩) ?_)
 simp only[go_sem,AObj.ren]
 refine hK _ ?_
 clear hK hKp K Kp
 have fc:(ftF sh).cells=[ftF sh]:=by cases sh<;>rfl
 have ft:(ftF sh).isTup=false:=by cases sh<;>rfl
 rw[Tsk.av_eq] at k3
 repeat'(first|apply nx|refine zx ?_|rw[zw]|((first|refine hK _ ?_|refine hKp _ _ ?_);clear hK hKp K Kp;try clear hanc anc)|((with_reducible refine And.intro ?_ ?_);exact zb)|((first|refine zr hE fun K Kp hK hKp=>?_|refine zd true mixed hE fun K Kp hK hKp anc hanc=>?_|refine zd false mixed hE fun K Kp hK hKp anc hanc=>?_);simp only[go_sem,lt_dec hml,ht,Tsk.av_eq,fc,ft])|(refine zg (fun hg=>?_) (fun hg=>?_)<;>simp only[go_sem,lt_dec hml,ht,Tsk.av_eq,fc,ft,hg])|(refine zc (fun hc=>?_) (fun hc=>?_)<;>try exact zh hc))
 refine Hold.mk (CallB.newP k3 (by simp[AV.cloL,AV.clo]) (by simp[AV.ids,AV.idsL]) (by intro p hp;simp only[List.mem_cons,List.not_mem_nil,or_false] at hp;subst hp;exact⟨by show 0<1048576;decide,by simp[AObj.ids,AV.ids,AV.idsL,go_sem]⟩) ?_)
 simp only[go_sem,AObj.ren]
 refine hK _ ?_
 clear hK hKp K Kp
 repeat'(first|apply nx|refine zx ?_|rw[zw]|((first|refine hK _ ?_|refine hKp _ _ ?_);clear hK hKp K Kp;try clear hanc anc)|((with_reducible refine And.intro ?_ ?_);exact zb)|((first|refine zr hE fun K Kp hK hKp=>?_|refine zd true mixed hE fun K Kp hK hKp anc hanc=>?_|refine zd false mixed hE fun K Kp hK hKp anc hanc=>?_);simp only[go_sem])|(refine zg (fun hg=>?_) (fun hg=>?_)<;>simp only[go_sem,hg])|(refine zc (fun hc=>?_) (fun hc=>?_)<;>try exact zh hc))
 refine AW.ent (σ':=⟨mkFr [(1,.i (m:Nat)),(8,.ptr 4 0),(9,.ptr 2 0),(50,.fn (.func 70) [] [.ptr 3 0])],objW2 w m t (w.ed st sh),1000000⟩) (fun i=>if i=0 then 36700160 else if i=1 then 28311552 else if i=2 then 37748736 else if i=3 then 45088768 else if i=4 then 1048576 else if i=20 then 23068672 else i) ?_ ?_
 ·show Ent _ _ _ (mkSt _ [(0,.cells (enC w m 20 (w.ed st sh))),(1,.row 7 (tsl w.ts)),(2,.cells [.ptr 0 0]),(3,.cells t.cs),(4,.cells [.nilsl,.nilsl,.i 0,.nilsl,.nilsl,.nilsl,.nilsl,.nilsl,.i 0,.i 0,.i 0]),(20,.row 2 (oul (w.ed st sh).ou))] 1000000)
  refine ent_mk (by simp[go_sem,AV.ids,AV.idsL]) (by simp[go_sem,Wd.ed,Tsk.cs]) (by simp) (by simp[hN])
 have hz:=valsT_sz (hw.tv t (List.mem_of_getElem? ht))
 refine AW_iterH (by decide) hM (vals_iter htb (c:=3)) (objW2 w m t) 5 (by decide) (by rw[hN];decide) (by simp[AV.idsL,AV.ids]) (by simp) (fun e=>by simp[objW2_3]) (fun e id o ho=>?_) (fun e id hid=>?_) [(1,.i (m:Nat)),(8,.ptr 4 0),(9,.ptr 2 0),(50,.fn (.func 70) [] [.ptr 3 0])] (by simp[AV.ids,AV.idsL]) (by simp[go_sem]) (by simp[go_sem]) [9] [.ptr 2 0]
  (by intro i hi;match i,hi with|0,_=>rfl) (by simp[AV.idsL,AV.ids]) (fun y hy=>?_) (by rw[hE];decide)
  (fun i e=>e=((valsT t).take i).foldl (stE w.D m) (w.ed st sh)∧GB i e) (fun _ _=>False) (fun _ _=>False) (fun _ _ h=>h.elim) ?_ (w.ed st sh) ⟨rfl,GB.start hw st sh⟩ ?_ (fun _ _ _ _ h=>h.elim) (fun _ _ _ _ h=>h.elim)
 ·revert ho
  exact mkHp_allP (p:=fun id o=>(id<1000000∧¬ (5≤id∧id<5+1+3))∧o.ids (fun j=>j<1000000∧¬ (5≤j∧j<5+1+3))) (by simp[AObj.ids,AV.ids,AV.idsL,go_sem,Tsk.cs]) id o
 ·rcases(by omega:id=0∨id=1∨id=2∨id=3∨id=4) with rfl|rfl|rfl|rfl|rfl<;>simp[objW2,mkHp,updo]
 ·obtain⟨v,_,rfl⟩:=List.mem_map.1 hy;rfl
 ·rintro ll fnn i y e E' Q' ⟨he,hg⟩ hy hE' hN' hnorm hleft hpan
  rw[List.getElem?_map] at hy
  obtain⟨v,hv,rfl⟩:=Option.map_eq_some_iff.1 hy
  have hvz:=hz v (List.mem_of_getElem? hv)
  have hil:=(List.getElem?_eq_some_iff.1 hv).1
  have hi64:=valsT_len htb
  have hg2:=hg.step (D:=w.D) (tk:=m) hvz (by omega)
  have he2:((valsT t).take (i+1)).foldl (stE w.D m) (w.ed st sh)=stE w.D m e v:=by
   rw[List.take_add_one,hv,List.foldl_append, ← he];rfl
  have hcall:∃ f,ftF e.sh= .fn (.func f) [] []∧MCall Try.prog f [.ptr 0 0,.agg v.cs] (objE w m) 3 2 e (fun e'=>e'=stE w.D m e v):=by
   unfold stE
   cases hsh:e.sh
   ·exact⟨37,rfl,drop_m w m e v hsh (hg.eb (by omega)) (by have:=hg.c;omega) hvz (by have:=hw.D;omega)⟩
   ·exact⟨39,rfl,shut_m w m e v (hg.eb (by omega)) (by have:=hg.c;omega) hvz⟩
  obtain⟨f,hf,hcl⟩:=hcall
  unfold RoundG
  rw[Vl.av_eq]
  refine K_start ?_
  show AW Try.prog E' _ _ ⟨upd (mkFr [(9,.ptr 2 0)]) 51 (.agg [.i v.kind,.i v.id,.i v.var,.i v.n,.sl (Vl.avL v.fs),.bool v.excl,.sl (il v.path),.sl (il v.loans)]),updo (objW2 w m t e) 5 _,1000000⟩
  rw[hE] at hE'
  replace hE:=hE'
  repeat'(first|apply nx|refine zx ?_|rw[zw]|((first|refine hK _ ?_|refine hKp _ _ ?_);clear hK hKp K Kp;try clear hanc anc)|((with_reducible refine And.intro ?_ ?_);exact zb)|((first|refine zr hE fun K Kp hK hKp=>?_|refine zd true mixed hE fun K Kp hK hKp anc hanc=>?_|refine zd false mixed hE fun K Kp hK hKp anc hanc=>?_);simp only[go_sem])|(refine zg (fun hg=>?_) (fun hg=>?_)<;>simp only[go_sem,hg])|(refine zc (fun hc=>?_) (fun hc=>?_)<;>try exact zh hc))
  refine Kq_norm_nil ?_
  refine⟨[.ptr 2 0],by simp[updo],K_start ?_⟩
  show AW Try.prog E' _ _ ⟨_,_,3097152⟩
  repeat'(first|apply nx|refine zx ?_|rw[zw]|((first|refine hK _ ?_|refine hKp _ _ ?_);clear hK hKp K Kp;try clear hanc anc)|((with_reducible refine And.intro ?_ ?_);exact zb)|((first|refine zr hE fun K Kp hK hKp=>?_|refine zd true mixed hE fun K Kp hK hKp anc hanc=>?_|refine zd false mixed hE fun K Kp hK hKp anc hanc=>?_);simp only[go_sem,objW2_0,objW2_2,hf])|(refine zg (fun hg=>?_) (fun hg=>?_)<;>simp only[go_sem,objW2_0,objW2_2,hf,hg])|(refine zc (fun hc=>?_) (fun hc=>?_)<;>try exact zh hc))
  refine Hold.mk (fate_use hcl 20 9388608 (by decide) (by decide) rfl (by simp[updo,objW2_0]) (by simp[updo,objW2_1]) (by simp[updo,objW2_20]) fun hpn h0 h1 h2 hold=>?_)
  have h3:=hold 2 _ (by decide) (by decide) (by decide) (by simp[updo,objW2_2];rfl)
  have h4:=hold 3 _ (by decide) (by decide) (by decide) (by simp[updo,objW2_3];rfl)
  have h5:=hold 4 _ (by decide) (by decide) (by decide) (by simp[updo,objW2_4];rfl)
  have h6:=hold 5 _ (by decide) (by decide) (by decide) (by simp[updo];rfl)
  clear hold
  simp only[go_sem,putf]
  refine hK _ ?_;clear hK hKp K Kp;try clear hanc anc
  repeat(first|refine Kq_norm_code ?_|refine Kq_norm_blk ?_|refine Kq_norm_lp ?_)
  repeat(first|refine Kq_norm_blk ?_|refine Kq_norm_nil ?_)
  refine hnorm _ (stE w.D m e v) (fun i=>if i=20 then 9388608 else i) ⟨he2.symm,hg2⟩ ?_
  refine ent_famM (fun a b ha hb h=>by split at h<;>split at h<;>omega) (fun a ha=>by show(if a=20 then 9388608 else a)=a;rw[if_neg (by omega)]) (by simp[h0,h1,h2,h3,h4,h5,AObj.ren,AV.renL,AV.ren,AObj.ids,AV.ids,AV.idsL,go_sem,Tsk.cs,enC]) h6 (by decide) (by simp[AObj.ids,AV.ids,AV.idsL]) (by decide)
 ·rintro σ e mm ⟨he,hg⟩ hent
  refine Kq_norm_blk ?_
  refine Kq_norm_code ?_
  refine AW.ent mm hent ?_
  have p0:=objW2_0 w m t e
  have p1:=objW2_1 w m t e
  have p2:=objW2_2 w m t e
  have p4:=objW2_4 w m t e
  have hset:∀ x:AV,((tsl w.ts).set m x)[m]? =some x:=fun x=>by rw[List.getElem?_set_self];rw[tsl_len];exact hml
  have hss:∀ x y:AV,((tsl w.ts).set m x).set m y=(tsl w.ts).set m y:=fun x y=>List.set_set ..
  repeat'(first|apply nx|refine zx ?_|rw[zw]|((first|refine hK _ ?_|refine hKp _ _ ?_);clear hK hKp K Kp;try clear hanc anc)|((with_reducible refine And.intro ?_ ?_);exact zb)|((first|refine zr hE fun K Kp hK hKp=>?_|refine zd true mixed hE fun K Kp hK hKp anc hanc=>?_|refine zd false mixed hE fun K Kp hK hKp anc hanc=>?_);simp only[go_sem,objW2_0,objW2_1,objW2_2,objW2_4,lt_dec hml,ht,Tsk.av_eq,hset,hss])|(refine zg (fun hg=>?_) (fun hg=>?_)<;>simp only[go_sem,objW2_0,objW2_1,objW2_2,objW2_4,lt_dec hml,ht,Tsk.av_eq,hset,hss,hg])|(refine zc (fun hc=>?_) (fun hc=>?_)<;>try exact zh hc))
  have he2:runE' w m st sh t=e:=by
   rw[List.length_map,List.take_length] at he;exact he.symm
  have hfin:(endW w m st sh).av= .agg [.sl (dl w.D),.sl w.R,.i w.mn,.sl (cl e.h.cells),.sl (bl e.h.arenas),.sl (tsl (w.ts.set m { t with st:=e.st,fs:=[],ls:=[] })),.sl (chl w.cn),.sl (oul e.ou),.i w.md,.i e.dp,.i e.cd]:=by
   unfold endW
   rw[hrd]
   simp only[he2,Int.toNat_natCast]
   rfl
  refine AW_setTsk 1 (L:=w.ts) (n:=m) (t:= { t with st:=e.st,fs:=[],ls:=[] }) (by simp[updo];done) ?_
  refine K_ret (hQ _ ⟨.agg [AV.sl (dl w.D),AV.sl w.R,AV.i w.mn,AV.sl (cl e.h.cells),AV.sl (bl e.h.arenas),AV.rw 1,AV.sl (chl w.cn),AV.rw 20,AV.i w.md,AV.i e.dp,AV.i e.cd],?_,?_,?_,?_⟩).1
  ·simp[resA,rvA,Try.f36,go_sem];rfl
  ·simp[AV.snapOk,AV.snapOkL,updo,objW2_20,clo_tsl,clo_oul]
  ·rw[hfin]
   simp[AV.snap,AV.snapL,updo,objW2_20]
  ·exact Wd.av_clo _
end Go.Proofs.Ytfgjjnfdcgkpoaa

set_option maxHeartbeats 4000000
set_option maxRecDepth 100000
namespace Go.Proofs.Ytfgjjnfdcgkpoaa
open Go.Am Go.Proofs Go.Hv
open Classical
attribute [local irreducible] AW CallP CallB CallY
theorem ready_some {w:Wd} {tk:Int} {t:Tsk} (h:readyT w tk=some t):∃ m:Nat,tk=m∧w.ts[m]? =some t∧t.st=0:=by
 unfold readyT at h
 split at h
 ·rename_i h1
  refine⟨tk.toNat,by omega,?_⟩
  split at h
  ·rename_i t' ht
   split at h
   ·rename_i h0
    cases h
    exact⟨ht,h0⟩
   ·cases h
  ·cases h
 ·cases h
theorem end_c (w:Wd) (tk st:Int) (sh:Bool) (hw:WS w):PCall Try.prog 36 [w.av,.i tk,.i st,ftF sh] (endW w tk st sh).av:=by
 cases hr:readyT w tk with
 |none=>
  have:endW w tk st sh=w:=by unfold endW;rw[hr]
  rw[this]
  exact end_none w tk st sh hr (by have:=hw.t;omega)
 |some t=>
  obtain⟨m,rfl,ht,h0⟩:=ready_some hr
  exact end_some w m st sh t ht h0 hw
theorem unwind_c (w:Wd) (tk:Int) (hw:WS w):PCall Try.prog 12 [w.av,.i tk] (endW w tk 2 false).av:=by
 have h:=end_c w tk 2 false hw
 generalize endW w tk 2 false=w2 at*
 simp only[Wd.av_eq] at*
 rw[show ftF false= .fn (.func 37) [] [] from rfl] at h
 refine PCall.intro Try.func12 rfl isf12 (by simp[Try.f12]) (by simp[AV.cloL,AV.clo]) fun E Q hE hN hQ=>K_start ?_
 repeat'(first|apply nx|refine zx ?_|rw[zw]|((first|refine hK _ ?_|refine hKp _ _ ?_);clear hK hKp K Kp;try clear hanc anc)|((with_reducible refine And.intro ?_ ?_);exact zb)|((first|refine zr hE fun K Kp hK hKp=>?_|refine zd true mixed hE fun K Kp hK hKp anc hanc=>?_|refine zd false mixed hE fun K Kp hK hKp anc hanc=>?_|(apply zm;exact zu;exact h;exact zs;exact zl));simp only[go_sem])|(refine zg (fun hg=>?_) (fun hg=>?_)<;>simp only[go_sem,hg])|(refine zc (fun hc=>?_) (fun hc=>?_)<;>try exact zh hc))
 refine K_ret (hQ _ ⟨.agg w2.cs,by simp[resA,rvA,Try.f12,go_sem,Wd.cs];rfl,by simp[AV.snapOk,AV.snapOkL,Wd.cs],by simp[AV.snap,AV.snapL,Wd.cs],rfl⟩).1
theorem abandon_c (w:Wd) (tk st:Int) (hw:WS w):PCall Try.prog 14 [w.av,.i tk,.i st] (endW w tk st true).av:=by
 have h:=end_c w tk st true hw
 generalize endW w tk st true=w2 at*
 simp only[Wd.av_eq] at*
 rw[show ftF true= .fn (.func 39) [] [] from rfl] at h
 refine PCall.intro Try.func14 rfl isf14 (by simp[Try.f14]) (by simp[AV.cloL,AV.clo]) fun E Q hE hN hQ=>K_start ?_
 repeat'(first|apply nx|refine zx ?_|rw[zw]|((first|refine hK _ ?_|refine hKp _ _ ?_);clear hK hKp K Kp;try clear hanc anc)|((with_reducible refine And.intro ?_ ?_);exact zb)|((first|refine zr hE fun K Kp hK hKp=>?_|refine zd true mixed hE fun K Kp hK hKp anc hanc=>?_|refine zd false mixed hE fun K Kp hK hKp anc hanc=>?_|(apply zm;exact zu;exact h;exact zs;exact zl));simp only[go_sem])|(refine zg (fun hg=>?_) (fun hg=>?_)<;>simp only[go_sem,hg])|(refine zc (fun hc=>?_) (fun hc=>?_)<;>try exact zh hc))
 refine K_ret (hQ _ ⟨.agg w2.cs,by simp[resA,rvA,Try.f14,go_sem,Wd.cs];rfl,by simp[AV.snapOk,AV.snapOkL,Wd.cs],by simp[AV.snap,AV.snapL,Wd.cs],rfl⟩).1
end Go.Proofs.Ytfgjjnfdcgkpoaa
