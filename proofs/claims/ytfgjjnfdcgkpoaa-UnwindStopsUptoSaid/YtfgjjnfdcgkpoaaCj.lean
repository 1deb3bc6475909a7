/- A part of the proof: an abstract machine for the walks, and what the walked functions compute. -/
import Derived.Test.YtfgjjnfdcgkpoaaCg
import Derived.Test.YtfgjjnfdcgkpoaaHx
import Derived.Test.YtfgjjnfdcgkpoaaMq
set_option linter.unusedVariables false
set_option linter.unusedSimpArgs false
set_option maxHeartbeats 4000000
set_option maxRecDepth 100000
namespace Go.Proofs.Ytfgjjnfdcgkpoaa
open Go.Am Go.Proofs Go.Hv
open Classical
attribute [local irreducible] AW CallP CallB CallY
abbrev rwC (h:Hp) (w:Rw):List AV:=[.sl (cl h.cells),.sl (bl h.arenas),.rw 1,.rw 2,.i w.cnt,.i w.ids,.bool w.right]
def objR (h:Hp) (w:Rw):Nat→Option AObj:=mkHp [(0,.cells (rwC h w)),(1,.row 1 (bl w.mc)),(2,.row 1 (bl w.ma))]
theorem objR_0 (h:Hp) (w:Rw):objR h w 0=some (.cells (rwC h w)):=rfl
theorem objR_1 (h:Hp) (w:Rw):objR h w 1=some (.row 1 (bl w.mc)):=rfl
theorem objR_2 (h:Hp) (w:Rw):objR h w 2=some (.row 1 (bl w.ma)):=rfl
theorem famR (h:Hp):Fam (objR h) 3:=by
 refine⟨fun w id ob ho=>?_,fun w id hid=>?_⟩
 ·simp only[objR,mkHp,updo] at ho
  repeat' split at ho
  all_goals first|(cases ho;done)|skip
  all_goals cases ho;subst_vars
  all_goals exact⟨by decide,by simp[AObj.ids,AV.ids,AV.idsL,go_sem]⟩
 ·have:id=0∨id=1∨id=2:=by omega
  rcases this with rfl|rfl|rfl<;>simp[objR,mkHp,updo]
theorem objR_cases {h:Hp} {w:Rw} {id:Nat} {ob:AObj} (ho:objR h w id=some ob):(id=0∧ob= .cells (rwC h w))∨(id=1∧ob= .row 1 (bl w.mc))∨(id=2∧ob= .row 1 (bl w.ma)):=by
 simp only[objR,mkHp,updo] at ho
 repeat' split at ho
 all_goals first|(cases ho;done)|skip
 all_goals cases ho;subst_vars
 ·exact .inl ⟨rfl,rfl⟩
 ·exact .inr (.inl ⟨rfl,rfl⟩)
 ·exact .inr (.inr ⟨rfl,rfl⟩)
theorem objR_of {h:Hp} {w:Rw} {hp:Nat→Option AObj} (h0:hp 0=some (.cells (rwC h w))) (h1:hp 1=some (.row 1 (bl w.mc))) (h2:hp 2=some (.row 1 (bl w.ma))):∀ id ob,objR h w id=some ob→hp id=some ob:=by
 intro id ob ho
 rcases objR_cases ho with ⟨rfl,rfl⟩|⟨rfl,rfl⟩|⟨rfl,rfl⟩
 ·exact h0
 ·exact h1
 ·exact h2
def RVal (h:Hp) (v:Vl) (r:Ow→Option Ow) (o:Ow):Prop:=MCall Try.prog 47 [.ptr 0 0,.agg v.cs] (objR h) 3 3 (rs h o) (ROk h (r o))
def RCel (h:Hp) (n:Nat) (r:Ow→Option Ow) (o:Ow):Prop:=MCall Try.prog 62 [.ptr 0 0,.i n] (objR h) 3 3 (rs h o) (ROk h (r o))
theorem rcell_c (h:Hp) (k n:Nat) (o:Ow) (c:Cl) (hcc:h.cells[n]? =some c) (hv:n∉o.cs→RVal h c.v (visV h (visE h k) c.v) { o with cs:=o.cs++[n] }):RCel h n (fun o=>visE h (k+1) n o) o:=by
 have hn:n<h.cells.length:=(List.getElem?_eq_some_iff.1 hcc).1
 refine MCall.intro Try.func62 isf62 rfl (by simp[Try.f62]) rfl fun E Q hE hN hQ=>K_start ?_
 have hm:=marks_get (l:=o.cs) hn
 by_cases hmem:n∈o.cs
 ·rw[decide_eq_true hmem] at hm
  repeat'(first|apply nx|refine zx ?_|rw[zw]|((first|refine hK _ ?_|refine hKp _ _ ?_);clear hK hKp K Kp;try clear hanc anc)|((with_reducible refine And.intro ?_ ?_);exact zb)|((first|refine zr hE fun K Kp hK hKp=>?_|refine zd true mixed hE fun K Kp hK hKp anc hanc=>?_|refine zd false mixed hE fun K Kp hK hKp anc hanc=>?_);simp only[go_sem,objR_0,objR_1,rs,hm])|(refine zg (fun hg=>?_) (fun hg=>?_)<;>simp only[go_sem,objR_0,objR_1,rs,hm,hg])|(refine zc (fun hc=>?_) (fun hc=>?_)<;>try exact zh hc))
  refine K_ret (hQ _ (MCall.fin (famR h) (by decide) (x':= { rs h o with right:=false }) ?_ (objR_of ?_ ?_ ?_))).1
  ·simp only;rw[visE,if_pos hmem];rfl
  ·simp[updo,rs]
  ·simp[updo,rs,objR_1]
  ·simp[updo,rs,objR_2]
 ·rw[decide_eq_false hmem] at hm
  repeat'(first|apply nx|refine zx ?_|rw[zw]|((first|refine hK _ ?_|refine hKp _ _ ?_);clear hK hKp K Kp;try clear hanc anc)|((with_reducible refine And.intro ?_ ?_);exact zb)|((fail_if_success refine K_stop 9 ?_);(first|refine zr hE fun K Kp hK hKp=>?_|refine zd true mixed hE fun K Kp hK hKp anc hanc=>?_|refine zd false mixed hE fun K Kp hK hKp anc hanc=>?_);simp only[go_sem,objR_0,objR_1,rs,hm,marks_set hn,hcc,Cl.av,Cl.cs_eq])|(refine zg (fun hg=>?_) (fun hg=>?_)<;>simp only[go_sem,objR_0,objR_1,rs,hm,marks_set hn,hcc,Cl.av,Cl.cs_eq,hg])|(refine zc (fun hc=>?_) (fun hc=>?_)<;>try exact zh hc))
  have hv1:=hv hmem
  unfold RVal at hv1
  rw[show c.v.cs=[.i c.v.kind,.i c.v.id,.i c.v.var,.i c.v.n,.sl (Vl.avL c.v.fs),.bool c.v.excl,.sl (il c.v.path),.sl (il c.v.loans)] from rfl] at hv1
  refine Hold.mk (MCall.use (famR h) hv1 (by simp[AV.ids,AV.idsL,go_sem]) (objR_of (by simp[updo,rs,objR_0]) (by simp[updo,rs,objR_1]) (by simp[updo,rs,objR_2])) fun w' hpn hG hob hold=>?_)
  simp only[go_sem]
  refine hK _ ?_;clear hK hKp K Kp;try clear hanc anc
  repeat(first|refine Kq_norm_code ?_|refine Kq_norm_blk ?_|refine Kq_norm_lp ?_)
  repeat(first|refine Kq_norm_blk ?_|refine Kq_norm_nil ?_)
  refine(hQ _ (MCall.fin (famR h) (by decide) (x':=w') ?_ hob)).2
  simp only;rw[visE,if_neg hmem,hcc];exact hG

theorem rval_other (h:Hp) (en:Nat→Ow→Option Ow) (v:Vl) (o:Ow) (h2:v.kind≠2) (h3:v.kind≠3) (h5:v.kind≠5):RVal h v (visV h en v) o:=by
 have hr:visV h en v o=some o:=by
  cases v
  simp only[Vl.kind] at h2 h3 h5
  rw[visV,if_neg h2,if_neg h3,if_neg h5]
 unfold RVal
 rw[hr,show v.cs=[.i v.kind,.i v.id,.i v.var,.i v.n,.sl (Vl.avL v.fs),.bool v.excl,.sl (il v.path),.sl (il v.loans)] from rfl]
 have q2:(v.kind==2)=false:=by simpa using h2
 have q3:(v.kind==3)=false:=by simpa using h3
 have q5:(v.kind==5)=false:=by simpa using h5
 refine MCall.intro Try.func47 isf61 rfl (by simp[Try.f47]) rfl fun E Q hE hN hQ=>K_start ?_
 repeat'(first|apply nx|refine zx ?_|rw[zw]|((first|refine hK _ ?_|refine hKp _ _ ?_);clear hK hKp K Kp;try clear hanc anc)|((with_reducible refine And.intro ?_ ?_);exact zb)|((first|refine zr hE fun K Kp hK hKp=>?_|refine zd true mixed hE fun K Kp hK hKp anc hanc=>?_|refine zd false mixed hE fun K Kp hK hKp anc hanc=>?_);simp only[go_sem,q2,q3,q5])|(refine zg (fun hg=>?_) (fun hg=>?_)<;>simp only[go_sem,q2,q3,q5,hg])|(refine zc (fun hc=>?_) (fun hc=>?_)<;>try exact zh hc))
 refine Kq_norm_nil ?_
 refine(hQ _ (MCall.fin (famR h) (by decide) (x':=rs h o) rfl (objR_of ?_ ?_ ?_))).2
 ·simp[updo,objR_0]
 ·simp[updo,objR_1]
 ·simp[updo,objR_2]
abbrev hpL (h:Hp) (v:Vl) (w:Rw):List (Nat×AObj):=[(0,.cells (rwC h w)),(1,.row 1 (bl w.mc)),(2,.row 1 (bl w.ma)),(3,.cells [.i v.kind,.i v.id,.i v.var,.i v.n,.sl (Vl.avL v.fs),.bool v.excl,.sl (il v.path),.sl (il v.loans)])]
theorem rval_data (h : Hp) (en : Nat → Ow → Option Ow) (v : Vl) (o : Ow) (hk : v.kind = 2) (hl : v.fs.length ≤ 2 ^ 30) (hid : o.ids.length ≤ 2 ^ 43) (P : Nat → Ow → Prop) (hP : P 0 { o with ids := o.ids ++ [v.id] })
    (hf:∀ i x o,v.fs[i]? =some x→P i o→RVal h x (visV h en x) o) (hs:∀ i x o o',v.fs[i]? =some x→P i o→visV h en x o=some o'→P (i+1) o'):RVal h v (visV h en v) o:=by
  have hr:visV h en v o=visL h en v.fs { o with ids:=o.ids++[v.id] } :=by
    cases v
    simp only[Vl.kind] at hk
    rw[visV,if_pos hk];rfl
  unfold RVal
  rw[hr,show v.cs=[.i v.kind,.i v.id,.i v.var,.i v.n,.sl (Vl.avL v.fs),.bool v.excl,.sl (il v.path),.sl (il v.loans)] from rfl]
  have q2:(v.kind==2)=true:=by simpa using hk
  have hcn:((o.ids.length:Nat):Int)≤2 ^ 43:=by omega
  have hw0:rs h { o with ids:=o.ids++[v.id] } =⟨marks h.cells.length o.cs,marks h.arenas.length o.ags,o.ids.length+1,mxS (mxI o.ids) v.id,true⟩:=by
    simp[rs,mxI_app]
  generalize hO:({ o with ids:=o.ids++[v.id] } :Ow)=o0 at*
  refine MCall.intro Try.func47 isf61 rfl (by simp[Try.f47]) rfl fun E Q hE hN hQ=>K_start ?_
  repeat'(first|apply nx|refine zx ?_|rw[zw]|((first|refine hK _ ?_|refine hKp _ _ ?_);clear hK hKp K Kp;try clear hanc anc)|((with_reducible refine And.intro ?_ ?_);exact zb)|((fail_if_success refine K_stop 4 ?_);(first|refine zr hE fun K Kp hK hKp=>?_|refine zd true mixed hE fun K Kp hK hKp anc hanc=>?_|refine zd false mixed hE fun K Kp hK hKp anc hanc=>?_);simp only[go_sem,q2,objR_0,rs])|(refine zg (fun hg=>?_) (fun hg=>?_)<;>simp only[go_sem,q2,objR_0,rs,hg])|(refine zc (fun hc=>?_) (fun hc=>?_)<;>try exact zh hc))
  repeat(first|apply w1|apply w2)
  refine AW.ent (σ':=mkSt [(0,.ptr 0 0),(3,.ptr 3 0)] (hpL h v ⟨marks h.cells.length o.cs,marks h.arenas.length o.ags,o.ids.length+1,mxI o.ids,true⟩) 4) (fun i=>i) ?_ ?_
  · refine ent_mk (by simp[go_sem]) (by simp[go_sem,objR_1,objR_2,rs]) (by simp) (by rw[hN];exact fun id hid=>⟨rfl,by omega⟩)
  refine K_cut1 (X:=Unit) (fun _=>True) (fun _=>mkSt [(0,.ptr 0 0),(3,.ptr 3 0)] (hpL h v (rs h o0)) 4) ?_ fun _ _=>?_
  · by_cases h1:0≤v.id
    case neg=>
      have q4:decide (0≤v.id)=false:=by simpa using h1
      repeat'(first|apply nx|refine zx ?_|rw[zw]|((first|refine hK _ ?_|refine hKp _ _ ?_);clear hK hKp K Kp;try clear hanc anc)|((with_reducible refine And.intro ?_ ?_);exact zb)|((first|refine zr hE fun K Kp hK hKp=>?_|refine zd true mixed hE fun K Kp hK hKp anc hanc=>?_|refine zd false mixed hE fun K Kp hK hKp anc hanc=>?_);simp only[go_sem,q4])|(refine zg (fun hg=>?_) (fun hg=>?_)<;>simp only[go_sem,q4,hg])|(refine zc (fun hc=>?_) (fun hc=>?_)<;>try exact zh hc))
      refine cut_norm () trivial (fun i=>i) ?_
      refine ent_mk (by simp[go_sem]) ?_ (by simp) (by rw[hN];exact fun id hid=>⟨rfl,by omega⟩)
      rw[hw0,mxS,if_neg (by omega)]
      simp[go_sem]
    have q4:decide (0≤v.id)=true:=by simpa using h1
    by_cases h2:v.id<1099511627776
    case neg=>
      have q5:decide (v.id<1099511627776)=false:=by simpa using h2
      repeat'(first|apply nx|refine zx ?_|rw[zw]|((first|refine hK _ ?_|refine hKp _ _ ?_);clear hK hKp K Kp;try clear hanc anc)|((with_reducible refine And.intro ?_ ?_);exact zb)|((first|refine zr hE fun K Kp hK hKp=>?_|refine zd true mixed hE fun K Kp hK hKp anc hanc=>?_|refine zd false mixed hE fun K Kp hK hKp anc hanc=>?_);simp only[go_sem,q4,q5])|(refine zg (fun hg=>?_) (fun hg=>?_)<;>simp only[go_sem,q4,q5,hg])|(refine zc (fun hc=>?_) (fun hc=>?_)<;>try exact zh hc))
      refine cut_norm () trivial (fun i=>i) ?_
      refine ent_mk (by simp[go_sem]) ?_ (by simp) (by rw[hN];exact fun id hid=>⟨rfl,by omega⟩)
      rw[hw0,mxS,if_neg (by omega)]
      simp[go_sem]
    have q5:decide (v.id<1099511627776)=true:=by simpa using h2
    repeat'(first|apply nx|refine zx ?_|rw[zw]|((first|refine hK _ ?_|refine hKp _ _ ?_);clear hK hKp K Kp;try clear hanc anc)|((with_reducible refine And.intro ?_ ?_);exact zb)|((first|refine zr hE fun K Kp hK hKp=>?_|refine zd true mixed hE fun K Kp hK hKp anc hanc=>?_|refine zd false mixed hE fun K Kp hK hKp anc hanc=>?_);simp only[go_sem,q4,q5])|(refine zg (fun hg=>?_) (fun hg=>?_)<;>simp only[go_sem,q4,q5,hg])|(refine zc (fun hc=>?_) (fun hc=>?_)<;>try exact zh hc))
    refine cut_norm () trivial (fun i=>i) ?_
    refine ent_mk (by simp[go_sem]) ?_ (by simp) (by rw[hN];exact fun id hid=>⟨rfl,by omega⟩)
    rw[hw0,mxS,if_pos ⟨h1,h2⟩]
    simp[go_sem]
  repeat'(first|apply nx|refine zx ?_|rw[zw]|((first|refine hK _ ?_|refine hKp _ _ ?_);clear hK hKp K Kp;try clear hanc anc)|((with_reducible refine And.intro ?_ ?_);exact zb)|((fail_if_success refine K_stop 8 ?_);(first|refine zr hE fun K Kp hK hKp=>?_|refine zd true mixed hE fun K Kp hK hKp anc hanc=>?_|refine zd false mixed hE fun K Kp hK hKp anc hanc=>?_);simp only[go_sem])|(refine zg (fun hg=>?_) (fun hg=>?_)<;>simp only[go_sem,hg])|(refine zc (fun hc=>?_) (fun hc=>?_)<;>try exact zh hc))
  refine K_loop (X:=Nat×Rw) (fun x=>x.1≤v.fs.length∧((∃ o1,x.2=rs h o1∧visL h en v.fs o0=visL h en (v.fs.drop x.1) o1∧P x.1 o1)∨(x.2.right=false∧visL h en v.fs o0=none))) (fun x=>mkSt [(0,.ptr 0 0),(3,.ptr 3 0),(4,.i x.1)] (hpL h v x.2) 4) (fun x=>v.fs.length - x.1) (0,rs h o0) ⟨Nat.zero_le _,.inl ⟨o0,rfl,rfl,hP⟩⟩ (fun i=>i) ?_ ?_
  · refine ent_mk (by simp[go_sem]) (by simp[go_sem]) (by simp) (by rw[hN];exact fun id hid=>⟨rfl,by omega⟩)
  rintro⟨i,w⟩ ⟨hi,ht⟩
  simp only at hi ht
  by_cases hlt:i<v.fs.length
  case neg=>
    obtain rfl:i=v.fs.length:=by omega
    repeat'(first|apply nx|refine zx ?_|rw[zw]|((first|refine hK _ ?_|refine hKp _ _ ?_);clear hK hKp K Kp;try clear hanc anc)|((with_reducible refine And.intro ?_ ?_);exact zb)|((first|refine zr hE fun K Kp hK hKp=>?_|refine zd true mixed hE fun K Kp hK hKp anc hanc=>?_|refine zd false mixed hE fun K Kp hK hKp anc hanc=>?_);simp only[go_sem,ge_dec])|(refine zg (fun hg=>?_) (fun hg=>?_)<;>simp only[go_sem,ge_dec,hg])|(refine zc (fun hc=>?_) (fun hc=>?_)<;>try exact zh hc))
    refine Kq_norm_nil ?_
    refine(hQ _ (MCall.fin (famR h) (by decide) (x':=w) ?_ (objR_of (by simp[updo]) (by simp[updo]) (by simp[updo])))).2
    rcases ht with ⟨o1,hw,ht,_⟩|⟨hw,ht⟩
    · rw[List.drop_length,visL] at ht
      rw[ht];exact hw
    · rw[ht];exact hw
  obtain⟨x,hx⟩:=get?_of hlt
  rcases ht with ⟨o1,rfl,ht,hPi⟩|⟨hw,ht⟩
  case inr=>
    repeat'(first|apply nx|refine zx ?_|rw[zw]|((first|refine hK _ ?_|refine hKp _ _ ?_);clear hK hKp K Kp;try clear hanc anc)|((with_reducible refine And.intro ?_ ?_);exact zb)|((first|refine zr hE fun K Kp hK hKp=>?_|refine zd true mixed hE fun K Kp hK hKp anc hanc=>?_|refine zd false mixed hE fun K Kp hK hKp anc hanc=>?_);simp only[go_sem,lt_dec hlt,hw])|(refine zg (fun hg=>?_) (fun hg=>?_)<;>simp only[go_sem,lt_dec hlt,hw,hg])|(refine zc (fun hc=>?_) (fun hc=>?_)<;>try exact zh hc))
    refine Kq_norm_nil ?_
    refine(hQ _ (MCall.fin (famR h) (by decide) (x':=w) ?_ (objR_of (by simp[updo,hw]) (by simp[updo]) (by simp[updo])))).2
    rw[ht];exact hw
  have hv1:=hf i x o1 hx hPi
  unfold RVal at hv1
  rw[show x.cs=[.i x.kind,.i x.id,.i x.var,.i x.n,.sl (Vl.avL x.fs),.bool x.excl,.sl (il x.path),.sl (il x.loans)] from rfl] at hv1
  rw[drop_of hx,visL] at ht
  repeat'(first|apply nx|refine zx ?_|rw[zw]|((first|refine hK _ ?_|refine hKp _ _ ?_);clear hK hKp K Kp;try clear hanc anc)|((with_reducible refine And.intro ?_ ?_);exact zb)|((first|refine zr hE fun K Kp hK hKp=>?_|refine zd true mixed hE fun K Kp hK hKp anc hanc=>?_|refine zd false mixed hE fun K Kp hK hKp anc hanc=>?_);simp only[go_sem,lt_dec hlt,rs,hx,Vl.av_eq])|(refine zg (fun hg=>?_) (fun hg=>?_)<;>simp only[go_sem,lt_dec hlt,rs,hx,Vl.av_eq,hg])|(refine zc (fun hc=>?_) (fun hc=>?_)<;>try exact zh hc))
  refine Hold.mk (MCall.use (famR h) hv1 (by simp[AV.ids,AV.idsL,go_sem]) (objR_of (by simp[updo,rs]) (by simp[updo,rs]) (by simp[updo,rs])) fun w' hpn hG hob hold=>?_)
  have g0:=hob 0 _ rfl
  have g1:=hob 1 _ rfl
  have g2:=hob 2 _ rfl
  have g3:=hold 3 (.cells [.i v.kind,.i v.id,.i v.var,.i v.n,.sl (Vl.avL v.fs),.bool v.excl,.sl (il v.path),.sl (il v.loans)]) (by decide) (by simp[updo])
  simp only[go_sem,putf]
  refine hK _ ?_;clear hK hKp K Kp;try clear hanc anc
  repeat(first|refine Kq_norm_code ?_|refine Kq_norm_blk ?_|refine Kq_norm_lp ?_)
  repeat'(first|apply nx|refine zx ?_|rw[zw]|((first|refine hK _ ?_|refine hKp _ _ ?_);clear hK hKp K Kp;try clear hanc anc)|((with_reducible refine And.intro ?_ ?_);exact zb)|((first|refine zr hE fun K Kp hK hKp=>?_|refine zd true mixed hE fun K Kp hK hKp anc hanc=>?_|refine zd false mixed hE fun K Kp hK hKp anc hanc=>?_);simp only[go_sem])|(refine zg (fun hg=>?_) (fun hg=>?_)<;>simp only[go_sem,hg])|(refine zc (fun hc=>?_) (fun hc=>?_)<;>try exact zh hc))
  refine⟨(i+1,w'),⟨by simp only;omega,?_⟩,by simp only;omega,fun i=>i,?_⟩
  · cases hy:visV h en x o1 with
    |some o2=>
      rw[hy] at hG ht
      exact .inl ⟨o2,hG,ht,hs i x o1 o2 hx hPi hy⟩
    |none=>
      rw[hy] at hG ht
      exact .inr ⟨hG,ht⟩
  · refine ent_mk (by simp[go_sem]) (by simp[go_sem,g0,g1,g2,g3]) (by simp) (by rw[hN];exact fun id hid=>⟨rfl,by omega⟩)

theorem rval_box (h:Hp) (en:Nat→Ow→Option Ow) (v:Vl) (o:Ow) (hk:v.kind=3) (hl:h.cells.length≤2 ^ 20) (hen:∀ m c,h.cells[m]? =some c→c.live=true→RCel h m (en m) o):RVal h v (visV h en v) o:=by
 have hr:visV h en v o=if boxOk h v.n then en v.n.toNat o else none:=by
  cases v
  simp only[Vl.kind] at hk
  rw[visV,if_neg (by omega),if_pos hk];rfl
 unfold RVal
 rw[hr,show v.cs=[.i v.kind,.i v.id,.i v.var,.i v.n,.sl (Vl.avL v.fs),.bool v.excl,.sl (il v.path),.sl (il v.loans)] from rfl]
 have q2:(v.kind==2)=false:=by simp[hk]
 have q3:(v.kind==3)=true:=by simp[hk]
 by_cases h1:0≤v.n
 case neg=>
  have q4:decide (v.n<0)=true:=by simp;omega
  rw[if_neg (by simp[boxOk,show ¬ 0≤v.n from h1])]
  refine MCall.intro Try.func47 isf61 rfl (by simp[Try.f47]) rfl fun E Q hE hN hQ=>K_start ?_
  repeat'(first|apply nx|refine zx ?_|rw[zw]|((first|refine hK _ ?_|refine hKp _ _ ?_);clear hK hKp K Kp;try clear hanc anc)|((with_reducible refine And.intro ?_ ?_);exact zb)|((first|refine zr hE fun K Kp hK hKp=>?_|refine zd true mixed hE fun K Kp hK hKp anc hanc=>?_|refine zd false mixed hE fun K Kp hK hKp anc hanc=>?_);simp only[go_sem,q2,q3,q4,objR_0])|(refine zg (fun hg=>?_) (fun hg=>?_)<;>simp only[go_sem,q2,q3,q4,objR_0,hg])|(refine zc (fun hc=>?_) (fun hc=>?_)<;>try exact zh hc))
  refine K_ret (hQ _ (MCall.fin (famR h) (by decide) (x':= { rs h o with right:=false }) rfl (objR_of ?_ ?_ ?_))).1
  ·simp[updo,rs]
  ·simp[updo,rs,objR_1]
  ·simp[updo,rs,objR_2]
 obtain⟨m,hm⟩:=Int.eq_ofNat_of_zero_le h1
 have q4:decide ((m:Int)<0)=false:=by simp
 by_cases h2:m<h.cells.length
 case neg=>
  have q5:decide ((h.cells.length:Int)≤(m:Int))=true:=by simp;omega
  rw[if_neg (by simp[boxOk,hm,List.getElem?_eq_none (show h.cells.length≤m by omega)])]
  refine MCall.intro Try.func47 isf61 rfl (by simp[Try.f47]) rfl fun E Q hE hN hQ=>K_start ?_
  repeat'(first|apply nx|refine zx ?_|rw[zw]|((first|refine hK _ ?_|refine hKp _ _ ?_);clear hK hKp K Kp;try clear hanc anc)|((with_reducible refine And.intro ?_ ?_);exact zb)|((first|refine zr hE fun K Kp hK hKp=>?_|refine zd true mixed hE fun K Kp hK hKp anc hanc=>?_|refine zd false mixed hE fun K Kp hK hKp anc hanc=>?_);simp only[go_sem,q2,q3,hm,q4,q5,objR_0])|(refine zg (fun hg=>?_) (fun hg=>?_)<;>simp only[go_sem,q2,q3,hm,q4,q5,objR_0,hg])|(refine zc (fun hc=>?_) (fun hc=>?_)<;>try exact zh hc))
  refine K_ret (hQ _ (MCall.fin (famR h) (by decide) (x':= { rs h o with right:=false }) rfl (objR_of ?_ ?_ ?_))).1
  ·simp[updo,rs]
  ·simp[updo,rs,objR_1]
  ·simp[updo,rs,objR_2]
 obtain⟨c,hcc⟩:=get?_of h2
 have q5:decide ((h.cells.length:Int)≤(m:Int))=false:=by simp;omega
 cases hv:c.live
 ·rw[if_neg (by simp[boxOk,hm,hcc,hv])]
  refine MCall.intro Try.func47 isf61 rfl (by simp[Try.f47]) rfl fun E Q hE hN hQ=>K_start ?_
  repeat'(first|apply nx|refine zx ?_|rw[zw]|((first|refine hK _ ?_|refine hKp _ _ ?_);clear hK hKp K Kp;try clear hanc anc)|((with_reducible refine And.intro ?_ ?_);exact zb)|((first|refine zr hE fun K Kp hK hKp=>?_|refine zd true mixed hE fun K Kp hK hKp anc hanc=>?_|refine zd false mixed hE fun K Kp hK hKp anc hanc=>?_);simp only[go_sem,q2,q3,hm,q4,q5,objR_0,hcc,Cl.av,Cl.cs_eq,hv])|(refine zg (fun hg=>?_) (fun hg=>?_)<;>simp only[go_sem,q2,q3,hm,q4,q5,objR_0,hcc,Cl.av,Cl.cs_eq,hv,hg])|(refine zc (fun hc=>?_) (fun hc=>?_)<;>try exact zh hc))
  refine K_ret (hQ _ (MCall.fin (famR h) (by decide) (x':= { rs h o with right:=false }) rfl (objR_of ?_ ?_ ?_))).1
  ·simp[updo,rs]
  ·simp[updo,rs,objR_1]
  ·simp[updo,rs,objR_2]
 by_cases h3:c.arena= -1
 case neg=>
  have q6:(c.arena != -1)=true:=by simpa using h3
  rw[if_neg (by simp[boxOk,hm,hcc,hv,h3])]
  refine MCall.intro Try.func47 isf61 rfl (by simp[Try.f47]) rfl fun E Q hE hN hQ=>K_start ?_
  repeat'(first|apply nx|refine zx ?_|rw[zw]|((first|refine hK _ ?_|refine hKp _ _ ?_);clear hK hKp K Kp;try clear hanc anc)|((with_reducible refine And.intro ?_ ?_);exact zb)|((first|refine zr hE fun K Kp hK hKp=>?_|refine zd true mixed hE fun K Kp hK hKp anc hanc=>?_|refine zd false mixed hE fun K Kp hK hKp anc hanc=>?_);simp only[go_sem,q2,q3,hm,q4,q5,objR_0,hcc,Cl.av,Cl.cs_eq,hv,q6])|(refine zg (fun hg=>?_) (fun hg=>?_)<;>simp only[go_sem,q2,q3,hm,q4,q5,objR_0,hcc,Cl.av,Cl.cs_eq,hv,q6,hg])|(refine zc (fun hc=>?_) (fun hc=>?_)<;>try exact zh hc))
  refine K_ret (hQ _ (MCall.fin (famR h) (by decide) (x':= { rs h o with right:=false }) rfl (objR_of ?_ ?_ ?_))).1
  ·simp[updo,rs]
  ·simp[updo,rs,objR_1]
  ·simp[updo,rs,objR_2]
 have q6:(c.arena != -1)=false:=by simpa using h3
 rw[if_pos (by simp[boxOk,hm,hcc,hv,h3]),hm,Int.toNat_natCast]
 have he1:=hen m c hcc hv
 unfold RCel at he1
 refine MCall.intro Try.func47 isf61 rfl (by simp[Try.f47]) rfl fun E Q hE hN hQ=>K_start ?_
 repeat'(first|apply nx|refine zx ?_|rw[zw]|((first|refine hK _ ?_|refine hKp _ _ ?_);clear hK hKp K Kp;try clear hanc anc)|((with_reducible refine And.intro ?_ ?_);exact zb)|((first|refine zr hE fun K Kp hK hKp=>?_|refine zd true mixed hE fun K Kp hK hKp anc hanc=>?_|refine zd false mixed hE fun K Kp hK hKp anc hanc=>?_);simp only[go_sem,q2,q3,hm,q4,q5,objR_0,hcc,Cl.av,Cl.cs_eq,hv,q6])|(refine zg (fun hg=>?_) (fun hg=>?_)<;>simp only[go_sem,q2,q3,hm,q4,q5,objR_0,hcc,Cl.av,Cl.cs_eq,hv,q6,hg])|(refine zc (fun hc=>?_) (fun hc=>?_)<;>try exact zh hc))
 refine Hold.mk (MCall.use (famR h) he1 (by simp[AV.ids,AV.idsL,go_sem]) (objR_of (by simp[updo,rs,objR_0]) (by simp[updo,rs,objR_1]) (by simp[updo,rs,objR_2])) fun w' hpn hG hob hold=>?_)
 simp only[go_sem,putf]
 refine hK _ ?_;clear hK hKp K Kp;try clear hanc anc
 repeat(first|refine Kq_norm_code ?_|refine Kq_norm_blk ?_|refine Kq_norm_lp ?_)
 repeat(first|refine Kq_norm_blk ?_|refine Kq_norm_nil ?_)
 exact(hQ _ (MCall.fin (famR h) (by decide) (x':=w') hG hob)).2

theorem rval_arena (h : Hp) (en : Nat → Ow → Option Ow) (v : Vl) (o : Ow) (hk : v.kind = 5) (hl : h.cells.length ≤ 2 ^ 20) (hal : h.arenas.length ≤ 2 ^ 20) (P : Ow → Prop) (hP : ∀ m, m ∉ o.ags → h.arenas[m]? = some true → P { o with ags := o.ags ++ [m] })
    (hen:∀ m c o,P o→h.cells[m]? =some c→c.live=true→RCel h m (en m) o) (hs:∀ m c o o',P o→h.cells[m]? =some c→c.live=true→en m o=some o'→P o'):RVal h v (visV h en v) o:=by
  have hr:visV h en v o=if arenaOk h v.n&&!decide (v.n.toNat∈o.ags) then enL en (inArena h.cells v.n) { o with ags:=o.ags++[v.n.toNat] } else none:=by
    cases v
    simp only[Vl.kind] at hk
    rw[visV,if_neg (by omega),if_neg (by omega),if_pos hk];rfl
  unfold RVal
  rw[hr,show v.cs=[.i v.kind,.i v.id,.i v.var,.i v.n,.sl (Vl.avL v.fs),.bool v.excl,.sl (il v.path),.sl (il v.loans)] from rfl]
  have q2:(v.kind==2)=false:=by simp[hk]
  have q3:(v.kind==3)=false:=by simp[hk]
  have q5:(v.kind==5)=true:=by simp[hk]
  by_cases h1:0≤v.n
  case neg=>
    have q4:decide (v.n<0)=true:=by simp;omega
    rw[if_neg (by simp[arenaOk,show ¬ 0≤v.n from h1])]
    refine MCall.intro Try.func47 isf61 rfl (by simp[Try.f47]) rfl fun E Q hE hN hQ=>K_start ?_
    repeat'(first|apply nx|refine zx ?_|rw[zw]|((first|refine hK _ ?_|refine hKp _ _ ?_);clear hK hKp K Kp;try clear hanc anc)|((with_reducible refine And.intro ?_ ?_);exact zb)|((first|refine zr hE fun K Kp hK hKp=>?_|refine zd true mixed hE fun K Kp hK hKp anc hanc=>?_|refine zd false mixed hE fun K Kp hK hKp anc hanc=>?_);simp only[go_sem,q2,q3,q5,q4,objR_0])|(refine zg (fun hg=>?_) (fun hg=>?_)<;>simp only[go_sem,q2,q3,q5,q4,objR_0,hg])|(refine zc (fun hc=>?_) (fun hc=>?_)<;>try exact zh hc))
    refine K_ret (hQ _ (MCall.fin (famR h) (by decide) (x':= { rs h o with right:=false }) rfl (objR_of ?_ ?_ ?_))).1
    · simp[updo,rs]
    · simp[updo,rs,objR_1]
    · simp[updo,rs,objR_2]
  obtain⟨m,hm⟩:=Int.eq_ofNat_of_zero_le h1
  have q4:decide ((m:Int)<0)=false:=by simp
  by_cases h2:m<h.arenas.length
  case neg=>
    have q6:decide ((h.arenas.length:Int)≤(m:Int))=true:=by simp;omega
    rw[if_neg (by simp[arenaOk,hm,List.getElem?_eq_none (show h.arenas.length≤m by omega)])]
    refine MCall.intro Try.func47 isf61 rfl (by simp[Try.f47]) rfl fun E Q hE hN hQ=>K_start ?_
    repeat'(first|apply nx|refine zx ?_|rw[zw]|((first|refine hK _ ?_|refine hKp _ _ ?_);clear hK hKp K Kp;try clear hanc anc)|((with_reducible refine And.intro ?_ ?_);exact zb)|((first|refine zr hE fun K Kp hK hKp=>?_|refine zd true mixed hE fun K Kp hK hKp anc hanc=>?_|refine zd false mixed hE fun K Kp hK hKp anc hanc=>?_);simp only[go_sem,q2,q3,q5,hm,q4,q6,objR_0])|(refine zg (fun hg=>?_) (fun hg=>?_)<;>simp only[go_sem,q2,q3,q5,hm,q4,q6,objR_0,hg])|(refine zc (fun hc=>?_) (fun hc=>?_)<;>try exact zh hc))
    refine K_ret (hQ _ (MCall.fin (famR h) (by decide) (x':= { rs h o with right:=false }) rfl (objR_of ?_ ?_ ?_))).1
    · simp[updo,rs]
    · simp[updo,rs,objR_1]
    · simp[updo,rs,objR_2]
  obtain⟨b,hb⟩:=get?_of h2
  have q6:decide ((h.arenas.length:Int)≤(m:Int))=false:=by simp;omega
  cases b
  · rw[if_neg (by simp[arenaOk,hm,hb])]
    refine MCall.intro Try.func47 isf61 rfl (by simp[Try.f47]) rfl fun E Q hE hN hQ=>K_start ?_
    repeat'(first|apply nx|refine zx ?_|rw[zw]|((first|refine hK _ ?_|refine hKp _ _ ?_);clear hK hKp K Kp;try clear hanc anc)|((with_reducible refine And.intro ?_ ?_);exact zb)|((first|refine zr hE fun K Kp hK hKp=>?_|refine zd true mixed hE fun K Kp hK hKp anc hanc=>?_|refine zd false mixed hE fun K Kp hK hKp anc hanc=>?_);simp only[go_sem,q2,q3,q5,hm,q4,q6,objR_0,hb])|(refine zg (fun hg=>?_) (fun hg=>?_)<;>simp only[go_sem,q2,q3,q5,hm,q4,q6,objR_0,hb,hg])|(refine zc (fun hc=>?_) (fun hc=>?_)<;>try exact zh hc))
    refine K_ret (hQ _ (MCall.fin (famR h) (by decide) (x':= { rs h o with right:=false }) rfl (objR_of ?_ ?_ ?_))).1
    · simp[updo,rs]
    · simp[updo,rs,objR_1]
    · simp[updo,rs,objR_2]
  have hmk:=marks_get (l:=o.ags) h2
  by_cases h3:m∈o.ags
  · rw[decide_eq_true h3] at hmk
    rw[if_neg (by simp[arenaOk,hm,hb,h3])]
    refine MCall.intro Try.func47 isf61 rfl (by simp[Try.f47]) rfl fun E Q hE hN hQ=>K_start ?_
    repeat'(first|apply nx|refine zx ?_|rw[zw]|((first|refine hK _ ?_|refine hKp _ _ ?_);clear hK hKp K Kp;try clear hanc anc)|((with_reducible refine And.intro ?_ ?_);exact zb)|((first|refine zr hE fun K Kp hK hKp=>?_|refine zd true mixed hE fun K Kp hK hKp anc hanc=>?_|refine zd false mixed hE fun K Kp hK hKp anc hanc=>?_);simp only[go_sem,q2,q3,q5,hm,q4,q6,objR_0,objR_2,rs,hb,hmk])|(refine zg (fun hg=>?_) (fun hg=>?_)<;>simp only[go_sem,q2,q3,q5,hm,q4,q6,objR_0,objR_2,rs,hb,hmk,hg])|(refine zc (fun hc=>?_) (fun hc=>?_)<;>try exact zh hc))
    refine K_ret (hQ _ (MCall.fin (famR h) (by decide) (x':= { rs h o with right:=false }) rfl (objR_of ?_ ?_ ?_))).1
    · simp[updo,rs]
    · simp[updo,rs,objR_1]
    · simp[updo,rs,objR_2]
  rw[decide_eq_false h3] at hmk
  rw[if_pos (by simp[arenaOk,hm,hb,h3]),hm,Int.toNat_natCast]
  have hP0:=hP m h3 hb
  generalize hO:({ o with ags:=o.ags++[m] } :Ow)=o0 at*
  have hw0:rs h o0=⟨marks h.cells.length o.cs,marks h.arenas.length (o.ags++[m]),o.ids.length,mxI o.ids,true⟩:=by
    rw[← hO];rfl
  refine MCall.intro Try.func47 isf61 rfl (by simp[Try.f47]) rfl fun E Q hE hN hQ=>K_start ?_
  repeat'(first|apply nx|refine zx ?_|rw[zw]|((first|refine hK _ ?_|refine hKp _ _ ?_);clear hK hKp K Kp;try clear hanc anc)|((with_reducible refine And.intro ?_ ?_);exact zb)|((fail_if_success refine K_stop 20 ?_);(first|refine zr hE fun K Kp hK hKp=>?_|refine zd true mixed hE fun K Kp hK hKp anc hanc=>?_|refine zd false mixed hE fun K Kp hK hKp anc hanc=>?_);simp only[go_sem,q2,q3,q5,hm,q4,q6,objR_0,objR_2,rs,hb,hmk,marks_set h2])|(refine zg (fun hg=>?_) (fun hg=>?_)<;>simp only[go_sem,q2,q3,q5,hm,q4,q6,objR_0,objR_2,rs,hb,hmk,marks_set h2,hg])|(refine zc (fun hc=>?_) (fun hc=>?_)<;>try exact zh hc))
  refine K_loop (X:=Nat×Rw) (fun x=>x.1≤h.cells.length∧((∃ o1,x.2=rs h o1∧enL en (inArena h.cells m) o0=enL en (arFrom h.cells m x.1) o1∧P o1)∨(x.2.right=false∧enL en (inArena h.cells m) o0=none))) (fun x=>mkSt [(0,.ptr 0 0),(3,.ptr 3 0),(5,.i x.1)] (hpL h v x.2) 4) (fun x=>h.cells.length - x.1) (0,rs h o0) ⟨Nat.zero_le _,.inl ⟨o0,rfl,by rw[arFrom_zero],hP0⟩⟩ (fun i=>i) ?_ ?_
  · simp only[hw0]
    refine ent_mk (by simp[go_sem]) (by simp[go_sem,objR_0,objR_1,rs,hm]) (by simp) (by rw[hN];exact fun id hid=>⟨rfl,by omega⟩)
  rintro⟨i,w⟩ ⟨hi,ht⟩
  simp only at hi ht
  by_cases hlt:i<h.cells.length
  case neg=>
    obtain rfl:i=h.cells.length:=by omega
    repeat'(first|apply nx|refine zx ?_|rw[zw]|((first|refine hK _ ?_|refine hKp _ _ ?_);clear hK hKp K Kp;try clear hanc anc)|((with_reducible refine And.intro ?_ ?_);exact zb)|((first|refine zr hE fun K Kp hK hKp=>?_|refine zd true mixed hE fun K Kp hK hKp anc hanc=>?_|refine zd false mixed hE fun K Kp hK hKp anc hanc=>?_);simp only[go_sem,ge_dec])|(refine zg (fun hg=>?_) (fun hg=>?_)<;>simp only[go_sem,ge_dec,hg])|(refine zc (fun hc=>?_) (fun hc=>?_)<;>try exact zh hc))
    refine Kq_norm_nil ?_
    refine(hQ _ (MCall.fin (famR h) (by decide) (x':=w) ?_ (objR_of (by simp[updo]) (by simp[updo]) (by simp[updo])))).2
    rcases ht with ⟨o1,hw,ht,_⟩|⟨hw,ht⟩
    · rw[arFrom_end,enL] at ht
      rw[ht];exact hw
    · rw[ht];exact hw
  obtain⟨x,hx⟩:=get?_of hlt
  rcases ht with ⟨o1,rfl,ht,hPi⟩|⟨hw,ht⟩
  case inr=>
    repeat'(first|apply nx|refine zx ?_|rw[zw]|((first|refine hK _ ?_|refine hKp _ _ ?_);clear hK hKp K Kp;try clear hanc anc)|((with_reducible refine And.intro ?_ ?_);exact zb)|((first|refine zr hE fun K Kp hK hKp=>?_|refine zd true mixed hE fun K Kp hK hKp anc hanc=>?_|refine zd false mixed hE fun K Kp hK hKp anc hanc=>?_);simp only[go_sem,lt_dec hlt,hw])|(refine zg (fun hg=>?_) (fun hg=>?_)<;>simp only[go_sem,lt_dec hlt,hw,hg])|(refine zc (fun hc=>?_) (fun hc=>?_)<;>try exact zh hc))
    refine Kq_norm_nil ?_
    refine(hQ _ (MCall.fin (famR h) (by decide) (x':=w) ?_ (objR_of (by simp[updo,hw]) (by simp[updo]) (by simp[updo])))).2
    rw[ht];exact hw
  rw[arFrom_step hx] at ht
  cases hlv:x.live
  · rw[if_neg (by simp[hlv])] at ht
    repeat'(first|apply nx|refine zx ?_|rw[zw]|((first|refine hK _ ?_|refine hKp _ _ ?_);clear hK hKp K Kp;try clear hanc anc)|((with_reducible refine And.intro ?_ ?_);exact zb)|((first|refine zr hE fun K Kp hK hKp=>?_|refine zd true mixed hE fun K Kp hK hKp anc hanc=>?_|refine zd false mixed hE fun K Kp hK hKp anc hanc=>?_);simp only[go_sem,lt_dec hlt,rs,hx,Cl.av,Cl.cs_eq,hlv])|(refine zg (fun hg=>?_) (fun hg=>?_)<;>simp only[go_sem,lt_dec hlt,rs,hx,Cl.av,Cl.cs_eq,hlv,hg])|(refine zc (fun hc=>?_) (fun hc=>?_)<;>try exact zh hc))
    refine⟨(i+1,rs h o1),⟨by simp only;omega,.inl ⟨o1,rfl,ht,hPi⟩⟩,by simp only;omega,fun i=>i,?_⟩
    refine ent_mk (by simp[go_sem]) (by simp[go_sem,rs]) (by simp) (by rw[hN];exact fun id hid=>⟨rfl,by omega⟩)
  by_cases har:x.arena=m
  case neg=>
    have q7:(x.arena==(m:Int))=false:=by simpa using har
    rw[if_neg (by simp[q7])] at ht
    repeat'(first|apply nx|refine zx ?_|rw[zw]|((first|refine hK _ ?_|refine hKp _ _ ?_);clear hK hKp K Kp;try clear hanc anc)|((with_reducible refine And.intro ?_ ?_);exact zb)|((first|refine zr hE fun K Kp hK hKp=>?_|refine zd true mixed hE fun K Kp hK hKp anc hanc=>?_|refine zd false mixed hE fun K Kp hK hKp anc hanc=>?_);simp only[go_sem,lt_dec hlt,rs,hx,Cl.av,Cl.cs_eq,hlv,hm,q7])|(refine zg (fun hg=>?_) (fun hg=>?_)<;>simp only[go_sem,lt_dec hlt,rs,hx,Cl.av,Cl.cs_eq,hlv,hm,q7,hg])|(refine zc (fun hc=>?_) (fun hc=>?_)<;>try exact zh hc))
    refine⟨(i+1,rs h o1),⟨by simp only;omega,.inl ⟨o1,rfl,ht,hPi⟩⟩,by simp only;omega,fun i=>i,?_⟩
    refine ent_mk (by simp[go_sem]) (by simp[go_sem,rs,hm]) (by simp) (by rw[hN];exact fun id hid=>⟨rfl,by omega⟩)
  have q7:(x.arena==(m:Int))=true:=by simpa using har
  rw[if_pos (by simp[q7,hlv]),enL] at ht
  have he1:=hen i x o1 hPi hx hlv
  unfold RCel at he1
  repeat'(first|apply nx|refine zx ?_|rw[zw]|((first|refine hK _ ?_|refine hKp _ _ ?_);clear hK hKp K Kp;try clear hanc anc)|((with_reducible refine And.intro ?_ ?_);exact zb)|((first|refine zr hE fun K Kp hK hKp=>?_|refine zd true mixed hE fun K Kp hK hKp anc hanc=>?_|refine zd false mixed hE fun K Kp hK hKp anc hanc=>?_);simp only[go_sem,lt_dec hlt,rs,hx,Cl.av,Cl.cs_eq,hlv,hm,q7])|(refine zg (fun hg=>?_) (fun hg=>?_)<;>simp only[go_sem,lt_dec hlt,rs,hx,Cl.av,Cl.cs_eq,hlv,hm,q7,hg])|(refine zc (fun hc=>?_) (fun hc=>?_)<;>try exact zh hc))
  refine Hold.mk (MCall.use (famR h) he1 (by simp[AV.ids,AV.idsL,go_sem]) (objR_of (by simp[updo,rs]) (by simp[updo,rs]) (by simp[updo,rs])) fun w' hpn hG hob hold=>?_)
  have g0:=hob 0 _ rfl
  have g1:=hob 1 _ rfl
  have g2:=hob 2 _ rfl
  have g3:=hold 3 (.cells [.i v.kind,.i v.id,.i v.var,.i m,.sl (Vl.avL v.fs),.bool v.excl,.sl (il v.path),.sl (il v.loans)]) (by decide) (by simp[updo])
  simp only[go_sem,putf]
  refine hK _ ?_;clear hK hKp K Kp;try clear hanc anc
  repeat(first|refine Kq_norm_code ?_|refine Kq_norm_blk ?_|refine Kq_norm_lp ?_)
  repeat'(first|apply nx|refine zx ?_|rw[zw]|((first|refine hK _ ?_|refine hKp _ _ ?_);clear hK hKp K Kp;try clear hanc anc)|((with_reducible refine And.intro ?_ ?_);exact zb)|((first|refine zr hE fun K Kp hK hKp=>?_|refine zd true mixed hE fun K Kp hK hKp anc hanc=>?_|refine zd false mixed hE fun K Kp hK hKp anc hanc=>?_);simp only[go_sem])|(refine zg (fun hg=>?_) (fun hg=>?_)<;>simp only[go_sem,hg])|(refine zc (fun hc=>?_) (fun hc=>?_)<;>try exact zh hc))
  refine⟨(i+1,w'),⟨by simp only;omega,?_⟩,by simp only;omega,fun i=>i,?_⟩
  · cases hy:en i o1 with
    |some o2=>
      rw[hy] at hG ht
      exact .inl ⟨o2,hG,ht,hs i x o1 o2 hPi hx hlv hy⟩
    |none=>
      rw[hy] at hG ht
      exact .inr ⟨hG,ht⟩
  · refine ent_mk (by simp[go_sem]) (by simp[go_sem,g0,g1,g2,g3,hm]) (by simp) (by rw[hN];exact fun id hid=>⟨rfl,by omega⟩)
def RCelAll (h:Hp) (k:Nat):Prop:=∀ n c o,h.cells[n]? =some c→c.live=true→o.Ok h→h.cells.length≤k+o.cs.length→bud (2 ^ 20) h o≤2 ^ 42→RCel h n (visE h k n) o
theorem rval_all {h:Hp} (hl:h.cells.length≤2 ^ 20) (hal:h.arenas.length≤2 ^ 20) (hM:∀ c,c∈h.cells→c.v.sz≤2 ^ 20) {k:Nat} (hE:RCelAll h k):∀ (N:Nat) (v:Vl) (o:Ow),v.sz<N→v.sz≤2 ^ 20→o.Ok h→h.cells.length≤k+o.cs.length→bud (2 ^ 20) h o+v.sz≤2 ^ 42→RVal h v (visV h (visE h k) v) o:=by
 intro N
 induction N with
 |zero=>intro v o h0;omega
 |succ N ih=>
 intro v o hN hv20 ho hlen hbud
 have hsz:=v.sz_eq
 have hfl:=Vl.len_le v.fs
 have hids:o.ids.length≤bud (2 ^ 20) h o:=Nat.le_add_right _ _
 by_cases h2:v.kind=2
 ·refine rval_data h _ v o h2 (by omega) (by omega) (fun i o=>o.Ok h∧h.cells.length≤k+o.cs.length∧bud (2 ^ 20) h o+Vl.szL (v.fs.drop i)≤2 ^ 42) ⟨⟨ho.nd,ho.lt,ho.and,ho.alt⟩,hlen,?_⟩ ?_ ?_
  ·have e:bud (2 ^ 20) h { o with ids:=o.ids++[v.id] } =bud (2 ^ 20) h o+1:=by simp only[bud,List.length_append,List.length_singleton];omega
   rw[e,List.drop_zero]
   omega
  ·rintro i x o1 hx ⟨g1,g2,g3⟩
   rw[drop_of hx,Vl.szL] at g3
   have:=Vl.sz_mem (List.mem_of_getElem? hx)
   exact ih x o1 (by omega) (by omega) g1 g2 (by omega)
  ·rintro i x o1 o2 hx ⟨g1,g2,g3⟩ he
   rw[drop_of hx,Vl.szL] at g3
   have k1:=visV_keeps (visE_keeps h k) x o1 o2 g1 he
   have k2:=visV_bud (visE_keeps h k) (visE_bud hM k) x o1 o2 g1 he
   have k3:=Ow.Le.len k1.2
   exact⟨k1.1,by omega,by omega⟩
 by_cases h3:v.kind=3
 ·exact rval_box h _ v o h3 hl (fun m c hc hv=>hE m c o hc hv ho hlen (by omega))
 by_cases h5:v.kind=5
 ·refine rval_arena h _ v o h5 hl hal (fun o=>o.Ok h∧h.cells.length≤k+o.cs.length∧bud (2 ^ 20) h o≤2 ^ 42) (fun m hm1 hm2=>⟨ho.arena hm1 hm2,hlen,?_⟩) (fun m c o1 g hc hv=>hE m c o1 hc hv g.1 g.2.1 g.2.2) (fun m c o1 o2 g hc hv he=>?_)
  ·have e:bud (2 ^ 20) h (Ow.mk o.cs (o.ags++[m]) o.ids)=bud (2 ^ 20) h o:=rfl
   show bud (2 ^ 20) h (Ow.mk o.cs (o.ags++[m]) o.ids)≤2 ^ 42
   rw[e]
   omega
  ·have k1:=visE_keeps h k m o1 o2 g.1 ⟨c,hc,hv⟩ he
   have k2:=visE_bud hM k m o1 o2 g.1 ⟨c,hc,hv⟩ he
   have k3:=Ow.Le.len k1.2
   exact⟨k1.1,by omega,by omega⟩
 exact rval_other h _ v o h2 h3 h5
theorem RCel.congr {h:Hp} {n:Nat} {r r':Ow→Option Ow} {o:Ow} (hr:r o=r' o) (he:RCel h n r o):RCel h n r' o:=by
 unfold RCel at he ⊢
 rw[← hr]
 exact he
theorem rcel_all {h:Hp} (hl:h.cells.length≤2 ^ 20) (hal:h.arenas.length≤2 ^ 20) (hM:∀ c,c∈h.cells→c.v.sz≤2 ^ 20):∀ k,RCelAll h k
 |0=>fun n c o hc hv ho hlen hbud=>by
  have hin:n∈o.cs:=Classical.byContradiction fun hn=>by
   have:=ho.len_lt hn (List.getElem?_eq_some_iff.1 hc).1
   omega
  refine RCel.congr (r:=fun o=>visE h (0+1) n o) ?_ (rcell_c h 0 n o c hc fun hn=>absurd hin hn)
  have e1:visE h (0+1) n o=none:=by rw[visE,if_pos hin]
  have e0:visE h 0 n o=none:=by rw[visE]
  show visE h (0+1) n o=visE h 0 n o
  rw[e1,e0]
 |k+1=>fun n c o hc hv ho hlen hbud=>by
  refine rcell_c h k n o c hc fun hn=>?_
  have g1:=ho.len_lt hn (List.getElem?_eq_some_iff.1 hc).1
  have g2:=hM c (List.mem_of_getElem? hc)
  refine rval_all hl hal hM (rcel_all hl hal hM k) (c.v.sz+1) c.v _ (by omega) g2 (ho.enter hn hc hv) ?_ ?_
  ·simp only[List.length_append,List.length_singleton];omega
  ·have e:bud (2 ^ 20) h { o with cs:=o.cs++[n] } +2 ^ 20=bud (2 ^ 20) h o:=by
    unfold bud
    simp only[List.length_append,List.length_singleton]
    have:h.cells.length - o.cs.length=(h.cells.length - (o.cs.length+1))+1:=by omega
    rw[this,Nat.add_mul]
    omega
   omega

def walkL (h:Hp) (l:List Vl):Option Ow:=visL h (visE h h.cells.length) l Ow.nil
structure SmL (h:Hp) (vs:List Vl):Prop where
 l:h.cells.length≤2 ^ 20
 a:h.arenas.length≤2 ^ 20
 m:∀ c,c∈h.cells→c.v.sz≤2 ^ 20
 v:∀ v:Vl,v∈vs→v.sz≤2 ^ 20
 n:Vl.szL vs≤2 ^ 30
theorem Sm.one {h:Hp} {v:Vl} (hm:Sm h v):SmL h [v]:=⟨hm.l,hm.a,hm.m,by simpa using hm.v,by have:=hm.v;simp[Vl.szL];omega⟩
theorem walked_c {h:Hp} {l:List Vl} (hm:SmL h l):ACall Try.prog 21 [h.av,.sl (Vl.avL l)] (fun _=>none) 0 0 (fun r hp'=>r= .ptr 0 0∧∃ w,hp'=objR h w∧ROk h (walkL h l) w) (fun _ _=>False):=by
 have hl:=hm.l
 have ha:=hm.a
 have hll:=Vl.len_le l
 have hn:=hm.n
 have hw0:rs h Ow.nil=⟨List.replicate h.cells.length false,List.replicate h.arenas.length false,0,0,true⟩:=by
  rw[marks_nil,marks_nil];rfl
 rw[Hp.av_eq]
 refine ACall.of_bodyR Try.func21 isf21 rfl (by simp[Try.f21]) fun E Q hE hN hQ hQp=>K_start ?_
 repeat'(first|apply nx|refine zx ?_|rw[zw]|((first|refine hK _ ?_|refine hKp _ _ ?_);clear hK hKp K Kp;try clear hanc anc)|((with_reducible refine And.intro ?_ ?_);exact zb)|((fail_if_success refine K_stop 3 ?_);(first|refine zr hE fun K Kp hK hKp=>?_|refine zd true mixed hE fun K Kp hK hKp anc hanc=>?_|refine zd false mixed hE fun K Kp hK hKp anc hanc=>?_);simp only[go_sem])|(refine zg (fun hg=>?_) (fun hg=>?_)<;>simp only[go_sem,hg])|(refine zc (fun hc=>?_) (fun hc=>?_)<;>try exact zh hc))
 refine K_loop (X:=Nat×Rw) (fun x=>x.1≤l.length∧((∃ o1,x.2=rs h o1∧walkL h l=visL h (visE h h.cells.length) (l.drop x.1) o1∧(o1.Ok h∧bud (2 ^ 20) h o1+Vl.szL (l.drop x.1)≤2 ^ 42))∨(x.2.right=false∧walkL h l=none))) (fun x=>mkSt [(1,.sl (Vl.avL l)),(4,.nilp),(5,.ptr 0 0),(6,.i x.1)] [(0,.cells (rwC h x.2)),(1,.row 1 (bl x.2.mc)),(2,.row 1 (bl x.2.ma))] 3) (fun x=>l.length - x.1) (0,rs h Ow.nil) ⟨Nat.zero_le _,.inl ⟨Ow.nil,rfl,rfl,Ow.nil_ok h,?_⟩⟩ (fun i=>if i=0 then 12582912 else if i=1 then 6291456 else 10485760) ?_ ?_
 ·rw[bud_nil,List.drop_zero];omega
 ·simp only[hw0]
  refine ent_mk (by simp[go_sem]) (by simp[go_sem]) (by simp) (by simp[hN])
 have hfin:∀ (σ:St) (w:Rw),ROk h (walkL h l) w→σ.fr 4=some (.ptr 0 0)→(∀ id ob,objR h w id=some ob→σ.hp id=some ob)→Q .ret σ:=fun σ w hG h4 ho=>
  (hQ _ ⟨.ptr 0 0,fun i=>i,objR h w,3,(by simp[resA,rvA,Try.f21,go_sem,h4]),by simp[AV.ids],ent_idG (fr:=[]) (by simp) (fun id o hx=>⟨ho id o hx,(famR h).lt w id o hx⟩) (by decide),rfl,w,rfl,hG⟩).1
 rintro⟨i,w⟩ ⟨hi,ht⟩
 simp only at hi ht
 by_cases hlt:i<l.length
 case neg=>
  obtain rfl:i=l.length:=by omega
  repeat'(first|apply nx|refine zx ?_|rw[zw]|((first|refine hK _ ?_|refine hKp _ _ ?_);clear hK hKp K Kp;try clear hanc anc)|((with_reducible refine And.intro ?_ ?_);exact zb)|((first|refine zr hE fun K Kp hK hKp=>?_|refine zd true mixed hE fun K Kp hK hKp anc hanc=>?_|refine zd false mixed hE fun K Kp hK hKp anc hanc=>?_);simp only[go_sem,ge_dec])|(refine zg (fun hg=>?_) (fun hg=>?_)<;>simp only[go_sem,ge_dec,hg])|(refine zc (fun hc=>?_) (fun hc=>?_)<;>try exact zh hc))
  refine K_ret (hfin _ w ?_ (by simp[upd]) (objR_of (by simp[updo]) (by simp[updo]) (by simp[updo])))
  rcases ht with ⟨o1,hw,ht,_⟩|⟨hw,ht⟩
  ·rw[List.drop_length,visL] at ht
   rw[ht];exact hw
  ·rw[ht];exact hw
 obtain⟨x,hx⟩:=get?_of hlt
 rcases ht with ⟨o1,rfl,ht,hok,hbud⟩|⟨hw,ht⟩
 case inr=>
  repeat'(first|apply nx|refine zx ?_|rw[zw]|((first|refine hK _ ?_|refine hKp _ _ ?_);clear hK hKp K Kp;try clear hanc anc)|((with_reducible refine And.intro ?_ ?_);exact zb)|((first|refine zr hE fun K Kp hK hKp=>?_|refine zd true mixed hE fun K Kp hK hKp anc hanc=>?_|refine zd false mixed hE fun K Kp hK hKp anc hanc=>?_);simp only[go_sem,lt_dec hlt,hw])|(refine zg (fun hg=>?_) (fun hg=>?_)<;>simp only[go_sem,lt_dec hlt,hw,hg])|(refine zc (fun hc=>?_) (fun hc=>?_)<;>try exact zh hc))
  refine K_ret (hfin _ w ?_ (by simp[upd]) (objR_of (by simp[updo,hw]) (by simp[updo]) (by simp[updo])))
  rw[ht];exact hw
 rw[drop_of hx,visL] at ht
 rw[drop_of hx,Vl.szL] at hbud
 have hxm:=Vl.sz_mem (List.mem_of_getElem? hx)
 have hv1:=rval_all hm.l hm.a hm.m (rcel_all hm.l hm.a hm.m h.cells.length) (x.sz+1) x o1 (by omega) (hm.v x (List.mem_of_getElem? hx)) hok (by omega) (by omega)
 unfold RVal at hv1
 rw[show x.cs=[.i x.kind,.i x.id,.i x.var,.i x.n,.sl (Vl.avL x.fs),.bool x.excl,.sl (il x.path),.sl (il x.loans)] from rfl] at hv1
 repeat'(first|apply nx|refine zx ?_|rw[zw]|((first|refine hK _ ?_|refine hKp _ _ ?_);clear hK hKp K Kp;try clear hanc anc)|((with_reducible refine And.intro ?_ ?_);exact zb)|((first|refine zr hE fun K Kp hK hKp=>?_|refine zd true mixed hE fun K Kp hK hKp anc hanc=>?_|refine zd false mixed hE fun K Kp hK hKp anc hanc=>?_);simp only[go_sem,lt_dec hlt,rs,hx,Vl.av_eq])|(refine zg (fun hg=>?_) (fun hg=>?_)<;>simp only[go_sem,lt_dec hlt,rs,hx,Vl.av_eq,hg])|(refine zc (fun hc=>?_) (fun hc=>?_)<;>try exact zh hc))
 refine Hold.mk (MCall.use (famR h) hv1 (by simp[AV.ids,AV.idsL,go_sem]) (objR_of (by simp[updo,rs]) (by simp[updo,rs]) (by simp[updo,rs])) fun w' hpn hG hob hold=>?_)
 have g0:=hob 0 _ rfl
 have g1:=hob 1 _ rfl
 have g2:=hob 2 _ rfl
 simp only[go_sem,putf]
 refine hK _ ?_;clear hK hKp K Kp;try clear hanc anc
 repeat(first|refine Kq_norm_code ?_|refine Kq_norm_blk ?_|refine Kq_norm_lp ?_)
 repeat'(first|apply nx|refine zx ?_|rw[zw]|((first|refine hK _ ?_|refine hKp _ _ ?_);clear hK hKp K Kp;try clear hanc anc)|((with_reducible refine And.intro ?_ ?_);exact zb)|((first|refine zr hE fun K Kp hK hKp=>?_|refine zd true mixed hE fun K Kp hK hKp anc hanc=>?_|refine zd false mixed hE fun K Kp hK hKp anc hanc=>?_);simp only[go_sem])|(refine zg (fun hg=>?_) (fun hg=>?_)<;>simp only[go_sem,hg])|(refine zc (fun hc=>?_) (fun hc=>?_)<;>try exact zh hc))
 refine⟨(i+1,w'),⟨by simp only;omega,?_⟩,by simp only;omega,fun i=>i,?_⟩
 ·cases hy:visV h (visE h h.cells.length) x o1 with
  |some o2=>
   rw[hy] at hG ht
   have k1:=visV_keeps (visE_keeps h _) x o1 o2 hok hy
   have k2:=visV_bud (visE_keeps h _) (visE_bud hm.m _) x o1 o2 hok hy
   exact .inl ⟨o2,hG,ht,k1.1,by simp only;omega⟩
  |none=>
   rw[hy] at hG ht
   exact .inr ⟨hG,ht⟩
 ·refine ent_mk (by simp[go_sem]) (by simp[go_sem,g0,g1,g2]) (by simp) (by simp[hN])
theorem walked_use {h : Hp} {l : List Vl} (hm : SmL h l) {fr : Nat → Option AV} {hp0 : Nat → Option AObj} {n0 k : Nat} {d : Option Nat} {K : St → Prop} {Kp : AV → St → Prop} (B : Nat) (hB : n0 + 1048576 * k = B)
    (hK:∀ w hpn,ROk h (walkL h l) w→hpn B=some (.cells [.sl (cl h.cells),.sl (bl h.arenas),.rw (B+1),.rw (B+2),.i w.cnt,.i w.ids,.bool w.right])→hpn (B+1)=some (.row 1 (bl w.mc))→hpn (B+2)=some (.row 1 (bl w.ma))→(∀ id o,hp0 id=some o→hpn id=some o)→K ⟨putf fr d (.ptr B 0),hpn,n0⟩):
    CallB Try.prog 21 [h.av,.sl (Vl.avL l)] ⟨fr,hp0,n0⟩ k d K Kp:=by
  subst hB
  have hb:∀ j,backM (fun i=>i) 0 (n0+1048576*k) j=n0+1048576*k+j:=fun j=>by rw[backM_ge (Nat.zero_le _),Nat.sub_zero]
  refine CallB.use (walked_c hm) (fun i=>i) (by rw[renL_id]) (by simp[AV.ids,AV.idsL,Hp.av,go_sem]) (fun id ob ho=>by cases ho) (fun _ _ _ _ _ _ e=>e) (fun id hid=>absurd hid (Nat.not_lt_zero _)) ?_ (fun _ _ h=>h.elim) ?_ (fun _ _ _ h=>h.elim)
  · rintro r hp' ⟨rfl,w,rfl,_⟩
    exact⟨by simp[AV.ids],fun id o ho=>⟨by have:=((famR h).lt w id o ho).1;omega,objids_mono _ (fun j hj=>by omega) ((famR h).lt w id o ho).2⟩⟩
  · rintro r hp' fr' hpn ⟨rfl,w,rfl,hG⟩ hfr hobj hold
    have e:fr'=putf fr d (.ptr (n0+1048576*k) 0):=by subst hfr;simp only[AV.ren,hb,Nat.add_zero];cases d<;>rfl
    subst e
    have g0:=hobj 0 _ (objR_0 h w)
    have g1:=hobj 1 _ (objR_1 h w)
    have g2:=hobj 2 _ (objR_2 h w)
    simp only[AObj.ren,AV.ren,AV.renL,hb,Nat.add_zero,bl_ren] at g0 g1 g2
    exact hK w hpn hG g0 g1 g2 fun id o ho=>hold id o ho fun j hj=>absurd rfl hj
end Go.Proofs.Ytfgjjnfdcgkpoaa
