/- A part of the proof: an abstract machine for the walks, and what the walked functions compute. -/
import Derived.Test.YtfgjjnfdcgkpoaaCd
import Derived.Test.YtfgjjnfdcgkpoaaHw
set_option linter.unusedVariables false
set_option linter.unusedSimpArgs false
set_option maxHeartbeats 4000000
set_option maxRecDepth 100000
namespace Go.Proofs.Ytfgjjnfdcgkpoaa
open Go.Am Go.Proofs Go.Hv
open Classical
attribute [local irreducible] AW CallP CallB CallY
theorem setZero_snp (L : List Cl) (n i : Nat) (hi : i < ((cl L).set n (.agg [.bool false, .i 0, .i 0, .i 0, .i 0, .i 0, .nilsl, .bool false, .nilsl, .nilsl])).length) :
    Snp (fun _=>none) (((cl L).set n (.agg [.bool false,.i 0,.i 0,.i 0,.i 0,.i 0,.nilsl,.bool false,.nilsl,.nilsl])).getD i default) ((cl (L.set n Cl.zero)).getD i default):=by
  rw[← cl_set]
  refine snp_set (.inr ⟨?_,?_⟩) _ _ _ hi
  · simp[AV.snapOk,AV.snapOkL]
  · rfl
def pick (l:List Nat) (done:List Nat):List Nat:=done.map fun j=>l.getD j 0
theorem pick_snoc {l done:List Nat} {j n:Nat} (h:l[j]? =some n):pick l (done++[j])=pick l done++[n]:=by
 simp[pick,List.getD_eq_getElem?_getD,h]
theorem pick_all {l done:List Nat} (h:∀ i,i∈done↔i<l.length) (n:Nat):n∈pick l done↔n∈l:=by
 unfold pick
 rw[List.mem_map]
 constructor
 ·rintro⟨j,hj,rfl⟩
  have:=(h j).1 hj
  have e:l.getD j 0=l[j]:=by simp[List.getD_eq_getElem?_getD,this]
  rw[e];exact List.getElem_mem this
 ·intro hn
  obtain⟨j,hj,rfl⟩:=List.mem_iff_getElem.1 hn
  exact⟨j,(h j).2 hj,by simp[List.getD_eq_getElem?_getD,hj]⟩
theorem clrC_mem {l:List Cl} {a b:List Nat} (h:∀ n,n∈a↔n∈b):clrC l a=clrC l b:=by
 apply List.ext_getElem?
 intro i
 simp only[clrC_get,h i]
theorem clrA_mem {l:List Bool} {a b:List Nat} (h:∀ n,n∈a↔n∈b):clrA l a=clrA l b:=by
 apply List.ext_getElem?
 intro i
 simp only[clrA_get,h i]
theorem clrC_snoc:∀ (m:List Nat) (l:List Cl) (n:Nat),clrC l (m++[n])=(clrC l m).set n Cl.zero
 | [],l,n=>rfl
 |x::m,l,n=>by rw[List.cons_append,clrC,clrC_snoc m,clrC]
theorem clrA_snoc:∀ (m:List Nat) (l:List Bool) (n:Nat),clrA l (m++[n])=(clrA l m).set n false
 | [],l,n=>rfl
 |x::m,l,n=>by rw[List.cons_append,clrA,clrA_snoc m,clrA]
theorem mkE_get {l:List Nat} {j:Nat} {k x:AV} (h:(mkE l)[j]? =some (k,x)):∃ n:Nat,l[j]? =some n∧k= .i n:=by
 unfold mkE at h
 rw[List.getElem?_map] at h
 cases hj:l[j]? with
 |none=>rw[hj] at h;cases h
 |some n=>rw[hj] at h;cases h;exact⟨n,rfl,rfl⟩
theorem mkE_len (l:List Nat):(mkE l).length=l.length:=by simp[mkE]
theorem mkHp_mem':∀ {L:List (Nat×AObj)} {id:Nat} {ob:AObj},mkHp L id=some ob→(id,ob)∈L
 | [],id,ob,h=>by cases h
 |(i,x)::L,id,ob,h=>by
  simp only[mkHp,updo] at h
  split at h
  ·rename_i e
   cases h
   rw[e]
   exact List.mem_cons_self
  ·exact List.mem_cons_of_mem _ (mkHp_mem' h)
def fr48:Nat→Option AV:=mkFr [(2,.ptr 5 0),(4,.ptr 6 0),(5,.ptr 2 0)]
def ob48 (o:Ow) (c:List Cl) (a:List Bool):List (Nat×AObj):=[(2,.cells [.rw 3,.rw 4]),(3,.row 10 (cl c)),(4,.row 1 (bl a)),(5,.cells [.mp 0,.mp 1,.sl (il o.ids)]),(6,.cells [.nilsl,.nilsl])]
def H1 (h:Hp) (o:Ow) (done:List Nat):Nat→Option AObj:=mkHp ((1,.map (mkE o.ags))::ob48 o (clrC h.cells (pick o.cs done)) h.arenas)
def H2 (h:Hp) (o:Ow) (done:List Nat):Nat→Option AObj:=mkHp ((0,.map (mkE o.cs))::ob48 o (clrC h.cells o.cs) (clrA h.arenas (pick o.ags done)))
theorem ob48_lt {o:Ow} {c:List Cl} {a:List Bool} {p:Nat×AObj} (hp:p∈ob48 o c a):p.1<7∧p.2.ids (· <7):=by
 simp only[ob48,List.mem_cons,List.not_mem_nil,or_false] at hp
 rcases hp with rfl|rfl|rfl|rfl|rfl
 all_goals refine⟨(by simp only;omega),?_⟩
 all_goals simp[AObj.ids,AV.ids,AV.idsL,go_sem]
theorem closed_call {h : Hp} (hl : h.cells.length ≤ 2 ^ 20) (hal : h.arenas.length ≤ 2 ^ 20) {o : Ow} (ho : o.Ok h) :
    ACall Try.prog 75 [.agg [.mp 0,.mp 1,.sl (il o.ids)],h.av] (mkHp [(0,.map (mkE o.cs)),(1,.map (mkE o.ags))]) 2 2
      (fun r hp'=>r= .agg [.rw 2,.rw 3]∧hp'=mkHp [(2,.row 10 (cl (closedS h o).cells)),(3,.row 1 (bl (closedS h o).arenas))]) (fun _ _=>False):=by
  have hcp:=clone_nc h hl hal
  rw[Hp.av_eq] at hcp ⊢
  refine ACall.of_bodyR Try.func75 isf75 rfl (by simp[Try.f75]) fun E Q hE hN hQ hQp=>K_start ?_
  repeat'(first|apply nx|refine zx ?_|rw[zw]|((first|refine hK _ ?_|refine hKp _ _ ?_);clear hK hKp K Kp;try clear hanc anc)|((with_reducible refine And.intro ?_ ?_);exact zb)|((first|refine zr hE fun K Kp hK hKp=>?_|refine zd true mixed hE fun K Kp hK hKp anc hanc=>?_|refine zd false mixed hE fun K Kp hK hKp anc hanc=>?_);simp only[go_sem])|(refine zg (fun hg=>?_) (fun hg=>?_)<;>simp only[go_sem,hg])|(refine zc (fun hc=>?_) (fun hc=>?_)<;>try exact zh hc))
  refine Hold.mk (CallB.newRows hcp (by simp[AV.cloL,AV.clo]) (cl_clo _) (bl_clo _) ?_)
  simp only[go_sem]
  (repeat(first|rw[wrap64 (by omega) (by omega)]|((with_reducible refine And.intro ?_ ?_);(focus(first|trivial|omega|(simp only[Fits];omega)|assumption|(rw[hanc];first|rfl|exact⟨rfl,rfl⟩))))))
  refine hK _ ?_;clear hK hKp K Kp;try clear hanc anc
  repeat(first|refine Kq_norm_code ?_|refine Kq_norm_blk ?_|refine Kq_norm_lp ?_)
  have hes:∀ (l:List Nat) (p:AV×AV),p∈mkE l→p.1.clo=true∧p.2.clo=true:=fun l p hp=>by
    obtain⟨n,_,rfl⟩:=List.mem_map.1 hp
    exact⟨rfl,rfl⟩
  have hob:∀ (L:List (Nat×AObj)) (id:Nat) (ob:AObj),(∀ p,p∈L→p.1<7∧p.2.ids (· <7))→mkHp L id=some ob→id<7∧ob.ids (· <7):=fun L id ob hL hx=>hL _ (mkHp_mem' hx)
  have hfr:∀ t x,fr48 t=some x→x.ids (· <7):=fun t x hx=>by
    have:=mkFr_mem' hx
    simp only[List.mem_cons,List.not_mem_nil,or_false,Prod.mk.injEq] at this
    rcases this with ⟨_,rfl⟩|⟨_,rfl⟩|⟨_,rfl⟩
    · show 5<7;decide
    · show 6<7;decide
    · show 2<7;decide
  refine AW.ent (σ':=⟨fr48,updo (H1 h o []) 0 (some (.map (mkE o.cs))),7⟩) (fun i=>if i=2 then 5242882 else if i=3 then 4194306 else if i=4 then 4194307 else if i=5 then 2 else if i=6 then 2097154 else i) ?_ ?_
  · show Ent _ _ _ (mkSt [(2,.ptr 5 0),(4,.ptr 6 0),(5,.ptr 2 0)] ((0,.map (mkE o.cs))::(1,.map (mkE o.ags))::ob48 o h.cells h.arenas) 7)
    unfold ob48
    refine ent_mk (by simp[go_sem]) (by simp[go_sem,mkE_ren];exact⟨fun _ _=>mkE_idm,fun _ _=>mkE_idm⟩) (by simp) (fun id hid=>?_)
    rw[hN] at hid
    have:id=0∨id=1:=by omega
    rcases this with rfl|rfl<;>exact⟨rfl,by decide⟩
  refine K_seq ?_
  refine AW_rangeMap fr48 (H1 h o) 0 7 (mkE o.cs) Try.underlying97 (by rw[hN];decide) (by decide) (fun done=>rfl) hfr (fun done id ob hx=>hob _ _ _ (fun p hp=>?_) hx) (hes _) ?_ (by decide) (by rw[hE];decide) (by decide) (by rw[hE];simp) (by rw[hE];simp) ?_ ?_ ?_
  · rcases List.mem_cons.1 hp with rfl|hp
    · exact⟨(by simp only;omega),fun p hp=>mkE_idm hp⟩
    · exact ob48_lt hp
  · intro id hid
    have:id=0∨id=1∨id=2∨id=3∨id=4∨id=5∨id=6:=by omega
    rcases this with rfl|rfl|rfl|rfl|rfl|rfl|rfl
    · exact .inl rfl
    all_goals exact .inr ⟨_,rfl⟩
  · unfold fr48 H1 ob48
    simp only[go_sem]
    refine⟨fun t x hx=>?_,fun id ob hx=>hx⟩
    by_cases e1:t=11
    · subst e1;simp at hx
    by_cases e2:t=10
    · subst e2;simp at hx
    rw[if_neg e1,if_neg e2]
    exact hx
  · intro done j k x hnd hlt hj hjk E' hE' hN'
    obtain⟨n,hn,rfl⟩:=mkE_get hjk
    obtain⟨c,hcc,_⟩:=ho.lt n (List.mem_of_getElem? hn)
    have hnl:n<(clrC h.cells (pick o.cs done)).length:=by rw[clrC_len];exact(List.getElem?_eq_some_iff.1 hcc).1
    have hE:E'.nt=34:=hE'.trans hE
    unfold H1
    rw[pick_snoc hn,clrC_snoc]
    generalize clrC h.cells (pick o.cs done)=L at hnl
    unfold roundSt fr48 ob48
    refine AW_snpPost 3 10 (K_start ?_)
    obtain⟨y,hy⟩:=get?_of hnl
    repeat'(first|apply nx|refine zx ?_|rw[zw]|((first|refine hK _ ?_|refine hKp _ _ ?_);clear hK hKp K Kp;try clear hanc anc)|((with_reducible refine And.intro ?_ ?_);exact zb)|((first|refine zr hE fun K Kp hK hKp=>?_|refine zd true mixed hE fun K Kp hK hKp anc hanc=>?_|refine zd false mixed hE fun K Kp hK hKp anc hanc=>?_);simp only[go_sem,hy,Cl.av,Cl.cs_eq])|(refine zg (fun hg=>?_) (fun hg=>?_)<;>simp only[go_sem,hy,Cl.av,Cl.cs_eq,hg])|(refine zc (fun hc=>?_) (fun hc=>?_)<;>try exact zh hc))
    refine Kq_norm_nil ⟨rfl,_,cl (L.set n Cl.zero),(by simp only[updo,if_true]),by simp[cl_len],setZero_snp L n,rfl,fun i=>i,?_⟩
    show Ent _ _ _ (mkSt [(12,.ptr 7 0),(2,.ptr 5 0),(4,.ptr 6 0),(5,.ptr 2 0)] [(1,.map (mkE o.ags)),(2,.cells [.rw 3,.rw 4]),(3,.row 10 (cl (L.set n Cl.zero))),(4,.row 1 (bl h.arenas)),(5,.cells [.mp 0,.mp 1,.sl (il o.ids)]),(6,.cells [.nilsl,.nilsl])] 8)
    refine ent_mk (by simp[go_sem]) (by simp[go_sem,mkE_ren];exact fun _ _=>mkE_idm) (by simp) (fun id hid=>⟨rfl,hid⟩)
  · intro done hnd hall
    have e1:clrC h.cells (pick o.cs done)=clrC h.cells o.cs:=clrC_mem (pick_all (by simpa [mkE_len] using hall))
    unfold H1
    rw[e1]
    refine Kq_norm_code ?_
    refine AW.ent (σ':=⟨fr48,updo (H2 h o []) 1 (some (.map (mkE o.ags))),7⟩) (fun i=>i) ?_ ?_
    · show Ent _ _ _ (mkSt [(2,.ptr 5 0),(4,.ptr 6 0),(5,.ptr 2 0)] ((1,.map (mkE o.ags))::(0,.map (mkE o.cs))::ob48 o (clrC h.cells o.cs) h.arenas) 7)
      unfold ob48 fr48
      refine ent_mk (by simp[go_sem]) (by simp[go_sem,mkE_ren];exact⟨fun _ _=>mkE_idm,fun _ _=>mkE_idm⟩) (by simp) (fun id hid=>⟨rfl,(by rw[hN] at hid;show id<7;omega)⟩)
    refine K_seq ?_
    refine AW_rangeMap fr48 (H2 h o) 1 7 (mkE o.ags) Try.underlying97 (by rw[hN];decide) (by decide) (fun done=>rfl) hfr (fun done id ob hx=>hob _ _ _ (fun p hp=>?_) hx) (hes _) ?_ (by decide) (by rw[hE];decide) (by decide) (by rw[hE];simp) (by rw[hE];simp) ?_ ?_ ?_
    · rcases List.mem_cons.1 hp with rfl|hp
      · exact⟨(by simp only;omega),fun p hp=>mkE_idm hp⟩
      · exact ob48_lt hp
    · intro id hid
      have:id=1∨id=0∨id=2∨id=3∨id=4∨id=5∨id=6:=by omega
      rcases this with rfl|rfl|rfl|rfl|rfl|rfl|rfl
      · exact .inl rfl
      all_goals exact .inr ⟨_,rfl⟩
    · unfold fr48 H2 ob48
      simp only[go_sem]
      refine⟨fun t x hx=>?_,fun id ob hx=>hx⟩
      by_cases e1:t=23
      · subst e1;simp at hx
      by_cases e2:t=22
      · subst e2;simp at hx
      rw[if_neg e1,if_neg e2]
      exact hx
    · intro done j k x hnd hlt hj hjk E' hE' hN'
      obtain⟨n,hn,rfl⟩:=mkE_get hjk
      have haa:=ho.alt n (List.mem_of_getElem? hn)
      have hnl:n<(clrA h.arenas (pick o.ags done)).length:=by rw[clrA_len];exact(List.getElem?_eq_some_iff.1 haa).1
      have hE:E'.nt=34:=hE'.trans hE
      unfold H2
      rw[pick_snoc hn,clrA_snoc]
      generalize clrA h.arenas (pick o.ags done)=L at hnl
      unfold roundSt fr48 ob48
      obtain⟨y,hy⟩:=get?_of hnl
      refine K_start ?_
      repeat'(first|apply nx|refine zx ?_|rw[zw]|((first|refine hK _ ?_|refine hKp _ _ ?_);clear hK hKp K Kp;try clear hanc anc)|((with_reducible refine And.intro ?_ ?_);exact zb)|((first|refine zr hE fun K Kp hK hKp=>?_|refine zd true mixed hE fun K Kp hK hKp anc hanc=>?_|refine zd false mixed hE fun K Kp hK hKp anc hanc=>?_);simp only[go_sem,hy])|(refine zg (fun hg=>?_) (fun hg=>?_)<;>simp only[go_sem,hy,hg])|(refine zc (fun hc=>?_) (fun hc=>?_)<;>try exact zh hc))
      refine Kq_norm_nil ⟨rfl,fun i=>i,?_⟩
      show Ent _ _ _ (mkSt [(24,.ptr 7 0),(2,.ptr 5 0),(4,.ptr 6 0),(5,.ptr 2 0)] [(0,.map (mkE o.cs)),(2,.cells [.rw 3,.rw 4]),(3,.row 10 (cl (clrC h.cells o.cs))),(4,.row 1 (bl (L.set n false))),(5,.cells [.mp 0,.mp 1,.sl (il o.ids)]),(6,.cells [.nilsl,.nilsl])] 8)
      refine ent_mk (by simp[go_sem]) (by simp[go_sem,mkE_ren];exact fun _ _=>mkE_idm) (by simp) (fun id hid=>⟨rfl,hid⟩)
    · intro done hnd hall
      have e2:clrA h.arenas (pick o.ags done)=clrA h.arenas o.ags:=clrA_mem (pick_all (by simpa [mkE_len] using hall))
      unfold H2 ob48 fr48
      rw[e2]
      refine Kq_norm_code ?_
      repeat'(first|apply nx|refine zx ?_|rw[zw]|((first|refine hK _ ?_|refine hKp _ _ ?_);clear hK hKp K Kp;try clear hanc anc)|((with_reducible refine And.intro ?_ ?_);exact zb)|((first|refine zr hE fun K Kp hK hKp=>?_|refine zd true mixed hE fun K Kp hK hKp anc hanc=>?_|refine zd false mixed hE fun K Kp hK hKp anc hanc=>?_);simp only[go_sem])|(refine zg (fun hg=>?_) (fun hg=>?_)<;>simp only[go_sem,hg])|(refine zc (fun hc=>?_) (fun hc=>?_)<;>try exact zh hc))
      refine K_ret (hQ _ ⟨.agg [.rw 2,.rw 3],fun i=>if i=2 then 3 else if i=3 then 4 else i,_,4,rfl,(by simp[AV.ids,AV.idsL]),?_,rfl,rfl⟩).1
      show Ent _ _ _ (mkSt [] [(2,.row 10 (cl (clrC h.cells o.cs))),(3,.row 1 (bl (clrA h.arenas o.ags)))] 4)
      refine ent_mk (by simp) (by simp[go_sem]) (by simp) (fun id hid=>?_)
      rw[if_neg (by omega),if_neg (by omega)]
      exact⟨rfl,by omega⟩

structure Sm (h:Hp) (v:Vl):Prop where
 l:h.cells.length≤2 ^ 20
 a:h.arenas.length≤2 ^ 20
 m:∀ c,c∈h.cells→c.v.sz≤2 ^ 20
 v:v.sz≤2 ^ 20
theorem walkS_ok {h:Hp} {v:Vl} {o:Ow} (hw:walkS h v=some o):o.Ok h:=(visV_keeps (visE_keeps h _) v _ _ (Ow.nil_ok h) hw).1
theorem walk_none {h:Hp} {v:Vl} (hm:Sm h v) (hw:walkS h v=none):ACall Try.prog 50 [h.av,v.av] (fun _=>none) 0 0 (fun r hp'=>r= .tup [.agg [.nilmap,.nilmap,.nilsl],.bool false]∧hp'=mkHp []) (fun _ _=>False):=by
 have:=walkT_call hm.l hm.a hm.m v hm.v
 rw[hw] at this
 exact this
theorem walk_some {h:Hp} {v:Vl} (hm:Sm h v) {o:Ow} (hw:walkS h v=some o):ACall Try.prog 50 [h.av,v.av] (fun _=>none) 0 0 (fun r hp'=>r= .tup [.agg [.mp 2,.mp 3,.sl (il o.ids)],.bool true]∧hp'=mkHp [(2,.map (mkE o.cs)),(3,.map (mkE o.ags))]) (fun _ _=>False):=by
 have:=walkT_call hm.l hm.a hm.m v hm.v
 rw[hw] at this
 exact this
theorem walk_ids (o:Ow):∀ p,p∈ [(2,AObj.map (mkE o.cs)),(3,.map (mkE o.ags))]→p.1<1048576∧p.2.ids (· <1048576):=by
 intro p hp
 simp only[List.mem_cons,List.not_mem_nil,or_false] at hp
 rcases hp with rfl|rfl
 ·exact⟨(by simp only;omega),fun p hp=>mkE_idm hp⟩
 ·exact⟨(by simp only;omega),fun p hp=>mkE_idm hp⟩
def obC (o:Ow):Nat→Option AObj:=mkHp [(0,.map (mkE o.cs)),(1,.map (mkE o.ags))]
theorem obC_np (o:Ow) (id:Nat) (h:id<2):obC o id≠none:=by
 have:id=0∨id=1:=by omega
 rcases this with rfl|rfl<;>simp[obC,mkHp,updo]
theorem obC_cases {o:Ow} {id:Nat} {ob:AObj} (h:obC o id=some ob):(id=0∧ob= .map (mkE o.cs))∨(id=1∧ob= .map (mkE o.ags)):=by
 simp only[obC,mkHp,updo] at h
 repeat' split at h
 all_goals first|(cases h;done)|skip
 all_goals cases h;subst_vars
 all_goals simp
def closeS (h:Hp) (v:Vl):Hp×Int:=match walkS h v with|some o=>(closedS h o,0)|none=>(hp0,1)
theorem close_call (h:Hp) (v:Vl) (hm:Sm h v):PCall Try.prog 58 [h.av,v.av] (.tup [(closeS h v).1.av,.i (closeS h v).2]):=by
 unfold closeS
 cases hs:walkS h v with
 |none=>
  have hw:=walk_none hm hs
  rw[Hp.av_eq,Vl.av_eq] at hw ⊢
  refine PCall.intro Try.func58 rfl isf58 (by simp[Try.f58]) (by simp[AV.cloL,AV.clo]) fun E Q hE hN hQ=>K_start ?_
  repeat'(first|apply nx|refine zx ?_|rw[zw]|((first|refine hK _ ?_|refine hKp _ _ ?_);clear hK hKp K Kp;try clear hanc anc)|((with_reducible refine And.intro ?_ ?_);exact zb)|((first|refine zr hE fun K Kp hK hKp=>?_|refine zd true mixed hE fun K Kp hK hKp anc hanc=>?_|refine zd false mixed hE fun K Kp hK hKp anc hanc=>?_);simp only[go_sem])|(refine zg (fun hg=>?_) (fun hg=>?_)<;>simp only[go_sem,hg])|(refine zc (fun hc=>?_) (fun hc=>?_)<;>try exact zh hc))
  refine Hold.mk (CallB.newP hw (by simp[AV.cloL,AV.clo]) (by simp[AV.ids,AV.idsL]) (by simp) ?_)
  simp only[go_sem]
  repeat'(first|apply nx|refine zx ?_|rw[zw]|((first|refine hK _ ?_|refine hKp _ _ ?_);clear hK hKp K Kp;try clear hanc anc)|((with_reducible refine And.intro ?_ ?_);exact zb)|((first|refine zr hE fun K Kp hK hKp=>?_|refine zd true mixed hE fun K Kp hK hKp anc hanc=>?_|refine zd false mixed hE fun K Kp hK hKp anc hanc=>?_);simp only[go_sem])|(refine zg (fun hg=>?_) (fun hg=>?_)<;>simp only[go_sem,hg])|(refine zc (fun hc=>?_) (fun hc=>?_)<;>try exact zh hc))
  refine K_ret (hQ _ ⟨.tup [.agg [.nilsl,.nilsl],.i 1],(by simp[resA,rvA,Try.f58,go_sem];rfl),(by simp[AV.snapOk,AV.snapOkL,go_sem]),(by rfl),(by first|rfl|simp[AV.clo,AV.cloL,go_sem])⟩).1
 |some o=>
  have hw:=walk_some hm hs
  have hcl:=closed_call hm.l hm.a (walkS_ok hs)
  rw[Hp.av_eq,Vl.av_eq] at hw
  rw[Hp.av_eq] at hcl
  rw[Hp.av_eq,Vl.av_eq]
  refine PCall.intro Try.func58 rfl isf58 (by simp[Try.f58]) (by simp[AV.cloL,AV.clo]) fun E Q hE hN hQ=>K_start ?_
  repeat'(first|apply nx|refine zx ?_|rw[zw]|((first|refine hK _ ?_|refine hKp _ _ ?_);clear hK hKp K Kp;try clear hanc anc)|((with_reducible refine And.intro ?_ ?_);exact zb)|((first|refine zr hE fun K Kp hK hKp=>?_|refine zd true mixed hE fun K Kp hK hKp anc hanc=>?_|refine zd false mixed hE fun K Kp hK hKp anc hanc=>?_);simp only[go_sem])|(refine zg (fun hg=>?_) (fun hg=>?_)<;>simp only[go_sem,hg])|(refine zc (fun hc=>?_) (fun hc=>?_)<;>try exact zh hc))
  refine Hold.mk (CallB.newP hw (by simp[AV.cloL,AV.clo]) (by simp[AV.ids,AV.idsL]) (walk_ids o) ?_)
  simp only[go_sem,mkE_ren]
  repeat'(first|apply nx|refine zx ?_|rw[zw]|((first|refine hK _ ?_|refine hKp _ _ ?_);clear hK hKp K Kp;try clear hanc anc)|((with_reducible refine And.intro ?_ ?_);exact zb)|((first|refine zr hE fun K Kp hK hKp=>?_|refine zd true mixed hE fun K Kp hK hKp anc hanc=>?_|refine zd false mixed hE fun K Kp hK hKp anc hanc=>?_);simp only[go_sem])|(refine zg (fun hg=>?_) (fun hg=>?_)<;>simp only[go_sem,hg])|(refine zc (fun hc=>?_) (fun hc=>?_)<;>try exact zh hc))
  refine Hold.mk (CallB.use hcl (fun i=>6291458+i) (by simp[AV.renL,AV.ren,go_sem]) (by simp[AV.ids,AV.idsL,go_sem]) (fun id ob hx=>?_) (fun _ _ _ _ _ _ e=>by omega) (fun id hid=>⟨hid,obC_np _ _ hid⟩) ?_ (fun _ _ hx=>hx.elim) ?_ (fun _ _ _ hx=>hx.elim))
  ·rcases obC_cases hx with ⟨rfl,rfl⟩|⟨rfl,rfl⟩
   ·exact⟨by simp[go_sem,mkE_ren],by decide,fun p hp=>mkE_idm hp⟩
   ·exact⟨by simp[go_sem,mkE_ren],by decide,fun p hp=>mkE_idm hp⟩
  ·rintro r hp' ⟨rfl,rfl⟩
   refine⟨by simp[AV.ids,AV.idsL],fun id ob hx=>?_⟩
   simp only[mkHp,updo] at hx
   repeat' split at hx
   all_goals first|(cases hx;done)|skip
   all_goals cases hx;subst_vars
   all_goals exact⟨by decide,by simp[AObj.ids,go_sem]⟩
  ·rintro r hp' fr' hpn ⟨rfl,rfl⟩ hfr hobj hold
   simp only[St.put,AV.ren,AV.renL,putf] at hfr
   subst hfr
   have q3:hpn 17825792=some (.row 10 (cl (closedS h o).cells)):=by simpa [backM,go_sem] using hobj 2 (.row 10 (cl (closedS h o).cells)) rfl
   have q4:hpn 17825793=some (.row 1 (bl (closedS h o).arenas)):=by simpa [backM,go_sem] using hobj 3 (.row 1 (bl (closedS h o).arenas)) rfl
   have q0:=hold 2097152 (.cells [.nilsl,.nilsl]) (by simp[go_sem]) (fun j hj=>by omega)
   clear hobj hold
   simp only[backM,Nat.reduceLT, ↓reduceIte,Nat.reduceAdd,Nat.reduceMul,Nat.reduceSub]
   simp only[go_sem,q0]
   repeat'(first|apply nx|refine zx ?_|rw[zw]|((first|refine hK _ ?_|refine hKp _ _ ?_);clear hK hKp K Kp;try clear hanc anc)|((with_reducible refine And.intro ?_ ?_);exact zb)|((first|refine zr hE fun K Kp hK hKp=>?_|refine zd true mixed hE fun K Kp hK hKp anc hanc=>?_|refine zd false mixed hE fun K Kp hK hKp anc hanc=>?_);simp only[go_sem,q3,q4,q0])|(refine zg (fun hg=>?_) (fun hg=>?_)<;>simp only[go_sem,q3,q4,q0,hg])|(refine zc (fun hc=>?_) (fun hc=>?_)<;>try exact zh hc))
   refine K_ret (hQ _ ⟨.tup [.agg [.rw 17825792,.rw 17825793],.i 0],(by simp[resA,rvA,Try.f58,go_sem,q3,q4,Hp.av_eq];rfl),(by simp[AV.snapOk,AV.snapOkL,go_sem,q3,q4,Hp.av_eq]),(by simp[AV.snap,AV.snapL,go_sem,q3,q4,Hp.av_eq]),(by first|rfl|simp[AV.clo,AV.cloL,go_sem,q3,q4,Hp.av_eq])⟩).1

def countS (h:Hp) (v:Vl):Int:=match walkS h v with|some o=>o.ids.length|none=>0
theorem count_call (h:Hp) (v:Vl) (hm:Sm h v):PCall Try.prog 31 [h.av,v.av] (.i (countS h v)):=by
 unfold countS
 cases hs:walkS h v with
 |none=>
  have hw:=walk_none hm hs
  rw[Hp.av_eq,Vl.av_eq] at hw ⊢
  refine PCall.intro Try.func31 rfl isf31 (by simp[Try.f31]) (by simp[AV.cloL,AV.clo]) fun E Q hE hN hQ=>K_start ?_
  repeat'(first|apply nx|refine zx ?_|rw[zw]|((first|refine hK _ ?_|refine hKp _ _ ?_);clear hK hKp K Kp;try clear hanc anc)|((with_reducible refine And.intro ?_ ?_);exact zb)|((first|refine zr hE fun K Kp hK hKp=>?_|refine zd true mixed hE fun K Kp hK hKp anc hanc=>?_|refine zd false mixed hE fun K Kp hK hKp anc hanc=>?_);simp only[go_sem])|(refine zg (fun hg=>?_) (fun hg=>?_)<;>simp only[go_sem,hg])|(refine zc (fun hc=>?_) (fun hc=>?_)<;>try exact zh hc))
  refine Hold.mk (CallB.newP hw (by simp[AV.cloL,AV.clo]) (by simp[AV.ids,AV.idsL]) (by simp) ?_)
  simp only[go_sem]
  repeat'(first|apply nx|refine zx ?_|rw[zw]|((first|refine hK _ ?_|refine hKp _ _ ?_);clear hK hKp K Kp;try clear hanc anc)|((with_reducible refine And.intro ?_ ?_);exact zb)|((first|refine zr hE fun K Kp hK hKp=>?_|refine zd false mixed hE fun K Kp hK hKp anc hanc=>?_);simp only[go_sem])|(refine zg (fun hg=>?_) (fun hg=>?_)<;>simp only[go_sem,hg])|(refine zc (fun hc=>?_) (fun hc=>?_)<;>try exact zh hc)|(refine K_ret ?_;refine zt hQ ?_))
  simp[AV.snap,go_sem]
 |some o=>
  have hw:=walk_some hm hs
  rw[Hp.av_eq,Vl.av_eq] at hw ⊢
  refine PCall.intro Try.func31 rfl isf31 (by simp[Try.f31]) (by simp[AV.cloL,AV.clo]) fun E Q hE hN hQ=>K_start ?_
  repeat'(first|apply nx|refine zx ?_|rw[zw]|((first|refine hK _ ?_|refine hKp _ _ ?_);clear hK hKp K Kp;try clear hanc anc)|((with_reducible refine And.intro ?_ ?_);exact zb)|((first|refine zr hE fun K Kp hK hKp=>?_|refine zd true mixed hE fun K Kp hK hKp anc hanc=>?_|refine zd false mixed hE fun K Kp hK hKp anc hanc=>?_);simp only[go_sem])|(refine zg (fun hg=>?_) (fun hg=>?_)<;>simp only[go_sem,hg])|(refine zc (fun hc=>?_) (fun hc=>?_)<;>try exact zh hc))
  refine Hold.mk (CallB.newP hw (by simp[AV.cloL,AV.clo]) (by simp[AV.ids,AV.idsL]) (walk_ids o) ?_)
  simp only[go_sem,mkE_ren]
  repeat'(first|apply nx|refine zx ?_|rw[zw]|((first|refine hK _ ?_|refine hKp _ _ ?_);clear hK hKp K Kp;try clear hanc anc)|((with_reducible refine And.intro ?_ ?_);exact zb)|((first|refine zr hE fun K Kp hK hKp=>?_|refine zd false mixed hE fun K Kp hK hKp anc hanc=>?_);simp only[go_sem])|(refine zg (fun hg=>?_) (fun hg=>?_)<;>simp only[go_sem,hg])|(refine zc (fun hc=>?_) (fun hc=>?_)<;>try exact zh hc)|(refine K_ret ?_;refine zt hQ ?_))
  simp[AV.snap,go_sem]
end Go.Proofs.Ytfgjjnfdcgkpoaa
