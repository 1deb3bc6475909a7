/- A part of the proof: an abstract machine for the walks, and what the walked functions compute. -/
import Derived.Test.YtfpcjabbcpgbjaaDoorRb
set_option linter.unusedVariables false
set_option linter.unusedSimpArgs false
set_option maxHeartbeats 4000000
set_option maxRecDepth 100000
namespace Go.Proofs.YtfpcjabbcpgbjaaDoor
open Go.Am Go.Proofs Go.Hv Go.Gl
open Classical
attribute [local irreducible] AW CallP CallB CallY
theorem add_m {D : List Dd} (hD : DB D) (hR : DR D) (hdt : dtB D = true) {U : List Ky} (hU : Closed D U) (hUl : U.length ≤ 2 ^ 30) : ∀ (f : Nat) (t : Ty) (s : List Nd), Pl D t → t.sz ≤ 2 ^ 30 → (∀ n, n ∈ s → Pl D n.t) → (kys s).Nodup → (∀ k, k ∈ kys s → k ∈ U) → ky t ∈ U → left U s < f →
    MCallR Tryd.prog 61 [.ptr 0 0,t.av] (objP D) 3 2 s (.i ((addT D f t s).2:Nat)) (fun s'=>s'=(addT D f t s).1):=by
  intro f
  induction f with
  |zero=>exact fun _ _ _ _ _ _ _ _ h=>absurd h (Nat.not_lt_zero _)
  |succ f ihf=>
    intro t s ht hts h1 h2 h3 h4 h5
    have hkey:=key_c hD.l (2 ^ 30) t hts (by decide) ht
    have hfind:=esF_find t 0 s
    have hsl:=nodes_len h2 h3
    have he:=esF_clo 0 s
    have hRc:=nrow_clo D s (zeros s)
    have hRr:∀ m,AV.renL m (nrow D s (zeros s))=nrow D s (zeros s):=fun m=>cloL_renL hRc
    have hRi:∀ p,AV.idsL p (nrow D s (zeros s)):=fun p=>cloL_idsL hRc
    have hRl:(nrow D s (zeros s)).length=s.length:=nrow_len D s _ (zeros_len s)
    rw[addT]
    rw[Ty.av_eq] at hkey ⊢
    cases hi:idx s t with
    |some i=>
      rw[hi] at hfind
      simp only[Option.map_some,Nat.zero_add] at hfind
      refine MCallR.intro rfl Tryd.func61 isf61 rfl (by simp[Tryd.f61]) fun E Q hE hN hM hQ=>K_start ?_
      unfold objP
      repeat'(first|apply nx|refine zx ?_|rw[zw]|((first|refine hK _ ?_|refine hKp _ _ ?_);clear hK hKp K Kp;try clear hanc anc)|((with_reducible refine And.intro ?_ ?_);exact zb)|((first|refine zr hE fun K Kp hK hKp=>?_|refine zd true mixed hE fun K Kp hK hKp anc hanc=>?_|refine zd false mixed hE fun K Kp hK hKp anc hanc=>?_|(apply zm;exact zu;exact hkey;exact zs;exact zl));simp only[go_sem,objG_0,objG_1,hfind])|(refine zg (fun hg=>?_) (fun hg=>?_)<;>simp only[go_sem,objG_0,objG_1,hfind,hg])|(refine zc (fun hc=>?_) (fun hc=>?_)<;>try exact zh hc))
      refine K_ret (hQ _ (by simp only[go_sem];rfl) ⟨fun i=>i,3,s,?_,rfl⟩).1
      refine ent_idG (fr:=[]) (by simp) (fun id o ho=>?_) (by decide)
      have hlt:=(famP D).lt s id o ho
      refine⟨?_,hlt⟩
      simp only[updo]
      rw[if_neg (by omega),if_neg (by omega)]
      exact ho
    |none=>
      rw[hi] at hfind
      simp only[Option.map_none] at hfind
      refine MCallR.intro rfl Tryd.func61 isf61 rfl (by simp[Tryd.f61]) fun E Q hE hN hM hQ=>K_start ?_
      unfold objP
      repeat'(first|apply nx|refine zx ?_|rw[zw]|((first|refine hK _ ?_|refine hKp _ _ ?_);clear hK hKp K Kp;try clear hanc anc)|((with_reducible refine And.intro ?_ ?_);exact zb)|((fail_if_success refine K_stop 6 ?_);(first|refine zr hE fun K Kp hK hKp=>?_|refine zd true mixed hE fun K Kp hK hKp anc hanc=>?_|refine zd false mixed hE fun K Kp hK hKp anc hanc=>?_|(apply zm;exact zu;exact hkey;exact zs;exact zl));simp only[go_sem,objG_0,objG_1,objG_2,hfind,hRl])|(refine zg (fun hg=>?_) (fun hg=>?_)<;>simp only[go_sem,objG_0,objG_1,objG_2,hfind,hRl,hg])|(refine zc (fun hc=>?_) (fun hc=>?_)<;>try exact zh hc))
      have he':=esF_clo 0 (s++[⟨t,[]⟩])
      have hes:esF 0 s++[(AV.str (tx (kyT (ky t))),AV.i (s.length:Int))]=esF 0 (s++[⟨t,[]⟩]):=by rw[esF_app,Nat.zero_add]
      refine AW.ent (σ':=mkSt [(2,.ptr 3 0),(3,.ptr 4 0),(7,.i (s.length:Int))] [(0,.cells [.sl (ddl D),.rw 2,.mp 1]),(1,.map (esF 0 (s++[⟨t,[]⟩]))),(2,.row 6 (nrow D s (zeros s))),(3,.cells [.ptr 0 0]),(4,.cells [.i t.kind,.i t.id,.sl (Ty.avL t.args)])] 5) (fun i=>if i=4 then 1048579 else i) ?_ ?_
      · refine ent_mk (by simp[go_sem]) ?_ (by simp) (by rw[hN];exact fun id hid=>⟨by rw[if_neg (by omega)],by omega⟩)
        simp[go_sem,objG_0,objG_1,objG_2,hRr,hRi,he'.ren]
        exact⟨hes,he'.ids2 _⟩
      generalize hes2:esF 0 (s++[⟨t,[]⟩])=es2 at*
      refine zd false mixed hE fun K Kp hK hKp anc hanc=>?_
      simp only[go_sem]
      have hlb:=label_hc hD hR he' hRc t ht
      rw[Ty.av_eq] at hlb
      repeat(first|rw[zw]|((with_reducible refine And.intro ?_ ?_);exact zb))
      refine CallP_hc (us:=[.ptr 0 0,.agg [.i t.kind,.i t.id,.sl (Ty.avL t.args)]]) (by simp[AV.snapL,AV.snap]) hlb ⟨by show 0<3;decide,by simp[AV.ids,AV.idsL,go_sem],trivial⟩ ?_ (by simp[AV.snapOkL,AV.snapOk,go_sem]) (.inl rfl) ?_
      · exact mkHp_allP (p:=fun id ob=>_∧id<5∧_) (by simp[mkHp,updo,AV.noRw])
      simp only[go_sem]
      repeat(first|rw[zw]|((with_reducible refine And.intro ?_ ?_);exact zb))
      refine hK _ ?_
      clear hK hKp K Kp hanc anc
      repeat apply nx
      refine AW.wk (Wk_node 11534341 (D:=D) (s:=s) (t:=t) (by simp[go_sem])) ?_
      have hRc2:=nrow_clo D (s++[⟨t,[]⟩]) (zeros (s++[⟨t,[]⟩]))
      have hRr2:∀ m,AV.renL m (nrow D (s++[⟨t,[]⟩]) (zeros (s++[⟨t,[]⟩])))=nrow D (s++[⟨t,[]⟩]) (zeros (s++[⟨t,[]⟩])):=fun m=>cloL_renL hRc2
      have hRi2:∀ p,AV.idsL p (nrow D (s++[⟨t,[]⟩]) (zeros (s++[⟨t,[]⟩]))):=fun p=>cloL_idsL hRc2
      refine AW.ent (σ':=mkSt [(2,.ptr 3 0),(3,.ptr 4 0),(7,.i (s.length:Int))] [(0,.cells [.sl (ddl D),.rw 2,.mp 1]),(1,.map es2),(2,.row 6 (nrow D (s++[⟨t,[]⟩]) (zeros (s++[⟨t,[]⟩])))),(3,.cells [.ptr 0 0]),(4,.cells [.i t.kind,.i t.id,.sl (Ty.avL t.args)])] 5) (fun i=>if i=2 then 11534341 else i) ?_ ?_
      · refine ent_mk (by simp[go_sem]) ?_ (by simp) (by rw[hN];exact fun id hid=>⟨by rw[if_neg (by omega)],by omega⟩)
        simp[go_sem,hRr2,hRi2,he'.ren]
        exact he'.ids2 _
      repeat'(first|apply nx|refine zx ?_|rw[zw]|((first|refine hK _ ?_|refine hKp _ _ ?_);clear hK hKp K Kp;try clear hanc anc)|((with_reducible refine And.intro ?_ ?_);exact zb)|((first|refine zr hE fun K Kp hK hKp=>?_|refine zd true mixed hE fun K Kp hK hKp anc hanc=>?_|refine zd false mixed hE fun K Kp hK hKp anc hanc=>?_);simp only[go_sem])|(refine zg (fun hg=>?_) (fun hg=>?_)<;>simp only[go_sem,hg])|(refine zc (fun hc=>?_) (fun hc=>?_)<;>try exact zh hc))
      refine Hold.mk (CallB.use (kidsF_nc (D:=D) he' hRc2 t) (fun i=>i) (by simp[AV.renL,AV.ren,go_sem]) (by simp[AV.ids,AV.idsL,go_sem]) (fun id o ho=>?_) (fun _ _ _ _ _ _ e=>e) (fun id hid=>⟨by omega,(wfG (D:=D) he' hRc2).2.1 id hid⟩) ?_ (fun _ _ h=>h.elim) ?_ (fun _ _ _ h=>h.elim))
      · have hlt:=(wfG he' hRc2).1 id o ho
        refine⟨?_,hlt⟩
        rw[oren_id]
        exact keepG (by simp[updo]) (by simp[updo]) (by simp[updo]) id o ho
      · rintro r hp' ⟨rfl,rfl⟩
        refine⟨by simp[AV.ids,AV.idsL],fun id o ho=>mkHp_allP (p:=fun id o=>id<3+1048576∧o.ids (· <3+1048576)) ?_ id o ho⟩
        simp[AObj.ids,AV.ids,AV.idsL,go_sem,hRi2]
        exact he'.ids2 _
      · rintro r hp' fr' hpn ⟨rfl,rfl⟩ hfr hobj hold
        have b0:=hobj 0 _ rfl
        have b1:=hobj 1 _ rfl
        have b2:=hobj 2 _ rfl
        have b3:=hobj 3 _ rfl
        have b4:=hobj 4 _ rfl
        have b5:=hold 3 (.cells [.ptr 0 0]) (by simp[updo]) (fun j hj e=>by have:=(wfG (D:=D) he' hRc2).1 j _ (Option.ne_none_iff_exists'.1 hj).choose_spec;omega)
        have b6:=hold 4 (.cells [.i t.kind,.i t.id,.sl (Ty.avL t.args)]) (by simp[updo]) (fun j hj e=>by have:=(wfG (D:=D) he' hRc2).1 j _ (Option.ne_none_iff_exists'.1 hj).choose_spec;omega)
        have b7:=hold 5 (.cells [.nilsl]) (by simp[updo]) (fun j hj e=>by have:=(wfG (D:=D) he' hRc2).1 j _ (Option.ne_none_iff_exists'.1 hj).choose_spec;omega)
        clear hobj hold
        simp[backM,AObj.ren,AV.renL,AV.ren,go_sem,he'.ren,hRr2] at b0 b1 b2 b3 b4
        simp only[St.put] at hfr
        subst hfr
        simp only[go_sem]
        refine hK _ ?_
        clear hK hKp K Kp
        repeat apply nx
        refine AW_nilc 5 0 1 b7 rfl ?_
        dsimp only
        simp only[Nat.reduceAdd]
        have hfa:=addL_ok (U:=U) (addT D f) f (fun t s a b c d e g=>addT_ok hdt hU f t s a b c d e g)
        have p1:∀ n,n∈s++[⟨t,[]⟩]→Pl D n.t:=fun n hn=>by
          rcases List.mem_append.1 hn with hn|hn
          · exact h1 n hn
          · simp at hn;subst hn;exact ht
        have hnk:=idx_none hi
        have e0:kys (s++[⟨t,[]⟩])=kys s++[ky t]:=by simp[kys]
        have p2:(kys (s++[⟨t,[]⟩])).Nodup:=by
          rw[e0,List.nodup_append]
          exact⟨h2,by simp,fun a ha b hb=>by simp at hb;subst hb;rintro rfl;exact hnk ha⟩
        have p3:∀ k,k∈kys (s++[⟨t,[]⟩])→k∈U:=fun k hk=>by
          rw[e0] at hk
          rcases List.mem_append.1 hk with hk|hk
          · exact h3 k hk
          · simp at hk;subst hk;exact h4
        have p4:left U (s++[⟨t,[]⟩])<f:=by have:=left_lt (n:=⟨t,[]⟩) h4 hnk;omega
        have hkp:∀ c,c∈kids D t→Pl D c∧ky c∈U:=fun c hc=>⟨kids_pl hdt ht hc,hU t c ht h4 hc⟩
        have hrow:AW Tryd.prog E=AW Tryd.prog E:=rfl
        rw[← hes2] at b1
        refine AW.ent (σ':=⟨mkFr [(2,.ptr 2 0),(7,.i (s.length:Int)),(8,.ptr 4 0),(50,.fn (.func 84) [] [.ptr 5 0,.ptr 6 0])],objA D t (s++[⟨t,[]⟩],[]),1000000⟩) _ (by rw[hN];exact entA (by simp[go_sem]) (by simp[go_sem]) (by simp[go_sem]) (by simp[go_sem,backM]) (by simp[updo,b0]) (by simp[updo,b1]) (by simp[updo,b2]) (by simp[updo,b3]) (by simp[updo,b4]) (by simp[updo,b5]) (by simp[updo,b6]) (by simp[updo]) (by simp[updo])) ?_
        clear b0 b1 b2 b3 b4 b5 b6 b7 hes hes2 he' hRc2 hRr2 hRi2
        have hkl:(kys2 D t).length=(kids D t).length:=by rw[kys2,List.length_map]
        refine AW_iterH (g:=50) (ps:= #[51]) (by decide) hM (kids_iter hD ht).h0 (objA D t) 7 (by decide) (by rw[hN];decide) (by simp[AV.idsL,AV.ids]) (by simp) (fun z=>by simp[objA,mkHp,updo,Ty.cs]) (fun z id o ho=>?_) (fun z id hid=>?_) [(2,.ptr 2 0),(7,.i (s.length:Int)),(8,.ptr 4 0),(50,.fn (.func 84) [] [.ptr 5 0,.ptr 6 0])] (by simp[AV.ids,AV.idsL]) (by simp[go_sem]) (by simp[go_sem]) [2,8] [.ptr 2 0,.ptr 4 0]
          (by intro i hi;match i,hi with|0,_=>rfl|1,_=>rfl) (by simp[AV.idsL,AV.ids]) (fun y hy=>?_) (by rw[hE];decide)
          (fun i z=>addL (addT D f) ((kids D t).take i) (s++[⟨t,[]⟩])=z) (fun _ _=>False) (fun _ _=>False) (fun _ _ h=>h.elim) ?_ (s++[⟨t,[]⟩],[]) (by simp[addL]) ?_ (fun _ _ _ _ h=>h.elim) (fun _ _ _ _ h=>h.elim)
        · revert ho
          have hz1:=esF_clo 0 z.1
          have hz2:∀ p,AV.idsL p (nrow D z.1 (zeros z.1)):=fun p=>cloL_idsL (nrow_clo D z.1 (zeros z.1))
          refine mkHp_allP (p:=fun id o=>(id<1000000∧¬ (7≤id∧id<7+1+0))∧o.ids (fun j=>j<1000000∧¬ (7≤j∧j<7+1+0))) ?_ id o
          simp[AObj.ids,AV.ids,AV.idsL,go_sem,hz2]
          exact hz1.ids2 _
        · rcases(by omega:id=0∨id=1∨id=2∨id=3∨id=4∨id=5∨id=6) with rfl|rfl|rfl|rfl|rfl|rfl|rfl<;>simp[objA,mkHp,updo]
        · obtain⟨c,_,rfl⟩:=List.mem_map.1 hy;rfl
        · rintro ll fnn i y z E' Q' hz hy hE' hN' hnorm hleft hpan
          rw[kys2,List.getElem?_map] at hy
          obtain⟨c,hc,rfl⟩:=Option.map_eq_some_iff.1 hy
          have hcm:=List.mem_of_getElem? hc
          obtain⟨q1,q2,_⟩:=hfa ((kids D t).take i) (s++[⟨t,[]⟩]) (fun c hc=>hkp c (List.mem_of_mem_take hc)) p1 p2 p3 p4
          rw[hz] at q1 q2
          have ih:=ihf c z.1 (hkp c hcm).1 (kids_sz hD ht hts hcm) q1.pl q1.nd q1.un (hkp c hcm).2 (Nat.lt_of_le_of_lt (left_le q1.kys) p4)
          have hnx:addL (addT D f) ((kids D t).take (i+1)) (s++[⟨t,[]⟩])=((addT D f c z.1).1,z.2++[(addT D f c z.1).2]):=by
            rw[List.take_add_one,hc,Option.toList_some,addL_snoc,hz]
          obtain⟨s1,l1⟩:=z
          simp only at ih hnx q1 q2 hnorm ⊢
          have hkl2:=kids_len hD ht
          have hnl:(nI l1).length≤2 ^ 30:=by
            have:(nI l1).length=l1.length:=List.length_map ..
            rw[this,q2,List.length_take];omega
          rw[Ty.av_eq] at ih ⊢
          exact add_round rfl hE (hE'.trans hE) ih hnl (fun σ m h=>hnorm σ _ m hnx h)
        · rintro σ z m hz hent
          refine Kq_norm_blk ?_
          refine Kq_norm_code ?_
          refine AW.ent m hent ?_
          have hz':addL (addT D f) (kids D t) (s++[⟨t,[]⟩])=z:=by rw[hkl,List.take_length] at hz;exact hz
          obtain⟨q1,q2,_⟩:=hfa (kids D t) (s++[⟨t,[]⟩]) hkp p1 p2 p3 p4
          rw[hz'] at q1 q2
          have hzs:z.1[s.length]? =some ⟨t,[]⟩:=by rw[q1.old s.length (by simp)];simp
          have hzn:=nodes_len q1.nd q1.un
          rw[hz'] at hQ
          exact add_end rfl hE hN hzs (by omega) (fun σ h1 ⟨m,nc,h2⟩=>(hQ σ h1 ⟨m,nc,_,h2,rfl⟩).1)
end Go.Proofs.YtfpcjabbcpgbjaaDoor

namespace Go.Gl
open Go.Am Go.Hv
def esU:Nat→List (List Int)→List (AV×AV)
 |_,[]=>[]
 |k,x::l=>(.str (tx (txL x)),.i (k:Nat))::esU (k+1) l
@[go_sem] theorem esU_len:∀ (k:Nat) (l:List (List Int)),(esU k l).length=l.length
 |_,[]=>rfl
 |k,_::l=>by rw[esU,List.length_cons,esU_len (k+1) l,List.length_cons]
theorem esU_app:∀ (k:Nat) (l:List (List Int)) (x:List Int),esU k (l++[x])=esU k l++[(.str (tx (txL x)),.i ((k+l.length:Nat):Int))]
 |k,[],x=>by simp[esU]
 |k,y::l,x=>by
  rw[List.cons_append,esU,esU,esU_app (k+1) l x,List.length_cons,show k+1+l.length=k+(l.length+1) by omega];rfl
theorem esU_in (x:List Int):∀ (k:Nat) (l:List (List Int)),x∈l→findS (tx (txL x)) (esU k l)=some (some (.i ((k+l.idxOf x:Nat):Int)))
 |k,[],h=>by cases h
 |k,y::l,h=>by
  rw[esU,findS]
  by_cases e:x=y
  ·subst e
   rw[if_pos rfl];simp
  ·rw[if_neg (fun e2=>e (txL_inj (tx_inj e2)))]
   have hm:x∈l:=by
    rcases List.mem_cons.1 h with h|h
    ·exact absurd h e
    ·exact h
   rw[esU_in x (k+1) l hm,List.idxOf_cons]
   have hb:(y==x)=false:=by simp;exact fun h=>e h.symm
   rw[hb]
   simp only[cond_false]
   rw[show k+1+List.idxOf x l=k+(List.idxOf x l+1) by omega]
theorem esU_out (x:List Int):∀ (k:Nat) (l:List (List Int)),x∉l→findS (tx (txL x)) (esU k l)=some none
 |k,[],h=>by rw[esU,findS]
 |k,y::l,h=>by
  rw[esU,findS,if_neg (fun e2=>h (by rw[txL_inj (tx_inj e2)];simp)),esU_out x (k+1) l (fun hm=>h (by simp[hm]))]
theorem esU_clo:∀ (k:Nat) (l:List (List Int)),EsClo (esU k l)
 |_,[]=>EsClo.nil
 |k,n::s=>by
  intro p hp
  rw[esU] at hp
  rcases List.mem_cons.1 hp with rfl|hp
  ·exact⟨rfl,rfl⟩
  ·exact esU_clo (k+1) s p hp
def sgk (D:List Dd) (c:List Nat) (n:Nd) (k:Nat):List Int:=lab D n.t++(n.ch.take k).map fun j=>((c.getD j 0:Nat):Int)
theorem sgk_all (D:List Dd) (c:List Nat) (n:Nd):sgk D c n n.ch.length=lab D n.t++n.ch.map fun j=>((c.getD j 0:Nat):Int):=by rw[sgk,List.take_length]
theorem sgk_zero (D:List Dd) (c:List Nat) (n:Nd):sgk D c n 0=lab D n.t:=by simp[sgk]
theorem sgk_succ {D:List Dd} {c:List Nat} {n:Nd} {k m:Nat} (h:n.ch[k]? =some m):sgk D c n (k+1)=sgk D c n k++[((c.getD m 0:Nat):Int)]:=by
 simp[sgk,List.take_add_one,h]
def unq (S:List (List Int)) (i:Nat):List (List Int):=uniq (S.take i) []
theorem unq_zero (S:List (List Int)):unq S 0=[]:=by simp[unq,uniq]
theorem unq_succ {S:List (List Int)} {i:Nat} {x:List Int} (h:S[i]? =some x):unq S (i+1)=if x∈unq S i then unq S i else unq S i++[x]:=by
 rw[unq,List.take_add_one,h,Option.toList_some,uniq_app,uniq,uniq]
 unfold unq
 split<;>rfl
theorem unq_all (S:List (List Int)):unq S S.length=uniq S []:=by rw[unq,List.take_length]
theorem unq_mem {S:List (List Int)} {i:Nat} {x:List Int} (h:S[i]? =some x):x∈unq S (i+1):=by
 rw[unq_succ h];split
 ·assumption
 ·simp
theorem rank_get {S:List (List Int)} {i:Nat} {x:List Int} (h:S[i]? =some x):(ranks S)[i]? =some ((unq S (i+1)).idxOf x):=by
 have e:uniq S []=uniq (S.drop (i+1)) (unq S (i+1)):=by
  rw[unq, ← uniq_app,List.take_append_drop]
 obtain⟨r,hr⟩:=uniq_pre (l:=S.drop (i+1)) (o:=unq S (i+1))
 simp only[ranks,List.getElem?_map,h,Option.map_some]
 have hm:=unq_mem h
 rw[e,hr]
 simp[List.idxOf_append,hm]
def upto {α:Type} (a b:List α) (i:Nat):List α:=a.take i++b.drop i
theorem upto_zero {α:Type} (a b:List α):upto a b 0=b:=by simp[upto]
theorem upto_all {α:Type} {a b:List α} (h:a.length=b.length):upto a b a.length=a:=by rw[upto,List.take_length,List.drop_eq_nil_of_le (by omega),List.append_nil]
theorem upto_len {α:Type} {a b:List α} (h:a.length=b.length) (i:Nat):(upto a b i).length=a.length:=by
 simp[upto];omega
theorem upto_set {α:Type} {a b:List α} {i:Nat} {x:α} (h:a.length=b.length) (hx:a[i]? =some x):(upto a b i).set i x=upto a b (i+1):=by
 have hi:=(List.getElem?_eq_some_iff.1 hx).1
 apply List.ext_getElem?
 intro j
 rw[List.getElem?_set]
 have g:∀ k:Nat,(upto a b k)[j]? =if j<k then a[j]? else b[j]? :=fun k=>by
  rw[upto,List.getElem?_append]
  by_cases hk:k≤a.length
  ·rw[List.length_take,Nat.min_eq_left hk]
   by_cases hj:j<k
   ·rw[if_pos hj,if_pos hj,List.getElem?_take,if_pos hj]
   ·rw[if_neg hj,if_neg hj,List.getElem?_drop,show k+(j - k)=j by omega]
  ·rw[List.length_take,Nat.min_eq_right (by omega)]
   by_cases hj:j<a.length
   ·rw[if_pos hj,if_pos (by omega),List.getElem?_take,if_pos (by omega)]
   ·rw[if_neg hj,List.getElem?_drop]
    have e1:b[k+(j - a.length)]? =none:=List.getElem?_eq_none (by omega)
    have e2:a[j]? =none:=List.getElem?_eq_none (by omega)
    have e3:b[j]? =none:=List.getElem?_eq_none (by omega)
    rw[e1];split
    ·rw[e2]
    ·rw[e3]
 by_cases hj:i=j
 ·subst hj
  rw[if_pos rfl,if_pos (by rw[upto_len h];exact hi),g,if_pos (by omega),hx]
 ·rw[if_neg hj,g,g]
  by_cases h2:j<i
  ·rw[if_pos h2,if_pos (by omega)]
  ·rw[if_neg h2,if_neg (by omega)]
theorem upto_get {α:Type} {a b:List α} {i:Nat} (h:a.length=b.length):(upto a b i)[i]? =b[i]? :=by
 rw[upto,List.getElem?_append]
 by_cases hk:i≤a.length
 ·rw[List.length_take,Nat.min_eq_left hk,if_neg (by omega),List.getElem?_drop,show i+(i - i)=i by omega]
 ·rw[List.length_take,Nat.min_eq_right (by omega),if_neg (by omega),List.getElem?_drop]
  rw[List.getElem?_eq_none (by omega),List.getElem?_eq_none (by omega)]
theorem nrow_upto {D:List Dd} {s:List Nd} {a b:List Nat} {i:Nat} {n:Nd} {k:Nat} (ha:a.length=s.length) (hb:b.length=s.length) (hn:s[i]? =some n) (hk:a[i]? =some k):(nrow D s (upto a b i)).set i (ndv D n k)=nrow D s (upto a b (i+1)):=by
 have hi:=(List.getElem?_eq_some_iff.1 hn).1
 rw[← upto_set (ha.trans hb.symm) hk]
 apply List.ext_getElem?
 intro j
 rw[List.getElem?_set]
 have hl:(upto a b i).length=s.length:=by rw[upto_len (ha.trans hb.symm),ha]
 by_cases hj:i=j
 ·subst hj
  rw[if_pos rfl,if_pos (by rw[nrow_len D s _ hl];exact hi)]
  exact(nrow_get hn (by rw[List.getElem?_set,if_pos rfl,if_pos (by omega)])).symm
 ·rw[if_neg hj]
  simp[nrow,List.getElem?_zipWith,List.getElem?_set,hj]
end Go.Gl

set_option maxHeartbeats 4000000
set_option maxRecDepth 100000
namespace Go.Proofs.YtfpcjabbcpgbjaaDoor
open Go.Am Go.Proofs Go.Hv Go.Gl
open Classical
attribute [local irreducible] AW CallP CallB CallY
theorem addA_pre {D:List Dd} (hdt:dtB D=true) {l:List Ty} {f:Nat} (hl:∀ t,t∈l→Pl D t) (hf:(uni D l).length<f) (i:Nat):Go.Gl.Spec D (uni D l) [] (addA D f (l.take i))∧left (uni D l) (addA D f (l.take i))<f:=by
 have h:=(addA_go hdt (uni_closed D l) (l.take i) [] (fun t ht=>⟨hl t (List.mem_of_mem_take ht),uni_start (List.mem_of_mem_take ht)⟩) ⟨fun n hn=>(by cases hn),List.nodup_nil,fun j hj=>absurd hj (Nat.not_lt_zero _)⟩ (fun k hk=>by cases hk) (by rw[left_nil];exact hf)).1
 refine⟨h,Nat.lt_of_le_of_lt (left_le h.kys) ?_⟩
 rw[left_nil];exact hf
theorem addA_succ {D:List Dd} {f:Nat} {l:List Ty} {i:Nat} {t:Ty} (h:l[i]? =some t):addA D f (l.take (i+1))=(addT D f t (addA D f (l.take i))).1:=by
 rw[List.take_add_one,h]
 simp[addA,List.foldl_append]
theorem lab_ok {D:List Dd} (hD:DB D) (hR:DR D) {t:Ty} (ht:Pl D t):I64 (lab D t)∧(lab D t).length≤2 ^ 32:=by
 have hk:=pl_kind ht
 by_cases h2:t.kind=2
 ·obtain⟨x,hx,h0,_⟩:=pl_data ht h2
  have hxm:=List.mem_of_getElem? hx
  have hvl:=hD.v x hxm
  have hdr:=hR x hxm
  have hv:vsO D t=some x:=by unfold vsO;rw[if_pos h2,hx]
  rw[lab_data hv]
  refine⟨fun n hn=>?_,by simp;omega⟩
  simp only[List.cons_append,List.nil_append,List.mem_cons] at hn
  rcases hn with rfl|rfl|rfl|hn
  ·omega
  ·exact hdr
  ·omega
  ·obtain⟨v,hv2,rfl⟩:=List.mem_map.1 hn
   have:=hD.f x hxm v hv2
   omega
 ·rw[lab_other h2]
  exact⟨fun n hn=>by simp at hn;subst hn;omega,by simp⟩
theorem cls_bd (D:List Dd) (s:List Nd):∀ (n m:Nat),(clsN D s n).getD m 0≤s.length
 |0,m=>by
  rw[clsN,List.getD_eq_getElem?_getD,List.getElem?_replicate]
  split<;>simp
 |n+1,m=>by
  rw[clsN,ranks,List.getD_eq_getElem?_getD,List.getElem?_map]
  cases h:(sigs D s (clsN D s n))[m]? with
  |none=>simp
  |some x=>
   simp only[Option.map_some,Option.getD_some]
   have h1:=List.idxOf_le_length (a:=x) (l:=uniq (sigs D s (clsN D s n)) [])
   have h2:=uniq_len (l:=sigs D s (clsN D s n)) (o:=[])
   have h3:(sigs D s (clsN D s n)).length=s.length:=by simp[sigs]
   simp only[List.length_nil,Nat.add_zero] at h2
   omega
theorem ch_lt {D:List Dd} {s:List Nd} (h:Gr D s) {n:Nd} {i k m:Nat} (hn:s[i]? =some n) (hm:n.ch[k]? =some m):∃ n',s[m]? =some n':=by
 obtain⟨n0,h1,h2,h3⟩:=h.ok i (List.getElem?_eq_some_iff.1 hn).1
 rw[hn] at h1
 cases h1
 have hk:=(List.getElem?_eq_some_iff.1 hm).1
 obtain⟨c,hcc⟩:=get?_of (show k<(kids D n.t).length by omega)
 obtain⟨n',h4,_⟩:=h3 k c m hcc hm
 exact⟨n',h4⟩
def pv (D:List Dd) (s:List Nd):Nat→Int
 |0=> -1
 |n+1=>cntN D s n
def pvN (D:List Dd) (s:List Nd):Nat→Nat
 |0=>0
 |n+1=>cntN D s n+1
theorem of_c {D : List Dd} (hD : DB D) (hR : DR D) (hdt : dtB D = true) {l : List Ty} {f : Nat} (hl : ∀ t, t ∈ l → Pl D t) (hls : ∀ t, t ∈ l → t.sz ≤ 2 ^ 30) (hll : l.length ≤ 2 ^ 30) (hUl : (uni D l).length ≤ 2 ^ 30) (hf : (uni D l).length < f) :
    ACall Tryd.prog 32 [.sl (ddl D),.sl (Ty.avL l)] (fun _=>none) 0 0 (fun r hp'=>r= .ptr 0 0∧∃ n,cntN D (addA D f l) (n+1)=cntN D (addA D f l) n∧hp'=objG D (esF 0 (addA D f l)) (nrow D (addA D f l) (clsN D (addA D f l) (n+2)))) (fun _ _=>False):=by
  refine ACall.of_bodyR Tryd.func32 isf32 rfl (by simp[Tryd.f32]) fun E Q hE hN hQ hQp=>K_start ?_
  repeat'(first|apply nx|refine zx ?_|rw[zw]|((first|refine hK _ ?_|refine hKp _ _ ?_);clear hK hKp K Kp;try clear hanc anc)|((with_reducible refine And.intro ?_ ?_);exact zb)|((first|refine zr hE fun K Kp hK hKp=>?_|refine zd true mixed hE fun K Kp hK hKp anc hanc=>?_|refine zd false mixed hE fun K Kp hK hKp anc hanc=>?_);simp only[go_sem])|(refine zg (fun hg=>?_) (fun hg=>?_)<;>simp only[go_sem,hg])|(refine zc (fun hc=>?_) (fun hc=>?_)<;>try exact zh hc))
  refine AW_nilc 4194304 1 6 (l:=[.sl (ddl D),.nilsl,.mp 2097152]) (by simp[updo]) rfl ?_
  dsimp only
  simp only[Nat.reduceAdd]
  refine K_loop (X:=Nat) (fun i=>i≤l.length) (fun i=>mkSt [(5,.ptr 0 0),(23,.sl (Ty.avL l)),(24,.i l.length),(25,.i (i:Nat))] [(0,.cells [.sl (ddl D),.rw 2,.mp 1]),(1,.map (esF 0 (addA D f (l.take i)))),(2,.row 6 (nrow D (addA D f (l.take i)) (zeros (addA D f (l.take i)))))] 3) (fun i=>l.length - i) 0 (Nat.zero_le _) (fun i=>if i=0 then 4194304 else if i=1 then 2097152 else if i=2 then 9437184 else i) ?_ ?_
  · refine ent_mk (by simp[go_sem]) ?_ (by simp) (by simp[hN])
    simp[go_sem,updo,addA,esF,nrow]
  intro i hi
  by_cases hlt:i<l.length
  · obtain⟨t,ht⟩:=get?_of hlt
    have htm:=List.mem_of_getElem? ht
    obtain⟨hs,hleft⟩:=addA_pre hdt hl hf i
    have hadd:=add_m hD hR hdt (uni_closed D l) hUl f t (addA D f (l.take i)) (hl t htm) (hls t htm) hs.pl hs.nd hs.un (uni_start htm) hleft
    rw[← addA_succ ht] at hadd
    have u1:=inc_u hlt (by omega)
    rw[Ty.av_eq] at hadd
    have hz:=esF_clo 0 (addA D f (l.take i))
    have hz2:=esF_clo 0 (addA D f (l.take (i+1)))
    repeat'(first|apply nx|refine zx ?_|rw[zw]|((first|refine hK _ ?_|refine hKp _ _ ?_);clear hK hKp K Kp;try clear hanc anc)|((with_reducible refine And.intro ?_ ?_);exact zb)|((first|refine zr hE fun K Kp hK hKp=>?_|refine zd true mixed hE fun K Kp hK hKp anc hanc=>?_|refine zd false mixed hE fun K Kp hK hKp anc hanc=>?_);simp only[go_sem,lt_dec hlt,ht,Ty.av_eq,u1])|(refine zg (fun hg=>?_) (fun hg=>?_)<;>simp only[go_sem,lt_dec hlt,ht,Ty.av_eq,u1,hg])|(refine zc (fun hc=>?_) (fun hc=>?_)<;>try exact zh hc))
    refine Hold.mk (objP_use hadd (by simp[AV.ids,AV.idsL,go_sem]) 2 7340035 (by decide) rfl (by simp[updo]) (by simp[updo]) (by simp[updo]) fun hpn b0 b1 b2 hold=>?_)
    clear hold
    simp only[go_sem,putf]
    refine hK _ ?_
    clear hK hKp K Kp
    repeat apply nx
    repeat'(first|apply nx|refine zx ?_|rw[zw]|((first|refine hK _ ?_|refine hKp _ _ ?_);clear hK hKp K Kp;try clear hanc anc)|((with_reducible refine And.intro ?_ ?_);exact zb)|((first|refine zr hE fun K Kp hK hKp=>?_|refine zd true mixed hE fun K Kp hK hKp anc hanc=>?_|refine zd false mixed hE fun K Kp hK hKp anc hanc=>?_);simp only[go_sem,u1])|(refine zg (fun hg=>?_) (fun hg=>?_)<;>simp only[go_sem,u1,hg])|(refine zc (fun hc=>?_) (fun hc=>?_)<;>try exact zh hc))
    refine⟨i+1,hlt,by omega,fun j=>if j=2 then 7340035 else j,?_⟩
    refine ent_mk (by simp[go_sem]) ?_ (by simp) (by simp[hN])
    simp[go_sem,b0,b1,b2,hz2.ren]
    exact hz2.ids2 _
  obtain rfl:i=l.length:=by omega
  obtain⟨hG,_,_⟩:=addA_ok hdt hl hf
  rw[List.take_length]
  have hsl:(addA D f l).length≤2 ^ 30:=by
    have h:=(addA_pre hdt hl hf l.length).1
    rw[List.take_length] at h
    have:=nodes_len h.nd h.un
    omega
  clear hl hls hf hUl hll
  generalize addA D f l=s at*
  repeat'(first|apply nx|refine zx ?_|rw[zw]|((first|refine hK _ ?_|refine hKp _ _ ?_);clear hK hKp K Kp;try clear hanc anc)|((with_reducible refine And.intro ?_ ?_);exact zb)|((first|refine zr hE fun K Kp hK hKp=>?_|refine zd true mixed hE fun K Kp hK hKp anc hanc=>?_|refine zd false mixed hE fun K Kp hK hKp anc hanc=>?_);simp only[go_sem,ge_dec])|(refine zg (fun hg=>?_) (fun hg=>?_)<;>simp only[go_sem,ge_dec,hg])|(refine zc (fun hc=>?_) (fun hc=>?_)<;>try exact zh hc))
  have hes:=esF_clo 0 s
  refine K_loop (X:=Nat) (fun _=>True) (fun n=>mkSt [(5,.ptr 0 0),(8,.i (pv D s n))] [(0,.cells [.sl (ddl D),.rw 2,.mp 1]),(1,.map (esF 0 s)),(2,.row 6 (nrow D s (clsN D s n)))] 3) (fun n=>s.length+2 - pvN D s n) 0 trivial (fun i=>i) ?_ ?_
  · refine ent_mk (by simp[go_sem,pv]) ?_ (by simp) (by simp[hN])
    simp[go_sem,hes.ren,clsN,zeros]
    exact hes.ids2 _
  intro n _
  have hcb:=cls_bd D s n
  have hcl:=clsN_len D s n
  have hSl:(sigs D s (clsN D s n)).length=s.length:=by simp[sigs]
  have hcn:clsN D s (n+1)=ranks (sigs D s (clsN D s n)):=rfl
  have hct:(unq (sigs D s (clsN D s n)) s.length).length=cntN D s n:=by rw[← hSl,unq_all];rfl
  have hSg:∀ (i:Nat) (a:Nd),s[i]? =some a→(sigs D s (clsN D s n))[i]? =some (sgk D (clsN D s n) a a.ch.length):=fun i a h=>by rw[sigs_get h,sgk_all]
  have hrl:(ranks (sigs D s (clsN D s n))).length=s.length:=by rw[ranks_len,hSl]
  have hnl:=nrow_len D s _ hcl
  generalize hC:clsN D s n=C at*
  generalize sigs D s C=S at*
  repeat'(first|apply nx|refine zx ?_|rw[zw]|((first|refine hK _ ?_|refine hKp _ _ ?_);clear hK hKp K Kp;try clear hanc anc)|((with_reducible refine And.intro ?_ ?_);exact zb)|((first|refine zr hE fun K Kp hK hKp=>?_|refine zd true mixed hE fun K Kp hK hKp anc hanc=>?_|refine zd false mixed hE fun K Kp hK hKp anc hanc=>?_);simp only[go_sem,hnl])|(refine zg (fun hg=>?_) (fun hg=>?_)<;>simp only[go_sem,hnl,hg])|(refine zc (fun hc=>?_) (fun hc=>?_)<;>try exact zh hc))
  refine K_loop (X:=Nat) (fun i=>i≤s.length) (fun i=>mkSt [(5,.ptr 0 0),(8,.i (pv D s n)),(9,.mp 3),(10,.rw 4),(43,.rw 2),(44,.i s.length),(45,.i (i:Nat))] [(0,.cells [.sl (ddl D),.rw 2,.mp 1]),(1,.map (esF 0 s)),(2,.row 6 (nrow D s C)),(3,.map (esU 0 (unq S i))),(4,.row 1 (il (nI (upto (ranks S) (zeros s) i))))] 5) (fun i=>s.length - i) 0 (Nat.zero_le _) (fun i=>if i=4 then 7340035 else i) ?_ ?_
  · refine ent_mk (by simp[go_sem]) ?_ (by simp) (by simp[hN])
    simp[go_sem,hes.ren,unq_zero,upto_zero,esU,nI,zeros]
    exact hes.ids2 _
  intro i hi
  have heu:=esU_clo 0 (unq S i)
  by_cases hlt:i<s.length
  · obtain⟨a,ha⟩:=get?_of hlt
    obtain⟨ci,hci⟩:=get?_of (show i<C.length by omega)
    have hrow:=nrow_get (D:=D) ha hci
    simp only[ndv] at hrow
    have hal:i<(nrow D s C).length:=by omega
    have hSi:=hSg i a ha
    have hap:=hG.pl a (List.mem_of_getElem? ha)
    obtain⟨hlab1,hlab2⟩:=lab_ok hD hR hap
    obtain⟨a',ha',hchl,_⟩:=hG.ok i hlt
    rw[ha] at ha'
    cases ha'
    have hkl:=kids_len hD hap
    have hchn:(nI a.ch).length=a.ch.length:=by simp[nI]
    have hsI:∀ k,I64 (sgk D C a k):=fun k x hx=>by
      rcases List.mem_append.1 hx with hx|hx
      · exact hlab1 x hx
      · obtain⟨j,_,rfl⟩:=List.mem_map.1 hx
        have:=hcb j
        omega
    have hsL:∀ k,(sgk D C a k).length≤2 ^ 33:=fun k=>by
      simp only[sgk,List.length_append,List.length_map,List.length_take]
      omega
    repeat'(first|apply nx|refine zx ?_|rw[zw]|((first|refine hK _ ?_|refine hKp _ _ ?_);clear hK hKp K Kp;try clear hanc anc)|((with_reducible refine And.intro ?_ ?_);exact zb)|((first|refine zr hE fun K Kp hK hKp=>?_|refine zd true mixed hE fun K Kp hK hKp anc hanc=>?_|refine zd false mixed hE fun K Kp hK hKp anc hanc=>?_);simp only[go_sem,lt_dec hlt,lt_dec hal,hrow,hchn])|(refine zg (fun hg=>?_) (fun hg=>?_)<;>simp only[go_sem,lt_dec hlt,lt_dec hal,hrow,hchn,hg])|(refine zc (fun hc=>?_) (fun hc=>?_)<;>try exact zh hc))
    refine K_loop (X:=Nat) (fun k=>k≤a.ch.length) (fun k=>mkSt [(5,.ptr 0 0),(8,.i (pv D s n)),(9,.mp 3),(10,.rw 4),(11,.i (i:Nat)),(13,.str (tx (txL (sgk D C a k)))),(43,.rw 2),(44,.i s.length),(45,.i (i:Nat)),(53,.sl (il (nI a.ch))),(54,.i a.ch.length),(55,.i (k:Nat))] [(0,.cells [.sl (ddl D),.rw 2,.mp 1]),(1,.map (esF 0 s)),(2,.row 6 (nrow D s C)),(3,.map (esU 0 (unq S i))),(4,.row 1 (il (nI (upto (ranks S) (zeros s) i))))] 5) (fun k=>a.ch.length - k) 0 (Nat.zero_le _) (fun i=>i) ?_ ?_
    · refine ent_mk (by simp[go_sem,sgk_zero]) ?_ (by simp) (by simp[hN])
      simp[go_sem,hes.ren,heu.ren]
      exact⟨hes.ids2 _,heu.ids2 _⟩
    intro k hk
    by_cases hkt:k<a.ch.length
    · obtain⟨m,hm⟩:=get?_of hkt
      obtain⟨b,hb⟩:=ch_lt hG ha hm
      have hml:=(List.getElem?_eq_some_iff.1 hb).1
      obtain⟨cm,hcm⟩:=get?_of (show m<C.length by omega)
      have hrm:=nrow_get (D:=D) hb hcm
      simp only[ndv] at hrm
      have hal2:m<(nrow D s C).length:=by omega
      have hmk:(il (nI a.ch))[k]? =some (.i (m:Int)):=by simp[il,nI,hm]
      have hkl2:k<(il (nI a.ch)).length:=by simp[il,nI];exact hkt
      have hg:C.getD m 0=cm:=by rw[List.getD_eq_getElem?_getD,hcm];rfl
      have hcm2:=hcb m
      rw[hg] at hcm2
      have hsu:=sgk_succ (D:=D) (c:=C) hm
      rw[hg] at hsu
      have hI1:I64 [(cm:Int)]:=fun x hx=>by simp at hx;subst hx;omega
      have c1:PCall Tryd.prog 49 [.sl [.i (cm:Nat)]] (.str (tx (txL [(cm:Int)]))):=text_c [(cm:Int)] (by simp) hI1
      have hl1:=txL_len (hsI k)
      have hl2:=txL_len hI1
      have hl3:=hsL k
      simp only[List.length_cons,List.length_nil] at hl2
      have u1:=inc_u hkt (by omega)
      repeat'(first|apply nx|refine zx ?_|rw[zw]|((first|refine hK _ ?_|refine hKp _ _ ?_);clear hK hKp K Kp;try clear hanc anc)|((with_reducible refine And.intro ?_ ?_);exact zb)|((first|refine zr hE fun K Kp hK hKp=>?_|refine zd true mixed hE fun K Kp hK hKp anc hanc=>?_|refine zd false mixed hE fun K Kp hK hKp anc hanc=>?_|(apply zm;exact zu;exact c1;exact zs;exact zl));simp only[go_sem,lt_dec hkt,lt_dec hkl2,hmk,lt_dec hal2,hrm,u1,tx_app, ← txL_app, ← hsu])|(refine zg (fun hg=>?_) (fun hg=>?_)<;>simp only[go_sem,lt_dec hkt,lt_dec hkl2,hmk,lt_dec hal2,hrm,u1,tx_app, ← txL_app, ← hsu,hg])|(refine zc (fun hc=>?_) (fun hc=>?_)<;>try exact zh hc))
      refine⟨k+1,hkt,by omega,fun j=>j,?_⟩
      refine ent_mk (by simp[go_sem]) ?_ (by simp) (by simp[hN])
      simp[go_sem,hes.ren,heu.ren]
      exact⟨hes.ids2 _,heu.ids2 _⟩
    obtain rfl:k=a.ch.length:=by omega
    generalize sgk D C a a.ch.length=x at hSi
    have hxr:=rank_get hSi
    have hxu:=unq_succ hSi
    have u1:=inc_u hlt (by omega)
    have hup:=upto_set (b:=zeros s) (by rw[hrl,zeros_len]) hxr
    have hll2:i<(nI (upto (ranks S) (zeros s) i)).length:=by
      simp only[nI,List.length_map];rw[upto_len (by rw[hrl,zeros_len]),hrl];exact hlt
    have hgv:(nI (upto (ranks S) (zeros s) i))[i]? =some 0:=by
      rw[nI,List.getElem?_map,upto_get (by rw[hrl,zeros_len])]
      simp[zeros,hlt]
    have heu2:=esU_clo 0 (unq S (i+1))
    have hset:∀ r:Nat,(nI (upto (ranks S) (zeros s) i)).set i (r:Int)=nI ((upto (ranks S) (zeros s) i).set i r):=fun r=>by simp[nI,List.map_set]
    by_cases hxm:x∈unq S i
    · rw[if_pos hxm] at hxu
      rw[hxu] at hup
      have hfi:=esU_in x 0 _ hxm
      rw[Nat.zero_add] at hfi
      repeat'(first|apply nx|refine zx ?_|rw[zw]|((first|refine hK _ ?_|refine hKp _ _ ?_);clear hK hKp K Kp;try clear hanc anc)|((with_reducible refine And.intro ?_ ?_);exact zb)|((first|refine zr hE fun K Kp hK hKp=>?_|refine zd true mixed hE fun K Kp hK hKp anc hanc=>?_|refine zd false mixed hE fun K Kp hK hKp anc hanc=>?_);simp only[go_sem,ge_dec,hfi,lt_dec hll2,hgv,u1])|(refine zg (fun hg=>?_) (fun hg=>?_)<;>simp only[go_sem,ge_dec,hfi,lt_dec hll2,hgv,u1,hg])|(refine zc (fun hc=>?_) (fun hc=>?_)<;>try exact zh hc))
      refine⟨i+1,hlt,by omega,fun j=>j,?_⟩
      refine ent_mk (by simp[go_sem]) ?_ (by simp) (by simp[hN])
      simp[go_sem,hes.ren,heu.ren,hset,hup,hxu]
      exact⟨hes.ids2 _,heu.ids2 _⟩
    · rw[if_neg hxm] at hxu
      have hfo:=esU_out x 0 _ hxm
      have hpt:putT (tx (txL x)) (.i ((unq S i).length:Nat)) (esU 0 (unq S i)) none=esU 0 (unq S (i+1)):=by
        have hea:=esU_app 0 (unq S i) x
        rw[Nat.zero_add] at hea
        rw[hxu,hea];rfl
      have hfi:=esU_in x 0 (unq S (i+1)) (unq_mem hSi)
      rw[Nat.zero_add] at hfi
      repeat'(first|apply nx|refine zx ?_|rw[zw]|((first|refine hK _ ?_|refine hKp _ _ ?_);clear hK hKp K Kp;try clear hanc anc)|((with_reducible refine And.intro ?_ ?_);exact zb)|((first|refine zr hE fun K Kp hK hKp=>?_|refine zd true mixed hE fun K Kp hK hKp anc hanc=>?_|refine zd false mixed hE fun K Kp hK hKp anc hanc=>?_);simp only[go_sem,ge_dec,hfo,hpt,hfi,lt_dec hll2,hgv,u1])|(refine zg (fun hg=>?_) (fun hg=>?_)<;>simp only[go_sem,ge_dec,hfo,hpt,hfi,lt_dec hll2,hgv,u1,hg])|(refine zc (fun hc=>?_) (fun hc=>?_)<;>try exact zh hc))
      refine⟨i+1,hlt,by omega,fun j=>j,?_⟩
      refine ent_mk (by simp[go_sem]) ?_ (by simp) (by simp[hN])
      simp[go_sem,hes.ren,heu2.ren,hset,hup]
      exact⟨hes.ids2 _,heu2.ids2 _⟩
  obtain rfl:i=s.length:=by omega
  have hZ:upto (ranks S) (zeros s) s.length=ranks S:=by rw[← hrl];exact upto_all (by rw[hrl,zeros_len])
  have hZ2:upto (ranks S) C s.length=ranks S:=by rw[← hrl];exact upto_all (by rw[hrl,hcl])
  rw[hZ]
  repeat'(first|apply nx|refine zx ?_|rw[zw]|((first|refine hK _ ?_|refine hKp _ _ ?_);clear hK hKp K Kp;try clear hanc anc)|((with_reducible refine And.intro ?_ ?_);exact zb)|((first|refine zr hE fun K Kp hK hKp=>?_|refine zd true mixed hE fun K Kp hK hKp anc hanc=>?_|refine zd false mixed hE fun K Kp hK hKp anc hanc=>?_);simp only[go_sem,ge_dec,hnl])|(refine zg (fun hg=>?_) (fun hg=>?_)<;>simp only[go_sem,ge_dec,hnl,hg])|(refine zc (fun hc=>?_) (fun hc=>?_)<;>try exact zh hc))
  refine K_loop (X:=Nat) (fun i=>i≤s.length) (fun i=>mkSt [(5,.ptr 0 0),(8,.i (pv D s n)),(9,.mp 3),(10,.rw 4),(95,.i s.length),(96,.i (i:Nat))] [(0,.cells [.sl (ddl D),.rw 2,.mp 1]),(1,.map (esF 0 s)),(2,.row 6 (nrow D s (upto (ranks S) C i))),(3,.map (esU 0 (unq S s.length))),(4,.row 1 (il (nI (ranks S))))] 5) (fun i=>s.length - i) 0 (Nat.zero_le _) (fun i=>i) ?_ ?_
  · refine ent_mk (by simp[go_sem]) ?_ (by simp) (by simp[hN])
    simp[go_sem,hes.ren,heu.ren,upto_zero]
    exact⟨hes.ids2 _,heu.ids2 _⟩
  intro i hi
  by_cases hlt:i<s.length
  · obtain⟨a,ha⟩:=get?_of hlt
    obtain⟨ci,hci⟩:=get?_of (show i<C.length by omega)
    obtain⟨ri,hri⟩:=get?_of (show i<(ranks S).length by omega)
    have hul:(upto (ranks S) C i).length=s.length:=by rw[upto_len (by omega),hrl]
    have hrow:=nrow_get (D:=D) (c:=upto (ranks S) C i) ha (by rw[upto_get (by omega),hci])
    have hst:=nrow_upto (D:=D) hrl hcl ha hri
    simp only[ndv] at hrow hst
    have hal:i<(nrow D s (upto (ranks S) C i)).length:=by rw[nrow_len D s _ hul];exact hlt
    have hgr:(nI (ranks S))[i]? =some (ri:Int):=by simp[nI,hri]
    have hgl:i<(nI (ranks S)).length:=by simp only[nI,List.length_map];omega
    have u1:=inc_u hlt (by omega)
    repeat'(first|apply nx|refine zx ?_|rw[zw]|((first|refine hK _ ?_|refine hKp _ _ ?_);clear hK hKp K Kp;try clear hanc anc)|((with_reducible refine And.intro ?_ ?_);exact zb)|((first|refine zr hE fun K Kp hK hKp=>?_|refine zd true mixed hE fun K Kp hK hKp anc hanc=>?_|refine zd false mixed hE fun K Kp hK hKp anc hanc=>?_);simp only[go_sem,lt_dec hlt,lt_dec hal,hrow,hgr,lt_dec hgl,u1,hst])|(refine zg (fun hg=>?_) (fun hg=>?_)<;>simp only[go_sem,lt_dec hlt,lt_dec hal,hrow,hgr,lt_dec hgl,u1,hst,hg])|(refine zc (fun hc=>?_) (fun hc=>?_)<;>try exact zh hc))
    refine⟨i+1,hlt,by omega,fun j=>j,?_⟩
    refine ent_mk (by simp[go_sem]) ?_ (by simp) (by simp[hN])
    simp[go_sem,hes.ren,heu.ren]
    exact⟨hes.ids2 _,heu.ids2 _⟩
  obtain rfl:i=s.length:=by omega
  rw[hZ2]
  by_cases hq:(cntN D s n:Int)=pv D s n
  · have q:((cntN D s n:Int)==pv D s n)=true:=by simp[hq]
    repeat'(first|apply nx|refine zx ?_|rw[zw]|((first|refine hK _ ?_|refine hKp _ _ ?_);clear hK hKp K Kp;try clear hanc anc)|((with_reducible refine And.intro ?_ ?_);exact zb)|((first|refine zr hE fun K Kp hK hKp=>?_|refine zd true mixed hE fun K Kp hK hKp anc hanc=>?_|refine zd false mixed hE fun K Kp hK hKp anc hanc=>?_);simp only[go_sem,ge_dec,hct,q])|(refine zg (fun hg=>?_) (fun hg=>?_)<;>simp only[go_sem,ge_dec,hct,q,hg])|(refine zc (fun hc=>?_) (fun hc=>?_)<;>try exact zh hc))
    obtain⟨n',rfl⟩:∃ n',n=n'+1:=by
      cases n with
      |zero=>simp only[pv] at hq;omega
      |succ n'=>exact⟨n',rfl⟩
    refine K_ret (hQ _ ⟨.ptr 0 0,fun i=>i,_,3,resA_tmp (by simp only[go_sem]),(by simp[AV.ids,AV.idsL]),?_,rfl,n',(by simp only[pv] at hq;omega),rfl⟩).1
    show Ent _ _ _ (mkSt [] [(0,.cells [.sl (ddl D),.rw 2,.mp 1]),(1,.map (esF 0 s)),(2,.row 6 (nrow D s (clsN D s (n'+1+1))))] 3)
    rw[hcn]
    refine ent_mk (fr:=[]) (by simp) ?_ (by simp) (by simp[hN])
    simp[go_sem,hes.ren]
    exact hes.ids2 _
  · have q:((cntN D s n:Int)==pv D s n)=false:=by simp[hq]
    repeat'(first|apply nx|refine zx ?_|rw[zw]|((first|refine hK _ ?_|refine hKp _ _ ?_);clear hK hKp K Kp;try clear hanc anc)|((with_reducible refine And.intro ?_ ?_);exact zb)|((first|refine zr hE fun K Kp hK hKp=>?_|refine zd true mixed hE fun K Kp hK hKp anc hanc=>?_|refine zd false mixed hE fun K Kp hK hKp anc hanc=>?_);simp only[go_sem,ge_dec,hct,q])|(refine zg (fun hg=>?_) (fun hg=>?_)<;>simp only[go_sem,ge_dec,hct,q,hg])|(refine zc (fun hc=>?_) (fun hc=>?_)<;>try exact zh hc))
    have hle:=cnt_bd D s n
    refine⟨n+1,trivial,?_,fun j=>j,?_⟩
    · cases n with
      |zero=>simp only[pvN];omega
      |succ n'=>
        have h1:=cnt_le hdt hG n'
        have h2:=cnt_bd D s n'
        simp only[pv] at hq
        simp only[pvN]
        omega
    rw[hcn]
    refine ent_mk (by simp[go_sem,pv]) ?_ (by simp) (by simp[hN])
    simp[go_sem,hes.ren]
    exact hes.ids2 _

theorem class_hc {D : List Dd} (hD : DB D) {s : List Nd} {c : List Nat} (hcl : c.length = s.length) {t : Ty} (ht : Pl D t) (hts : t.sz ≤ 2 ^ 30) {i k : Nat} (hi : idx s t = some i) (hk : c[i]? = some k) :
    HC Tryd.prog 33 [.ptr 0 0,t.av] (objG D (esF 0 s) (nrow D s c)) 3 (.i (k:Nat)):=by
  have he:=esF_clo 0 s
  have hRc:=nrow_clo D s c
  have hw:=wfG (D:=D) he hRc
  have hkey:=key_c hD.l (2 ^ 30) t hts (by decide) ht
  have hfi:=esF_find t 0 s
  rw[hi] at hfi
  simp only[Option.map_some,Nat.zero_add] at hfi
  have hl:=(List.getElem?_eq_some_iff.1 hk).1
  obtain⟨a,ha⟩:=get?_of (show i<s.length by omega)
  have hrow:=nrow_get (D:=D) ha hk
  simp only[ndv] at hrow
  have hal:i<(nrow D s c).length:=by rw[nrow_len D s c hcl];omega
  rw[Ty.av_eq] at hkey ⊢
  refine HC.intro hw rfl Tryd.func33 rfl isf33 (by simp[Tryd.f33]) fun E Q hE hN hQ=>K_start ?_
  repeat'(first|apply nx|refine zx ?_|rw[zw]|((first|refine hK _ ?_|refine hKp _ _ ?_);clear hK hKp K Kp;try clear hanc anc)|((with_reducible refine And.intro ?_ ?_);exact zb)|((first|refine zr hE fun K Kp hK hKp=>?_|refine zd true mixed hE fun K Kp hK hKp anc hanc=>?_|refine zd false mixed hE fun K Kp hK hKp anc hanc=>?_|(apply zm;exact zu;exact hkey;exact zs;exact zl));simp only[go_sem,objG_0,objG_1,objG_2,hfi,lt_dec hal,hrow])|(refine zg (fun hg=>?_) (fun hg=>?_)<;>simp only[go_sem,objG_0,objG_1,objG_2,hfi,lt_dec hal,hrow,hg])|(refine zc (fun hc=>?_) (fun hc=>?_)<;>try exact zh hc))
  exact K_ret (hQ _ (by simp only[go_sem];rfl) (keepG (by simp[updo,objG_0]) (by simp[updo,objG_1]) (by simp[updo,objG_2]))).1
theorem of_use {D : List Dd} (hD : DB D) (hR : DR D) (hdt : dtB D = true) {l : List Ty} {f : Nat} (hl : ∀ t, t ∈ l → Pl D t) (hls : ∀ t, t ∈ l → t.sz ≤ 2 ^ 30) (hll : l.length ≤ 2 ^ 30) (hUl : (uni D l).length ≤ 2 ^ 30) (hf : (uni D l).length < f)
    {fr:Nat→Option AV} {hp0:Nat→Option AObj} {n0 k:Nat} {d:Option Nat} {K:St→Prop} {Kp:AV→St→Prop} (B:Nat) (hB:n0+1048576*k=B)
    (hK:∀ n hpn,cntN D (addA D f l) (n+1)=cntN D (addA D f l) n→hpn B=some (.cells [.sl (ddl D),.rw (B+2),.mp (B+1)])→hpn (B+1)=some (.map (esF 0 (addA D f l)))→hpn (B+2)=some (.row 6 (nrow D (addA D f l) (clsN D (addA D f l) (n+2))))→(∀ id o,hp0 id=some o→hpn id=some o)→K ⟨putf fr d (.ptr B 0),hpn,n0⟩):
    CallB Tryd.prog 32 [.sl (ddl D),.sl (Ty.avL l)] ⟨fr,hp0,n0⟩ k d K Kp:=by
  subst hB
  have hes:=esF_clo 0 (addA D f l)
  refine CallB.use (of_c hD hR hdt hl hls hll hUl hf) (fun i=>i) (by simp[AV.renL,AV.ren,go_sem]) (by simp[AV.ids,AV.idsL,go_sem]) (fun id o ho=>by cases ho) (fun _ _ _ _ h=>by cases h) (fun id hid=>absurd hid (Nat.not_lt_zero _)) ?_ (fun _ _ h=>h.elim) ?_ (fun _ _ _ h=>h.elim)
  · rintro r hp' ⟨rfl,n,_,rfl⟩
    have hw:=wfG (D:=D) hes (nrow_clo D (addA D f l) (clsN D (addA D f l) (n+2)))
    exact⟨by simp[AV.ids],fun id o ho=>⟨by have:=(hw.1 id o ho).1;omega,objids_mono _ (fun j hj=>by omega) (hw.1 id o ho).2⟩⟩
  · rintro r hp' fr' hpn ⟨rfl,n,hn,rfl⟩ hfr hobj hold
    have b0:=hobj 0 _ rfl
    have b1:=hobj 1 _ rfl
    have b2:=hobj 2 _ rfl
    simp[backM,AObj.ren,AV.renL,AV.ren,go_sem,hes.ren] at b0 b1 b2
    have e:fr'=putf fr d (.ptr (n0+1048576*k) 0):=by subst hfr;cases d<;>simp[St.put,putf,AV.ren,backM]
    subst e
    exact hK n hpn hn b0 b1 b2 (fun id o ho=>hold id o ho fun j hj=>absurd rfl hj)
def dtF (D:List Dd):Bool:=decide (D.length≤200)&&dtB D
noncomputable def smB (D:List Dd) (a b:Ty):Bool:=dtF D&&(plB D a 8&&(plB D b 8&&decide (bis D D a b)))
theorem cls_eq {D : List Dd} (hdt : dtB D = true) {l : List Ty} {f : Nat} (hl : ∀ t, t ∈ l → Pl D t) (hf : (uni D l).length < f) {n : Nat} (hn : cntN D (addA D f l) (n + 1) = cntN D (addA D f l) n) {a b : Ty} {i j : Nat} (ha : Pl D a) (hb : Pl D b) (hi : idx (addA D f l) a = some i) (hj : idx (addA D f l) b = some j) :
    ((clsN D (addA D f l) (n+2)).getD i 0=(clsN D (addA D f l) (n+2)).getD j 0↔bis D D a b):=by
  obtain⟨hG,_,_⟩:=addA_ok hdt hl hf
  obtain⟨m1,e1,k1⟩:=idx_some hi
  obtain⟨m2,e2,k2⟩:=idx_some hj
  have p1:=hG.pl m1 (List.mem_of_getElem? e1)
  have p2:=hG.pl m2 (List.mem_of_getElem? e2)
  have h:=stable hdt hG hn e1 e2
  have b1:=ky_bis hdt p1 ha k1
  have b2:=ky_bis hdt p2 hb k2
  refine h.trans ⟨fun g=>?_,fun g=>?_⟩
  · exact bis_trans (bis_symm b1) (bis_trans g b2)
  · exact bis_trans b1 (bis_trans g (bis_symm b2))
theorem same_c {D:List Dd} (hD:DB D) (hR:DR D) {a b:Ty} (ha:a.sz≤2 ^ 30) (hb:b.sz≤2 ^ 30) (hUl:(uni D [a,b]).length≤2 ^ 30):PCall Tryd.prog 10 [.sl (ddl D),a.av,b.av] (.bool (smB D a b)):=by
 have c1:=datas_c hD
 rw[show(decide (D.length≤200)&&dtB D)=dtF D from rfl] at c1
 have c2:=plain_c (2 ^ 30) a D 8 ha (by have:=hD.l;omega) (by decide) (by decide)
 have c3:=plain_c (2 ^ 30) b D 8 hb (by have:=hD.l;omega) (by decide) (by decide)
 rw[Ty.av_eq] at c2 c3 ⊢
 rw[Ty.av_eq b]
 cases hd:dtF D
 ·rw[hd] at c1
  have e:smB D a b=false:=by simp[smB,hd]
  rw[e]
  refine PCall.intro Tryd.func10 rfl isf10 (by simp[Tryd.f10]) (by simp[AV.cloL,AV.clo]) fun E Q hE hN hQ=>K_start ?_
  repeat'(first|apply nx|refine zx ?_|rw[zw]|((first|refine hK _ ?_|refine hKp _ _ ?_);clear hK hKp K Kp;try clear hanc anc)|((with_reducible refine And.intro ?_ ?_);exact zb)|((first|refine zr hE fun K Kp hK hKp=>?_|refine zd false mixed hE fun K Kp hK hKp anc hanc=>?_|(apply zm;exact zu;(first|exact c1|exact c2|exact c3);exact zs;exact zl));simp only[go_sem])|(refine zg (fun hg=>?_) (fun hg=>?_)<;>simp only[go_sem,hg])|(refine zc (fun hc=>?_) (fun hc=>?_)<;>try exact zh hc)|(refine K_ret ?_;refine zt hQ ?_))
  simp[AV.snap]
 cases hpa:plB D a 8
 ·rw[hd] at c1
  rw[hpa] at c2
  have e:smB D a b=false:=by simp[smB,hpa]
  rw[e]
  refine PCall.intro Tryd.func10 rfl isf10 (by simp[Tryd.f10]) (by simp[AV.cloL,AV.clo]) fun E Q hE hN hQ=>K_start ?_
  repeat'(first|apply nx|refine zx ?_|rw[zw]|((first|refine hK _ ?_|refine hKp _ _ ?_);clear hK hKp K Kp;try clear hanc anc)|((with_reducible refine And.intro ?_ ?_);exact zb)|((first|refine zr hE fun K Kp hK hKp=>?_|refine zd false mixed hE fun K Kp hK hKp anc hanc=>?_|(apply zm;exact zu;(first|exact c1|exact c2|exact c3);exact zs;exact zl));simp only[go_sem])|(refine zg (fun hg=>?_) (fun hg=>?_)<;>simp only[go_sem,hg])|(refine zc (fun hc=>?_) (fun hc=>?_)<;>try exact zh hc)|(refine K_ret ?_;refine zt hQ ?_))
  simp[AV.snap]
 cases hpb:plB D b 8
 ·rw[hd] at c1
  rw[hpa] at c2
  rw[hpb] at c3
  have e:smB D a b=false:=by simp[smB,hpb]
  rw[e]
  refine PCall.intro Tryd.func10 rfl isf10 (by simp[Tryd.f10]) (by simp[AV.cloL,AV.clo]) fun E Q hE hN hQ=>K_start ?_
  repeat'(first|apply nx|refine zx ?_|rw[zw]|((first|refine hK _ ?_|refine hKp _ _ ?_);clear hK hKp K Kp;try clear hanc anc)|((with_reducible refine And.intro ?_ ?_);exact zb)|((first|refine zr hE fun K Kp hK hKp=>?_|refine zd false mixed hE fun K Kp hK hKp anc hanc=>?_|(apply zm;exact zu;(first|exact c1|exact c2|exact c3);exact zs;exact zl));simp only[go_sem])|(refine zg (fun hg=>?_) (fun hg=>?_)<;>simp only[go_sem,hg])|(refine zc (fun hc=>?_) (fun hc=>?_)<;>try exact zh hc)|(refine K_ret ?_;refine zt hQ ?_))
  simp[AV.snap]
 rw[hd] at c1
 rw[hpa] at c2
 rw[hpb] at c3
 have hdt:dtB D=true:=by simp only[dtF,Bool.and_eq_true] at hd;exact hd.2
 have hl:∀ t,t∈ [a,b]→Pl D t:=fun t ht=>by
  simp only[List.mem_cons,List.not_mem_nil,or_false] at ht
  rcases ht with rfl|rfl
  ·exact⟨8,hpa⟩
  ·exact⟨8,hpb⟩
 have hls:∀ t,t∈ [a,b]→t.sz≤2 ^ 30:=fun t ht=>by
  simp only[List.mem_cons,List.not_mem_nil,or_false] at ht
  rcases ht with rfl|rfl
  ·exact ha
  ·exact hb
 obtain⟨f,hf⟩:∃ f,(uni D [a,b]).length<f:=⟨_,Nat.lt_succ_self _⟩
 obtain⟨hG,hin,_⟩:=addA_ok hdt hl hf
 obtain⟨i,hi⟩:=hin a (by simp)
 obtain⟨j,hj⟩:=hin b (by simp)
 have e:smB D a b=decide (bis D D a b):=by simp[smB,hd,hpa,hpb]
 rw[e]
 have havl:Ty.avL [a,b]=[.agg [.i a.kind,.i a.id,.sl (Ty.avL a.args)],.agg [.i b.kind,.i b.id,.sl (Ty.avL b.args)]]:=by simp[Ty.avL,Ty.av_eq]
 refine PCall.intro Tryd.func10 rfl isf10 (by simp[Tryd.f10]) (by simp[AV.cloL,AV.clo]) fun E Q hE hN hQ=>K_start ?_
 repeat'(first|apply nx|refine zx ?_|rw[zw]|((first|refine hK _ ?_|refine hKp _ _ ?_);clear hK hKp K Kp;try clear hanc anc)|((with_reducible refine And.intro ?_ ?_);exact zb)|((first|refine zr hE fun K Kp hK hKp=>?_|refine zd true mixed hE fun K Kp hK hKp anc hanc=>?_|refine zd false mixed hE fun K Kp hK hKp anc hanc=>?_|(apply zm;exact zu;(first|exact c1|exact c2|exact c3);exact zs;exact zl));simp only[go_sem])|(refine zg (fun hg=>?_) (fun hg=>?_)<;>simp only[go_sem,hg])|(refine zc (fun hc=>?_) (fun hc=>?_)<;>try exact zh hc))
 refine Hold.mk (CallB.dfrL [22020096] 8 (us':=[.sl (ddl D),.sl (Ty.avL [a,b])]) (by simp only[go_sem,List.mem_cons,List.not_mem_nil,or_false,havl]) (by simp[go_sem]) ?_)
 dsimp only
 refine of_use hD hR hdt hl hls (by simp) hUl hf 23068672 rfl fun n hpn hn b0 b1 b2 hold=>?_
 simp only[Nat.reduceAdd] at b0 b1 b2
 have b3:=hold 0 (.cells [.i a.kind,.i a.id,.sl (Ty.avL a.args)]) (by simp[notIn,updo])
 have b4:=hold 1048576 (.cells [.i b.kind,.i b.id,.sl (Ty.avL b.args)]) (by simp[notIn,updo])
 clear hold
 have hcq:=cls_eq hdt hl hf hn ⟨8,hpa⟩ ⟨8,hpb⟩ hi hj
 have hsl:(clsN D (addA D f [a,b]) (n+2)).length=(addA D f [a,b]).length:=clsN_len D _ _
 obtain⟨n1,e1,_⟩:=idx_some hi
 obtain⟨n2,e2,_⟩:=idx_some hj
 have l1:=(List.getElem?_eq_some_iff.1 e1).1
 have l2:=(List.getElem?_eq_some_iff.1 e2).1
 obtain⟨ca,hca⟩:=get?_of (show i<(clsN D (addA D f [a,b]) (n+2)).length by omega)
 obtain⟨cb,hcb⟩:=get?_of (show j<(clsN D (addA D f [a,b]) (n+2)).length by omega)
 have h1:=class_hc hD hsl ⟨8,hpa⟩ ha hi hca
 have h2:=class_hc hD hsl ⟨8,hpb⟩ hb hj hcb
 rw[List.getD_eq_getElem?_getD,hca,List.getD_eq_getElem?_getD,hcb,Option.getD_some,Option.getD_some] at hcq
 rw[Ty.av_eq] at h1 h2
 clear hUl hl hls hG hin hi hj e1 e2 l1 l2 c1 c2 c3 havl
 generalize clsN D (addA D f [a,b]) (n+2)=C at*
 generalize addA D f [a,b]=s at*
 simp only[go_sem,putf]
 refine hK _ ?_
 clear hK hKp K Kp
 repeat apply nx
 have he:=esF_clo 0 s
 have hRc:=nrow_clo D s C
 refine AW.ent (σ':=mkSt [(4,.ptr 3 0),(5,.ptr 4 0),(7,.ptr 0 0)] [(0,.cells [.sl (ddl D),.rw 2,.mp 1]),(1,.map (esF 0 s)),(2,.row 6 (nrow D s C)),(3,.cells [.i a.kind,.i a.id,.sl (Ty.avL a.args)]),(4,.cells [.i b.kind,.i b.id,.sl (Ty.avL b.args)])] 5) (fun i=>if i=0 then 23068672 else if i=1 then 23068673 else if i=2 then 23068674 else if i=3 then 0 else if i=4 then 1048576 else i) ?_ ?_
 ·refine ent_mk (by simp[go_sem]) ?_ (by simp) (by simp[hN])
  simp[go_sem,b0,b1,b2,b3,b4,he.ren]
  exact he.ids2 _
 have hg:∀ id ob,objG D (esF 0 s) (nrow D s C) id=some ob→mkHp [(0,.cells [.sl (ddl D),.rw 2,.mp 1]),(1,.map (esF 0 s)),(2,.row 6 (nrow D s C)),(3,.cells [.i a.kind,.i a.id,.sl (Ty.avL a.args)]),(4,.cells [.i b.kind,.i b.id,.sl (Ty.avL b.args)])] id=some ob:=keepG rfl rfl rfl
 refine zd false mixed hE fun K Kp hK hKp anc hanc=>?_
 simp only[go_sem]
 repeat(first|rw[zw]|((with_reducible refine And.intro ?_ ?_);exact zb))
 refine CallP_hc (us:=[.ptr 0 0,.agg [.i a.kind,.i a.id,.sl (Ty.avL a.args)]]) (by simp[AV.snapL,AV.snap]) h1 ⟨by show 0<3;decide,by simp[AV.ids,AV.idsL,go_sem],trivial⟩ ?_ (by simp[AV.snapOkL,AV.snapOk,go_sem]) (.inl rfl) ?_
 ·exact mkHp_allP (p:=fun id ob=>_∧id<5∧_) (by simp[mkHp,updo,AV.noRw])
 simp only[go_sem]
 repeat(first|rw[zw]|((with_reducible refine And.intro ?_ ?_);exact zb))
 refine CallP_hc (us:=[.ptr 0 0,.agg [.i b.kind,.i b.id,.sl (Ty.avL b.args)]]) (by simp[AV.snapL,AV.snap]) h2 ⟨by show 0<3;decide,by simp[AV.ids,AV.idsL,go_sem],trivial⟩ ?_ (by simp[AV.snapOkL,AV.snapOk,go_sem]) (.inl rfl) ?_
 ·exact mkHp_allP (p:=fun id ob=>_∧id<5∧_) (by simp[mkHp,updo,AV.noRw])
 have e2:((ca:Int)==(cb:Int))=decide (bis D D a b):=by
  rw[Bool.eq_iff_iff]
  simp only[beq_iff_eq,decide_eq_true_eq, ← hcq]
  omega
 simp only[go_sem,e2]
 refine hK _ ?_
 clear hK hKp K Kp
 repeat'(first|apply nx|refine zx ?_|rw[zw]|((first|refine hK _ ?_|refine hKp _ _ ?_);clear hK hKp K Kp;try clear hanc anc)|((with_reducible refine And.intro ?_ ?_);exact zb)|((first|refine zr hE fun K Kp hK hKp=>?_|refine zd false mixed hE fun K Kp hK hKp anc hanc=>?_);simp only[go_sem])|(refine zg (fun hg=>?_) (fun hg=>?_)<;>simp only[go_sem,hg])|(refine zc (fun hc=>?_) (fun hc=>?_)<;>try exact zh hc)|(refine K_ret ?_;refine zt hQ ?_))
 simp[AV.snap]

def objQ (D:List Dd) (t:Ty):Nat→Option AObj:=mkHp [(0,.cells [.sl (ddl D)]),(1,.cells [.i t.kind,.i t.id,.sl (Ty.avL t.args)])]
theorem objQ_0 (D:List Dd) (t:Ty):objQ D t 0=some (.cells [.sl (ddl D)]):=rfl
theorem objQ_1 (D:List Dd) (t:Ty):objQ D t 1=some (.cells [.i t.kind,.i t.id,.sl (Ty.avL t.args)]):=rfl
theorem wfQ (D:List Dd) (t:Ty):WF (objQ D t) 2:=by
 refine⟨fun id ob h=>?_,fun id hid=>?_,by decide⟩
 ·exact mkHp_allP (p:=fun id ob=>id<2∧ob.ids (· <2)) (by
   intro q hq
   simp only[List.mem_cons,List.not_mem_nil,or_false] at hq
   rcases hq with rfl|rfl
   ·exact⟨by show 0<2;decide,by simp[AObj.ids,AV.ids,AV.idsL,go_sem]⟩
   ·exact⟨by show 1<2;decide,by simp[AObj.ids,AV.ids,AV.idsL,go_sem]⟩) id ob h
 ·rcases(by omega:id=0∨id=1) with rfl|rfl<;>simp[objQ,mkHp,updo]
theorem sameQ_hc {D:List Dd} (hD:DB D) (hR:DR D) {x t:Ty} (hx:x.sz≤2 ^ 30) (ht:t.sz≤2 ^ 30) (hUl:(uni D [x,t]).length≤2 ^ 30):HC Tryd.prog 36 [x.av,.ptr 0 0,.ptr 1 0] (objQ D t) 2 (.bool (smB D x t)):=by
 have hw:=wfQ D t
 have c0:=same_c hD hR hx ht hUl
 rw[Ty.av_eq,Ty.av_eq] at c0
 rw[Ty.av_eq]
 refine HC.intro hw rfl Tryd.func36 rfl isf36 (by simp[Tryd.f36]) fun E Q hE hN hQ=>K_start ?_
 repeat'(first|apply nx|refine zx ?_|rw[zw]|((first|refine hK _ ?_|refine hKp _ _ ?_);clear hK hKp K Kp;try clear hanc anc)|((with_reducible refine And.intro ?_ ?_);exact zb)|((first|refine zr hE fun K Kp hK hKp=>?_|refine zd true mixed hE fun K Kp hK hKp anc hanc=>?_|refine zd false mixed hE fun K Kp hK hKp anc hanc=>?_|(apply zm;exact zu;exact c0;exact zs;exact zl));simp only[go_sem,objQ_0,objQ_1])|(refine zg (fun hg=>?_) (fun hg=>?_)<;>simp only[go_sem,objQ_0,objQ_1,hg])|(refine zc (fun hc=>?_) (fun hc=>?_)<;>try exact zh hc))
 exact K_ret (hQ _ (by simp only[go_sem];rfl) (fun id ob h=>by have:=hw.lt h;simp only[updo];rw[if_neg (by omega)];exact h)).1
noncomputable def clAt (D:List Dd) (l:List Ty) (i:Nat) (t:Ty):Int:=if 0≤fidx (fun x=>smB D x t) (l.take i) 0 then fidx (fun x=>smB D x t) (l.take i) 0 else(i:Int)
noncomputable def clsL (D:List Dd) (l:List Ty):List Int:=l.mapIdx fun i t=>clAt D l i t
theorem clsL_get {D:List Dd} {l:List Ty} {i:Nat} {t:Ty} (h:l[i]? =some t):(clsL D l)[i]? =some (clAt D l i t):=by simp[clsL,h]
theorem clsL_len (D:List Dd) (l:List Ty):(clsL D l).length=l.length:=by simp[clsL]
theorem avL_take:∀ (l:List Ty) (i:Nat),(Ty.avL l).take i=Ty.avL (l.take i)
 | [],i=>by simp[Ty.avL]
 |t::l,0=>by simp[Ty.avL]
 |t::l,i+1=>by rw[Ty.avL,List.take_succ_cons,List.take_succ_cons,Ty.avL,avL_take l i]
theorem szok_avL:∀ (l:List Ty),SzOk (Ty.avL l) 3
 | [],x,h=>by simp[Ty.avL] at h
 |t::l,x,h=>by
  rw[Ty.avL] at h
  rcases List.mem_cons.1 h with rfl|h
  ·rw[Ty.av_eq];rfl
  ·exact szok_avL l x h
theorem classes_c {D:List Dd} (hD:DB D) (hR:DR D) {l:List Ty} (hl:l.length≤2 ^ 30) (hls:∀ t,t∈l→t.sz≤2 ^ 30) (hUl:∀ x t,x∈l→t∈l→(uni D [x,t]).length≤2 ^ 30):PCall Tryd.prog 12 [.sl (ddl D),.sl (Ty.avL l)] (.sl (il (clsL D l))):=by
 refine PCall.intro Tryd.func12 rfl isf12 (by simp[Tryd.f12]) (by simp[AV.cloL,AV.clo]) fun E Q hE hN hQ=>K_start ?_
 repeat'(first|apply nx|refine zx ?_|rw[zw]|((first|refine hK _ ?_|refine hKp _ _ ?_);clear hK hKp K Kp;try clear hanc anc)|((with_reducible refine And.intro ?_ ?_);exact zb)|((first|refine zr hE fun K Kp hK hKp=>?_|refine zd true mixed hE fun K Kp hK hKp anc hanc=>?_|refine zd false mixed hE fun K Kp hK hKp anc hanc=>?_);simp only[go_sem])|(refine zg (fun hg=>?_) (fun hg=>?_)<;>simp only[go_sem,hg])|(refine zc (fun hc=>?_) (fun hc=>?_)<;>try exact zh hc))
 refine K_loop (X:=Nat) (fun i=>i≤l.length) (fun i=>mkSt [(1,.sl (Ty.avL l)),(2,.ptr 0 0),(5,.rw 1),(12,.sl (Ty.avL l)),(13,.i l.length),(14,.i (i:Nat))] [(0,.cells [.sl (ddl D)]),(1,.row 1 (il (upto (clsL D l) (List.replicate l.length 0) i)))] 2) (fun i=>l.length - i) 0 (Nat.zero_le _) (fun i=>if i=1 then 4194304 else i) ?_ ?_
 ·refine ent_mk (by simp[go_sem]) ?_ (by simp) (by simp[hN])
  simp[go_sem,upto_zero]
 intro i hi
 have hlen:(clsL D l).length=(List.replicate l.length (0:Int)).length:=by rw[clsL_len];simp
 have hup:=upto_len hlen i
 rw[clsL_len] at hup
 by_cases hlt:i<l.length
 ·obtain⟨t,ht⟩:=get?_of hlt
  have htm:=List.mem_of_getElem? ht
  have u1:=inc_u hlt (by omega)
  have hal:i<(upto (clsL D l) (List.replicate l.length 0) i).length:=by omega
  have hg0:(upto (clsL D l) (List.replicate l.length 0) i)[i]? =some 0:=by rw[upto_get hlen];simp[hlt]
  have hst:=upto_set hlen (clsL_get (D:=D) ht)
  have c0:=idx35_hc (l.take i) 36 [.ptr 0 0,.ptr 1 0] (objQ D t) 2 (fun x=>smB D x t) (by simp[AV.idsL,AV.ids]) (wfQ D t) (by simp;omega) (fun x hx=>sameQ_hc hD hR (hls x (List.mem_of_mem_take hx)) (hls t htm) (hUl x t (List.mem_of_mem_take hx) htm))
  have hgl:0≤(i:Int)∧i≤l.length:=⟨by omega,hi⟩
  repeat'(first|apply nx|refine zx ?_|rw[zw]|((first|refine hK _ ?_|refine hKp _ _ ?_);clear hK hKp K Kp;try clear hanc anc)|((with_reducible refine And.intro ?_ ?_);exact zb)|((first|refine zr hE fun K Kp hK hKp=>?_|refine zd true mixed hE fun K Kp hK hKp anc hanc=>?_|refine zd false mixed hE fun K Kp hK hKp anc hanc=>?_);simp only[go_sem,lt_dec hlt,ht,Ty.av_eq,lt_dec hal,hg0,avL_take])|(refine zg (fun hg=>?_) (fun hg=>?_)<;>simp only[go_sem,lt_dec hlt,ht,Ty.av_eq,lt_dec hal,hg0,avL_take,hg])|(refine zc (fun hc=>?_) (fun hc=>?_)<;>try exact zh hc))
  refine⟨⟨⟨by omega,hi⟩,szok_avL l⟩,?_⟩
  repeat'(first|apply nx|refine zx ?_|rw[zw]|((first|refine hK _ ?_|refine hKp _ _ ?_);clear hK hKp K Kp;try clear hanc anc)|((with_reducible refine And.intro ?_ ?_);exact zb)|((first|refine zr hE fun K Kp hK hKp=>?_|refine zd true mixed hE fun K Kp hK hKp anc hanc=>?_|refine zd false mixed hE fun K Kp hK hKp anc hanc=>?_);simp only[go_sem,avL_take])|(refine zg (fun hg=>?_) (fun hg=>?_)<;>simp only[go_sem,avL_take,hg])|(refine zc (fun hc=>?_) (fun hc=>?_)<;>try exact zh hc))
  refine Hold.mk (HC.use c0 (fun i=>if i=1 then 4194306 else i) (by simp[AV.renL,AV.ren,go_sem]) (by simp[go_sem,AV.idsL,AV.ids]) (fun id ob h=>?_) (fun a b ha hb e=>by split at e<;>split at e<;>omega) ?_)
  ·revert id ob
   exact mkHp_allP (p:=fun id ob=>updo _ _ _ (if id=1 then 4194306 else id)=some (ob.ren _)) (by simp[updo,AObj.ren,AV.renL,AV.ren,go_sem])
  rintro hpn hold
  have b0:=hold 0 (.cells [.sl (ddl D)]) (by simp[updo])
  have b1:=hold 1 (.row 1 (il ((upto (clsL D l) (List.replicate l.length 0) i).set i (i:Int)))) (by simp[updo])
  clear hold
  have hul:=upto_len hlen i
  have hset:∀ x:Int,((upto (clsL D l) (List.replicate l.length 0) i).set i (i:Int)).set i x=(upto (clsL D l) (List.replicate l.length 0) i).set i x:=fun x=>by rw[List.set_set]
  have hal2:i<((upto (clsL D l) (List.replicate l.length 0) i).set i (i:Int)).length:=by rw[List.length_set];exact hal
  have hg2:((upto (clsL D l) (List.replicate l.length 0) i).set i (i:Int))[i]? =some (i:Int):=by simp[hal]
  rw[clAt] at hst
  generalize fidx (fun x=>smB D x t) (l.take i) 0=k at*
  simp only[go_sem,putf]
  refine hK _ ?_
  clear hK hKp K Kp
  repeat apply nx
  refine AW.ent (σ':=mkSt [(1,.sl (Ty.avL l)),(2,.ptr 0 0),(5,.rw 1),(6,.i (i:Nat)),(8,.i k),(12,.sl (Ty.avL l)),(13,.i l.length),(14,.i (i:Nat))] [(0,.cells [.sl (ddl D)]),(1,.row 1 (il ((upto (clsL D l) (List.replicate l.length 0) i).set i (i:Int))))] 2) (fun i=>i) ?_ ?_
  ·refine ent_mk (by simp[go_sem]) ?_ (by simp) (by simp[hN])
   simp[go_sem,b0,b1]
  by_cases hk:0≤k
  ·rw[if_pos hk] at hst
   have q:decide (0≤k)=true:=decide_eq_true hk
   repeat'(first|apply nx|refine zx ?_|rw[zw]|((first|refine hK _ ?_|refine hKp _ _ ?_);clear hK hKp K Kp;try clear hanc anc)|((with_reducible refine And.intro ?_ ?_);exact zb)|((first|refine zr hE fun K Kp hK hKp=>?_|refine zd true mixed hE fun K Kp hK hKp anc hanc=>?_|refine zd false mixed hE fun K Kp hK hKp anc hanc=>?_);simp only[go_sem,q,lt_dec hal2,hg2,hset,hst,u1])|(refine zg (fun hg=>?_) (fun hg=>?_)<;>simp only[go_sem,q,lt_dec hal2,hg2,hset,hst,u1,hg])|(refine zc (fun hc=>?_) (fun hc=>?_)<;>try exact zh hc))
   refine⟨i+1,hlt,by omega,fun j=>j,?_⟩
   refine ent_mk (by simp[go_sem]) ?_ (by simp) (by simp[hN])
   simp[go_sem]
  ·rw[if_neg hk] at hst
   have q:decide (0≤k)=false:=decide_eq_false hk
   rw[hst]
   repeat'(first|apply nx|refine zx ?_|rw[zw]|((first|refine hK _ ?_|refine hKp _ _ ?_);clear hK hKp K Kp;try clear hanc anc)|((with_reducible refine And.intro ?_ ?_);exact zb)|((first|refine zr hE fun K Kp hK hKp=>?_|refine zd true mixed hE fun K Kp hK hKp anc hanc=>?_|refine zd false mixed hE fun K Kp hK hKp anc hanc=>?_);simp only[go_sem,q,u1])|(refine zg (fun hg=>?_) (fun hg=>?_)<;>simp only[go_sem,q,u1,hg])|(refine zc (fun hc=>?_) (fun hc=>?_)<;>try exact zh hc))
   refine⟨i+1,hlt,by omega,fun j=>j,?_⟩
   refine ent_mk (by simp[go_sem]) ?_ (by simp) (by simp[hN])
   simp[go_sem]
 obtain rfl:i=l.length:=by omega
 have hall:upto (clsL D l) (List.replicate l.length 0) l.length=clsL D l:=by
  have h:=upto_all hlen
  rw[clsL_len] at h
  exact h
 rw[hall]
 repeat'(first|apply nx|refine zx ?_|rw[zw]|((first|refine hK _ ?_|refine hKp _ _ ?_);clear hK hKp K Kp;try clear hanc anc)|((with_reducible refine And.intro ?_ ?_);exact zb)|((first|refine zr hE fun K Kp hK hKp=>?_|refine zd false mixed hE fun K Kp hK hKp anc hanc=>?_);simp only[go_sem,ge_dec])|(refine zg (fun hg=>?_) (fun hg=>?_)<;>simp only[go_sem,ge_dec,hg])|(refine zc (fun hc=>?_) (fun hc=>?_)<;>try exact zh hc)|(refine K_ret ?_;refine zt hQ ?_))
 simp[AV.snap,AV.snapOk,updo,AV.clo,go_sem]
end Go.Proofs.YtfpcjabbcpgbjaaDoor

namespace Go.Gl
open Go Go.Am Go.Hv
def esN:Nat→List Nat→List (AV×AV)
 |_,[]=>[]
 |k,x::l=>(.i (x:Nat),.i (k:Nat))::esN (k+1) l
@[go_sem] theorem esN_len:∀ (k:Nat) (l:List Nat),(esN k l).length=l.length
 |_,[]=>rfl
 |k,_::l=>by rw[esN,List.length_cons,esN_len (k+1) l,List.length_cons]
theorem esN_app:∀ (k:Nat) (l:List Nat) (x:Nat),esN k (l++[x])=esN k l++[(.i (x:Nat),.i ((k+l.length:Nat):Int))]
 |k,[],x=>by simp[esN]
 |k,y::l,x=>by
  rw[List.cons_append,esN,esN,esN_app (k+1) l x,List.length_cons,show k+1+l.length=k+(l.length+1) by omega];rfl
theorem esN_in (x:Nat):∀ (k:Nat) (l:List Nat),x∈l→findE .i64 (x:Int) (esN k l)=some (some (.i ((k+l.idxOf x:Nat):Int)))
 |k,[],h=>by cases h
 |k,y::l,h=>by
  rw[esN,findE,if_pos rfl]
  by_cases e:x=y
  ·subst e
   rw[if_pos rfl];simp
  ·rw[if_neg (by omega)]
   have hm:x∈l:=by
    rcases List.mem_cons.1 h with h|h
    ·exact absurd h e
    ·exact h
   rw[esN_in x (k+1) l hm,List.idxOf_cons]
   have hb:(y==x)=false:=by simp;omega
   rw[hb]
   simp only[cond_false]
   rw[show k+1+List.idxOf x l=k+(List.idxOf x l+1) by omega]
theorem esN_out (x:Nat):∀ (k:Nat) (l:List Nat),x∉l→findE .i64 (x:Int) (esN k l)=some none
 |k,[],h=>by rw[esN,findE]
 |k,y::l,h=>by
  rw[esN,findE,if_pos rfl,if_neg (fun e=>h (by simp;left;omega)),esN_out x (k+1) l (fun hm=>h (by simp[hm]))]
theorem esN_clo:∀ (k:Nat) (l:List Nat),EsClo (esN k l)
 |_,[]=>EsClo.nil
 |k,n::s=>by
  intro p hp
  rw[esN] at hp
  rcases List.mem_cons.1 hp with rfl|hp
  ·exact⟨rfl,rfl⟩
  ·exact esN_clo (k+1) s p hp
theorem stepsC_snoc (cls : Nat → Nat) (c : Nat) : ∀ (l o : List Nat), stepsC cls (l ++ [c]) o =
    (if cls c∈(stepsC cls l o).1.map cls then(stepsC cls l o).1 else(stepsC cls l o).1++[c],(stepsC cls l o).2++[((if cls c∈(stepsC cls l o).1.map cls then(stepsC cls l o).1 else(stepsC cls l o).1++[c]).map cls).idxOf (cls c)])
  | [],o=>by simp[stepsC]
  |d::l,o=>by
    rw[List.cons_append,stepsC,stepsC_snoc cls c l]
    simp only[stepsC]
    rfl
noncomputable def clC (D:List Dd) (s:List Nd):Nat→Nat:=open Classical in if h:∃ cls,ClsOk D s cls then Classical.choose h else fun _=>0
theorem clC_ok {D:List Dd} {s:List Nd} {cls:Nat→Nat} (h:ClsOk D s cls):ClsOk D s (clC D s):=by
 unfold clC
 rw[dif_pos ⟨cls,h⟩]
 exact Classical.choose_spec (⟨cls,h⟩:∃ cls,ClsOk D s cls)
theorem cutL_step (n:Nat) (r:List Nat) (l:List Int):cutL (n::r) l=(n:Int)::(l.take n)++cutL r (l.drop n):=by rw[cutL];rfl
end Go.Gl

set_option maxHeartbeats 4000000
set_option maxRecDepth 100000
namespace Go.Gl
open Go Go.Am Go.Hv
def nds (D:List Dd) (t:Ty):List Nd:=addA D ((uni D [t]).length+1) [t]
def rtN (D:List Dd) (t:Ty):Nat:=(idx (nds D t) t).getD 0
noncomputable def shpL (D:List Dd) (t:Ty):List Int:=outS D (nds D t) (shS (nds D t) (clC D (nds D t)) (rtN D t) (nds D t).length).2
theorem stepsC_le (cls:Nat→Nat):∀ (l o:List Nat),(stepsC cls l o).1.length≤o.length+l.length
 | [],o=>by simp[stepsC]
 |c::l,o=>by
  rw[stepsC]
  have h:=stepsC_le cls l (if cls c∈o.map cls then o else o++[c])
  refine Nat.le_trans h ?_
  split<;>simp<;>omega
def DS (D:List Dd):Prop:=∀ x,x∈D→x.vs.length≤2 ^ 20∧(x.vs.flatMap Dv.fs).length≤2 ^ 20
theorem kids_len2 {D:List Dd} (hS:DS D) {t:Ty} (ht:Pl D t):(kids D t).length≤2 ^ 20:=by
 by_cases h2:t.kind=2
 ·obtain⟨x,hx⟩:=vsO_data ht h2
  unfold kids
  rw[hx]
  exact(hS x (List.mem_of_getElem? (vsO_kind hx).2)).2
 ·by_cases h3:t.kind=3
  ·obtain⟨a,e,ha⟩:=pl_box ht h3
   rw[kids_box h3 e];simp
  ·rw[kids_other h2 h3];simp
theorem cutL_len:∀ (a:List Nat) (l:List Int),(cutL a l).length≤a.length+l.length
 | [],l=>by simp[cutL]
 |n::a,l=>by
  rw[cutL_step]
  have h:=cutL_len a (l.drop n)
  simp only[List.length_append,List.length_cons,List.length_take,List.length_drop,List.cons_append] at h ⊢
  omega
theorem cutL_leq:∀ {a:List Nat} {l:List Int},l.length=a.sum→(cutL a l).length=a.length+l.length
 | [],l,h=>by simp at h;simp[cutL,h]
 |n::a,l,h=>by
  rw[List.sum_cons] at h
  rw[cutL_step]
  have h2:=cutL_leq (a:=a) (l:=l.drop n) (by rw[List.length_drop];omega)
  simp only[List.length_append,List.length_cons,List.length_take,List.length_drop,List.cons_append] at h2 ⊢
  omega
theorem blk_len {D:List Dd} (hS:DS D) (t:Ty) {l:List Int} (hl:l.length≤2 ^ 20):(blk D t l).length≤4194304:=by
 unfold blk
 split
 ·rename_i x hx
  have h1:=cutL_len (x.vs.map fun v=>v.fs.length) l
  have h2:=(hS x (List.mem_of_getElem? (vsO_kind hx).2)).1
  simp only[List.length_append,List.length_cons,List.length_nil,List.length_map] at h1 ⊢
  omega
 ·simp only[List.length_cons];omega
theorem out_len {D:List Dd} (hS:DS D) {s:List Nd} (hG:Gr D s) (cls:Nat→Nat) {root:Nat} (hr:root<s.length):∀ k,(outS D s (shS s cls root k).2).length≤k*4194304
 |0=>by simp[shS,outS]
 |k+1=>by
  have ih:=out_len hS hG cls hr k
  have hI:=shS_ok (cls:=cls) hG hr k
  rw[shS]
  split
  ·rename_i j hj
   have hjs:=hI.lt j (List.mem_of_getElem? hj)
   obtain⟨a,ha⟩:=get?_of hjs
   obtain⟨a',ha',hchl,_⟩:=hG.ok j hjs
   rw[ha] at ha'
   cases ha'
   have hkl:=kids_len2 hS (hG.pl a (List.mem_of_getElem? ha))
   have hn:=(stepsC_num cls (chO s j) (shS s cls root k).1).1
   rw[chO_of ha] at hn
   simp only[outS,List.flatMap_append,List.length_append,List.flatMap_cons,List.flatMap_nil,List.append_nil] at ih ⊢
   have hb:=blk_len hS (tyO s j) (l:=nI (stepsC cls (chO s j) (shS s cls root k).1).2) (by simp only[nI,List.length_map];rw[chO_of ha];omega)
   rw[Nat.add_mul,Nat.one_mul]
   exact Nat.add_le_add ih hb
  ·exact Nat.le_trans ih (Nat.mul_le_mul_right _ (Nat.le_succ k))
end Go.Gl
namespace Go.Proofs.YtfpcjabbcpgbjaaDoor
open Go.Am Go.Proofs Go.Hv Go.Gl
open Classical
attribute [local irreducible] AW CallP CallB CallY
theorem szok_il (l:List Int):SzOk (il l) 1:=fun y hy=>by
 obtain⟨n,_,rfl⟩:=List.mem_map.1 hy
 rfl
noncomputable def shp (D:List Dd) (t:Ty):List Int:=if dtF D&&plB D t 8 then shpL D t else []
theorem shape_c {D:List Dd} (hD:DB D) (hR:DR D) (hS:DS D) {t:Ty} (hts:t.sz≤2 ^ 30) (hU2:(uni D [t]).length≤2 ^ 21):PCall Tryd.prog 9 [.sl (ddl D),t.av] (.sl (il (shp D t))):=by
 have hUl:(uni D [t]).length≤2 ^ 30:=by omega
 have c1:=datas_c hD
 rw[show(decide (D.length≤200)&&dtB D)=dtF D from rfl] at c1
 have c2:=plain_c (2 ^ 30) t D 8 hts (by have:=hD.l;omega) (by decide) (by decide)
 rw[Ty.av_eq] at c2 ⊢
 cases hd:dtF D
 ·rw[hd] at c1
  have e:shp D t=[]:=by simp[shp,hd]
  rw[e]
  refine PCall.intro Tryd.func9 rfl isf9 (by simp[Tryd.f9]) (by simp[AV.cloL,AV.clo]) fun E Q hE hN hQ=>K_start ?_
  repeat'(first|apply nx|refine zx ?_|rw[zw]|((first|refine hK _ ?_|refine hKp _ _ ?_);clear hK hKp K Kp;try clear hanc anc)|((with_reducible refine And.intro ?_ ?_);exact zb)|((first|refine zr hE fun K Kp hK hKp=>?_|refine zd false mixed hE fun K Kp hK hKp anc hanc=>?_|(apply zm;exact zu;(first|exact c1|exact c2);exact zs;exact zl));simp only[go_sem])|(refine zg (fun hg=>?_) (fun hg=>?_)<;>simp only[go_sem,hg])|(refine zc (fun hc=>?_) (fun hc=>?_)<;>try exact zh hc)|(refine K_ret ?_;refine zt hQ ?_))
  simp[AV.snap,il]
 cases hpa:plB D t 8
 ·rw[hd] at c1
  rw[hpa] at c2
  have e:shp D t=[]:=by simp[shp,hpa]
  rw[e]
  refine PCall.intro Tryd.func9 rfl isf9 (by simp[Tryd.f9]) (by simp[AV.cloL,AV.clo]) fun E Q hE hN hQ=>K_start ?_
  repeat'(first|apply nx|refine zx ?_|rw[zw]|((first|refine hK _ ?_|refine hKp _ _ ?_);clear hK hKp K Kp;try clear hanc anc)|((with_reducible refine And.intro ?_ ?_);exact zb)|((first|refine zr hE fun K Kp hK hKp=>?_|refine zd false mixed hE fun K Kp hK hKp anc hanc=>?_|(apply zm;exact zu;(first|exact c1|exact c2);exact zs;exact zl));simp only[go_sem])|(refine zg (fun hg=>?_) (fun hg=>?_)<;>simp only[go_sem,hg])|(refine zc (fun hc=>?_) (fun hc=>?_)<;>try exact zh hc)|(refine K_ret ?_;refine zt hQ ?_))
  simp[AV.snap,il]
 rw[hd] at c1
 rw[hpa] at c2
 have hdt:dtB D=true:=by simp only[dtF,Bool.and_eq_true] at hd;exact hd.2
 have hl:∀ u,u∈ [t]→Pl D u:=fun u hu=>by
  simp only[List.mem_cons,List.not_mem_nil,or_false] at hu
  subst hu
  exact⟨8,hpa⟩
 have hls:∀ u,u∈ [t]→u.sz≤2 ^ 30:=fun u hu=>by
  simp only[List.mem_cons,List.not_mem_nil,or_false] at hu
  subst hu
  exact hts
 have hf:(uni D [t]).length<(uni D [t]).length+1:=Nat.lt_succ_self _
 obtain⟨hG,hin,_⟩:=addA_ok hdt hl hf
 obtain⟨i,hi⟩:=hin t (by simp)
 have e:shp D t=shpL D t:=by simp[shp,hd,hpa]
 rw[e]
 have havl:Ty.avL [t]=[.agg [.i t.kind,.i t.id,.sl (Ty.avL t.args)]]:=by simp[Ty.avL,Ty.av_eq]
 have hkey:=key_c hD.l (2 ^ 30) t hts (by decide) ⟨8,hpa⟩
 refine PCall.intro Tryd.func9 rfl isf9 (by simp[Tryd.f9]) (by simp[AV.cloL,AV.clo]) fun E Q hE hN hQ=>K_start ?_
 repeat'(first|apply nx|refine zx ?_|rw[zw]|((first|refine hK _ ?_|refine hKp _ _ ?_);clear hK hKp K Kp;try clear hanc anc)|((with_reducible refine And.intro ?_ ?_);exact zb)|((first|refine zr hE fun K Kp hK hKp=>?_|refine zd true mixed hE fun K Kp hK hKp anc hanc=>?_|refine zd false mixed hE fun K Kp hK hKp anc hanc=>?_|(apply zm;exact zu;(first|exact c1|exact c2);exact zs;exact zl));simp only[go_sem])|(refine zg (fun hg=>?_) (fun hg=>?_)<;>simp only[go_sem,hg])|(refine zc (fun hc=>?_) (fun hc=>?_)<;>try exact zh hc))
 refine Hold.mk (CallB.dfrL [13631488] 8 (us':=[.sl (ddl D),.sl (Ty.avL [t])]) (by simp only[go_sem,List.mem_cons,List.not_mem_nil,or_false,havl]) (by simp[go_sem]) ?_)
 dsimp only
 refine of_use hD hR hdt hl hls (by simp) hUl hf 14680064 rfl fun n hpn hn b0 b1 b2 hold=>?_
 simp only[Nat.reduceAdd] at b0 b1 b2
 have b3:=hold 0 (.cells [.i t.kind,.i t.id,.sl (Ty.avL t.args)]) (by simp[notIn,updo])
 clear hold
 have hcl:=clsN_len D (addA D ((uni D [t]).length+1) [t]) (n+2)
 have hcb:=cls_bd D (addA D ((uni D [t]).length+1) [t]) (n+2)
 have hok:ClsOk D (addA D ((uni D [t]).length+1) [t]) (fun j=>(clsN D (addA D ((uni D [t]).length+1) [t]) (n+2)).getD j 0):=fun i j a b ha hb=>stable hdt hG hn ha hb
 have hsl:(addA D ((uni D [t]).length+1) [t]).length≤2 ^ 21:=by
  have h:=(addA_pre hdt hl hf 1).1
  rw[List.take_of_length_le (by simp)] at h
  have:=nodes_len h.nd h.un
  omega
 have hsh:outS D (addA D ((uni D [t]).length+1) [t]) (shS (addA D ((uni D [t]).length+1) [t]) (fun j=>(clsN D (addA D ((uni D [t]).length+1) [t]) (n+2)).getD j 0) i (addA D ((uni D [t]).length+1) [t]).length).2=shpL D t:=by
  have hrt:rtN D t=i:=by unfold rtN nds;rw[hi];rfl
  unfold shpL
  rw[hrt]
  obtain⟨a,ha,_⟩:=idx_some hi
  exact(sh_rl hdt hdt hG hG hok (clC_ok hok) ⟨a,a,ha,ha,bis_refl D _⟩ _).2
 rw[← hsh] at hQ
 obtain⟨n1,e1,_⟩:=idx_some hi
 have l1:=(List.getElem?_eq_some_iff.1 e1).1
 have hfi:=esF_find t 0 (addA D ((uni D [t]).length+1) [t])
 rw[hi] at hfi
 simp only[Option.map_some,Nat.zero_add] at hfi
 obtain⟨ci,hci⟩:=get?_of (show i<(clsN D (addA D ((uni D [t]).length+1) [t]) (n+2)).length by omega)
 have h1:=class_hc hD hcl ⟨8,hpa⟩ hts hi hci
 rw[Ty.av_eq] at h1 hkey
 clear hUl hU2 hl hls hin hi c1 c2 havl hsh hn e hf hd
 generalize clsN D (addA D ((uni D [t]).length+1) [t]) (n+2)=C at*
 generalize addA D ((uni D [t]).length+1) [t]=s at*
 simp only[go_sem,putf]
 refine hK _ ?_
 clear hK hKp K Kp
 repeat apply nx
 have he:=esF_clo 0 s
 have hRc:=nrow_clo D s C
 refine AW.ent (σ':=mkSt [(0,.sl (ddl D)),(3,.ptr 3 0),(5,.ptr 0 0)] [(0,.cells [.sl (ddl D),.rw 2,.mp 1]),(1,.map (esF 0 s)),(2,.row 6 (nrow D s C)),(3,.cells [.i t.kind,.i t.id,.sl (Ty.avL t.args)])] 4) (fun i=>if i=0 then 14680064 else if i=1 then 14680065 else if i=2 then 14680066 else if i=3 then 0 else i) ?_ ?_
 ·refine ent_mk (by simp[go_sem]) ?_ (by simp) (by simp[hN])
  simp[go_sem,b0,b1,b2,b3,he.ren]
  exact he.ids2 _
 clear b0 b1 b2 b3
 repeat'(first|apply nx|refine zx ?_|rw[zw]|((first|refine hK _ ?_|refine hKp _ _ ?_);clear hK hKp K Kp;try clear hanc anc)|((with_reducible refine And.intro ?_ ?_);exact zb)|((first|refine zr hE fun K Kp hK hKp=>?_|refine zd true mixed hE fun K Kp hK hKp anc hanc=>?_|refine zd false mixed hE fun K Kp hK hKp anc hanc=>?_);simp only[go_sem])|(refine zg (fun hg=>?_) (fun hg=>?_)<;>simp only[go_sem,hg])|(refine zc (fun hc=>?_) (fun hc=>?_)<;>try exact zh hc))
 refine Hold.mk (HC.use h1 (fun i=>i) (by rw[renL_id]) (by simp[go_sem,AV.idsL,AV.ids]) (fun id ob h=>by rw[oren_id];exact keepG (by simp[updo]) (by simp[updo]) (by simp[updo]) id ob h) (fun _ _ _ _ e=>e) ?_)
 rintro hpn2 hold
 have b0:=hold 0 (.cells [.sl (ddl D),.rw 2,.mp 1]) (by simp[updo])
 have b1:=hold 1 (.map (esF 0 s)) (by simp[updo])
 have b2:=hold 2 (.row 6 (nrow D s C)) (by simp[updo])
 have b3:=hold 3 (.cells [.i t.kind,.i t.id,.sl (Ty.avL t.args)]) (by simp[updo])
 have b4:=hold 4 (.map []) (by simp[updo])
 clear hold
 have hf0:findE .i64 (ci:Int) []=some none:=by rw[findE]
 simp only[go_sem,putf,b4,hf0]
 refine hK _ ?_
 clear hK hKp K Kp
 repeat apply nx
 refine AW.ent (σ':=mkSt [(0,.sl (ddl D)),(3,.ptr 3 0),(5,.ptr 0 0),(6,.mp 4)] [(0,.cells [.sl (ddl D),.rw 2,.mp 1]),(1,.map (esF 0 s)),(2,.row 6 (nrow D s C)),(3,.cells [.i t.kind,.i t.id,.sl (Ty.avL t.args)]),(4,.map (esN 0 [ci]))] 5) (fun i=>i) ?_ ?_
 ·refine ent_mk (by simp[go_sem]) ?_ (by simp) (by simp[hN])
  simp[go_sem,b0,b1,b2,b3,updo,he.ren,esN]
  exact he.ids2 _
 clear b0 b1 b2 b3 b4 hpn hpn2
 repeat'(first|apply nx|refine zx ?_|rw[zw]|((first|refine hK _ ?_|refine hKp _ _ ?_);clear hK hKp K Kp;try clear hanc anc)|((with_reducible refine And.intro ?_ ?_);exact zb)|((first|refine zr hE fun K Kp hK hKp=>?_|refine zd true mixed hE fun K Kp hK hKp anc hanc=>?_|refine zd false mixed hE fun K Kp hK hKp anc hanc=>?_|(apply zm;exact zu;exact hkey;exact zs;exact zl));simp only[go_sem,hfi])|(refine zg (fun hg=>?_) (fun hg=>?_)<;>simp only[go_sem,hfi,hg])|(refine zc (fun hc=>?_) (fun hc=>?_)<;>try exact zh hc))
 refine AW_nil 8 1 (by rw[hE];decide) (by simp only[go_sem]) ?_
 dsimp only
 simp only[Nat.reduceAdd]
 have hcls:(fun j=>C.getD j 0) i=ci:=by show C.getD i 0=ci;rw[List.getD_eq_getElem?_getD,hci];rfl
 generalize hCL:(fun j=>C.getD j 0)=cls at*
 refine K_loop (X:=Nat) (fun k=>k≤s.length) (fun k=>mkSt [(0,.sl (ddl D)),(5,.ptr 0 0),(6,.mp 3),(7,.rw 4),(8,.rw 5),(9,.i (k:Nat))] [(0,.cells [.sl (ddl D),.rw 2,.mp 1]),(1,.map (esF 0 s)),(2,.row 6 (nrow D s C)),(3,.map (esN 0 ((shS s cls i k).1.map cls))),(4,.row 1 (il (nI (shS s cls i k).1))),(5,.row 1 (il (outS D s (shS s cls i k).2)))] 6) (fun k=>s.length - k) 0 (Nat.zero_le _) (fun i=>if i=3 then 4 else if i=4 then 7340037 else if i=5 then 11534341 else i) ?_ ?_
 ·refine ent_mk (by simp[go_sem]) ?_ (by simp) (by simp[hN])
  simp[go_sem,updo,he.ren,shS,esN,hcls,nI,outS]
  exact⟨he.ids2 _,rfl⟩
 intro k hk
 have hI:=shS_ok (cls:=cls) hG l1 k
 have hzl:=shI_len hI
 have hol:=out_len hS hG cls l1 k
 have hkl2:(outS D s (shS s cls i k).2).length≤2 ^ 43:=Nat.le_trans hol (by omega)
 have hen:=esN_clo 0 ((shS s cls i k).1.map cls)
 have hnl:(nI (shS s cls i k).1).length=(shS s cls i k).1.length:=by simp[nI]
 by_cases hkt:k<(shS s cls i k).1.length
 case neg=>
  have hend:=shS_end (s:=s) (cls:=cls) (root:=i) (k:=k) (by omega) (s.length - k)
  rw[show k+(s.length - k)=s.length by omega] at hend
  rw[hend] at hQ
  have q:decide ((k:Int)<((shS s cls i k).1.length:Int))=false:=decide_eq_false (by omega)
  repeat'(first|apply nx|refine zx ?_|rw[zw]|((first|refine hK _ ?_|refine hKp _ _ ?_);clear hK hKp K Kp;try clear hanc anc)|((with_reducible refine And.intro ?_ ?_);exact zb)|((first|refine zr hE fun K Kp hK hKp=>?_|refine zd false mixed hE fun K Kp hK hKp anc hanc=>?_);simp only[go_sem,hnl,q])|(refine zg (fun hg=>?_) (fun hg=>?_)<;>simp only[go_sem,hnl,q,hg])|(refine zc (fun hc=>?_) (fun hc=>?_)<;>try exact zh hc)|(refine K_ret ?_;refine zt hQ ?_))
  simp[AV.snap,AV.snapOk,updo,AV.clo,go_sem]
 obtain⟨j,hj⟩:=get?_of hkt
 have q:decide ((k:Int)<((shS s cls i k).1.length:Int))=true:=decide_eq_true (by omega)
 have hjs:=hI.lt j (List.mem_of_getElem? hj)
 obtain⟨a,ha⟩:=get?_of hjs
 obtain⟨cj,hcj⟩:=get?_of (show j<C.length by omega)
 have hrow:=nrow_get (D:=D) ha hcj
 simp only[ndv] at hrow
 have hal:j<(nrow D s C).length:=by rw[nrow_len D s C hcl];exact hjs
 have hjn:(nI (shS s cls i k).1)[k]? =some (j:Int):=by simp[nI,hj]
 have hjl:k<(nI (shS s cls i k).1).length:=by omega
 have hap:=hG.pl a (List.mem_of_getElem? ha)
 obtain⟨a',ha',hchl,_⟩:=hG.ok j hjs
 rw[ha] at ha'
 cases ha'
 have hkl:=kids_len hD hap
 have hchn:(nI a.ch).length=a.ch.length:=by simp[nI]
 repeat'(first|apply nx|refine zx ?_|rw[zw]|((first|refine hK _ ?_|refine hKp _ _ ?_);clear hK hKp K Kp;try clear hanc anc)|((with_reducible refine And.intro ?_ ?_);exact zb)|((first|refine zr hE fun K Kp hK hKp=>?_|refine zd true mixed hE fun K Kp hK hKp anc hanc=>?_|refine zd false mixed hE fun K Kp hK hKp anc hanc=>?_);simp only[go_sem,hnl,q,hjn,lt_dec hjl,lt_dec hal,hrow,hchn])|(refine zg (fun hg=>?_) (fun hg=>?_)<;>simp only[go_sem,hnl,q,hjn,lt_dec hjl,lt_dec hal,hrow,hchn,hg])|(refine zc (fun hc=>?_) (fun hc=>?_)<;>try exact zh hc))
 refine AW_nil 11 1 (by rw[hE];decide) (by simp only[go_sem]) ?_
 dsimp only
 simp only[Nat.reduceAdd]
 have hstep:shS s cls i (k+1)=((stepsC cls a.ch (shS s cls i k).1).1,(shS s cls i k).2++[(j,(stepsC cls a.ch (shS s cls i k).1).2)]):=by rw[shS,hj];simp only[chO_of ha]
 generalize shS s cls i k=z at*
 obtain⟨o,lg⟩:=z
 simp only at*
 refine K_loop (X:=Nat) (fun q=>q≤a.ch.length) (fun q=>mkSt [(0,.sl (ddl D)),(5,.ptr 0 0),(6,.mp 3),(7,.rw 4),(8,.rw 5),(9,.i (k:Nat)),(10,.ptr 6 0),(11,.rw 7),(64,.sl (il (nI a.ch))),(65,.i a.ch.length),(66,.i (q:Nat))] [(0,.cells [.sl (ddl D),.rw 2,.mp 1]),(1,.map (esF 0 s)),(2,.row 6 (nrow D s C)),(3,.map (esN 0 ((stepsC cls (a.ch.take q) o).1.map cls))),(4,.row 1 (il (nI (stepsC cls (a.ch.take q) o).1))),(5,.row 1 (il (outS D s lg))),(6,.cells [.i a.t.kind,.i a.t.id,.sl (Ty.avL a.t.args),.str (tx (txL (lab D a.t))),.sl (il (nI a.ch)),.i (cj:Nat)]),(7,.row 1 (il (nI (stepsC cls (a.ch.take q) o).2)))] 8) (fun q=>a.ch.length - q) 0 (Nat.zero_le _) (fun i=>if i=6 then 14680070 else if i=7 then 22020102 else i) ?_ ?_
 ·refine ent_mk (by simp[go_sem]) ?_ (by simp) (by simp[hN])
  simp[go_sem,updo,he.ren,hen.ren,stepsC,nI]
  exact⟨he.ids2 _,hen.ids2 _⟩
 intro q2 hq2
 have hnI:∀ (l:List Nat) (x:Nat),nI (l++[x])=nI l++[(x:Int)]:=fun l x=>by simp[nI]
 have hen2:=esN_clo 0 ((stepsC cls (a.ch.take q2) o).1.map cls)
 have hsl2:=stepsC_le cls (a.ch.take q2) o
 have hsn2:=(stepsC_num cls (a.ch.take q2) o).1
 rw[List.length_take] at hsl2 hsn2
 by_cases hqt:q2<a.ch.length
 ·obtain⟨c,hcc⟩:=get?_of hqt
  obtain⟨b,hb⟩:=ch_lt hG ha hcc
  have hcs:=(List.getElem?_eq_some_iff.1 hb).1
  obtain⟨cc,hcv⟩:=get?_of (show c<C.length by omega)
  have hrow2:=nrow_get (D:=D) hb hcv
  simp only[ndv] at hrow2
  have hal2:c<(nrow D s C).length:=by rw[nrow_len D s C hcl];exact hcs
  have hmk:(nI a.ch)[q2]? =some (c:Int):=by simp[nI,hcc]
  have hml:q2<(nI a.ch).length:=by omega
  have hclc:cls c=cc:=by rw[← hCL];show C.getD c 0=cc;rw[List.getD_eq_getElem?_getD,hcv];rfl
  have hsn:=stepsC_snoc cls c (a.ch.take q2) o
  rw[show a.ch.take q2++[c]=a.ch.take (q2+1) by rw[List.take_add_one,hcc];rfl,hclc] at hsn
  have u1:=inc_u hqt (by omega)
  generalize stepsC cls (a.ch.take q2) o=w at*
  obtain⟨wo,wl⟩:=w
  simp only at*
  have hwl:(nI wl).length=wl.length:=by simp[nI]
  have hwo:(nI wo).length=wo.length:=by simp[nI]
  by_cases hm:cc∈wo.map cls
  ·have hfm:=esN_in cc 0 _ hm
   rw[Nat.zero_add] at hfm
   simp only[if_pos hm] at hsn
   repeat'(first|apply nx|refine zx ?_|rw[zw]|((first|refine hK _ ?_|refine hKp _ _ ?_);clear hK hKp K Kp;try clear hanc anc)|((with_reducible refine And.intro ?_ ?_);exact zb)|((first|refine zr hE fun K Kp hK hKp=>?_|refine zd true mixed hE fun K Kp hK hKp anc hanc=>?_|refine zd false mixed hE fun K Kp hK hKp anc hanc=>?_);simp only[go_sem,lt_dec hqt,hmk,lt_dec hml,lt_dec hal2,hrow2,hfm,u1])|(refine zg (fun hg=>?_) (fun hg=>?_)<;>simp only[go_sem,lt_dec hqt,hmk,lt_dec hml,lt_dec hal2,hrow2,hfm,u1,hg])|(refine zc (fun hc=>?_) (fun hc=>?_)<;>try exact zh hc))
   refine⟨q2+1,hqt,by omega,fun j=>if j=7 then 29360136 else j,?_⟩
   rw[hsn]
   refine ent_mk (by simp[go_sem]) ?_ (by simp) (by simp[hN])
   simp[go_sem,he.ren,hen2.ren,hnI]
   exact⟨he.ids2 _,hen2.ids2 _⟩
  ·have hfo:=esN_out cc 0 _ hm
   simp only[if_neg hm] at hsn
   have hea:=esN_app 0 (wo.map cls) cc
   rw[Nat.zero_add,List.length_map] at hea
   have hmap:(wo++[c]).map cls=wo.map cls++[cc]:=by simp[hclc]
   have hput:putE .i64 (cc:Int) (.i (wo.length:Nat)) (esN 0 (wo.map cls)) none=esN 0 (wo.map cls++[cc]):=by rw[hea];rfl
   have hfm:=esN_in cc 0 (wo.map cls++[cc]) (by simp)
   rw[Nat.zero_add] at hfm
   rw[hmap] at hsn
   repeat'(first|apply nx|refine zx ?_|rw[zw]|((first|refine hK _ ?_|refine hKp _ _ ?_);clear hK hKp K Kp;try clear hanc anc)|((with_reducible refine And.intro ?_ ?_);exact zb)|((first|refine zr hE fun K Kp hK hKp=>?_|refine zd true mixed hE fun K Kp hK hKp anc hanc=>?_|refine zd false mixed hE fun K Kp hK hKp anc hanc=>?_);simp only[go_sem,lt_dec hqt,hmk,lt_dec hml,lt_dec hal2,hrow2,hfo,hput,hfm,List.length_map,u1])|(refine zg (fun hg=>?_) (fun hg=>?_)<;>simp only[go_sem,lt_dec hqt,hmk,lt_dec hml,lt_dec hal2,hrow2,hfo,hput,hfm,List.length_map,u1,hg])|(refine zc (fun hc=>?_) (fun hc=>?_)<;>try exact zh hc))
   have hen3:=esN_clo 0 (wo.map cls++[cc])
   refine⟨q2+1,hqt,by omega,fun j=>if j=4 then 32505864 else if j=7 then 39845896 else j,?_⟩
   rw[hsn]
   simp only[hmap]
   refine ent_mk (by simp[go_sem]) ?_ (by simp) (by simp[hN])
   simp[go_sem,he.ren,hen3.ren,hnI]
   exact⟨he.ids2 _,hen3.ids2 _⟩
 obtain rfl:q2=a.ch.length:=by omega
 rw[List.take_length] at hen2 hsl2 hsn2 ⊢
 generalize stepsC cls a.ch o=w at*
 obtain⟨wo,wl⟩:=w
 simp only at*
 refine AW_frz1 11 7 (sz:=1) (xs:=il (nI wl)) (by simp only[go_sem]) (by simp only[go_sem]) (clo_il _) ?_
 by_cases h2:a.t.kind=2
 ·have q:(a.t.kind !=2)=false:=by simp[h2]
  obtain⟨x,hx,h0,_⟩:=pl_data hap h2
  obtain⟨n0,hn0⟩:∃ n:Nat,a.t.id=n:=⟨a.t.id.toNat,by omega⟩
  rw[hn0,Int.toNat_natCast] at hx
  have hv:vsO D a.t=some x:=by unfold vsO;rw[if_pos h2,hn0,Int.toNat_natCast,hx]
  rw[hn0]
  have hnl2:=(List.getElem?_eq_some_iff.1 hx).1
  have hxm:=List.mem_of_getElem? hx
  obtain⟨hxv,hxf⟩:=hS x hxm
  have hF2:Fits ((outS D s lg).length+1+2) 8:=⟨by omega,by omega⟩
  have hF1:Fits ((outS D s lg).length+1) 8:=⟨by omega,by omega⟩
  have u2:=inc_u hkt (by omega)
  have hfl:=lens_flat x.vs
  have hbl:blk D a.t (nI wl)=[a.t.kind,x.dr,(x.vs.length:Int)]++cutL (x.vs.map fun v=>v.fs.length) (nI wl):=by simp only[blk,hv]
  have hob:outS D s (lg++[(j,wl)])=outS D s lg++blk D a.t (nI wl):=by
   simp only[outS,List.flatMap_append,List.flatMap_cons,List.flatMap_nil,List.append_nil,tyO_of ha]
  have hkds:(kids D a.t).length=(x.vs.flatMap Dv.fs).length:=by unfold kids;rw[hv]
  have hwn:(nI wl).length=(x.vs.map fun v=>v.fs.length).sum:=by simp only[nI,List.length_map];omega
  have htl:(outS D s (lg++[(j,wl)])).length≤2 ^ 43+4194304:=by
   have h:=blk_len hS a.t (l:=nI wl) (by omega)
   rw[hob,List.length_append];omega
  repeat'(first|apply nx|refine zx ?_|rw[zw]|((first|refine hK _ ?_|refine hKp _ _ ?_);clear hK hKp K Kp;try clear hanc anc)|((with_reducible refine And.intro ?_ ?_);exact zb)|((first|refine zr hE fun K Kp hK hKp=>?_|refine zd true mixed hE fun K Kp hK hKp anc hanc=>?_|refine zd false mixed hE fun K Kp hK hKp anc hanc=>?_);simp only[go_sem,ge_dec,q,lt_dec hnl2,hx,Dd.av_eq])|(refine zg (fun hg=>?_) (fun hg=>?_)<;>simp only[go_sem,ge_dec,q,lt_dec hnl2,hx,Dd.av_eq,hg])|(refine zc (fun hc=>?_) (fun hc=>?_)<;>try exact zh hc))
  refine K_loop (X:=Nat×List Int×List Int) (fun z=>z.1≤x.vs.length∧z.2.1++cutL ((x.vs.drop z.1).map fun v=>v.fs.length) z.2.2=outS D s (lg++[(j,wl)])∧z.2.2.length=((x.vs.drop z.1).map fun v=>v.fs.length).sum) (fun z=>mkSt [(0,.sl (ddl D)),(5,.ptr 0 0),(6,.mp 3),(7,.rw 4),(8,.rw 5),(9,.i (k:Nat)),(11,.sl (il z.2.2)),(129,.sl (dvl x.vs)),(130,.i x.vs.length),(131,.i (z.1:Nat))] [(0,.cells [.sl (ddl D),.rw 2,.mp 1]),(1,.map (esF 0 s)),(2,.row 6 (nrow D s C)),(3,.map (esN 0 (wo.map cls))),(4,.row 1 (il (nI wo))),(5,.row 1 (il z.2.1))] 6) (fun z=>x.vs.length - z.1) (0,outS D s lg++[a.t.kind,x.dr,(x.vs.length:Int)],nI wl) ⟨Nat.zero_le _,by rw[hob,hbl];simp,by simpa using hwn⟩ (fun i=>if i=5 then 28311560 else i) ?_ ?_
  ·have hil:il (outS D s lg++[a.t.kind])++[.i x.dr,.i (x.vs.length:Int)]=il (outS D s lg++[a.t.kind,x.dr,(x.vs.length:Int)]):=by simp[il]
   rw[hil]
   refine ent_mk (by simp[go_sem]) ?_ (by simp) (by simp[hN])
   simp[go_sem,updo,he.ren,hen2.ren]
   exact⟨he.ids2 _,hen2.ids2 _⟩
  rintro⟨v,oj,lj⟩ ⟨hv1,hv2,hv3⟩
  simp only at hv1 hv2 hv3
  have hojl:oj.length+lj.length≤2 ^ 43+4194304:=by
   have h:=congrArg List.length hv2
   rw[List.length_append,cutL_leq hv3] at h
   omega
  by_cases hvt:v<x.vs.length
  ·obtain⟨y,hy⟩:=get?_of hvt
   have u3:=inc_u hvt (by omega)
   rw[drop_of hy,List.map_cons,cutL_step] at hv2
   rw[drop_of hy,List.map_cons,List.sum_cons] at hv3
   have hF5:Fits (oj.length+1) 8:=⟨by omega,by omega⟩
   have hF6:Fits (oj.length+1+(lj.take y.fs.length).length) 8:=⟨by rw[List.length_take];omega,by rw[List.length_take];omega⟩
   repeat'(first|apply nx|refine zx ?_|rw[zw]|((first|refine hK _ ?_|refine hKp _ _ ?_);clear hK hKp K Kp;try clear hanc anc)|((with_reducible refine And.intro ?_ ?_);exact zb)|((first|refine zr hE fun K Kp hK hKp=>?_|refine zd true mixed hE fun K Kp hK hKp anc hanc=>?_|refine zd false mixed hE fun K Kp hK hKp anc hanc=>?_);simp only[go_sem,lt_dec hvt,hy,Dv.av_eq,u3])|(refine zg (fun hg=>?_) (fun hg=>?_)<;>simp only[go_sem,lt_dec hvt,hy,Dv.av_eq,u3,hg])|(refine zc (fun hc=>?_) (fun hc=>?_)<;>try exact zh hc))
   refine⟨⟨⟨by omega,by omega⟩,szok_il lj⟩,?_⟩
   repeat(first|rw[zw]|((with_reducible refine And.intro ?_ ?_);exact zb))
   refine⟨⟨szok_il _,hF6⟩,?_⟩
   repeat'(first|apply nx|refine zx ?_|rw[zw]|((first|refine hK _ ?_|refine hKp _ _ ?_);clear hK hKp K Kp;try clear hanc anc)|((with_reducible refine And.intro ?_ ?_);exact zb)|((first|refine zr hE fun K Kp hK hKp=>?_|refine zd true mixed hE fun K Kp hK hKp anc hanc=>?_|refine zd false mixed hE fun K Kp hK hKp anc hanc=>?_);simp only[go_sem,u3])|(refine zg (fun hg=>?_) (fun hg=>?_)<;>simp only[go_sem,u3,hg])|(refine zc (fun hc=>?_) (fun hc=>?_)<;>try exact zh hc))
   refine⟨⟨⟨by omega,by omega⟩,szok_il lj⟩,?_⟩
   repeat'(first|apply nx|refine zx ?_|rw[zw]|((first|refine hK _ ?_|refine hKp _ _ ?_);clear hK hKp K Kp;try clear hanc anc)|((with_reducible refine And.intro ?_ ?_);exact zb)|((first|refine zr hE fun K Kp hK hKp=>?_|refine zd true mixed hE fun K Kp hK hKp anc hanc=>?_|refine zd false mixed hE fun K Kp hK hKp anc hanc=>?_);simp only[go_sem,u3])|(refine zg (fun hg=>?_) (fun hg=>?_)<;>simp only[go_sem,u3,hg])|(refine zc (fun hc=>?_) (fun hc=>?_)<;>try exact zh hc))
   refine⟨(v+1,oj++[(y.fs.length:Int)]++lj.take y.fs.length,lj.drop y.fs.length),⟨hvt,?_,?_⟩,by simp only;omega,fun j=>if j=5 then 16777222 else j,?_⟩
   ·rw[← hv2];simp
   ·simp only[List.length_drop];omega
   refine ent_mk (by simp[go_sem]) ?_ (by simp) (by simp[hN])
   simp[go_sem,he.ren,hen2.ren]
   exact⟨he.ids2 _,hen2.ids2 _⟩
  obtain rfl:v=x.vs.length:=by omega
  rw[List.drop_length,List.map_nil,cutL,List.append_nil] at hv2
  repeat'(first|apply nx|refine zx ?_|rw[zw]|((first|refine hK _ ?_|refine hKp _ _ ?_);clear hK hKp K Kp;try clear hanc anc)|((with_reducible refine And.intro ?_ ?_);exact zb)|((first|refine zr hE fun K Kp hK hKp=>?_|refine zd true mixed hE fun K Kp hK hKp anc hanc=>?_|refine zd false mixed hE fun K Kp hK hKp anc hanc=>?_);simp only[go_sem,ge_dec,u2])|(refine zg (fun hg=>?_) (fun hg=>?_)<;>simp only[go_sem,ge_dec,u2,hg])|(refine zc (fun hc=>?_) (fun hc=>?_)<;>try exact zh hc))
  refine⟨k+1,by omega,by omega,fun j=>j,?_⟩
  rw[hstep]
  simp only[← hv2]
  refine ent_mk (by simp[go_sem]) ?_ (by simp) (by simp[hN])
  simp[go_sem,he.ren,hen2.ren]
  exact⟨he.ids2 _,hen2.ids2 _⟩
 ·have q:(a.t.kind !=2)=true:=by simp[h2]
  have hF1:Fits ((outS D s lg).length+1) 8:=⟨by omega,by omega⟩
  have u2:=inc_u hkt (by omega)
  have hv:vsO D a.t=none:=by unfold vsO;rw[if_neg h2]
  have hob:outS D s (lg++[(j,wl)])=outS D s lg++[a.t.kind]++nI wl:=by
   simp only[outS,List.flatMap_append,List.flatMap_cons,List.flatMap_nil,List.append_nil,tyO_of ha,blk,hv]
   simp
  repeat'(first|apply nx|refine zx ?_|rw[zw]|((first|refine hK _ ?_|refine hKp _ _ ?_);clear hK hKp K Kp;try clear hanc anc)|((with_reducible refine And.intro ?_ ?_);exact zb)|((first|refine zr hE fun K Kp hK hKp=>?_|refine zd true mixed hE fun K Kp hK hKp anc hanc=>?_|refine zd false mixed hE fun K Kp hK hKp anc hanc=>?_);simp only[go_sem,ge_dec,q,u2])|(refine zg (fun hg=>?_) (fun hg=>?_)<;>simp only[go_sem,ge_dec,q,u2,hg])|(refine zc (fun hc=>?_) (fun hc=>?_)<;>try exact zh hc))
  have hF3:Fits ((outS D s lg).length+1+(nI wl).length) 8:=⟨by simp only[nI,List.length_map];omega,by simp only[nI,List.length_map];omega⟩
  refine⟨⟨szok_il _,hF3⟩,?_⟩
  repeat'(first|apply nx|refine zx ?_|rw[zw]|((first|refine hK _ ?_|refine hKp _ _ ?_);clear hK hKp K Kp;try clear hanc anc)|((with_reducible refine And.intro ?_ ?_);exact zb)|((first|refine zr hE fun K Kp hK hKp=>?_|refine zd true mixed hE fun K Kp hK hKp anc hanc=>?_|refine zd false mixed hE fun K Kp hK hKp anc hanc=>?_);simp only[go_sem,ge_dec,q,u2])|(refine zg (fun hg=>?_) (fun hg=>?_)<;>simp only[go_sem,ge_dec,q,u2,hg])|(refine zc (fun hc=>?_) (fun hc=>?_)<;>try exact zh hc))
  refine⟨k+1,by omega,by omega,fun j=>if j=5 then 14680072 else j,?_⟩
  rw[hstep]
  simp only[hob]
  refine ent_mk (by simp[go_sem]) ?_ (by simp) (by simp[hN])
  simp[go_sem,he.ren,hen2.ren]
  exact⟨he.ids2 _,hen2.ids2 _⟩
end Go.Proofs.YtfpcjabbcpgbjaaDoor

namespace Go.Gl
open Go Go.Am Go.Hv
open Classical
theorem cls_ex (D:List Dd) (s:List Nd):∃ cls,ClsOk D s cls:=by
 refine⟨fun i=>(List.range s.length).findIdx fun j=>decide (bis D D (tyO s j) (tyO s i)),fun i j a b ha hb=>?_⟩
 have hi:=(List.getElem?_eq_some_iff.1 ha).1
 have hj:=(List.getElem?_eq_some_iff.1 hb).1
 have ea:=tyO_of ha
 have eb:=tyO_of hb
 have key:∀ i,i<s.length→∃ m,m<s.length∧(List.range s.length).findIdx (fun j=>decide (bis D D (tyO s j) (tyO s i)))=m∧bis D D (tyO s m) (tyO s i):=fun i hi=>by
  have h1:(List.range s.length).findIdx (fun j=>decide (bis D D (tyO s j) (tyO s i)))<(List.range s.length).length:=List.findIdx_lt_length.2 ⟨i,by simpa using hi,by simp[bis_refl]⟩
  have h2:=List.findIdx_getElem (w:=h1)
  simp only[List.getElem_range,decide_eq_true_eq] at h2
  exact⟨_,by simpa using h1,rfl,h2⟩
 constructor
 ·intro h
  obtain⟨m,_,e1,h1⟩:=key i hi
  obtain⟨m',_,e2,h2⟩:=key j hj
  simp only at h
  rw[e1,e2] at h
  subst h
  rw[ea] at h1
  rw[eb] at h2
  exact bis_trans (bis_symm h1) h2
 ·intro h
  simp only[ea,eb]
  congr 1
  funext k
  exact decide_eq_decide.2 ⟨fun g=>bis_trans g h,fun g=>bis_trans g (bis_symm h)⟩
theorem nds_ok {D:List Dd} (hdt:dtB D=true) {t:Ty} (ht:Pl D t):Gr D (nds D t)∧∃ n,(nds D t)[rtN D t]? =some n∧bis D D n.t t:=by
 obtain⟨hG,hin,_⟩:=addA_ok hdt (l:=[t]) (f:=(uni D [t]).length+1) (fun u hu=>by simp at hu;subst hu;exact ht) (Nat.lt_succ_self _)
 obtain⟨i,hi⟩:=hin t (by simp)
 obtain⟨n,hn,hk⟩:=idx_some hi
 have e:rtN D t=i:=by unfold rtN nds;rw[hi];rfl
 refine⟨hG,n,by rw[e];exact hn,ky_bis hdt (hG.pl n (List.mem_of_getElem? hn)) ht hk⟩
theorem shS_fix {D:List Dd} {s:List Nd} (hG:Gr D s) {cls:Nat→Nat} {r:Nat} (hr:r<s.length) (m:Nat):shS s cls r (s.length+m)=shS s cls r s.length:=shS_end (shI_len (shS_ok hG hr s.length)) m
theorem shpL_iff {D E:List Dd} (hD:dtB D=true) (hE:dtB E=true) {a b:Ty} (ha:Pl D a) (hb:Pl E b):shpL D a=shpL E b↔bis D E a b:=by
 obtain⟨hG,n,hn,hna⟩:=nds_ok hD ha
 obtain⟨hG',n',hn',hnb⟩:=nds_ok hE hb
 have hr:=(List.getElem?_eq_some_iff.1 hn).1
 have hr':=(List.getElem?_eq_some_iff.1 hn').1
 obtain⟨c1,hc1⟩:=cls_ex D (nds D a)
 obtain⟨c2,hc2⟩:=cls_ex E (nds E b)
 have h1:=clC_ok hc1
 have h2:=clC_ok hc2
 unfold shpL
 constructor
 ·intro h
  have g:=sh_inj hD hE hG hG' h1 h2 hr hr' (shI_len (shS_ok hG hr _)) (shI_len (shS_ok hG' hr' _)) h
  rw[tyO_of hn,tyO_of hn'] at g
  exact bis_trans (bis_symm hna) (bis_trans g hnb)
 ·intro h
  have g:=sh_rl hD hE hG hG' h1 h2 (r:=rtN D a) (r':=rtN E b) ⟨n,n',hn,hn',bis_trans hna (bis_trans h (bis_symm hnb))⟩
  have e1:=shS_fix hG (cls:=clC D (nds D a)) hr (nds E b).length
  have e2:=shS_fix hG' (cls:=clC E (nds E b)) hr' (nds D a).length
  have g2:=(g ((nds D a).length+(nds E b).length)).2
  rw[e1,Nat.add_comm,e2] at g2
  exact g2
end Go.Gl

set_option maxHeartbeats 4000000
set_option maxRecDepth 100000
namespace Go.Proofs.YtfpcjabbcpgbjaaDoor
open Go.Am Go.Proofs Go.Hv Go.Gl
open Classical
attribute [local irreducible] AW CallP CallB CallY

theorem number_c:PCall Tryd.prog 20 [] (.agg [.i 1,.i 0,.sl []]):=by
 refine PCall.intro Tryd.func20 rfl isf20 (by simp[Tryd.f20]) (by simp[AV.cloL,AV.clo]) fun E Q hE hN hQ=>K_start ?_
 repeat'(first|apply nx|refine zx ?_|rw[zw]|((first|refine hK _ ?_|refine hKp _ _ ?_);clear hK hKp K Kp;try clear hanc anc)|((with_reducible refine And.intro ?_ ?_);exact zb)|((first|refine zr hE fun K Kp hK hKp=>?_|refine zd true mixed hE fun K Kp hK hKp anc hanc=>?_|refine zd false mixed hE fun K Kp hK hKp anc hanc=>?_);simp only[go_sem])|(refine zg (fun hg=>?_) (fun hg=>?_)<;>simp only[go_sem,hg])|(refine zc (fun hc=>?_) (fun hc=>?_)<;>try exact zh hc))
 refine K_ret (hQ _ ⟨.agg [.i 1,.i 0,.nilsl],resA_cell (id:=0) (off:=0) (by simp only[go_sem]) ti25 (by simp only[go_sem];rfl) rfl,?_,?_,rfl⟩).1
 ·simp[AV.snapOk,AV.snapOkL]
 ·simp[AV.snap,AV.snapL]
theorem data1_c (n:Nat):PCall Tryd.prog 22 [.i (n:Nat)] (.agg [.i 2,.i (n:Nat),.sl []]):=by
 refine PCall.intro Tryd.func22 rfl isf22 (by simp[Tryd.f22]) (by simp[AV.cloL,AV.clo]) fun E Q hE hN hQ=>K_start ?_
 repeat'(first|apply nx|refine zx ?_|rw[zw]|((first|refine hK _ ?_|refine hKp _ _ ?_);clear hK hKp K Kp;try clear hanc anc)|((with_reducible refine And.intro ?_ ?_);exact zb)|((first|refine zr hE fun K Kp hK hKp=>?_|refine zd true mixed hE fun K Kp hK hKp anc hanc=>?_|refine zd false mixed hE fun K Kp hK hKp anc hanc=>?_);simp only[go_sem])|(refine zg (fun hg=>?_) (fun hg=>?_)<;>simp only[go_sem,hg])|(refine zc (fun hc=>?_) (fun hc=>?_)<;>try exact zh hc))
 refine K_ret (hQ _ ⟨.agg [.i 2,.i (n:Nat),.nilsl],resA_cell (id:=0) (off:=0) (by simp only[go_sem]) ti25 (by simp only[go_sem];rfl) rfl,?_,?_,rfl⟩).1
 ·simp[AV.snapOk,AV.snapOkL]
 ·simp[AV.snap,AV.snapL]
theorem box1_c (k i:Int) (l:List AV) (hl:AV.cloL l=true):PCall Tryd.prog 21 [.agg [.i k,.i i,.sl l]] (.agg [.i 3,.i 0,.sl [.agg [.i k,.i i,.sl l]]]):=by
 refine PCall.intro Tryd.func21 rfl isf21 (by simp[Tryd.f21]) (by simp[AV.cloL,AV.clo]) fun E Q hE hN hQ=>K_start ?_
 repeat'(first|apply nx|refine zx ?_|rw[zw]|((first|refine hK _ ?_|refine hKp _ _ ?_);clear hK hKp K Kp;try clear hanc anc)|((with_reducible refine And.intro ?_ ?_);exact zb)|((first|refine zr hE fun K Kp hK hKp=>?_|refine zd true mixed hE fun K Kp hK hKp anc hanc=>?_|refine zd false mixed hE fun K Kp hK hKp anc hanc=>?_);simp only[go_sem])|(refine zg (fun hg=>?_) (fun hg=>?_)<;>simp only[go_sem,hg])|(refine zc (fun hc=>?_) (fun hc=>?_)<;>try exact zh hc))
 refine K_ret (hQ _ ⟨.agg [.i 3,.i 0,.rw 3145728],resA_cell (id:=1048576) (off:=0) (by simp only[go_sem]) ti25 (by simp only[go_sem];rfl) rfl,?_,?_,by simp[AV.clo,AV.cloL,hl]⟩).1
 ·simp[AV.snapOk,AV.snapOkL,go_sem,updo,CloRow,AV.cells,AV.clo,hl]
 ·simp[AV.snap,AV.snapL,updo]
end Go.Proofs.YtfpcjabbcpgbjaaDoor

set_option maxHeartbeats 4000000
set_option maxRecDepth 100000
namespace Go.Proofs.YtfpcjabbcpgbjaaDoor
open Go.Am Go.Proofs Go.Hv Go.Gl
open Classical
theorem AW_frzRow {P : Program} {E : En} {fr : Nat → Option AV} {hp : Nat → Option AObj} {nx : Nat} {c : Code} {Q : AEx → St → Prop} (X id : Nat) {sz sz' : Nat} {l l' xs : List AV} (hX : hp X = some (.row sz' l)) (hid : hp id = some (.row sz xs)) (hne : X ≠ id) (hc : CloRow xs)
    (hok:∀ F,F id=some (.row sz xs)→∀ x,x∈l→x.snapOk F) (hl:∀ F,F id=some (.row sz xs)→l.map (AV.snap F)=l')
    (h:AW P E c Q ⟨fr,updo (updo hp id none) X (some (.row sz' l')),nx⟩):AW P E c Q ⟨fr,hp,nx⟩:=by
  refine AW.frz (σ':=⟨fr,updo (updo hp id none) X (some (.row sz' l')),nx⟩) (fun i=>if i=id then some (.row sz xs) else none) (fun i o h'=>?_) (fun t x' h'=>⟨x',h',.inl rfl⟩) (fun i o' h'=>?_) rfl h
  · split at h'
    · rename_i e;subst e;cases h';exact hid
    · cases h'
  · simp only[updo] at h'
    split at h'
    · rename_i e
      subst e
      cases h'
      refine⟨by simp[hne],_,hX,?_⟩
      rw[← hl (fun i=>if i=id then some (.row sz xs) else none) (by simp)]
      refine⟨rfl,List.length_map ..,fun i hi=> .inr ⟨hok _ (by simp) _ (getD_mem hi),getD_map hi⟩⟩
    · split at h'
      · cases h'
      · rename_i e1 e2
        exact⟨if_neg e2,o',h',SnpO.refl _⟩
attribute [local irreducible] AW CallP CallB CallY
def intT:Ty:= .mk 1 0 []
def dtT (i:Nat):Ty:= .mk 2 i []
def bxT (t:Ty):Ty:= .mk 3 0 [t]
def lstD (drop:Int) (i:Nat):Dd:=⟨⟨#[]⟩,0,0,[⟨⟨#[]⟩,[]⟩,⟨⟨#[]⟩,[intT,bxT (dtT i)]⟩],drop⟩
theorem lst_c (d:Int) (n:Nat):PCall Tryd.prog 19 [.i d,.i (n:Nat)] (lstD d n).av:=by
 have h1:=number_c
 have h2:=data1_c n
 have h3:=box1_c 2 (n:Nat) [] rfl
 refine PCall.intro Tryd.func19 rfl isf19 (by simp[Tryd.f19]) (by simp[AV.cloL,AV.clo]) fun E Q hE hN hQ=>K_start ?_
 repeat'(first|apply nx|refine zx ?_|rw[zw]|((first|refine hK _ ?_|refine hKp _ _ ?_);clear hK hKp K Kp;try clear hanc anc)|((with_reducible refine And.intro ?_ ?_);exact zb)|((first|refine zr hE fun K Kp hK hKp=>?_|refine zd true mixed hE fun K Kp hK hKp anc hanc=>?_|refine zd false mixed hE fun K Kp hK hKp anc hanc=>?_|(apply zm;exact zu;(first|exact h1|exact h2|exact h3);exact zs;exact zl));simp only[go_sem,List.mem_cons,List.not_mem_nil,or_false])|(refine zg (fun hg=>?_) (fun hg=>?_)<;>simp only[go_sem,List.mem_cons,List.not_mem_nil,or_false,hg])|(refine zc (fun hc=>?_) (fun hc=>?_)<;>try exact zh hc))
 refine AW_frzRow (l':=dvl (lstD d n).vs) 9437184 7340032 (by simp only[go_sem];rfl) (by simp only[go_sem];rfl) (by decide) (by simp[CloRow,AV.cells,AV.clo]) ?_ ?_ ?_
 ·intro F hF x hx
  rcases List.mem_cons.1 hx with rfl|hx
  ·simp[AV.snapOk,AV.snapOkL]
  ·rcases List.mem_cons.1 hx with rfl|hx
   ·simp[AV.snapOk,AV.snapOkL,hF,go_sem,AV.cells,AV.clo,CloRow]
   ·cases hx
 ·intro F hF
  simp[AV.snap,AV.snapL,hF,dvl,lstD,Dv.av,Dv.cs,Ty.avL_eq,intT,bxT,dtT,Ty.av]
 refine K_ret (hQ _ ⟨.agg [.str ⟨#[]⟩,.i 0,.i 0,.rw 9437184,.i d],resA_cell (id:=0) (off:=0) (by simp only[go_sem]) ti36 (by simp only[go_sem];rfl) rfl,?_,?_,rfl⟩).1
 ·simp[AV.snapOk,AV.snapOkL,go_sem,updo]
 ·simp[AV.snap,AV.snapL,updo,Dd.av,Dd.cs,lstD]
end Go.Proofs.YtfpcjabbcpgbjaaDoor

set_option maxRecDepth 100000
namespace Go.Gl
open Go Go.Am Go.Hv Go.Proofs.YtfpcjabbcpgbjaaDoor
theorem shpL_calc {D:List Dd} (hD:dtB D=true) {t:Ty} (ht:Pl D t) {n:Nat} (hn:cntN D (nds D t) (n+1)=cntN D (nds D t) n):shpL D t=outS D (nds D t) (shS (nds D t) (fun i=>(clsN D (nds D t) (n+2)).getD i 0) (rtN D t) (nds D t).length).2:=by
 obtain⟨hG,m,hm,hma⟩:=nds_ok hD ht
 obtain⟨c1,hc1⟩:=cls_ex D (nds D t)
 have h1:=clC_ok hc1
 have h2:ClsOk D (nds D t) (fun i=>(clsN D (nds D t) (n+2)).getD i 0):=fun i j a b ha hb=>stable hD hG hn ha hb
 exact(sh_rl hD hD hG hG h1 h2 (r:=rtN D t) (r':=rtN D t) ⟨m,m,hm,hm,bis_refl _ _⟩ _).2
def exD:List Dd:=[lstD 0 0,lstD 0 0,lstD 3 2,⟨⟨#[]⟩,0,0,[⟨⟨#[]⟩,[intT]⟩],0⟩]
def chT (t:Ty):Ty:= .mk 4 0 [t]
theorem ex_dt:dtB exD=true:=by decide
theorem ex_dtF:dtF exD=true:=by decide
theorem ex_pl0:plB exD (dtT 0) 8=true:=by decide
theorem ex_pl1:plB exD (dtT 1) 8=true:=by decide
theorem ex_pl2:plB exD (dtT 2) 8=true:=by decide
theorem ex_pl3:plB exD (dtT 3) 8=true:=by decide
theorem ex_pl9:plB exD (dtT 9) 8=false:=by decide
theorem ex_pli:plB exD intT 8=true:=by decide
theorem ex_plc:plB exD (chT intT) 8=true:=by decide
theorem ex_plb:plB exD (chT (bxT intT)) 8=true:=by decide
theorem ex_sh0:shpL exD (dtT 0)=[2,0,2,0,2,1,2,1,3,0]:=by
 rw[shpL_calc (n:=1) ex_dt ⟨8,ex_pl0⟩ (by decide)]
 decide
theorem ex_sh3:shpL exD (dtT 3)=[2,0,1,1,1,1]:=by
 rw[shpL_calc (n:=1) ex_dt ⟨8,ex_pl3⟩ (by decide)]
 decide
theorem sm_calc {D : List Dd} (hd : dtF D = true) {a b : Ty} (ha : plB D a 8 = true) (hb : plB D b 8 = true) (n i j : Nat) (hn : cntN D (addA D ((uni D [a, b]).length + 1) [a, b]) (n + 1) = cntN D (addA D ((uni D [a, b]).length + 1) [a, b]) n) (hi : idx (addA D ((uni D [a, b]).length + 1) [a, b]) a = some i) (hj : idx (addA D ((uni D [a, b]).length + 1) [a, b]) b = some j) {r : Bool}
    (hr:decide ((clsN D (addA D ((uni D [a,b]).length+1) [a,b]) (n+2)).getD i 0=(clsN D (addA D ((uni D [a,b]).length+1) [a,b]) (n+2)).getD j 0)=r):smB D a b=r:=by
  have hdt:dtB D=true:=by simp only[dtF,Bool.and_eq_true] at hd;exact hd.2
  have h:=cls_eq hdt (l:=[a,b]) (f:=(uni D [a,b]).length+1) (fun u hu=>by simp at hu;rcases hu with rfl|rfl<;>first|exact⟨8,ha⟩|exact⟨8,hb⟩) (Nat.lt_succ_self _) hn (a:=a) (b:=b) ⟨8,ha⟩ ⟨8,hb⟩ hi hj
  rw[← hr]
  simp only[smB,hd,ha,hb,Bool.true_and]
  exact(decide_eq_decide.2 h).symm
theorem sm_kind {D:List Dd} {a b:Ty} (h:lab D a≠lab D b):smB D a b=false:=by
 have:¬ bis D D a b:=fun g=>h (g 1).1
 simp[smB,this]
theorem ex_01:smB exD (dtT 0) (dtT 1)=true:=sm_calc ex_dtF ex_pl0 ex_pl1 1 0 3 (by decide) (by decide) (by decide) (by decide)
theorem ex_02:smB exD (dtT 0) (dtT 2)=false:=sm_kind (by decide)
theorem ex_ic:smB exD intT (chT intT)=false:=sm_kind (by decide)
theorem ex_bc:smB exD (chT (bxT intT)) (chT intT)=true:=sm_calc ex_dtF ex_plb ex_plc 0 0 0 (by decide) (by decide) (by decide) (by decide)
theorem ex_09:smB exD (dtT 0) (dtT 9)=false:=by simp[smB,ex_pl9]
theorem ex_20:smB exD (dtT 2) (dtT 0)=false:=sm_kind (by decide)
theorem ex_2i:smB exD (dtT 2) intT=false:=sm_kind (by decide)
theorem ex_0i:smB exD (dtT 0) intT=false:=sm_kind (by decide)
theorem ex_21:smB exD (dtT 2) (dtT 1)=false:=sm_kind (by decide)
theorem ex_1i:smB exD (dtT 1) intT=false:=sm_kind (by decide)
theorem ex_ii:smB exD intT intT=true:=by
 have:bis exD exD intT intT:=bis_refl _ _
 simp[smB,ex_dtF,ex_pli,this]
theorem ex_cls:clsL exD [dtT 2,dtT 0,intT,dtT 1,intT]=[0,1,2,1,2]:=by
 simp[clsL,clAt,List.mapIdx_cons,fidx,ex_20,ex_2i,ex_0i,ex_21,ex_01,ex_1i,ex_ii]
end Go.Gl
