/- A part of the proof: an abstract machine for the walks, and what the walked functions compute. -/
import Derived.Test.YtfpcjabbcpgbjaaDoorRb
set_option linter.unusedVariables false
set_option linter.unusedSimpArgs false
set_option maxHeartbeats 4000000
set_option maxRecDepth 100000
namespace Go.Proofs.YtfpcjabbcpgbjaaDoor
open Go.Am Go.Proofs Go.Hv Go.Gl
open Classical
attribute [local irreducible] AW jA CallB CallY
theorem jjN {D : List Dd} (hD : DB D) (hR : DR D) (hdt : dtB D = true) {U : List Ky} (hU : Closed D U) (hUl : U.length <= 2 ^ 30) : ∀ (f : Nat) (t : Ty) (s : List Nd), Pl D t -> t.sz <= 2 ^ 30 -> (∀ n, n ∈ s -> Pl D n.t) -> (kys s).Nodup -> (∀ k, k ∈ kys s -> k ∈ U) -> ky t ∈ U -> left U s < f ->
    MCallR Tryd.prog 61 [.ptr 0 0,t.av] (objP D) 3 2 s (.i ((yZ D f t s).2:Nat)) (fun s'=>s'=(yZ D f t s).1):=by
  intro f
  induction f with
  |zero=>exact fun _ _ _ _ _ _ _ _ h=>absurd h (Nat.not_lt_zero _)
  |succ f ihf=>
    intro t s ht hts h1 h2 h3 h4 h5
    have hkey:=X2 hD.l (2 ^ 30) t hts (by decide) ht
    have hfind:=G7 t 0 s
    have hsl:=YY h2 h3
    have he:=Je 0 s
    have hRc:=Jb D s (zeros s)
    have hRr:∀ m,AV.renL m (jN D s (zeros s))=jN D s (zeros s):=fun m=>js hRc
    have hRi:∀ p,AV.idsL p (jN D s (zeros s)):=fun p=>jt hRc
    have hRl:(jN D s (zeros s)).length=s.length:=yq D s _ (yH s)
    rw[yZ]
    rw[Ty.av_eq] at hkey ⊢
    cases hi:idx s t with
    |some i=>
      rw[hi] at hfind
      simp only[Option.map_some,Nat.zero_add] at hfind
      refine MCallR.intro rfl Tryd.func61 YE rfl (by simp[Tryd.f61]) fun E Q hE hN hM hQ=>jg ?_
      unfold objP
      repeat'(first|apply nx|refine zx ?_|rw[zw]|refine zk ?_|refine zp ?_|(apply zA;exact zb)|((first|refine zR hE @fun K Kp hK hKp hg=>?_|refine zT hE @fun K Kp hK hKp anc hanc hg=>?_|refine zF hE @fun K Kp hK hKp anc hanc hg=>?_|(apply zM;exact zu;exact hkey;exact zs;exact zl;intro hg)|refine zg (fun hg=>?_) fun hg=>?_)<;>simp only[go_sem,YK,gM,hfind,hg])|(refine zc (fun hc=>?_) (fun hc=>?_)<;>try exact zh hc))
      refine je (hQ _ (by simp only[go_sem];rfl) ⟨fun i=>i,3,s,?_,rfl⟩).1
      refine j6 (fr:=[]) (by simp) (fun id o ho=>?_) (by decide)
      have hlt:=(Uw D).lt s id o ho
      refine⟨?_,hlt⟩
      simp only[jb]
      rw[if_neg (by omega),if_neg (by omega)]
      exact ho
    |none=>
      rw[hi] at hfind
      simp only[Option.map_none] at hfind
      refine MCallR.intro rfl Tryd.func61 YE rfl (by simp[Tryd.f61]) fun E Q hE hN hM hQ=>jg ?_
      unfold objP
      repeat'(first|apply nx|refine zx ?_|rw[zw]|refine zk ?_|refine zp ?_|(apply zA;exact zb)|((fail_if_success refine j3 6 ?_);(first|refine zR hE @fun K Kp hK hKp hg=>?_|refine zT hE @fun K Kp hK hKp anc hanc hg=>?_|refine zF hE @fun K Kp hK hKp anc hanc hg=>?_|(apply zM;exact zu;exact hkey;exact zs;exact zl;intro hg)|refine zg (fun hg=>?_) fun hg=>?_)<;>simp only[go_sem,YK,gM,GE,hfind,hRl,hg])|(refine zc (fun hc=>?_) (fun hc=>?_)<;>try exact zh hc))
      have he':=Je 0 (s++[⟨t,[]⟩])
      have hes:esF 0 s++[(AV.str (tx (kyT (ky t))),AV.i (s.length:Int))]=esF 0 (s++[⟨t,[]⟩]):=by rw[XP,Nat.zero_add]
      refine AW.ent (O':=jx [(2,.ptr 3 0),(3,.ptr 4 0),(7,.i (s.length:Int))] [(0,.cells [.sl (ddl D),.rw 2,.mp 1]),(1,.map (esF 0 (s++[⟨t,[]⟩]))),(2,.row 6 (jN D s (zeros s))),(3,.cells [.ptr 0 0]),(4,.cells [.i t.kind,.i t.id,.sl (Ty.avL t.args)])] 5) (fun i=>if i=4 then 1048579 else i) ?_ ?_
      · refine jc (by simp[go_sem]) ?_ (by simp) (by rw[hN];exact fun id hid=>⟨by rw[if_neg (by omega)],by omega⟩)
        simp[go_sem,YK,gM,GE,hRr,hRi,he'.ren]
        exact⟨hes,he'.ids2 _⟩
      generalize hes2:esF 0 (s++[⟨t,[]⟩])=es2 at*
      refine zF hE @fun K Kp hK hKp anc hanc hg=>?_
      simp only[go_sem]
      have hlb:=jc1 hD hR he' hRc t ht
      rw[Ty.av_eq] at hlb
      repeat(first|rw[zw]|((with_reducible refine And.intro ?_ ?_);exact zb))
      refine gA (us:=[.ptr 0 0,.agg [.i t.kind,.i t.id,.sl (Ty.avL t.args)]]) (by simp[AV.snapL,AV.snap]) hlb ⟨by show 0<3;decide,by simp[AV.ids,AV.idsL,go_sem],trivial⟩ ?_ (by simp[AV.snapOkL,AV.snapOk,go_sem]) (.inl rfl) ?_
      · exact jM (p:=fun id ob=>_/\id<5/\_) (by simp[jp,jb,AV.noRw])
      simp only[go_sem]
      repeat(first|rw[zw]|((with_reducible refine And.intro ?_ ?_);exact zb))
      refine hK.h _ ?_
      clear hK hKp K Kp hanc anc
      repeat apply nx
      refine AW.wk (jeg 11534341 (D:=D) (s:=s) (t:=t) (by simp[go_sem])) ?_
      have hRc2:=Jb D (s++[⟨t,[]⟩]) (zeros (s++[⟨t,[]⟩]))
      have hRr2:∀ m,AV.renL m (jN D (s++[⟨t,[]⟩]) (zeros (s++[⟨t,[]⟩])))=jN D (s++[⟨t,[]⟩]) (zeros (s++[⟨t,[]⟩])):=fun m=>js hRc2
      have hRi2:∀ p,AV.idsL p (jN D (s++[⟨t,[]⟩]) (zeros (s++[⟨t,[]⟩]))):=fun p=>jt hRc2
      refine AW.ent (O':=jx [(2,.ptr 3 0),(3,.ptr 4 0),(7,.i (s.length:Int))] [(0,.cells [.sl (ddl D),.rw 2,.mp 1]),(1,.map es2),(2,.row 6 (jN D (s++[⟨t,[]⟩]) (zeros (s++[⟨t,[]⟩])))),(3,.cells [.ptr 0 0]),(4,.cells [.i t.kind,.i t.id,.sl (Ty.avL t.args)])] 5) (fun i=>if i=2 then 11534341 else i) ?_ ?_
      · refine jc (by simp[go_sem]) ?_ (by simp) (by rw[hN];exact fun id hid=>⟨by rw[if_neg (by omega)],by omega⟩)
        simp[go_sem,hRr2,hRi2,he'.ren]
        exact he'.ids2 _
      repeat'(first|apply nx|refine zx ?_|rw[zw]|refine zk ?_|refine zp ?_|(apply zA;exact zb)|((first|refine zR hE @fun K Kp hK hKp hg=>?_|refine zT hE @fun K Kp hK hKp anc hanc hg=>?_|refine zF hE @fun K Kp hK hKp anc hanc hg=>?_|refine zg (fun hg=>?_) fun hg=>?_)<;>simp only[go_sem,hg])|(refine zc (fun hc=>?_) (fun hc=>?_)<;>try exact zh hc))
      refine Hold.mk (CallB.use (jcZ (D:=D) he' hRc2 t) (fun i=>i) (by simp[AV.renL,AV.ren,go_sem]) (by simp[AV.ids,AV.idsL,go_sem]) (fun id o ho=>?_) (fun _ _ _ _ _ _ e=>e) (fun id hid=>⟨by omega,(wfG (D:=D) he' hRc2).2.1 id hid⟩) ?_ (fun _ _ h=>h.elim) ?_ (fun _ _ _ h=>h.elim))
      · have hlt:=(wfG he' hRc2).1 id o ho
        refine⟨?_,hlt⟩
        rw[jw]
        exact Q8 (by simp[jb]) (by simp[jb]) (by simp[jb]) id o ho
      · rintro r hp' ⟨rfl,rfl⟩
        refine⟨by simp[AV.ids,AV.idsL],fun id o ho=>jM (p:=fun id o=>id<3+1048576/\o.ids (· <3+1048576)) ?_ id o ho⟩
        simp[AObj.ids,AV.ids,AV.idsL,go_sem,hRi2]
        exact he'.ids2 _
      · rintro r hp' fr' hpn ⟨rfl,rfl⟩ hfr hobj hold
        have b0:=hobj 0 _ rfl
        have b1:=hobj 1 _ rfl
        have b2:=hobj 2 _ rfl
        have b3:=hobj 3 _ rfl
        have b4:=hobj 4 _ rfl
        have b5:=hold 3 (.cells [.ptr 0 0]) (by simp[jb]) (fun j hj e=>by have:=(wfG (D:=D) he' hRc2).1 j _ (Option.ne_none_iff_exists'.1 hj).choose_spec;omega)
        have b6:=hold 4 (.cells [.i t.kind,.i t.id,.sl (Ty.avL t.args)]) (by simp[jb]) (fun j hj e=>by have:=(wfG (D:=D) he' hRc2).1 j _ (Option.ne_none_iff_exists'.1 hj).choose_spec;omega)
        have b7:=hold 5 (.cells [.nilsl]) (by simp[jb]) (fun j hj e=>by have:=(wfG (D:=D) he' hRc2).1 j _ (Option.ne_none_iff_exists'.1 hj).choose_spec;omega)
        clear hobj hold
        simp[jn,AObj.ren,AV.renL,AV.ren,go_sem,he'.ren,hRr2] at b0 b1 b2 b3 b4
        simp only[St.put] at hfr
        subst hfr
        simp only[go_sem]
        refine hK.h _ ?_
        clear hK hKp K Kp
        repeat apply nx
        refine Qw 5 0 1 b7 rfl ?_
        dsimp only
        simp only[Nat.reduceAdd]
        have hfa:=O2 (U:=U) (yZ D f) f (fun t s a b c d e g=>O3 hdt hU f t s a b c d e g)
        have p1:∀ n,n∈s++[⟨t,[]⟩]->Pl D n.t:=fun n hn=>by
          rcases List.mem_append.1 hn with hn|hn
          · exact h1 n hn
          · simp at hn;subst hn;exact ht
        have hnk:=Q6 hi
        have e0:kys (s++[⟨t,[]⟩])=kys s++[ky t]:=by simp[kys]
        have p2:(kys (s++[⟨t,[]⟩])).Nodup:=by
          rw[e0,List.nodup_append]
          exact⟨h2,by simp,fun a ha b hb=>by simp at hb;subst hb;rintro rfl;exact hnk ha⟩
        have p3:∀ k,k∈kys (s++[⟨t,[]⟩])->k∈U:=fun k hk=>by
          rw[e0] at hk
          rcases List.mem_append.1 hk with hk|hk
          · exact h3 k hk
          · simp at hk;subst hk;exact h4
        have p4:left U (s++[⟨t,[]⟩])<f:=by have:=X5 (n:=⟨t,[]⟩) h4 hnk;omega
        have hkp:∀ c,c∈kids D t->Pl D c/\ky c∈U:=fun c hc=>⟨yI hdt ht hc,hU t c ht h4 hc⟩
        have hrow:AW Tryd.prog E=AW Tryd.prog E:=rfl
        rw[<- hes2] at b1
        refine AW.ent (O':=⟨jL [(2,.ptr 2 0),(7,.i (s.length:Int)),(8,.ptr 4 0),(50,.fn (.func 84) [] [.ptr 5 0,.ptr 6 0])],oX D t (s++[⟨t,[]⟩],[]),1000000⟩) _ (by rw[hN];exact jnO (by simp[go_sem]) (by simp[go_sem]) (by simp[go_sem]) (by simp[go_sem,jn]) (by simp[jb,b0]) (by simp[jb,b1]) (by simp[jb,b2]) (by simp[jb,b3]) (by simp[jb,b4]) (by simp[jb,b5]) (by simp[jb,b6]) (by simp[jb]) (by simp[jb])) ?_
        clear b0 b1 b2 b3 b4 b5 b6 b7 hes hes2 he' hRc2 hRr2 hRi2
        have hkl:(Qt D t).length=(kids D t).length:=by rw[Qt,List.length_map]
        refine jbz (g:=50) (ps:= #[51]) (by decide) hM (ja9 hD ht).h0 (oX D t) 7 (by decide) (by rw[hN];decide) (by simp[AV.idsL,AV.ids]) (by simp) (fun z=>by simp[oX,jp,jb,Ty.cs]) (fun z id o ho=>?_) (fun z id hid=>?_) [(2,.ptr 2 0),(7,.i (s.length:Int)),(8,.ptr 4 0),(50,.fn (.func 84) [] [.ptr 5 0,.ptr 6 0])] (by simp[AV.ids,AV.idsL]) (by simp[go_sem]) (by simp[go_sem]) [2,8] [.ptr 2 0,.ptr 4 0]
          (by intro i hi;match i,hi with|0,_=>rfl|1,_=>rfl) (by simp[AV.idsL,AV.ids]) (fun y hy=>?_) (by rw[hE];decide)
          (fun i z=>YI (yZ D f) ((kids D t).take i) (s++[⟨t,[]⟩])=z) (fun _ _=>False) (fun _ _=>False) (fun _ _ h=>h.elim) ?_ (s++[⟨t,[]⟩],[]) (by simp[YI]) ?_ (fun _ _ _ _ h=>h.elim) (fun _ _ _ _ h=>h.elim)
        · revert ho
          have hz1:=Je 0 z.1
          have hz2:∀ p,AV.idsL p (jN D z.1 (zeros z.1)):=fun p=>jt (Jb D z.1 (zeros z.1))
          refine jM (p:=fun id o=>(id<1000000/\¬ (7<=id/\id<7+1+0))/\o.ids (fun j=>j<1000000/\¬ (7<=j/\j<7+1+0))) ?_ id o
          simp[AObj.ids,AV.ids,AV.idsL,go_sem,hz2]
          exact hz1.ids2 _
        · rcases(by omega:id=0\/id=1\/id=2\/id=3\/id=4\/id=5\/id=6) with rfl|rfl|rfl|rfl|rfl|rfl|rfl<;>simp[oX,jp,jb]
        · obtain⟨c,_,rfl⟩:=List.mem_map.1 hy;rfl
        · rintro ll fnn i y z E' Q' hz hy hE' hN' hnorm hleft hpan
          rw[Qt,List.getElem?_map] at hy
          obtain⟨c,hc,rfl⟩:=Option.map_eq_some_iff.1 hy
          have hcm:=List.mem_of_getElem? hc
          obtain⟨q1,q2,_⟩:=hfa ((kids D t).take i) (s++[⟨t,[]⟩]) (fun c hc=>hkp c (List.mem_of_mem_take hc)) p1 p2 p3 p4
          rw[hz] at q1 q2
          have ih:=ihf c z.1 (hkp c hcm).1 (jfb hD ht hts hcm) q1.pl q1.nd q1.un (hkp c hcm).2 (Nat.lt_of_le_of_lt (QD q1.kys) p4)
          have hnx:YI (yZ D f) ((kids D t).take (i+1)) (s++[⟨t,[]⟩])=((yZ D f c z.1).1,z.2++[(yZ D f c z.1).2]):=by
            rw[List.take_add_one,hc,Option.toList_some,Oe,hz]
          obtain⟨s1,l1⟩:=z
          simp only at ih hnx q1 q2 hnorm ⊢
          have hkl2:=Q9 hD ht
          have hnl:(nI l1).length<=2 ^ 30:=by
            have:(nI l1).length=l1.length:=List.length_map ..
            rw[this,q2,List.length_take];omega
          rw[Ty.av_eq] at ih ⊢
          exact jaC rfl hE (hE'.trans hE) ih hnl (fun O m h=>hnorm O _ m hnx h)
        · rintro O z m hz hent
          refine jj ?_
          refine jk ?_
          refine AW.ent m hent ?_
          have hz':YI (yZ D f) (kids D t) (s++[⟨t,[]⟩])=z:=by rw[hkl,List.take_length] at hz;exact hz
          obtain⟨q1,q2,_⟩:=hfa (kids D t) (s++[⟨t,[]⟩]) hkp p1 p2 p3 p4
          rw[hz'] at q1 q2
          have hzs:z.1[s.length]? =some ⟨t,[]⟩:=by rw[q1.old s.length (by simp)];simp
          have hzn:=YY q1.nd q1.un
          rw[hz'] at hQ
          exact jeh rfl hE hN hzs (by omega) (fun O h1 ⟨m,nc,h2⟩=>(hQ O h1 ⟨m,nc,_,h2,rfl⟩).1)
end Go.Proofs.YtfpcjabbcpgbjaaDoor

namespace Go.Gl
open Go.Am Go.Hv
def esU:Nat->List (List Int)->List (AV×AV)
 |_,[]=>[]
 |k,x::l=>(.str (tx (txL x)),.i (k:Nat))::esU (k+1) l
@[go_sem] theorem jeZ:∀ (k:Nat) (l:List (List Int)),(esU k l).length=l.length
 |_,[]=>rfl
 |k,_::l=>by rw[esU,List.length_cons,jeZ (k+1) l,List.length_cons]
theorem XS:∀ (k:Nat) (l:List (List Int)) (x:List Int),esU k (l++[x])=esU k l++[(.str (tx (txL x)),.i ((k+l.length:Nat):Int))]
 |k,[],x=>by simp[esU]
 |k,y::l,x=>by
  rw[List.cons_append,esU,esU,XS (k+1) l x,List.length_cons,show k+1+l.length=k+(l.length+1) by omega];rfl
theorem xN (x:List Int):∀ (k:Nat) (l:List (List Int)),x∈l->jT (tx (txL x)) (esU k l)=some (some (.i ((k+l.idxOf x:Nat):Int)))
 |k,[],h=>by cases h
 |k,y::l,h=>by
  rw[esU,jT]
  by_cases e:x=y
  ·subst e
   rw[if_pos rfl];simp
  ·rw[if_neg (fun e2=>e (Gq (uR e2)))]
   have hm:x∈l:=by
    rcases List.mem_cons.1 h with h|h
    ·exact absurd h e
    ·exact h
   rw[xN x (k+1) l hm,List.idxOf_cons]
   have hb:(y==x)=false:=by simp;exact fun h=>e h.symm
   rw[hb]
   simp only[cond_false]
   rw[show k+1+List.idxOf x l=k+(List.idxOf x l+1) by omega]
theorem XT (x:List Int):∀ (k:Nat) (l:List (List Int)),x∉l->jT (tx (txL x)) (esU k l)=some none
 |k,[],h=>by rw[esU,jT]
 |k,y::l,h=>by
  rw[esU,jT,if_neg (fun e2=>h (by rw[Gq (uR e2)];simp)),XT x (k+1) l (fun hm=>h (by simp[hm]))]
theorem uk:∀ (k:Nat) (l:List (List Int)),EsClo (esU k l)
 |_,[]=>EsClo.nil
 |k,n::s=>by
  intro p hp
  rw[esU] at hp
  rcases List.mem_cons.1 hp with rfl|hp
  ·exact⟨rfl,rfl⟩
  ·exact uk (k+1) s p hp
def sgk (D:List Dd) (c:List Nat) (n:Nd) (k:Nat):List Int:=lab D n.t++(n.ch.take k).map fun j=>((c.getD j 0:Nat):Int)
theorem jfq (D:List Dd) (c:List Nat) (n:Nd):sgk D c n n.ch.length=lab D n.t++n.ch.map fun j=>((c.getD j 0:Nat):Int):=by rw[sgk,List.take_length]
theorem jdK (D:List Dd) (c:List Nat) (n:Nd):sgk D c n 0=lab D n.t:=by simp[sgk]
theorem jdJ {D:List Dd} {c:List Nat} {n:Nd} {k m:Nat} (h:n.ch[k]? =some m):sgk D c n (k+1)=sgk D c n k++[((c.getD m 0:Nat):Int)]:=by
 simp[sgk,List.take_add_one,h]
def unq (S:List (List Int)) (i:Nat):List (List Int):=JC (S.take i) []
theorem jdU (S:List (List Int)):unq S 0=[]:=by simp[unq,JC]
theorem xf {S:List (List Int)} {i:Nat} {x:List Int} (h:S[i]? =some x):unq S (i+1)=if x∈unq S i then unq S i else unq S i++[x]:=by
 rw[unq,List.take_add_one,h,Option.toList_some,oH,JC,JC]
 unfold unq
 split<;>rfl
theorem jfC (S:List (List Int)):unq S S.length=JC S []:=by rw[unq,List.take_length]
theorem jau {S:List (List Int)} {i:Nat} {x:List Int} (h:S[i]? =some x):x∈unq S (i+1):=by
 rw[xf h];split
 ·assumption
 ·simp
theorem jdx {S:List (List Int)} {i:Nat} {x:List Int} (h:S[i]? =some x):(ranks S)[i]? =some ((unq S (i+1)).idxOf x):=by
 have e:JC S []=JC (S.drop (i+1)) (unq S (i+1)):=by
  rw[unq, <- oH,List.take_append_drop]
 obtain⟨r,hr⟩:=oJ (l:=S.drop (i+1)) (o:=unq S (i+1))
 simp only[ranks,List.getElem?_map,h,Option.map_some]
 have hm:=jau h
 rw[e,hr]
 simp[List.idxOf_append,hm]
def upto {α:Type} (a b:List α) (i:Nat):List α:=a.take i++b.drop i
theorem qW {α:Type} (a b:List α):upto a b 0=b:=by simp[upto]
theorem oM {α:Type} {a b:List α} (h:a.length=b.length):upto a b a.length=a:=by rw[upto,List.take_length,List.drop_eq_nil_of_le (by omega),List.append_nil]
theorem Y5 {α:Type} {a b:List α} (h:a.length=b.length) (i:Nat):(upto a b i).length=a.length:=by
 simp[upto];omega
theorem oO {α:Type} {a b:List α} {i:Nat} {x:α} (h:a.length=b.length) (hx:a[i]? =some x):(upto a b i).set i x=upto a b (i+1):=by
 have hi:=(List.getElem?_eq_some_iff.1 hx).1
 apply List.ext_getElem?
 intro j
 rw[List.getElem?_set]
 have g:∀ k:Nat,(upto a b k)[j]? =if j<k then a[j]? else b[j]? :=fun k=>by
  rw[upto,List.getElem?_append]
  by_cases hk:k<=a.length
  ·rw[List.length_take,Nat.min_eq_left hk]
   by_cases hj:j<k
   ·rw[if_pos hj,if_pos hj,List.getElem?_take,if_pos hj]
   ·rw[if_neg hj,if_neg hj,List.getElem?_drop,show k+(j - k)=j by omega]
  ·rw[List.length_take,Nat.min_eq_right (by omega)]
   by_cases hj:j<a.length
   ·rw[if_pos hj,if_pos (by omega),List.getElem?_take,if_pos (by omega)]
   ·rw[if_neg hj,List.getElem?_drop]
    have e1:b[k+(j - a.length)]? =none:=List.getElem?_eq_none (by omega)
    have e2:a[j]? =none:=List.getElem?_eq_none (by omega)
    have e3:b[j]? =none:=List.getElem?_eq_none (by omega)
    rw[e1];split
    ·rw[e2]
    ·rw[e3]
 by_cases hj:i=j
 ·subst hj
  rw[if_pos rfl,if_pos (by rw[Y5 h];exact hi),g,if_pos (by omega),hx]
 ·rw[if_neg hj,g,g]
  by_cases h2:j<i
  ·rw[if_pos h2,if_pos (by omega)]
  ·rw[if_neg h2,if_neg (by omega)]
theorem oN {α:Type} {a b:List α} {i:Nat} (h:a.length=b.length):(upto a b i)[i]? =b[i]? :=by
 rw[upto,List.getElem?_append]
 by_cases hk:i<=a.length
 ·rw[List.length_take,Nat.min_eq_left hk,if_neg (by omega),List.getElem?_drop,show i+(i - i)=i by omega]
 ·rw[List.length_take,Nat.min_eq_right (by omega),if_neg (by omega),List.getElem?_drop]
  rw[List.getElem?_eq_none (by omega),List.getElem?_eq_none (by omega)]
theorem jbe {D:List Dd} {s:List Nd} {a b:List Nat} {i:Nat} {n:Nd} {k:Nat} (ha:a.length=s.length) (hb:b.length=s.length) (hn:s[i]? =some n) (hk:a[i]? =some k):(jN D s (upto a b i)).set i (ndv D n k)=jN D s (upto a b (i+1)):=by
 have hi:=(List.getElem?_eq_some_iff.1 hn).1
 rw[<- oO (ha.trans hb.symm) hk]
 apply List.ext_getElem?
 intro j
 rw[List.getElem?_set]
 have hl:(upto a b i).length=s.length:=by rw[Y5 (ha.trans hb.symm),ha]
 by_cases hj:i=j
 ·subst hj
  rw[if_pos rfl,if_pos (by rw[yq D s _ hl];exact hi)]
  exact(yU hn (by rw[List.getElem?_set,if_pos rfl,if_pos (by omega)])).symm
 ·rw[if_neg hj]
  simp[jN,List.getElem?_zipWith,List.getElem?_set,hj]
end Go.Gl

set_option maxHeartbeats 4000000
set_option maxRecDepth 100000
namespace Go.Proofs.YtfpcjabbcpgbjaaDoor
open Go.Am Go.Proofs Go.Hv Go.Gl
open Classical
attribute [local irreducible] AW jA CallB CallY
theorem QI {D:List Dd} (hdt:dtB D=true) {l:List Ty} {f:Nat} (hl:∀ t,t∈l->Pl D t) (hf:(uni D l).length<f) (i:Nat):Go.Gl.Spec D (uni D l) [] (jI D f (l.take i))/\left (uni D l) (jI D f (l.take i))<f:=by
 have h:=(O1 hdt (GM D l) (l.take i) [] (fun t ht=>⟨hl t (List.mem_of_mem_take ht),qU (List.mem_of_mem_take ht)⟩) ⟨fun n hn=>(by cases hn),List.nodup_nil,fun j hj=>absurd hj (Nat.not_lt_zero _)⟩ (fun k hk=>by cases hk) (by rw[oe];exact hf)).1
 refine⟨h,Nat.lt_of_le_of_lt (QD h.kys) ?_⟩
 rw[oe];exact hf
theorem jaB {D:List Dd} {f:Nat} {l:List Ty} {i:Nat} {t:Ty} (h:l[i]? =some t):jI D f (l.take (i+1))=(yZ D f t (jI D f (l.take i))).1:=by
 rw[List.take_add_one,h]
 simp[jI,List.foldl_append]
theorem jhJ {D:List Dd} (hD:DB D) (hR:DR D) {t:Ty} (ht:Pl D t):I64 (lab D t)/\(lab D t).length<=2 ^ 32:=by
 have hk:=yL ht
 by_cases h2:t.kind=2
 ·obtain⟨x,hx,h0,_⟩:=yK ht h2
  have hxm:=List.mem_of_getElem? hx
  have hvl:=hD.v x hxm
  have hdr:=hR x hxm
  have hv:vsO D t=some x:=by unfold vsO;rw[if_pos h2,hx]
  rw[yT hv]
  refine⟨fun n hn=>?_,by simp;omega⟩
  simp only[List.cons_append,List.nil_append,List.mem_cons] at hn
  rcases hn with rfl|rfl|rfl|hn
  ·omega
  ·exact hdr
  ·omega
  ·obtain⟨v,hv2,rfl⟩:=List.mem_map.1 hn
   have:=hD.f x hxm v hv2
   omega
 ·rw[JO h2]
  exact⟨fun n hn=>by simp at hn;subst hn;omega,by simp⟩
theorem xE (D:List Dd) (s:List Nd):∀ (n m:Nat),(j9 D s n).getD m 0<=s.length
 |0,m=>by
  rw[j9,List.getD_eq_getElem?_getD,List.getElem?_replicate]
  split<;>simp
 |n+1,m=>by
  rw[j9,ranks,List.getD_eq_getElem?_getD,List.getElem?_map]
  cases h:(yk D s (j9 D s n))[m]? with
  |none=>simp
  |some x=>
   simp only[Option.map_some,Option.getD_some]
   have h1:=List.idxOf_le_length (a:=x) (l:=JC (yk D s (j9 D s n)) [])
   have h2:=oI (l:=yk D s (j9 D s n)) (o:=[])
   have h3:(yk D s (j9 D s n)).length=s.length:=by simp[yk]
   simp only[List.length_nil,Nat.add_zero] at h2
   omega
theorem jfK {D:List Dd} {s:List Nd} (h:Gr D s) {n:Nd} {i k m:Nat} (hn:s[i]? =some n) (hm:n.ch[k]? =some m):∃ n',s[m]? =some n':=by
 obtain⟨n0,h1,h2,h3⟩:=h.ok i (List.getElem?_eq_some_iff.1 hn).1
 rw[hn] at h1
 cases h1
 have hk:=(List.getElem?_eq_some_iff.1 hm).1
 obtain⟨c,hcc⟩:=get?_of (show k<(kids D n.t).length by omega)
 obtain⟨n',h4,_⟩:=h3 k c m hcc hm
 exact⟨n',h4⟩
def pv (D:List Dd) (s:List Nd):Nat->Int
 |0=> -1
 |n+1=>yD D s n
def pvN (D:List Dd) (s:List Nd):Nat->Nat
 |0=>0
 |n+1=>yD D s n+1
theorem jop {D : List Dd} (hD : DB D) (hR : DR D) (hdt : dtB D = true) {l : List Ty} {f : Nat} (hl : ∀ t, t ∈ l -> Pl D t) (hls : ∀ t, t ∈ l -> t.sz <= 2 ^ 30) (hll : l.length <= 2 ^ 30) (hUl : (uni D l).length <= 2 ^ 30) (hf : (uni D l).length < f) :
    ACall Tryd.prog 32 [.sl (ddl D),.sl (Ty.avL l)] (fun _=>none) 0 0 (fun r hp'=>r= .ptr 0 0/\∃ n,yD D (jI D f l) (n+1)=yD D (jI D f l) n/\hp'=qL D (esF 0 (jI D f l)) (jN D (jI D f l) (j9 D (jI D f l) (n+2)))) (fun _ _=>False):=by
  refine ACall.of_bodyR Tryd.func32 jlb rfl (by simp[Tryd.f32]) fun E Q hE hN hQ hQp=>jg ?_
  repeat'(first|apply nx|refine zx ?_|rw[zw]|refine zk ?_|refine zp ?_|(apply zA;exact zb)|((first|refine zR hE @fun K Kp hK hKp zq=>?_|refine zT hE @fun K Kp hK hKp anc hanc zq=>?_|refine zF hE @fun K Kp hK hKp anc hanc zq=>?_|refine zg (fun zq=>?_) fun zq=>?_)<;>simp only[go_sem,zq])|(refine zc (fun hc=>?_) (fun hc=>?_)<;>try exact zh hc))
  refine Qw 4194304 1 6 (l:=[.sl (ddl D),.nilsl,.mp 2097152]) (by simp[jb]) rfl ?_
  dsimp only
  simp only[Nat.reduceAdd]
  refine jB (X:=Nat) (fun i=>i<=l.length) (fun i=>jx [(5,.ptr 0 0),(23,.sl (Ty.avL l)),(24,.i l.length),(25,.i (i:Nat))] [(0,.cells [.sl (ddl D),.rw 2,.mp 1]),(1,.map (esF 0 (jI D f (l.take i)))),(2,.row 6 (jN D (jI D f (l.take i)) (zeros (jI D f (l.take i)))))] 3) (fun i=>l.length - i) 0 (Nat.zero_le _) (fun i=>if i=0 then 4194304 else if i=1 then 2097152 else if i=2 then 9437184 else i) ?_ ?_
  · refine jc (by simp[go_sem]) ?_ (by simp) (by simp[hN])
    simp[go_sem,jb,jI,esF,jN]
  intro i hi
  by_cases hlt:i<l.length
  · obtain⟨t,ht⟩:=get?_of hlt
    have htm:=List.mem_of_getElem? ht
    obtain⟨hs,hleft⟩:=QI hdt hl hf i
    have hadd:=jjN hD hR hdt (GM D l) hUl f t (jI D f (l.take i)) (hl t htm) (hls t htm) hs.pl hs.nd hs.un (qU htm) hleft
    rw[<- jaB ht] at hadd
    have u1:=JA hlt (by omega)
    rw[Ty.av_eq] at hadd
    have hz:=Je 0 (jI D f (l.take i))
    have hz2:=Je 0 (jI D f (l.take (i+1)))
    repeat'(first|apply nx|refine zx ?_|rw[zw]|refine zk ?_|refine zp ?_|(apply zA;exact zb)|((first|refine zR hE @fun K Kp hK hKp zq=>?_|refine zT hE @fun K Kp hK hKp anc hanc zq=>?_|refine zF hE @fun K Kp hK hKp anc hanc zq=>?_|refine zg (fun zq=>?_) fun zq=>?_)<;>simp only[go_sem,ja hlt,ht,Ty.av_eq,u1,zq])|(refine zc (fun hc=>?_) (fun hc=>?_)<;>try exact zh hc))
    refine Hold.mk (UQ hadd (by simp[AV.ids,AV.idsL,go_sem]) 2 7340035 (by decide) rfl (by simp[jb]) (by simp[jb]) (by simp[jb]) fun hpn b0 b1 b2 hold=>?_)
    clear hold
    simp only[go_sem,Jg]
    refine hK.h _ ?_
    clear hK hKp K Kp
    repeat apply nx
    repeat'(first|apply nx|refine zx ?_|rw[zw]|refine zk ?_|refine zp ?_|(apply zA;exact zb)|((first|refine zR hE @fun K Kp hK hKp zq=>?_|refine zT hE @fun K Kp hK hKp anc hanc zq=>?_|refine zF hE @fun K Kp hK hKp anc hanc zq=>?_|refine zg (fun zq=>?_) fun zq=>?_)<;>simp only[go_sem,u1,zq])|(refine zc (fun hc=>?_) (fun hc=>?_)<;>try exact zh hc))
    refine⟨i+1,hlt,by omega,fun j=>if j=2 then 7340035 else j,?_⟩
    refine jc (by simp[go_sem]) ?_ (by simp) (by simp[hN])
    simp[go_sem,b0,b1,b2,hz2.ren]
    exact hz2.ids2 _
  obtain rfl:i=l.length:=by omega
  obtain⟨hG,_,_⟩:=Y8 hdt hl hf
  rw[List.take_length]
  have hsl:(jI D f l).length<=2 ^ 30:=by
    have h:=(QI hdt hl hf l.length).1
    rw[List.take_length] at h
    have:=YY h.nd h.un
    omega
  clear hl hls hf hUl hll
  generalize jI D f l=s at*
  repeat'(first|apply nx|refine zx ?_|rw[zw]|refine zk ?_|refine zp ?_|(apply zA;exact zb)|((first|refine zR hE @fun K Kp hK hKp zq=>?_|refine zT hE @fun K Kp hK hKp anc hanc zq=>?_|refine zF hE @fun K Kp hK hKp anc hanc zq=>?_|refine zg (fun zq=>?_) fun zq=>?_)<;>simp only[go_sem,jE,zq])|(refine zc (fun hc=>?_) (fun hc=>?_)<;>try exact zh hc))
  have hes:=Je 0 s
  refine jB (X:=Nat) (fun _=>True) (fun n=>jx [(5,.ptr 0 0),(8,.i (pv D s n))] [(0,.cells [.sl (ddl D),.rw 2,.mp 1]),(1,.map (esF 0 s)),(2,.row 6 (jN D s (j9 D s n)))] 3) (fun n=>s.length+2 - pvN D s n) 0 trivial (fun i=>i) ?_ ?_
  · refine jc (by simp[go_sem,pv]) ?_ (by simp) (by simp[hN])
    simp[go_sem,hes.ren,j9,zeros]
    exact hes.ids2 _
  intro n _
  have hcb:=xE D s n
  have hcl:=G3 D s n
  have hSl:(yk D s (j9 D s n)).length=s.length:=by simp[yk]
  have hcn:j9 D s (n+1)=ranks (yk D s (j9 D s n)):=rfl
  have hct:(unq (yk D s (j9 D s n)) s.length).length=yD D s n:=by rw[<- hSl,jfC];rfl
  have hSg:∀ (i:Nat) (a:Nd),s[i]? =some a->(yk D s (j9 D s n))[i]? =some (sgk D (j9 D s n) a a.ch.length):=fun i a h=>by rw[yv h,jfq]
  have hrl:(ranks (yk D s (j9 D s n))).length=s.length:=by rw[OR,hSl]
  have hnl:=yq D s _ hcl
  generalize hC:j9 D s n=C at*
  generalize yk D s C=S at*
  repeat'(first|apply nx|refine zx ?_|rw[zw]|refine zk ?_|refine zp ?_|(apply zA;exact zb)|((first|refine zR hE @fun K Kp hK hKp zq=>?_|refine zT hE @fun K Kp hK hKp anc hanc zq=>?_|refine zF hE @fun K Kp hK hKp anc hanc zq=>?_|refine zg (fun zq=>?_) fun zq=>?_)<;>simp only[go_sem,hnl,zq])|(refine zc (fun hc=>?_) (fun hc=>?_)<;>try exact zh hc))
  refine jB (X:=Nat) (fun i=>i<=s.length) (fun i=>jx [(5,.ptr 0 0),(8,.i (pv D s n)),(9,.mp 3),(10,.rw 4),(43,.rw 2),(44,.i s.length),(45,.i (i:Nat))] [(0,.cells [.sl (ddl D),.rw 2,.mp 1]),(1,.map (esF 0 s)),(2,.row 6 (jN D s C)),(3,.map (esU 0 (unq S i))),(4,.row 1 (il (nI (upto (ranks S) (zeros s) i))))] 5) (fun i=>s.length - i) 0 (Nat.zero_le _) (fun i=>if i=4 then 7340035 else i) ?_ ?_
  · refine jc (by simp[go_sem]) ?_ (by simp) (by simp[hN])
    simp[go_sem,hes.ren,jdU,qW,esU,nI,zeros]
    exact hes.ids2 _
  intro i hi
  have heu:=uk 0 (unq S i)
  by_cases hlt:i<s.length
  · obtain⟨a,ha⟩:=get?_of hlt
    obtain⟨ci,hci⟩:=get?_of (show i<C.length by omega)
    have hrow:=yU (D:=D) ha hci
    simp only[ndv] at hrow
    have hal:i<(jN D s C).length:=by omega
    have hSi:=hSg i a ha
    have hap:=hG.pl a (List.mem_of_getElem? ha)
    obtain⟨hlab1,hlab2⟩:=jhJ hD hR hap
    obtain⟨a',ha',hchl,_⟩:=hG.ok i hlt
    rw[ha] at ha'
    cases ha'
    have hkl:=Q9 hD hap
    have hchn:(nI a.ch).length=a.ch.length:=by simp[nI]
    have hsI:∀ k,I64 (sgk D C a k):=fun k x hx=>by
      rcases List.mem_append.1 hx with hx|hx
      · exact hlab1 x hx
      · obtain⟨j,_,rfl⟩:=List.mem_map.1 hx
        have:=hcb j
        omega
    have hsL:∀ k,(sgk D C a k).length<=2 ^ 33:=fun k=>by
      simp only[sgk,List.length_append,List.length_map,List.length_take]
      omega
    repeat'(first|apply nx|refine zx ?_|rw[zw]|refine zk ?_|refine zp ?_|(apply zA;exact zb)|((first|refine zR hE @fun K Kp hK hKp zq=>?_|refine zT hE @fun K Kp hK hKp anc hanc zq=>?_|refine zF hE @fun K Kp hK hKp anc hanc zq=>?_|refine zg (fun zq=>?_) fun zq=>?_)<;>simp only[go_sem,ja hlt,ja hal,hrow,hchn,zq])|(refine zc (fun hc=>?_) (fun hc=>?_)<;>try exact zh hc))
    refine jB (X:=Nat) (fun k=>k<=a.ch.length) (fun k=>jx [(5,.ptr 0 0),(8,.i (pv D s n)),(9,.mp 3),(10,.rw 4),(11,.i (i:Nat)),(13,.str (tx (txL (sgk D C a k)))),(43,.rw 2),(44,.i s.length),(45,.i (i:Nat)),(53,.sl (il (nI a.ch))),(54,.i a.ch.length),(55,.i (k:Nat))] [(0,.cells [.sl (ddl D),.rw 2,.mp 1]),(1,.map (esF 0 s)),(2,.row 6 (jN D s C)),(3,.map (esU 0 (unq S i))),(4,.row 1 (il (nI (upto (ranks S) (zeros s) i))))] 5) (fun k=>a.ch.length - k) 0 (Nat.zero_le _) (fun i=>i) ?_ ?_
    · refine jc (by simp[go_sem,jdK]) ?_ (by simp) (by simp[hN])
      simp[go_sem,hes.ren,heu.ren]
      exact⟨hes.ids2 _,heu.ids2 _⟩
    intro k hk
    by_cases hkt:k<a.ch.length
    · obtain⟨m,hm⟩:=get?_of hkt
      obtain⟨b,hb⟩:=jfK hG ha hm
      have hml:=(List.getElem?_eq_some_iff.1 hb).1
      obtain⟨cm,hcm⟩:=get?_of (show m<C.length by omega)
      have hrm:=yU (D:=D) hb hcm
      simp only[ndv] at hrm
      have hal2:m<(jN D s C).length:=by omega
      have hmk:(il (nI a.ch))[k]? =some (.i (m:Int)):=by simp[il,nI,hm]
      have hkl2:k<(il (nI a.ch)).length:=by simp[il,nI];exact hkt
      have hg:C.getD m 0=cm:=by rw[List.getD_eq_getElem?_getD,hcm];rfl
      have hcm2:=hcb m
      rw[hg] at hcm2
      have hsu:=jdJ (D:=D) (c:=C) hm
      rw[hg] at hsu
      have hI1:I64 [(cm:Int)]:=fun x hx=>by simp at hx;subst hx;omega
      have c1:PCall Tryd.prog 49 [.sl [.i (cm:Nat)]] (.str (tx (txL [(cm:Int)]))):=GK [(cm:Int)] (by simp) hI1
      have hl1:=ye (hsI k)
      have hl2:=ye hI1
      have hl3:=hsL k
      simp only[List.length_cons,List.length_nil] at hl2
      have u1:=JA hkt (by omega)
      repeat'(first|apply nx|refine zx ?_|rw[zw]|refine zk ?_|refine zp ?_|(apply zA;exact zb)|((first|refine zR hE @fun K Kp hK hKp zq=>?_|refine zT hE @fun K Kp hK hKp anc hanc zq=>?_|refine zF hE @fun K Kp hK hKp anc hanc zq=>?_|(apply zM;exact zu;exact c1;exact zs;exact zl;intro zq)|refine zg (fun zq=>?_) fun zq=>?_)<;>simp only[go_sem,ja hkt,ja hkl2,hmk,ja hal2,hrm,u1,gW, <- qq, <- hsu,zq])|(refine zc (fun hc=>?_) (fun hc=>?_)<;>try exact zh hc))
      refine⟨k+1,hkt,by omega,fun j=>j,?_⟩
      refine jc (by simp[go_sem]) ?_ (by simp) (by simp[hN])
      simp[go_sem,hes.ren,heu.ren]
      exact⟨hes.ids2 _,heu.ids2 _⟩
    obtain rfl:k=a.ch.length:=by omega
    generalize sgk D C a a.ch.length=x at hSi
    have hxr:=jdx hSi
    have hxu:=xf hSi
    have u1:=JA hlt (by omega)
    have hup:=oO (b:=zeros s) (by rw[hrl,yH]) hxr
    have hll2:i<(nI (upto (ranks S) (zeros s) i)).length:=by
      simp only[nI,List.length_map];rw[Y5 (by rw[hrl,yH]),hrl];exact hlt
    have hgv:(nI (upto (ranks S) (zeros s) i))[i]? =some 0:=by
      rw[nI,List.getElem?_map,oN (by rw[hrl,yH])]
      simp[zeros,hlt]
    have heu2:=uk 0 (unq S (i+1))
    have hset:∀ r:Nat,(nI (upto (ranks S) (zeros s) i)).set i (r:Int)=nI ((upto (ranks S) (zeros s) i).set i r):=fun r=>by simp[nI,List.map_set]
    by_cases hxm:x∈unq S i
    · rw[if_pos hxm] at hxu
      rw[hxu] at hup
      have hfi:=xN x 0 _ hxm
      rw[Nat.zero_add] at hfi
      repeat'(first|apply nx|refine zx ?_|rw[zw]|refine zk ?_|refine zp ?_|(apply zA;exact zb)|((first|refine zR hE @fun K Kp hK hKp zq=>?_|refine zT hE @fun K Kp hK hKp anc hanc zq=>?_|refine zF hE @fun K Kp hK hKp anc hanc zq=>?_|refine zg (fun zq=>?_) fun zq=>?_)<;>simp only[go_sem,jE,hfi,ja hll2,hgv,u1,zq])|(refine zc (fun hc=>?_) (fun hc=>?_)<;>try exact zh hc))
      refine⟨i+1,hlt,by omega,fun j=>j,?_⟩
      refine jc (by simp[go_sem]) ?_ (by simp) (by simp[hN])
      simp[go_sem,hes.ren,heu.ren,hset,hup,hxu]
      exact⟨hes.ids2 _,heu.ids2 _⟩
    · rw[if_neg hxm] at hxu
      have hfo:=XT x 0 _ hxm
      have hpt:putT (tx (txL x)) (.i ((unq S i).length:Nat)) (esU 0 (unq S i)) none=esU 0 (unq S (i+1)):=by
        have hea:=XS 0 (unq S i) x
        rw[Nat.zero_add] at hea
        rw[hxu,hea];rfl
      have hfi:=xN x 0 (unq S (i+1)) (jau hSi)
      rw[Nat.zero_add] at hfi
      repeat'(first|apply nx|refine zx ?_|rw[zw]|refine zk ?_|refine zp ?_|(apply zA;exact zb)|((first|refine zR hE @fun K Kp hK hKp zq=>?_|refine zT hE @fun K Kp hK hKp anc hanc zq=>?_|refine zF hE @fun K Kp hK hKp anc hanc zq=>?_|refine zg (fun zq=>?_) fun zq=>?_)<;>simp only[go_sem,jE,hfo,hpt,hfi,ja hll2,hgv,u1,zq])|(refine zc (fun hc=>?_) (fun hc=>?_)<;>try exact zh hc))
      refine⟨i+1,hlt,by omega,fun j=>j,?_⟩
      refine jc (by simp[go_sem]) ?_ (by simp) (by simp[hN])
      simp[go_sem,hes.ren,heu2.ren,hset,hup]
      exact⟨hes.ids2 _,heu2.ids2 _⟩
  obtain rfl:i=s.length:=by omega
  have hZ:upto (ranks S) (zeros s) s.length=ranks S:=by rw[<- hrl];exact oM (by rw[hrl,yH])
  have hZ2:upto (ranks S) C s.length=ranks S:=by rw[<- hrl];exact oM (by rw[hrl,hcl])
  rw[hZ]
  repeat'(first|apply nx|refine zx ?_|rw[zw]|refine zk ?_|refine zp ?_|(apply zA;exact zb)|((first|refine zR hE @fun K Kp hK hKp zq=>?_|refine zT hE @fun K Kp hK hKp anc hanc zq=>?_|refine zF hE @fun K Kp hK hKp anc hanc zq=>?_|refine zg (fun zq=>?_) fun zq=>?_)<;>simp only[go_sem,jE,hnl,zq])|(refine zc (fun hc=>?_) (fun hc=>?_)<;>try exact zh hc))
  refine jB (X:=Nat) (fun i=>i<=s.length) (fun i=>jx [(5,.ptr 0 0),(8,.i (pv D s n)),(9,.mp 3),(10,.rw 4),(95,.i s.length),(96,.i (i:Nat))] [(0,.cells [.sl (ddl D),.rw 2,.mp 1]),(1,.map (esF 0 s)),(2,.row 6 (jN D s (upto (ranks S) C i))),(3,.map (esU 0 (unq S s.length))),(4,.row 1 (il (nI (ranks S))))] 5) (fun i=>s.length - i) 0 (Nat.zero_le _) (fun i=>i) ?_ ?_
  · refine jc (by simp[go_sem]) ?_ (by simp) (by simp[hN])
    simp[go_sem,hes.ren,heu.ren,qW]
    exact⟨hes.ids2 _,heu.ids2 _⟩
  intro i hi
  by_cases hlt:i<s.length
  · obtain⟨a,ha⟩:=get?_of hlt
    obtain⟨ci,hci⟩:=get?_of (show i<C.length by omega)
    obtain⟨ri,hri⟩:=get?_of (show i<(ranks S).length by omega)
    have hul:(upto (ranks S) C i).length=s.length:=by rw[Y5 (by omega),hrl]
    have hrow:=yU (D:=D) (c:=upto (ranks S) C i) ha (by rw[oN (by omega),hci])
    have hst:=jbe (D:=D) hrl hcl ha hri
    simp only[ndv] at hrow hst
    have hal:i<(jN D s (upto (ranks S) C i)).length:=by rw[yq D s _ hul];exact hlt
    have hgr:(nI (ranks S))[i]? =some (ri:Int):=by simp[nI,hri]
    have hgl:i<(nI (ranks S)).length:=by simp only[nI,List.length_map];omega
    have u1:=JA hlt (by omega)
    repeat'(first|apply nx|refine zx ?_|rw[zw]|refine zk ?_|refine zp ?_|(apply zA;exact zb)|((first|refine zR hE @fun K Kp hK hKp zq=>?_|refine zT hE @fun K Kp hK hKp anc hanc zq=>?_|refine zF hE @fun K Kp hK hKp anc hanc zq=>?_|refine zg (fun zq=>?_) fun zq=>?_)<;>simp only[go_sem,ja hlt,ja hal,hrow,hgr,ja hgl,u1,hst,zq])|(refine zc (fun hc=>?_) (fun hc=>?_)<;>try exact zh hc))
    refine⟨i+1,hlt,by omega,fun j=>j,?_⟩
    refine jc (by simp[go_sem]) ?_ (by simp) (by simp[hN])
    simp[go_sem,hes.ren,heu.ren]
    exact⟨hes.ids2 _,heu.ids2 _⟩
  obtain rfl:i=s.length:=by omega
  rw[hZ2]
  by_cases hq:(yD D s n:Int)=pv D s n
  · have q:((yD D s n:Int)==pv D s n)=true:=by simp[hq]
    repeat'(first|apply nx|refine zx ?_|rw[zw]|refine zk ?_|refine zp ?_|(apply zA;exact zb)|((first|refine zR hE @fun K Kp hK hKp zq=>?_|refine zT hE @fun K Kp hK hKp anc hanc zq=>?_|refine zF hE @fun K Kp hK hKp anc hanc zq=>?_|refine zg (fun zq=>?_) fun zq=>?_)<;>simp only[go_sem,jE,hct,q,zq])|(refine zc (fun hc=>?_) (fun hc=>?_)<;>try exact zh hc))
    obtain⟨n',rfl⟩:∃ n',n=n'+1:=by
      cases n with
      |zero=>simp only[pv] at hq;omega
      |succ n'=>exact⟨n',rfl⟩
    refine je (hQ _ ⟨.ptr 0 0,fun i=>i,_,3,Ju (by simp only[go_sem]),(by simp[AV.ids,AV.idsL]),?_,rfl,n',(by simp only[pv] at hq;omega),rfl⟩).1
    show Ent _ _ _ (jx [] [(0,.cells [.sl (ddl D),.rw 2,.mp 1]),(1,.map (esF 0 s)),(2,.row 6 (jN D s (j9 D s (n'+1+1))))] 3)
    rw[hcn]
    refine jc (fr:=[]) (by simp) ?_ (by simp) (by simp[hN])
    simp[go_sem,hes.ren]
    exact hes.ids2 _
  · have q:((yD D s n:Int)==pv D s n)=false:=by simp[hq]
    repeat'(first|apply nx|refine zx ?_|rw[zw]|refine zk ?_|refine zp ?_|(apply zA;exact zb)|((first|refine zR hE @fun K Kp hK hKp zq=>?_|refine zT hE @fun K Kp hK hKp anc hanc zq=>?_|refine zF hE @fun K Kp hK hKp anc hanc zq=>?_|refine zg (fun zq=>?_) fun zq=>?_)<;>simp only[go_sem,jE,hct,q,zq])|(refine zc (fun hc=>?_) (fun hc=>?_)<;>try exact zh hc))
    have hle:=jb1 D s n
    refine⟨n+1,trivial,?_,fun j=>j,?_⟩
    · cases n with
      |zero=>simp only[pvN];omega
      |succ n'=>
        have h1:=jgu hdt hG n'
        have h2:=jb1 D s n'
        simp only[pv] at hq
        simp only[pvN]
        omega
    rw[hcn]
    refine jc (by simp[go_sem,pv]) ?_ (by simp) (by simp[hN])
    simp[go_sem,hes.ren]
    exact hes.ids2 _

theorem G0 {D : List Dd} (hD : DB D) {s : List Nd} {c : List Nat} (hcl : c.length = s.length) {t : Ty} (ht : Pl D t) (hts : t.sz <= 2 ^ 30) {i k : Nat} (hi : idx s t = some i) (hk : c[i]? = some k) :
    HC Tryd.prog 33 [.ptr 0 0,t.av] (qL D (esF 0 s) (jN D s c)) 3 (.i (k:Nat)):=by
  have he:=Je 0 s
  have hRc:=Jb D s c
  have hw:=wfG (D:=D) he hRc
  have hkey:=X2 hD.l (2 ^ 30) t hts (by decide) ht
  have hfi:=G7 t 0 s
  rw[hi] at hfi
  simp only[Option.map_some,Nat.zero_add] at hfi
  have hl:=(List.getElem?_eq_some_iff.1 hk).1
  obtain⟨a,ha⟩:=get?_of (show i<s.length by omega)
  have hrow:=yU (D:=D) ha hk
  simp only[ndv] at hrow
  have hal:i<(jN D s c).length:=by rw[yq D s c hcl];omega
  rw[Ty.av_eq] at hkey ⊢
  refine HC.intro hw rfl Tryd.func33 rfl jlc (by simp[Tryd.f33]) fun E Q hE hN hQ=>jg ?_
  repeat'(first|apply nx|refine zx ?_|rw[zw]|refine zk ?_|refine zp ?_|(apply zA;exact zb)|((first|refine zR hE @fun K Kp hK hKp hg=>?_|refine zT hE @fun K Kp hK hKp anc hanc hg=>?_|refine zF hE @fun K Kp hK hKp anc hanc hg=>?_|(apply zM;exact zu;exact hkey;exact zs;exact zl;intro hg)|refine zg (fun hg=>?_) fun hg=>?_)<;>simp only[go_sem,YK,gM,GE,hfi,ja hal,hrow,hg])|(refine zc (fun hc=>?_) (fun hc=>?_)<;>try exact zh hc))
  exact je (hQ _ (by simp only[go_sem];rfl) (Q8 (by simp[jb,YK]) (by simp[jb,gM]) (by simp[jb,GE]))).1
theorem Xc {D : List Dd} (hD : DB D) (hR : DR D) (hdt : dtB D = true) {l : List Ty} {f : Nat} (hl : ∀ t, t ∈ l -> Pl D t) (hls : ∀ t, t ∈ l -> t.sz <= 2 ^ 30) (hll : l.length <= 2 ^ 30) (hUl : (uni D l).length <= 2 ^ 30) (hf : (uni D l).length < f)
    {fr:Nat->Option AV} {hp0:Nat->Option AObj} {n0 k:Nat} {d:Option Nat} {K:St->Prop} {Kp:AV->St->Prop} (B:Nat) (hB:n0+1048576*k=B)
    (hK:∀ n hpn,yD D (jI D f l) (n+1)=yD D (jI D f l) n->hpn B=some (.cells [.sl (ddl D),.rw (B+2),.mp (B+1)])->hpn (B+1)=some (.map (esF 0 (jI D f l)))->hpn (B+2)=some (.row 6 (jN D (jI D f l) (j9 D (jI D f l) (n+2))))->(∀ id o,hp0 id=some o->hpn id=some o)->K ⟨Jg fr d (.ptr B 0),hpn,n0⟩):
    CallB Tryd.prog 32 [.sl (ddl D),.sl (Ty.avL l)] ⟨fr,hp0,n0⟩ k d K Kp:=by
  subst hB
  have hes:=Je 0 (jI D f l)
  refine CallB.use (jop hD hR hdt hl hls hll hUl hf) (fun i=>i) (by simp[AV.renL,AV.ren,go_sem]) (by simp[AV.ids,AV.idsL,go_sem]) (fun id o ho=>by cases ho) (fun _ _ _ _ h=>by cases h) (fun id hid=>absurd hid (Nat.not_lt_zero _)) ?_ (fun _ _ h=>h.elim) ?_ (fun _ _ _ h=>h.elim)
  · rintro r hp' ⟨rfl,n,_,rfl⟩
    have hw:=wfG (D:=D) hes (Jb D (jI D f l) (j9 D (jI D f l) (n+2)))
    exact⟨by simp[AV.ids],fun id o ho=>⟨by have:=(hw.1 id o ho).1;omega,jf _ (fun j hj=>by omega) (hw.1 id o ho).2⟩⟩
  · rintro r hp' fr' hpn ⟨rfl,n,hn,rfl⟩ hfr hobj hold
    have b0:=hobj 0 _ rfl
    have b1:=hobj 1 _ rfl
    have b2:=hobj 2 _ rfl
    simp[jn,AObj.ren,AV.renL,AV.ren,go_sem,hes.ren] at b0 b1 b2
    have e:fr'=Jg fr d (.ptr (n0+1048576*k) 0):=by subst hfr;cases d<;>simp[St.put,Jg,AV.ren,jn]
    subst e
    exact hK n hpn hn b0 b1 b2 (fun id o ho=>hold id o ho fun j hj=>absurd rfl hj)
def dtF (D:List Dd):Bool:=decide (D.length<=200)&&dtB D
noncomputable def smB (D:List Dd) (a b:Ty):Bool:=dtF D&&(plB D a 8&&(plB D b 8&&decide (bis D D a b)))
theorem xF {D : List Dd} (hdt : dtB D = true) {l : List Ty} {f : Nat} (hl : ∀ t, t ∈ l -> Pl D t) (hf : (uni D l).length < f) {n : Nat} (hn : yD D (jI D f l) (n + 1) = yD D (jI D f l) n) {a b : Ty} {i j : Nat} (ha : Pl D a) (hb : Pl D b) (hi : idx (jI D f l) a = some i) (hj : idx (jI D f l) b = some j) :
    ((j9 D (jI D f l) (n+2)).getD i 0=(j9 D (jI D f l) (n+2)).getD j 0↔bis D D a b):=by
  obtain⟨hG,_,_⟩:=Y8 hdt hl hf
  obtain⟨m1,e1,k1⟩:=yp hi
  obtain⟨m2,e2,k2⟩:=yp hj
  have p1:=hG.pl m1 (List.mem_of_getElem? e1)
  have p2:=hG.pl m2 (List.mem_of_getElem? e2)
  have h:=Xt hdt hG hn e1 e2
  have b1:=GC hdt p1 ha k1
  have b2:=GC hdt p2 hb k2
  refine h.trans ⟨fun g=>?_,fun g=>?_⟩
  · exact Jo (Ys b1) (Jo g b2)
  · exact Jo b1 (Jo g (Ys b2))
theorem Xo {D:List Dd} (hD:DB D) (hR:DR D) {a b:Ty} (ha:a.sz<=2 ^ 30) (hb:b.sz<=2 ^ 30) (hUl:(uni D [a,b]).length<=2 ^ 30):PCall Tryd.prog 10 [.sl (ddl D),a.av,b.av] (.bool (smB D a b)):=by
 have c1:=uc hD
 rw[show(decide (D.length<=200)&&dtB D)=dtF D from rfl] at c1
 have c2:=Gj (2 ^ 30) a D 8 ha (by have:=hD.l;omega) (by decide) (by decide)
 have c3:=Gj (2 ^ 30) b D 8 hb (by have:=hD.l;omega) (by decide) (by decide)
 rw[Ty.av_eq] at c2 c3 ⊢
 rw[Ty.av_eq b]
 cases hd:dtF D
 ·rw[hd] at c1
  have e:smB D a b=false:=by simp[smB,hd]
  rw[e]
  refine pI Tryd.func10 XZ fun E Q hE hN hQ=>?_
  repeat'(first|apply nx|refine zx ?_|rw[zw]|refine zk ?_|refine zp ?_|(apply zA;exact zb)|((first|refine zR hE @fun K Kp hK hKp zq=>?_|refine zF hE @fun K Kp hK hKp anc hanc zq=>?_|(apply zM;exact zu;(first|exact c1|exact c2|exact c3);exact zs;exact zl;intro zq)|refine zg (fun zq=>?_) fun zq=>?_)<;>simp only[go_sem,zq])|(refine zc (fun hc=>?_) (fun hc=>?_)<;>try exact zh hc)|(refine je ?_;refine zt hQ ?_))
  simp[AV.snap]
 cases hpa:plB D a 8
 ·rw[hd] at c1
  rw[hpa] at c2
  have e:smB D a b=false:=by simp[smB,hpa]
  rw[e]
  refine pI Tryd.func10 XZ fun E Q hE hN hQ=>?_
  repeat'(first|apply nx|refine zx ?_|rw[zw]|refine zk ?_|refine zp ?_|(apply zA;exact zb)|((first|refine zR hE @fun K Kp hK hKp zq=>?_|refine zF hE @fun K Kp hK hKp anc hanc zq=>?_|(apply zM;exact zu;(first|exact c1|exact c2|exact c3);exact zs;exact zl;intro zq)|refine zg (fun zq=>?_) fun zq=>?_)<;>simp only[go_sem,zq])|(refine zc (fun hc=>?_) (fun hc=>?_)<;>try exact zh hc)|(refine je ?_;refine zt hQ ?_))
  simp[AV.snap]
 cases hpb:plB D b 8
 ·rw[hd] at c1
  rw[hpa] at c2
  rw[hpb] at c3
  have e:smB D a b=false:=by simp[smB,hpb]
  rw[e]
  refine pI Tryd.func10 XZ fun E Q hE hN hQ=>?_
  repeat'(first|apply nx|refine zx ?_|rw[zw]|refine zk ?_|refine zp ?_|(apply zA;exact zb)|((first|refine zR hE @fun K Kp hK hKp zq=>?_|refine zF hE @fun K Kp hK hKp anc hanc zq=>?_|(apply zM;exact zu;(first|exact c1|exact c2|exact c3);exact zs;exact zl;intro zq)|refine zg (fun zq=>?_) fun zq=>?_)<;>simp only[go_sem,zq])|(refine zc (fun hc=>?_) (fun hc=>?_)<;>try exact zh hc)|(refine je ?_;refine zt hQ ?_))
  simp[AV.snap]
 rw[hd] at c1
 rw[hpa] at c2
 rw[hpb] at c3
 have hdt:dtB D=true:=by simp only[dtF,Bool.and_eq_true] at hd;exact hd.2
 have hl:∀ t,t∈ [a,b]->Pl D t:=fun t ht=>by
  simp only[List.mem_cons,List.not_mem_nil,or_false] at ht
  rcases ht with rfl|rfl
  ·exact⟨8,hpa⟩
  ·exact⟨8,hpb⟩
 have hls:∀ t,t∈ [a,b]->t.sz<=2 ^ 30:=fun t ht=>by
  simp only[List.mem_cons,List.not_mem_nil,or_false] at ht
  rcases ht with rfl|rfl
  ·exact ha
  ·exact hb
 obtain⟨f,hf⟩:∃ f,(uni D [a,b]).length<f:=⟨_,Nat.lt_succ_self _⟩
 obtain⟨hG,hin,_⟩:=Y8 hdt hl hf
 obtain⟨i,hi⟩:=hin a (by simp)
 obtain⟨j,hj⟩:=hin b (by simp)
 have e:smB D a b=decide (bis D D a b):=by simp[smB,hd,hpa,hpb]
 rw[e]
 have havl:Ty.avL [a,b]=[.agg [.i a.kind,.i a.id,.sl (Ty.avL a.args)],.agg [.i b.kind,.i b.id,.sl (Ty.avL b.args)]]:=by simp[Ty.avL,Ty.av_eq]
 refine pI Tryd.func10 XZ fun E Q hE hN hQ=>?_
 repeat'(first|apply nx|refine zx ?_|rw[zw]|refine zk ?_|refine zp ?_|(apply zA;exact zb)|((first|refine zR hE @fun K Kp hK hKp zq=>?_|refine zT hE @fun K Kp hK hKp anc hanc zq=>?_|refine zF hE @fun K Kp hK hKp anc hanc zq=>?_|(apply zM;exact zu;(first|exact c1|exact c2|exact c3);exact zs;exact zl;intro zq)|refine zg (fun zq=>?_) fun zq=>?_)<;>simp only[go_sem,zq])|(refine zc (fun hc=>?_) (fun hc=>?_)<;>try exact zh hc))
 refine Hold.mk (CallB.dfrL [22020096] 8 (us':=[.sl (ddl D),.sl (Ty.avL [a,b])]) (by simp only[go_sem,List.mem_cons,List.not_mem_nil,or_false,havl]) (by simp[go_sem]) ?_)
 dsimp only
 refine Xc hD hR hdt hl hls (by simp) hUl hf 23068672 rfl fun n hpn hn b0 b1 b2 hold=>?_
 simp only[Nat.reduceAdd] at b0 b1 b2
 have b3:=hold 0 (.cells [.i a.kind,.i a.id,.sl (Ty.avL a.args)]) (by simp[gL,jb])
 have b4:=hold 1048576 (.cells [.i b.kind,.i b.id,.sl (Ty.avL b.args)]) (by simp[gL,jb])
 clear hold
 have hcq:=xF hdt hl hf hn ⟨8,hpa⟩ ⟨8,hpb⟩ hi hj
 have hsl:(j9 D (jI D f [a,b]) (n+2)).length=(jI D f [a,b]).length:=G3 D _ _
 obtain⟨n1,e1,_⟩:=yp hi
 obtain⟨n2,e2,_⟩:=yp hj
 have l1:=(List.getElem?_eq_some_iff.1 e1).1
 have l2:=(List.getElem?_eq_some_iff.1 e2).1
 obtain⟨ca,hca⟩:=get?_of (show i<(j9 D (jI D f [a,b]) (n+2)).length by omega)
 obtain⟨cb,hcb⟩:=get?_of (show j<(j9 D (jI D f [a,b]) (n+2)).length by omega)
 have h1:=G0 hD hsl ⟨8,hpa⟩ ha hi hca
 have h2:=G0 hD hsl ⟨8,hpb⟩ hb hj hcb
 rw[List.getD_eq_getElem?_getD,hca,List.getD_eq_getElem?_getD,hcb,Option.getD_some,Option.getD_some] at hcq
 rw[Ty.av_eq] at h1 h2
 clear hUl hl hls hG hin hi hj e1 e2 l1 l2 c1 c2 c3 havl
 generalize j9 D (jI D f [a,b]) (n+2)=C at*
 generalize jI D f [a,b]=s at*
 simp only[go_sem,Jg]
 refine hK.h _ ?_
 clear hK hKp K Kp
 repeat apply nx
 have he:=Je 0 s
 have hRc:=Jb D s C
 refine AW.ent (O':=jx [(4,.ptr 3 0),(5,.ptr 4 0),(7,.ptr 0 0)] [(0,.cells [.sl (ddl D),.rw 2,.mp 1]),(1,.map (esF 0 s)),(2,.row 6 (jN D s C)),(3,.cells [.i a.kind,.i a.id,.sl (Ty.avL a.args)]),(4,.cells [.i b.kind,.i b.id,.sl (Ty.avL b.args)])] 5) (fun i=>if i=0 then 23068672 else if i=1 then 23068673 else if i=2 then 23068674 else if i=3 then 0 else if i=4 then 1048576 else i) ?_ ?_
 ·refine jc (by simp[go_sem]) ?_ (by simp) (by simp[hN])
  simp[go_sem,b0,b1,b2,b3,b4,he.ren]
  exact he.ids2 _
 have hg:∀ id ob,qL D (esF 0 s) (jN D s C) id=some ob->jp [(0,.cells [.sl (ddl D),.rw 2,.mp 1]),(1,.map (esF 0 s)),(2,.row 6 (jN D s C)),(3,.cells [.i a.kind,.i a.id,.sl (Ty.avL a.args)]),(4,.cells [.i b.kind,.i b.id,.sl (Ty.avL b.args)])] id=some ob:=Q8 rfl rfl rfl
 refine zF hE @fun K Kp hK hKp anc hanc hg=>?_
 simp only[go_sem]
 repeat(first|rw[zw]|((with_reducible refine And.intro ?_ ?_);exact zb))
 refine gA (us:=[.ptr 0 0,.agg [.i a.kind,.i a.id,.sl (Ty.avL a.args)]]) (by simp[AV.snapL,AV.snap]) h1 ⟨by show 0<3;decide,by simp[AV.ids,AV.idsL,go_sem],trivial⟩ ?_ (by simp[AV.snapOkL,AV.snapOk,go_sem]) (.inl rfl) ?_
 ·exact jM (p:=fun id ob=>_/\id<5/\_) (by simp[jp,jb,AV.noRw])
 simp only[go_sem]
 repeat(first|rw[zw]|((with_reducible refine And.intro ?_ ?_);exact zb))
 refine gA (us:=[.ptr 0 0,.agg [.i b.kind,.i b.id,.sl (Ty.avL b.args)]]) (by simp[AV.snapL,AV.snap]) h2 ⟨by show 0<3;decide,by simp[AV.ids,AV.idsL,go_sem],trivial⟩ ?_ (by simp[AV.snapOkL,AV.snapOk,go_sem]) (.inl rfl) ?_
 ·exact jM (p:=fun id ob=>_/\id<5/\_) (by simp[jp,jb,AV.noRw])
 have e2:((ca:Int)==(cb:Int))=decide (bis D D a b):=by
  rw[Bool.eq_iff_iff]
  simp only[beq_iff_eq,decide_eq_true_eq, <- hcq]
  omega
 simp only[go_sem,e2]
 refine hK.h _ ?_
 clear hK hKp K Kp
 repeat'(first|apply nx|refine zx ?_|rw[zw]|refine zk ?_|refine zp ?_|(apply zA;exact zb)|((first|refine zR hE @fun K Kp hK hKp zq=>?_|refine zF hE @fun K Kp hK hKp anc hanc zq=>?_|refine zg (fun zq=>?_) fun zq=>?_)<;>simp only[go_sem,zq])|(refine zc (fun hc=>?_) (fun hc=>?_)<;>try exact zh hc)|(refine je ?_;refine zt hQ ?_))
 simp[AV.snap]

def jbf (D:List Dd) (t:Ty):Nat->Option AObj:=jp [(0,.cells [.sl (ddl D)]),(1,.cells [.i t.kind,.i t.id,.sl (Ty.avL t.args)])]
theorem jhU (D:List Dd) (t:Ty):jbf D t 0=some (.cells [.sl (ddl D)]):=rfl
theorem jhV (D:List Dd) (t:Ty):jbf D t 1=some (.cells [.i t.kind,.i t.id,.sl (Ty.avL t.args)]):=rfl
theorem wfQ (D:List Dd) (t:Ty):WF (jbf D t) 2:=by
 refine⟨fun id ob h=>?_,fun id hid=>?_,by decide⟩
 ·exact jM (p:=fun id ob=>id<2/\ob.ids (· <2)) (by
   intro q hq
   simp only[List.mem_cons,List.not_mem_nil,or_false] at hq
   rcases hq with rfl|rfl
   ·exact⟨by show 0<2;decide,by simp[AObj.ids,AV.ids,AV.idsL,go_sem]⟩
   ·exact⟨by show 1<2;decide,by simp[AObj.ids,AV.ids,AV.idsL,go_sem]⟩) id ob h
 ·rcases(by omega:id=0\/id=1) with rfl|rfl<;>simp[jbf,jp,jb]
theorem jdI {D:List Dd} (hD:DB D) (hR:DR D) {x t:Ty} (hx:x.sz<=2 ^ 30) (ht:t.sz<=2 ^ 30) (hUl:(uni D [x,t]).length<=2 ^ 30):HC Tryd.prog 36 [x.av,.ptr 0 0,.ptr 1 0] (jbf D t) 2 (.bool (smB D x t)):=by
 have hw:=wfQ D t
 have c0:=Xo hD hR hx ht hUl
 rw[Ty.av_eq,Ty.av_eq] at c0
 rw[Ty.av_eq]
 refine HC.intro hw rfl Tryd.func36 rfl jle (by simp[Tryd.f36]) fun E Q hE hN hQ=>jg ?_
 repeat'(first|apply nx|refine zx ?_|rw[zw]|refine zk ?_|refine zp ?_|(apply zA;exact zb)|((first|refine zR hE @fun K Kp hK hKp hg=>?_|refine zT hE @fun K Kp hK hKp anc hanc hg=>?_|refine zF hE @fun K Kp hK hKp anc hanc hg=>?_|(apply zM;exact zu;exact c0;exact zs;exact zl;intro hg)|refine zg (fun hg=>?_) fun hg=>?_)<;>simp only[go_sem,jhU,jhV,hg])|(refine zc (fun hc=>?_) (fun hc=>?_)<;>try exact zh hc))
 exact je (hQ _ (by simp only[go_sem];rfl) (fun id ob h=>by have:=hw.lt h;simp only[jb];rw[if_neg (by omega)];exact h)).1
noncomputable def jex (D:List Dd) (l:List Ty) (i:Nat) (t:Ty):Int:=if 0<=yP (fun x=>smB D x t) (l.take i) 0 then yP (fun x=>smB D x t) (l.take i) 0 else(i:Int)
noncomputable def gg (D:List Dd) (l:List Ty):List Int:=l.mapIdx fun i t=>jex D l i t
theorem jbZ {D:List Dd} {l:List Ty} {i:Nat} {t:Ty} (h:l[i]? =some t):(gg D l)[i]? =some (jex D l i t):=by simp[gg,h]
theorem QS (D:List Dd) (l:List Ty):(gg D l).length=l.length:=by simp[gg]
theorem QJ:∀ (l:List Ty) (i:Nat),(Ty.avL l).take i=Ty.avL (l.take i)
 | [],i=>by simp[Ty.avL]
 |t::l,0=>by simp[Ty.avL]
 |t::l,i+1=>by rw[Ty.avL,List.take_succ_cons,List.take_succ_cons,Ty.avL,QJ l i]
theorem szok_avL:∀ (l:List Ty),SzOk (Ty.avL l) 3
 | [],x,h=>by simp[Ty.avL] at h
 |t::l,x,h=>by
  rw[Ty.avL] at h
  rcases List.mem_cons.1 h with rfl|h
  ·rw[Ty.av_eq];rfl
  ·exact szok_avL l x h
theorem jaJ {D:List Dd} (hD:DB D) (hR:DR D) {l:List Ty} (hl:l.length<=2 ^ 30) (hls:∀ t,t∈l->t.sz<=2 ^ 30) (hUl:∀ x t,x∈l->t∈l->(uni D [x,t]).length<=2 ^ 30):PCall Tryd.prog 12 [.sl (ddl D),.sl (Ty.avL l)] (.sl (il (gg D l))):=by
 refine pI Tryd.func12 jk0 fun E Q hE hN hQ=>?_
 repeat'(first|apply nx|refine zx ?_|rw[zw]|refine zk ?_|refine zp ?_|(apply zA;exact zb)|((first|refine zR hE @fun K Kp hK hKp hg=>?_|refine zT hE @fun K Kp hK hKp anc hanc hg=>?_|refine zF hE @fun K Kp hK hKp anc hanc hg=>?_|refine zg (fun hg=>?_) fun hg=>?_)<;>simp only[go_sem,hg])|(refine zc (fun hc=>?_) (fun hc=>?_)<;>try exact zh hc))
 refine jB (X:=Nat) (fun i=>i<=l.length) (fun i=>jx [(1,.sl (Ty.avL l)),(2,.ptr 0 0),(5,.rw 1),(12,.sl (Ty.avL l)),(13,.i l.length),(14,.i (i:Nat))] [(0,.cells [.sl (ddl D)]),(1,.row 1 (il (upto (gg D l) (List.replicate l.length 0) i)))] 2) (fun i=>l.length - i) 0 (Nat.zero_le _) (fun i=>if i=1 then 4194304 else i) ?_ ?_
 ·refine jc (by simp[go_sem]) ?_ (by simp) (by simp[hN])
  simp[go_sem,qW]
 intro i hi
 have hlen:(gg D l).length=(List.replicate l.length (0:Int)).length:=by rw[QS];simp
 have hup:=Y5 hlen i
 rw[QS] at hup
 by_cases hlt:i<l.length
 ·obtain⟨t,ht⟩:=get?_of hlt
  have htm:=List.mem_of_getElem? ht
  have u1:=JA hlt (by omega)
  have hal:i<(upto (gg D l) (List.replicate l.length 0) i).length:=by omega
  have hg0:(upto (gg D l) (List.replicate l.length 0) i)[i]? =some 0:=by rw[oN hlen];simp[hlt]
  have hst:=oO hlen (jbZ (D:=D) ht)
  have c0:=UE (l.take i) 36 [.ptr 0 0,.ptr 1 0] (jbf D t) 2 (fun x=>smB D x t) (by simp[AV.idsL,AV.ids]) (wfQ D t) (by simp;omega) (fun x hx=>jdI hD hR (hls x (List.mem_of_mem_take hx)) (hls t htm) (hUl x t (List.mem_of_mem_take hx) htm))
  have hgl:0<=(i:Int)/\i<=l.length:=⟨by omega,hi⟩
  repeat'(first|apply nx|refine zx ?_|rw[zw]|refine zk ?_|refine zp ?_|(apply zA;exact zb)|((first|refine zR hE @fun K Kp hK hKp hg=>?_|refine zT hE @fun K Kp hK hKp anc hanc hg=>?_|refine zF hE @fun K Kp hK hKp anc hanc hg=>?_|refine zg (fun hg=>?_) fun hg=>?_)<;>simp only[go_sem,ja hlt,ht,Ty.av_eq,ja hal,hg0,QJ,hg])|(refine zc (fun hc=>?_) (fun hc=>?_)<;>try exact zh hc))
  refine⟨⟨⟨by omega,hi⟩,szok_avL l⟩,?_⟩
  repeat'(first|apply nx|refine zx ?_|rw[zw]|refine zk ?_|refine zp ?_|(apply zA;exact zb)|((first|refine zR hE @fun K Kp hK hKp hg=>?_|refine zT hE @fun K Kp hK hKp anc hanc hg=>?_|refine zF hE @fun K Kp hK hKp anc hanc hg=>?_|refine zg (fun hg=>?_) fun hg=>?_)<;>simp only[go_sem,QJ,hg])|(refine zc (fun hc=>?_) (fun hc=>?_)<;>try exact zh hc))
  refine Hold.mk (HC.use c0 (fun i=>if i=1 then 4194306 else i) (by simp[AV.renL,AV.ren,go_sem]) (by simp[go_sem,AV.idsL,AV.ids]) (fun id ob h=>?_) (fun a b ha hb e=>by split at e<;>split at e<;>omega) ?_)
  ·revert id ob
   exact jM (p:=fun id ob=>jb _ _ _ (if id=1 then 4194306 else id)=some (ob.ren _)) (by simp[jb,AObj.ren,AV.renL,AV.ren,go_sem])
  rintro hpn hold
  have b0:=hold 0 (.cells [.sl (ddl D)]) (by simp[jb])
  have b1:=hold 1 (.row 1 (il ((upto (gg D l) (List.replicate l.length 0) i).set i (i:Int)))) (by simp[jb])
  clear hold
  have hul:=Y5 hlen i
  have hset:∀ x:Int,((upto (gg D l) (List.replicate l.length 0) i).set i (i:Int)).set i x=(upto (gg D l) (List.replicate l.length 0) i).set i x:=fun x=>by rw[List.set_set]
  have hal2:i<((upto (gg D l) (List.replicate l.length 0) i).set i (i:Int)).length:=by rw[List.length_set];exact hal
  have hg2:((upto (gg D l) (List.replicate l.length 0) i).set i (i:Int))[i]? =some (i:Int):=by simp[hal]
  rw[jex] at hst
  generalize yP (fun x=>smB D x t) (l.take i) 0=k at*
  simp only[go_sem,Jg]
  refine hK.h _ ?_
  clear hK hKp K Kp
  repeat apply nx
  refine AW.ent (O':=jx [(1,.sl (Ty.avL l)),(2,.ptr 0 0),(5,.rw 1),(6,.i (i:Nat)),(8,.i k),(12,.sl (Ty.avL l)),(13,.i l.length),(14,.i (i:Nat))] [(0,.cells [.sl (ddl D)]),(1,.row 1 (il ((upto (gg D l) (List.replicate l.length 0) i).set i (i:Int))))] 2) (fun i=>i) ?_ ?_
  ·refine jc (by simp[go_sem]) ?_ (by simp) (by simp[hN])
   simp[go_sem,b0,b1]
  by_cases hk:0<=k
  ·rw[if_pos hk] at hst
   have q:decide (0<=k)=true:=decide_eq_true hk
   repeat'(first|apply nx|refine zx ?_|rw[zw]|refine zk ?_|refine zp ?_|(apply zA;exact zb)|((first|refine zR hE @fun K Kp hK hKp hg=>?_|refine zT hE @fun K Kp hK hKp anc hanc hg=>?_|refine zF hE @fun K Kp hK hKp anc hanc hg=>?_|refine zg (fun hg=>?_) fun hg=>?_)<;>simp only[go_sem,q,ja hal2,hg2,hset,hst,u1,hg])|(refine zc (fun hc=>?_) (fun hc=>?_)<;>try exact zh hc))
   refine⟨i+1,hlt,by omega,fun j=>j,?_⟩
   refine jc (by simp[go_sem]) ?_ (by simp) (by simp[hN])
   simp[go_sem]
  ·rw[if_neg hk] at hst
   have q:decide (0<=k)=false:=decide_eq_false hk
   rw[hst]
   repeat'(first|apply nx|refine zx ?_|rw[zw]|refine zk ?_|refine zp ?_|(apply zA;exact zb)|((first|refine zR hE @fun K Kp hK hKp hg=>?_|refine zT hE @fun K Kp hK hKp anc hanc hg=>?_|refine zF hE @fun K Kp hK hKp anc hanc hg=>?_|refine zg (fun hg=>?_) fun hg=>?_)<;>simp only[go_sem,q,u1,hg])|(refine zc (fun hc=>?_) (fun hc=>?_)<;>try exact zh hc))
   refine⟨i+1,hlt,by omega,fun j=>j,?_⟩
   refine jc (by simp[go_sem]) ?_ (by simp) (by simp[hN])
   simp[go_sem]
 obtain rfl:i=l.length:=by omega
 have hall:upto (gg D l) (List.replicate l.length 0) l.length=gg D l:=by
  have h:=oM hlen
  rw[QS] at h
  exact h
 rw[hall]
 repeat'(first|apply nx|refine zx ?_|rw[zw]|refine zk ?_|refine zp ?_|(apply zA;exact zb)|((first|refine zR hE @fun K Kp hK hKp hg=>?_|refine zF hE @fun K Kp hK hKp anc hanc hg=>?_|refine zg (fun hg=>?_) fun hg=>?_)<;>simp only[go_sem,jE,hg])|(refine zc (fun hc=>?_) (fun hc=>?_)<;>try exact zh hc)|(refine je ?_;refine zt hQ ?_))
 simp[AV.snap,AV.snapOk,jb,AV.clo,go_sem]
end Go.Proofs.YtfpcjabbcpgbjaaDoor

namespace Go.Gl
open Go Go.Am Go.Hv
def esN:Nat->List Nat->List (AV×AV)
 |_,[]=>[]
 |k,x::l=>(.i (x:Nat),.i (k:Nat))::esN (k+1) l
@[go_sem] theorem jeY:∀ (k:Nat) (l:List Nat),(esN k l).length=l.length
 |_,[]=>rfl
 |k,_::l=>by rw[esN,List.length_cons,jeY (k+1) l,List.length_cons]
theorem XQ:∀ (k:Nat) (l:List Nat) (x:Nat),esN k (l++[x])=esN k l++[(.i (x:Nat),.i ((k+l.length:Nat):Int))]
 |k,[],x=>by simp[esN]
 |k,y::l,x=>by
  rw[List.cons_append,esN,esN,XQ (k+1) l x,List.length_cons,show k+1+l.length=k+(l.length+1) by omega];rfl
theorem xM (x:Nat):∀ (k:Nat) (l:List Nat),x∈l->jY .i64 (x:Int) (esN k l)=some (some (.i ((k+l.idxOf x:Nat):Int)))
 |k,[],h=>by cases h
 |k,y::l,h=>by
  rw[esN,jY,if_pos rfl]
  by_cases e:x=y
  ·subst e
   rw[if_pos rfl];simp
  ·rw[if_neg (by omega)]
   have hm:x∈l:=by
    rcases List.mem_cons.1 h with h|h
    ·exact absurd h e
    ·exact h
   rw[xM x (k+1) l hm,List.idxOf_cons]
   have hb:(y==x)=false:=by simp;omega
   rw[hb]
   simp only[cond_false]
   rw[show k+1+List.idxOf x l=k+(List.idxOf x l+1) by omega]
theorem XR (x:Nat):∀ (k:Nat) (l:List Nat),x∉l->jY .i64 (x:Int) (esN k l)=some none
 |k,[],h=>by rw[esN,jY]
 |k,y::l,h=>by
  rw[esN,jY,if_pos rfl,if_neg (fun e=>h (by simp;left;omega)),XR x (k+1) l (fun hm=>h (by simp[hm]))]
theorem QA:∀ (k:Nat) (l:List Nat),EsClo (esN k l)
 |_,[]=>EsClo.nil
 |k,n::s=>by
  intro p hp
  rw[esN] at hp
  rcases List.mem_cons.1 hp with rfl|hp
  ·exact⟨rfl,rfl⟩
  ·exact QA (k+1) s p hp
theorem Qo (cls : Nat -> Nat) (c : Nat) : ∀ (l o : List Nat), jH cls (l ++ [c]) o =
    (if cls c∈(jH cls l o).1.map cls then(jH cls l o).1 else(jH cls l o).1++[c],(jH cls l o).2++[((if cls c∈(jH cls l o).1.map cls then(jH cls l o).1 else(jH cls l o).1++[c]).map cls).idxOf (cls c)])
  | [],o=>by simp[jH]
  |d::l,o=>by
    rw[List.cons_append,jH,Qo cls c l]
    simp only[jH]
    rfl
noncomputable def clC (D:List Dd) (s:List Nd):Nat->Nat:=open Classical in if h:∃ cls,YN D s cls then Classical.choose h else fun _=>0
theorem jbR {D:List Dd} {s:List Nd} {cls:Nat->Nat} (h:YN D s cls):YN D s (clC D s):=by
 unfold clC
 rw[dif_pos ⟨cls,h⟩]
 exact Classical.choose_spec (⟨cls,h⟩:∃ cls,YN D s cls)
theorem qC (n:Nat) (r:List Nat) (l:List Int):Qq (n::r) l=(n:Int)::(l.take n)++Qq r (l.drop n):=by rw[Qq];rfl
end Go.Gl

set_option maxHeartbeats 4000000
set_option maxRecDepth 100000
namespace Go.Gl
open Go Go.Am Go.Hv
def nds (D:List Dd) (t:Ty):List Nd:=jI D ((uni D [t]).length+1) [t]
def rtN (D:List Dd) (t:Ty):Nat:=(idx (nds D t) t).getD 0
noncomputable def U8 (D:List Dd) (t:Ty):List Int:=yz D (nds D t) (shS (nds D t) (clC D (nds D t)) (rtN D t) (nds D t).length).2
theorem OV (cls:Nat->Nat):∀ (l o:List Nat),(jH cls l o).1.length<=o.length+l.length
 | [],o=>by simp[jH]
 |c::l,o=>by
  rw[jH]
  have h:=OV cls l (if cls c∈o.map cls then o else o++[c])
  refine Nat.le_trans h ?_
  split<;>simp<;>omega
def DS (D:List Dd):Prop:=∀ x,x∈D->x.vs.length<=2 ^ 20/\(x.vs.flatMap Dv.fs).length<=2 ^ 20
theorem jba {D:List Dd} (hS:DS D) {t:Ty} (ht:Pl D t):(kids D t).length<=2 ^ 20:=by
 by_cases h2:t.kind=2
 ·obtain⟨x,hx⟩:=yy ht h2
  unfold kids
  rw[hx]
  exact(hS x (List.mem_of_getElem? (Yz hx).2)).2
 ·by_cases h3:t.kind=3
  ·obtain⟨a,e,ha⟩:=JS ht h3
   rw[JB h3 e];simp
  ·rw[Jv h2 h3];simp
theorem Uo:∀ (a:List Nat) (l:List Int),(Qq a l).length<=a.length+l.length
 | [],l=>by simp[Qq]
 |n::a,l=>by
  rw[qC]
  have h:=Uo a (l.drop n)
  simp only[List.length_append,List.length_cons,List.length_take,List.length_drop,List.cons_append] at h ⊢
  omega
theorem Up:∀ {a:List Nat} {l:List Int},l.length=a.sum->(Qq a l).length=a.length+l.length
 | [],l,h=>by simp at h;simp[Qq,h]
 |n::a,l,h=>by
  rw[List.sum_cons] at h
  rw[qC]
  have h2:=Up (a:=a) (l:=l.drop n) (by rw[List.length_drop];omega)
  simp only[List.length_append,List.length_cons,List.length_take,List.length_drop,List.cons_append] at h2 ⊢
  omega
theorem XF {D:List Dd} (hS:DS D) (t:Ty) {l:List Int} (hl:l.length<=2 ^ 20):(blk D t l).length<=4194304:=by
 unfold blk
 split
 ·rename_i x hx
  have h1:=Uo (x.vs.map fun v=>v.fs.length) l
  have h2:=(hS x (List.mem_of_getElem? (Yz hx).2)).1
  simp only[List.length_append,List.length_cons,List.length_nil,List.length_map] at h1 ⊢
  omega
 ·simp only[List.length_cons];omega
theorem jad {D:List Dd} (hS:DS D) {s:List Nd} (hG:Gr D s) (cls:Nat->Nat) {root:Nat} (hr:root<s.length):∀ k,(yz D s (shS s cls root k).2).length<=k*4194304
 |0=>by simp[shS,yz]
 |k+1=>by
  have ih:=jad hS hG cls hr k
  have hI:=Xq (cls:=cls) hG hr k
  rw[shS]
  split
  ·rename_i j hj
   have hjs:=hI.lt j (List.mem_of_getElem? hj)
   obtain⟨a,ha⟩:=get?_of hjs
   obtain⟨a',ha',hchl,_⟩:=hG.ok j hjs
   rw[ha] at ha'
   cases ha'
   have hkl:=jba hS (hG.pl a (List.mem_of_getElem? ha))
   have hn:=(gt cls (chO s j) (shS s cls root k).1).1
   rw[xB ha] at hn
   simp only[yz,List.flatMap_append,List.length_append,List.flatMap_cons,List.flatMap_nil,List.append_nil] at ih ⊢
   have hb:=XF hS (tyO s j) (l:=nI (jH cls (chO s j) (shS s cls root k).1).2) (by simp only[nI,List.length_map];rw[xB ha];omega)
   rw[Nat.add_mul,Nat.one_mul]
   exact Nat.add_le_add ih hb
  ·exact Nat.le_trans ih (Nat.mul_le_mul_right _ (Nat.le_succ k))
end Go.Gl
namespace Go.Proofs.YtfpcjabbcpgbjaaDoor
open Go.Am Go.Proofs Go.Hv Go.Gl
open Classical
attribute [local irreducible] AW jA CallB CallY
theorem szok_il (l:List Int):SzOk (il l) 1:=fun y hy=>by
 obtain⟨n,_,rfl⟩:=List.mem_map.1 hy
 rfl
noncomputable def shp (D:List Dd) (t:Ty):List Int:=if dtF D&&plB D t 8 then U8 D t else []
theorem jfs {D:List Dd} (hD:DB D) (hR:DR D) (hS:DS D) {t:Ty} (hts:t.sz<=2 ^ 30) (hU2:(uni D [t]).length<=2 ^ 21):PCall Tryd.prog 9 [.sl (ddl D),t.av] (.sl (il (shp D t))):=by
 have hUl:(uni D [t]).length<=2 ^ 30:=by omega
 have c1:=uc hD
 rw[show(decide (D.length<=200)&&dtB D)=dtF D from rfl] at c1
 have c2:=Gj (2 ^ 30) t D 8 hts (by have:=hD.l;omega) (by decide) (by decide)
 rw[Ty.av_eq] at c2 ⊢
 cases hd:dtF D
 ·rw[hd] at c1
  have e:shp D t=[]:=by simp[shp,hd]
  rw[e]
  refine pI Tryd.func9 jhH fun E Q hE hN hQ=>?_
  repeat'(first|apply nx|refine zx ?_|rw[zw]|refine zk ?_|refine zp ?_|(apply zA;exact zb)|((first|refine zR hE @fun K Kp hK hKp hg=>?_|refine zF hE @fun K Kp hK hKp anc hanc hg=>?_|(apply zM;exact zu;(first|exact c1|exact c2);exact zs;exact zl;intro hg)|refine zg (fun hg=>?_) fun hg=>?_)<;>simp only[go_sem,hg])|(refine zc (fun hc=>?_) (fun hc=>?_)<;>try exact zh hc)|(refine je ?_;refine zt hQ ?_))
  simp[AV.snap,il]
 cases hpa:plB D t 8
 ·rw[hd] at c1
  rw[hpa] at c2
  have e:shp D t=[]:=by simp[shp,hpa]
  rw[e]
  refine pI Tryd.func9 jhH fun E Q hE hN hQ=>?_
  repeat'(first|apply nx|refine zx ?_|rw[zw]|refine zk ?_|refine zp ?_|(apply zA;exact zb)|((first|refine zR hE @fun K Kp hK hKp hg=>?_|refine zF hE @fun K Kp hK hKp anc hanc hg=>?_|(apply zM;exact zu;(first|exact c1|exact c2);exact zs;exact zl;intro hg)|refine zg (fun hg=>?_) fun hg=>?_)<;>simp only[go_sem,hg])|(refine zc (fun hc=>?_) (fun hc=>?_)<;>try exact zh hc)|(refine je ?_;refine zt hQ ?_))
  simp[AV.snap,il]
 rw[hd] at c1
 rw[hpa] at c2
 have hdt:dtB D=true:=by simp only[dtF,Bool.and_eq_true] at hd;exact hd.2
 have hl:∀ u,u∈ [t]->Pl D u:=fun u hu=>by
  simp only[List.mem_cons,List.not_mem_nil,or_false] at hu
  subst hu
  exact⟨8,hpa⟩
 have hls:∀ u,u∈ [t]->u.sz<=2 ^ 30:=fun u hu=>by
  simp only[List.mem_cons,List.not_mem_nil,or_false] at hu
  subst hu
  exact hts
 have hf:(uni D [t]).length<(uni D [t]).length+1:=Nat.lt_succ_self _
 obtain⟨hG,hin,_⟩:=Y8 hdt hl hf
 obtain⟨i,hi⟩:=hin t (by simp)
 have e:shp D t=U8 D t:=by simp[shp,hd,hpa]
 rw[e]
 have havl:Ty.avL [t]=[.agg [.i t.kind,.i t.id,.sl (Ty.avL t.args)]]:=by simp[Ty.avL,Ty.av_eq]
 have hkey:=X2 hD.l (2 ^ 30) t hts (by decide) ⟨8,hpa⟩
 refine pI Tryd.func9 jhH fun E Q hE hN hQ=>?_
 repeat'(first|apply nx|refine zx ?_|rw[zw]|refine zk ?_|refine zp ?_|(apply zA;exact zb)|((first|refine zR hE @fun K Kp hK hKp hg=>?_|refine zT hE @fun K Kp hK hKp anc hanc hg=>?_|refine zF hE @fun K Kp hK hKp anc hanc hg=>?_|(apply zM;exact zu;(first|exact c1|exact c2);exact zs;exact zl;intro hg)|refine zg (fun hg=>?_) fun hg=>?_)<;>simp only[go_sem,hg])|(refine zc (fun hc=>?_) (fun hc=>?_)<;>try exact zh hc))
 refine Hold.mk (CallB.dfrL [13631488] 8 (us':=[.sl (ddl D),.sl (Ty.avL [t])]) (by simp only[go_sem,List.mem_cons,List.not_mem_nil,or_false,havl]) (by simp[go_sem]) ?_)
 dsimp only
 refine Xc hD hR hdt hl hls (by simp) hUl hf 14680064 rfl fun n hpn hn b0 b1 b2 hold=>?_
 simp only[Nat.reduceAdd] at b0 b1 b2
 have b3:=hold 0 (.cells [.i t.kind,.i t.id,.sl (Ty.avL t.args)]) (by simp[gL,jb])
 clear hold
 have hcl:=G3 D (jI D ((uni D [t]).length+1) [t]) (n+2)
 have hcb:=xE D (jI D ((uni D [t]).length+1) [t]) (n+2)
 have hok:YN D (jI D ((uni D [t]).length+1) [t]) (fun j=>(j9 D (jI D ((uni D [t]).length+1) [t]) (n+2)).getD j 0):=fun i j a b ha hb=>Xt hdt hG hn ha hb
 have hsl:(jI D ((uni D [t]).length+1) [t]).length<=2 ^ 21:=by
  have h:=(QI hdt hl hf 1).1
  rw[List.take_of_length_le (by simp)] at h
  have:=YY h.nd h.un
  omega
 have hsh:yz D (jI D ((uni D [t]).length+1) [t]) (shS (jI D ((uni D [t]).length+1) [t]) (fun j=>(j9 D (jI D ((uni D [t]).length+1) [t]) (n+2)).getD j 0) i (jI D ((uni D [t]).length+1) [t]).length).2=U8 D t:=by
  have hrt:rtN D t=i:=by unfold rtN nds;rw[hi];rfl
  unfold U8
  rw[hrt]
  obtain⟨a,ha,_⟩:=yp hi
  exact(jdL hdt hdt hG hG hok (jbR hok) ⟨a,a,ha,ha,GT D _⟩ _).2
 rw[<- hsh] at hQ
 obtain⟨n1,e1,_⟩:=yp hi
 have l1:=(List.getElem?_eq_some_iff.1 e1).1
 have hfi:=G7 t 0 (jI D ((uni D [t]).length+1) [t])
 rw[hi] at hfi
 simp only[Option.map_some,Nat.zero_add] at hfi
 obtain⟨ci,hci⟩:=get?_of (show i<(j9 D (jI D ((uni D [t]).length+1) [t]) (n+2)).length by omega)
 have h1:=G0 hD hcl ⟨8,hpa⟩ hts hi hci
 rw[Ty.av_eq] at h1 hkey
 clear hUl hU2 hl hls hin hi c1 c2 havl hsh hn e hf hd
 generalize j9 D (jI D ((uni D [t]).length+1) [t]) (n+2)=C at*
 generalize jI D ((uni D [t]).length+1) [t]=s at*
 simp only[go_sem,Jg]
 refine hK.h _ ?_
 clear hK hKp K Kp
 repeat apply nx
 have he:=Je 0 s
 have hRc:=Jb D s C
 refine AW.ent (O':=jx [(0,.sl (ddl D)),(3,.ptr 3 0),(5,.ptr 0 0)] [(0,.cells [.sl (ddl D),.rw 2,.mp 1]),(1,.map (esF 0 s)),(2,.row 6 (jN D s C)),(3,.cells [.i t.kind,.i t.id,.sl (Ty.avL t.args)])] 4) (fun i=>if i=0 then 14680064 else if i=1 then 14680065 else if i=2 then 14680066 else if i=3 then 0 else i) ?_ ?_
 ·refine jc (by simp[go_sem]) ?_ (by simp) (by simp[hN])
  simp[go_sem,b0,b1,b2,b3,he.ren]
  exact he.ids2 _
 clear b0 b1 b2 b3
 repeat'(first|apply nx|refine zx ?_|rw[zw]|refine zk ?_|refine zp ?_|(apply zA;exact zb)|((first|refine zR hE @fun K Kp hK hKp hg=>?_|refine zT hE @fun K Kp hK hKp anc hanc hg=>?_|refine zF hE @fun K Kp hK hKp anc hanc hg=>?_|refine zg (fun hg=>?_) fun hg=>?_)<;>simp only[go_sem,hg])|(refine zc (fun hc=>?_) (fun hc=>?_)<;>try exact zh hc))
 refine Hold.mk (HC.use h1 (fun i=>i) (by rw[jv]) (by simp[go_sem,AV.idsL,AV.ids]) (fun id ob h=>by rw[jw];exact Q8 (by simp[jb]) (by simp[jb]) (by simp[jb]) id ob h) (fun _ _ _ _ e=>e) ?_)
 rintro hpn2 hold
 have b0:=hold 0 (.cells [.sl (ddl D),.rw 2,.mp 1]) (by simp[jb])
 have b1:=hold 1 (.map (esF 0 s)) (by simp[jb])
 have b2:=hold 2 (.row 6 (jN D s C)) (by simp[jb])
 have b3:=hold 3 (.cells [.i t.kind,.i t.id,.sl (Ty.avL t.args)]) (by simp[jb])
 have b4:=hold 4 (.map []) (by simp[jb])
 clear hold
 have hf0:jY .i64 (ci:Int) []=some none:=by rw[jY]
 simp only[go_sem,Jg,b4,hf0]
 refine hK.h _ ?_
 clear hK hKp K Kp
 repeat apply nx
 refine AW.ent (O':=jx [(0,.sl (ddl D)),(3,.ptr 3 0),(5,.ptr 0 0),(6,.mp 4)] [(0,.cells [.sl (ddl D),.rw 2,.mp 1]),(1,.map (esF 0 s)),(2,.row 6 (jN D s C)),(3,.cells [.i t.kind,.i t.id,.sl (Ty.avL t.args)]),(4,.map (esN 0 [ci]))] 5) (fun i=>i) ?_ ?_
 ·refine jc (by simp[go_sem]) ?_ (by simp) (by simp[hN])
  simp[go_sem,b0,b1,b2,b3,jb,he.ren,esN]
  exact he.ids2 _
 clear b0 b1 b2 b3 b4 hpn hpn2
 repeat'(first|apply nx|refine zx ?_|rw[zw]|refine zk ?_|refine zp ?_|(apply zA;exact zb)|((first|refine zR hE @fun K Kp hK hKp hg=>?_|refine zT hE @fun K Kp hK hKp anc hanc hg=>?_|refine zF hE @fun K Kp hK hKp anc hanc hg=>?_|(apply zM;exact zu;exact hkey;exact zs;exact zl;intro hg)|refine zg (fun hg=>?_) fun hg=>?_)<;>simp only[go_sem,hfi,hg])|(refine zc (fun hc=>?_) (fun hc=>?_)<;>try exact zh hc))
 refine gz 8 1 (by rw[hE];decide) (by simp only[go_sem]) ?_
 dsimp only
 simp only[Nat.reduceAdd]
 have hcls:(fun j=>C.getD j 0) i=ci:=by show C.getD i 0=ci;rw[List.getD_eq_getElem?_getD,hci];rfl
 generalize hCL:(fun j=>C.getD j 0)=cls at*
 refine jB (X:=Nat) (fun k=>k<=s.length) (fun k=>jx [(0,.sl (ddl D)),(5,.ptr 0 0),(6,.mp 3),(7,.rw 4),(8,.rw 5),(9,.i (k:Nat))] [(0,.cells [.sl (ddl D),.rw 2,.mp 1]),(1,.map (esF 0 s)),(2,.row 6 (jN D s C)),(3,.map (esN 0 ((shS s cls i k).1.map cls))),(4,.row 1 (il (nI (shS s cls i k).1))),(5,.row 1 (il (yz D s (shS s cls i k).2)))] 6) (fun k=>s.length - k) 0 (Nat.zero_le _) (fun i=>if i=3 then 4 else if i=4 then 7340037 else if i=5 then 11534341 else i) ?_ ?_
 ·refine jc (by simp[go_sem]) ?_ (by simp) (by simp[hN])
  simp[go_sem,jb,he.ren,shS,esN,hcls,nI,yz]
  exact⟨he.ids2 _,rfl⟩
 intro k hk
 have hI:=Xq (cls:=cls) hG l1 k
 have hzl:=jfr hI
 have hol:=jad hS hG cls l1 k
 have hkl2:(yz D s (shS s cls i k).2).length<=2 ^ 43:=Nat.le_trans hol (by omega)
 have hen:=QA 0 ((shS s cls i k).1.map cls)
 have hnl:(nI (shS s cls i k).1).length=(shS s cls i k).1.length:=by simp[nI]
 by_cases hkt:k<(shS s cls i k).1.length
 case neg=>
  have hend:=jaj (s:=s) (cls:=cls) (root:=i) (k:=k) (by omega) (s.length - k)
  rw[show k+(s.length - k)=s.length by omega] at hend
  rw[hend] at hQ
  have q:decide ((k:Int)<((shS s cls i k).1.length:Int))=false:=decide_eq_false (by omega)
  repeat'(first|apply nx|refine zx ?_|rw[zw]|refine zk ?_|refine zp ?_|(apply zA;exact zb)|((first|refine zR hE @fun K Kp hK hKp hg=>?_|refine zF hE @fun K Kp hK hKp anc hanc hg=>?_|refine zg (fun hg=>?_) fun hg=>?_)<;>simp only[go_sem,hnl,q,hg])|(refine zc (fun hc=>?_) (fun hc=>?_)<;>try exact zh hc)|(refine je ?_;refine zt hQ ?_))
  simp[AV.snap,AV.snapOk,jb,AV.clo,go_sem]
 obtain⟨j,hj⟩:=get?_of hkt
 have q:decide ((k:Int)<((shS s cls i k).1.length:Int))=true:=decide_eq_true (by omega)
 have hjs:=hI.lt j (List.mem_of_getElem? hj)
 obtain⟨a,ha⟩:=get?_of hjs
 obtain⟨cj,hcj⟩:=get?_of (show j<C.length by omega)
 have hrow:=yU (D:=D) ha hcj
 simp only[ndv] at hrow
 have hal:j<(jN D s C).length:=by rw[yq D s C hcl];exact hjs
 have hjn:(nI (shS s cls i k).1)[k]? =some (j:Int):=by simp[nI,hj]
 have hjl:k<(nI (shS s cls i k).1).length:=by omega
 have hap:=hG.pl a (List.mem_of_getElem? ha)
 obtain⟨a',ha',hchl,_⟩:=hG.ok j hjs
 rw[ha] at ha'
 cases ha'
 have hkl:=Q9 hD hap
 have hchn:(nI a.ch).length=a.ch.length:=by simp[nI]
 repeat'(first|apply nx|refine zx ?_|rw[zw]|refine zk ?_|refine zp ?_|(apply zA;exact zb)|((first|refine zR hE @fun K Kp hK hKp hg=>?_|refine zT hE @fun K Kp hK hKp anc hanc hg=>?_|refine zF hE @fun K Kp hK hKp anc hanc hg=>?_|refine zg (fun hg=>?_) fun hg=>?_)<;>simp only[go_sem,hnl,q,hjn,ja hjl,ja hal,hrow,hchn,hg])|(refine zc (fun hc=>?_) (fun hc=>?_)<;>try exact zh hc))
 refine gz 11 1 (by rw[hE];decide) (by simp only[go_sem]) ?_
 dsimp only
 simp only[Nat.reduceAdd]
 have hstep:shS s cls i (k+1)=((jH cls a.ch (shS s cls i k).1).1,(shS s cls i k).2++[(j,(jH cls a.ch (shS s cls i k).1).2)]):=by rw[shS,hj];simp only[xB ha]
 generalize shS s cls i k=z at*
 obtain⟨o,lg⟩:=z
 simp only at*
 refine jB (X:=Nat) (fun q=>q<=a.ch.length) (fun q=>jx [(0,.sl (ddl D)),(5,.ptr 0 0),(6,.mp 3),(7,.rw 4),(8,.rw 5),(9,.i (k:Nat)),(10,.ptr 6 0),(11,.rw 7),(64,.sl (il (nI a.ch))),(65,.i a.ch.length),(66,.i (q:Nat))] [(0,.cells [.sl (ddl D),.rw 2,.mp 1]),(1,.map (esF 0 s)),(2,.row 6 (jN D s C)),(3,.map (esN 0 ((jH cls (a.ch.take q) o).1.map cls))),(4,.row 1 (il (nI (jH cls (a.ch.take q) o).1))),(5,.row 1 (il (yz D s lg))),(6,.cells [.i a.t.kind,.i a.t.id,.sl (Ty.avL a.t.args),.str (tx (txL (lab D a.t))),.sl (il (nI a.ch)),.i (cj:Nat)]),(7,.row 1 (il (nI (jH cls (a.ch.take q) o).2)))] 8) (fun q=>a.ch.length - q) 0 (Nat.zero_le _) (fun i=>if i=6 then 14680070 else if i=7 then 22020102 else i) ?_ ?_
 ·refine jc (by simp[go_sem]) ?_ (by simp) (by simp[hN])
  simp[go_sem,jb,he.ren,hen.ren,jH,nI]
  exact⟨he.ids2 _,hen.ids2 _⟩
 intro q2 hq2
 have hnI:∀ (l:List Nat) (x:Nat),nI (l++[x])=nI l++[(x:Int)]:=fun l x=>by simp[nI]
 have hen2:=QA 0 ((jH cls (a.ch.take q2) o).1.map cls)
 have hsl2:=OV cls (a.ch.take q2) o
 have hsn2:=(gt cls (a.ch.take q2) o).1
 rw[List.length_take] at hsl2 hsn2
 by_cases hqt:q2<a.ch.length
 ·obtain⟨c,hcc⟩:=get?_of hqt
  obtain⟨b,hb⟩:=jfK hG ha hcc
  have hcs:=(List.getElem?_eq_some_iff.1 hb).1
  obtain⟨cc,hcv⟩:=get?_of (show c<C.length by omega)
  have hrow2:=yU (D:=D) hb hcv
  simp only[ndv] at hrow2
  have hal2:c<(jN D s C).length:=by rw[yq D s C hcl];exact hcs
  have hmk:(nI a.ch)[q2]? =some (c:Int):=by simp[nI,hcc]
  have hml:q2<(nI a.ch).length:=by omega
  have hclc:cls c=cc:=by rw[<- hCL];show C.getD c 0=cc;rw[List.getD_eq_getElem?_getD,hcv];rfl
  have hsn:=Qo cls c (a.ch.take q2) o
  rw[show a.ch.take q2++[c]=a.ch.take (q2+1) by rw[List.take_add_one,hcc];rfl,hclc] at hsn
  have u1:=JA hqt (by omega)
  generalize jH cls (a.ch.take q2) o=w at*
  obtain⟨wo,wl⟩:=w
  simp only at*
  have hwl:(nI wl).length=wl.length:=by simp[nI]
  have hwo:(nI wo).length=wo.length:=by simp[nI]
  by_cases hm:cc∈wo.map cls
  ·have hfm:=xM cc 0 _ hm
   rw[Nat.zero_add] at hfm
   simp only[if_pos hm] at hsn
   repeat'(first|apply nx|refine zx ?_|rw[zw]|refine zk ?_|refine zp ?_|(apply zA;exact zb)|((first|refine zR hE @fun K Kp hK hKp hg=>?_|refine zT hE @fun K Kp hK hKp anc hanc hg=>?_|refine zF hE @fun K Kp hK hKp anc hanc hg=>?_|refine zg (fun hg=>?_) fun hg=>?_)<;>simp only[go_sem,ja hqt,hmk,ja hml,ja hal2,hrow2,hfm,u1,hg])|(refine zc (fun hc=>?_) (fun hc=>?_)<;>try exact zh hc))
   refine⟨q2+1,hqt,by omega,fun j=>if j=7 then 29360136 else j,?_⟩
   rw[hsn]
   refine jc (by simp[go_sem]) ?_ (by simp) (by simp[hN])
   simp[go_sem,he.ren,hen2.ren,hnI]
   exact⟨he.ids2 _,hen2.ids2 _⟩
  ·have hfo:=XR cc 0 _ hm
   simp only[if_neg hm] at hsn
   have hea:=XQ 0 (wo.map cls) cc
   rw[Nat.zero_add,List.length_map] at hea
   have hmap:(wo++[c]).map cls=wo.map cls++[cc]:=by simp[hclc]
   have hput:Ob .i64 (cc:Int) (.i (wo.length:Nat)) (esN 0 (wo.map cls)) none=esN 0 (wo.map cls++[cc]):=by rw[hea];rfl
   have hfm:=xM cc 0 (wo.map cls++[cc]) (by simp)
   rw[Nat.zero_add] at hfm
   rw[hmap] at hsn
   repeat'(first|apply nx|refine zx ?_|rw[zw]|refine zk ?_|refine zp ?_|(apply zA;exact zb)|((first|refine zR hE @fun K Kp hK hKp hg=>?_|refine zT hE @fun K Kp hK hKp anc hanc hg=>?_|refine zF hE @fun K Kp hK hKp anc hanc hg=>?_|refine zg (fun hg=>?_) fun hg=>?_)<;>simp only[go_sem,ja hqt,hmk,ja hml,ja hal2,hrow2,hfo,hput,hfm,List.length_map,u1,hg])|(refine zc (fun hc=>?_) (fun hc=>?_)<;>try exact zh hc))
   have hen3:=QA 0 (wo.map cls++[cc])
   refine⟨q2+1,hqt,by omega,fun j=>if j=4 then 32505864 else if j=7 then 39845896 else j,?_⟩
   rw[hsn]
   simp only[hmap]
   refine jc (by simp[go_sem]) ?_ (by simp) (by simp[hN])
   simp[go_sem,he.ren,hen3.ren,hnI]
   exact⟨he.ids2 _,hen3.ids2 _⟩
 obtain rfl:q2=a.ch.length:=by omega
 rw[List.take_length] at hen2 hsl2 hsn2 ⊢
 generalize jH cls a.ch o=w at*
 obtain⟨wo,wl⟩:=w
 simp only at*
 refine Qv 11 7 (sz:=1) (xs:=il (nI wl)) (by simp only[go_sem]) (by simp only[go_sem]) (qB _) ?_
 by_cases h2:a.t.kind=2
 ·have q:(a.t.kind !=2)=false:=by simp[h2]
  obtain⟨x,hx,h0,_⟩:=yK hap h2
  obtain⟨n0,hn0⟩:∃ n:Nat,a.t.id=n:=⟨a.t.id.toNat,by omega⟩
  rw[hn0,Int.toNat_natCast] at hx
  have hv:vsO D a.t=some x:=by unfold vsO;rw[if_pos h2,hn0,Int.toNat_natCast,hx]
  rw[hn0]
  have hnl2:=(List.getElem?_eq_some_iff.1 hx).1
  have hxm:=List.mem_of_getElem? hx
  obtain⟨hxv,hxf⟩:=hS x hxm
  have hF2:Fits ((yz D s lg).length+1+2) 8:=⟨by omega,by omega⟩
  have hF1:Fits ((yz D s lg).length+1) 8:=⟨by omega,by omega⟩
  have u2:=JA hkt (by omega)
  have hfl:=OG x.vs
  have hbl:blk D a.t (nI wl)=[a.t.kind,x.dr,(x.vs.length:Int)]++Qq (x.vs.map fun v=>v.fs.length) (nI wl):=by simp only[blk,hv]
  have hob:yz D s (lg++[(j,wl)])=yz D s lg++blk D a.t (nI wl):=by
   simp only[yz,List.flatMap_append,List.flatMap_cons,List.flatMap_nil,List.append_nil,uT ha]
  have hkds:(kids D a.t).length=(x.vs.flatMap Dv.fs).length:=by unfold kids;rw[hv]
  have hwn:(nI wl).length=(x.vs.map fun v=>v.fs.length).sum:=by simp only[nI,List.length_map];omega
  have htl:(yz D s (lg++[(j,wl)])).length<=2 ^ 43+4194304:=by
   have h:=XF hS a.t (l:=nI wl) (by omega)
   rw[hob,List.length_append];omega
  repeat'(first|apply nx|refine zx ?_|rw[zw]|refine zk ?_|refine zp ?_|(apply zA;exact zb)|((first|refine zR hE @fun K Kp hK hKp hg=>?_|refine zT hE @fun K Kp hK hKp anc hanc hg=>?_|refine zF hE @fun K Kp hK hKp anc hanc hg=>?_|refine zg (fun hg=>?_) fun hg=>?_)<;>simp only[go_sem,jE,q,ja hnl2,hx,Dd.av_eq,hg])|(refine zc (fun hc=>?_) (fun hc=>?_)<;>try exact zh hc))
  refine jB (X:=Nat×List Int×List Int) (fun z=>z.1<=x.vs.length/\z.2.1++Qq ((x.vs.drop z.1).map fun v=>v.fs.length) z.2.2=yz D s (lg++[(j,wl)])/\z.2.2.length=((x.vs.drop z.1).map fun v=>v.fs.length).sum) (fun z=>jx [(0,.sl (ddl D)),(5,.ptr 0 0),(6,.mp 3),(7,.rw 4),(8,.rw 5),(9,.i (k:Nat)),(11,.sl (il z.2.2)),(129,.sl (dvl x.vs)),(130,.i x.vs.length),(131,.i (z.1:Nat))] [(0,.cells [.sl (ddl D),.rw 2,.mp 1]),(1,.map (esF 0 s)),(2,.row 6 (jN D s C)),(3,.map (esN 0 (wo.map cls))),(4,.row 1 (il (nI wo))),(5,.row 1 (il z.2.1))] 6) (fun z=>x.vs.length - z.1) (0,yz D s lg++[a.t.kind,x.dr,(x.vs.length:Int)],nI wl) ⟨Nat.zero_le _,by rw[hob,hbl];simp,by simpa using hwn⟩ (fun i=>if i=5 then 28311560 else i) ?_ ?_
  ·have hil:il (yz D s lg++[a.t.kind])++[.i x.dr,.i (x.vs.length:Int)]=il (yz D s lg++[a.t.kind,x.dr,(x.vs.length:Int)]):=by simp[il]
   rw[hil]
   refine jc (by simp[go_sem]) ?_ (by simp) (by simp[hN])
   simp[go_sem,jb,he.ren,hen2.ren]
   exact⟨he.ids2 _,hen2.ids2 _⟩
  rintro⟨v,oj,lj⟩ ⟨hv1,hv2,hv3⟩
  simp only at hv1 hv2 hv3
  have hojl:oj.length+lj.length<=2 ^ 43+4194304:=by
   have h:=congrArg List.length hv2
   rw[List.length_append,Up hv3] at h
   omega
  by_cases hvt:v<x.vs.length
  ·obtain⟨y,hy⟩:=get?_of hvt
   have u3:=JA hvt (by omega)
   rw[jS hy,List.map_cons,qC] at hv2
   rw[jS hy,List.map_cons,List.sum_cons] at hv3
   have hF5:Fits (oj.length+1) 8:=⟨by omega,by omega⟩
   have hF6:Fits (oj.length+1+(lj.take y.fs.length).length) 8:=⟨by rw[List.length_take];omega,by rw[List.length_take];omega⟩
   repeat'(first|apply nx|refine zx ?_|rw[zw]|refine zk ?_|refine zp ?_|(apply zA;exact zb)|((first|refine zR hE @fun K Kp hK hKp hg=>?_|refine zT hE @fun K Kp hK hKp anc hanc hg=>?_|refine zF hE @fun K Kp hK hKp anc hanc hg=>?_|refine zg (fun hg=>?_) fun hg=>?_)<;>simp only[go_sem,ja hvt,hy,Dv.av_eq,u3,hg])|(refine zc (fun hc=>?_) (fun hc=>?_)<;>try exact zh hc))
   refine⟨⟨⟨by omega,by omega⟩,szok_il lj⟩,?_⟩
   repeat(first|rw[zw]|((with_reducible refine And.intro ?_ ?_);exact zb))
   refine⟨⟨szok_il _,hF6⟩,?_⟩
   repeat'(first|apply nx|refine zx ?_|rw[zw]|refine zk ?_|refine zp ?_|(apply zA;exact zb)|((first|refine zR hE @fun K Kp hK hKp hg=>?_|refine zT hE @fun K Kp hK hKp anc hanc hg=>?_|refine zF hE @fun K Kp hK hKp anc hanc hg=>?_|refine zg (fun hg=>?_) fun hg=>?_)<;>simp only[go_sem,u3,hg])|(refine zc (fun hc=>?_) (fun hc=>?_)<;>try exact zh hc))
   refine⟨⟨⟨by omega,by omega⟩,szok_il lj⟩,?_⟩
   repeat'(first|apply nx|refine zx ?_|rw[zw]|refine zk ?_|refine zp ?_|(apply zA;exact zb)|((first|refine zR hE @fun K Kp hK hKp hg=>?_|refine zT hE @fun K Kp hK hKp anc hanc hg=>?_|refine zF hE @fun K Kp hK hKp anc hanc hg=>?_|refine zg (fun hg=>?_) fun hg=>?_)<;>simp only[go_sem,u3,hg])|(refine zc (fun hc=>?_) (fun hc=>?_)<;>try exact zh hc))
   refine⟨(v+1,oj++[(y.fs.length:Int)]++lj.take y.fs.length,lj.drop y.fs.length),⟨hvt,?_,?_⟩,by simp only;omega,fun j=>if j=5 then 16777222 else j,?_⟩
   ·rw[<- hv2];simp
   ·simp only[List.length_drop];omega
   refine jc (by simp[go_sem]) ?_ (by simp) (by simp[hN])
   simp[go_sem,he.ren,hen2.ren]
   exact⟨he.ids2 _,hen2.ids2 _⟩
  obtain rfl:v=x.vs.length:=by omega
  rw[List.drop_length,List.map_nil,Qq,List.append_nil] at hv2
  repeat'(first|apply nx|refine zx ?_|rw[zw]|refine zk ?_|refine zp ?_|(apply zA;exact zb)|((first|refine zR hE @fun K Kp hK hKp hg=>?_|refine zT hE @fun K Kp hK hKp anc hanc hg=>?_|refine zF hE @fun K Kp hK hKp anc hanc hg=>?_|refine zg (fun hg=>?_) fun hg=>?_)<;>simp only[go_sem,jE,u2,hg])|(refine zc (fun hc=>?_) (fun hc=>?_)<;>try exact zh hc))
  refine⟨k+1,by omega,by omega,fun j=>j,?_⟩
  rw[hstep]
  simp only[<- hv2]
  refine jc (by simp[go_sem]) ?_ (by simp) (by simp[hN])
  simp[go_sem,he.ren,hen2.ren]
  exact⟨he.ids2 _,hen2.ids2 _⟩
 ·have q:(a.t.kind !=2)=true:=by simp[h2]
  have hF1:Fits ((yz D s lg).length+1) 8:=⟨by omega,by omega⟩
  have u2:=JA hkt (by omega)
  have hv:vsO D a.t=none:=by unfold vsO;rw[if_neg h2]
  have hob:yz D s (lg++[(j,wl)])=yz D s lg++[a.t.kind]++nI wl:=by
   simp only[yz,List.flatMap_append,List.flatMap_cons,List.flatMap_nil,List.append_nil,uT ha,blk,hv]
   simp
  repeat'(first|apply nx|refine zx ?_|rw[zw]|refine zk ?_|refine zp ?_|(apply zA;exact zb)|((first|refine zR hE @fun K Kp hK hKp hg=>?_|refine zT hE @fun K Kp hK hKp anc hanc hg=>?_|refine zF hE @fun K Kp hK hKp anc hanc hg=>?_|refine zg (fun hg=>?_) fun hg=>?_)<;>simp only[go_sem,jE,q,u2,hg])|(refine zc (fun hc=>?_) (fun hc=>?_)<;>try exact zh hc))
  have hF3:Fits ((yz D s lg).length+1+(nI wl).length) 8:=⟨by simp only[nI,List.length_map];omega,by simp only[nI,List.length_map];omega⟩
  refine⟨⟨szok_il _,hF3⟩,?_⟩
  repeat'(first|apply nx|refine zx ?_|rw[zw]|refine zk ?_|refine zp ?_|(apply zA;exact zb)|((first|refine zR hE @fun K Kp hK hKp hg=>?_|refine zT hE @fun K Kp hK hKp anc hanc hg=>?_|refine zF hE @fun K Kp hK hKp anc hanc hg=>?_|refine zg (fun hg=>?_) fun hg=>?_)<;>simp only[go_sem,jE,q,u2,hg])|(refine zc (fun hc=>?_) (fun hc=>?_)<;>try exact zh hc))
  refine⟨k+1,by omega,by omega,fun j=>if j=5 then 14680072 else j,?_⟩
  rw[hstep]
  simp only[hob]
  refine jc (by simp[go_sem]) ?_ (by simp) (by simp[hN])
  simp[go_sem,he.ren,hen2.ren]
  exact⟨he.ids2 _,hen2.ids2 _⟩
end Go.Proofs.YtfpcjabbcpgbjaaDoor

namespace Go.Gl
open Go Go.Am Go.Hv
open Classical
theorem jgt (D:List Dd) (s:List Nd):∃ cls,YN D s cls:=by
 refine⟨fun i=>(List.range s.length).findIdx fun j=>decide (bis D D (tyO s j) (tyO s i)),fun i j a b ha hb=>?_⟩
 have hi:=(List.getElem?_eq_some_iff.1 ha).1
 have hj:=(List.getElem?_eq_some_iff.1 hb).1
 have ea:=uT ha
 have eb:=uT hb
 have key:∀ i,i<s.length->∃ m,m<s.length/\(List.range s.length).findIdx (fun j=>decide (bis D D (tyO s j) (tyO s i)))=m/\bis D D (tyO s m) (tyO s i):=fun i hi=>by
  have h1:(List.range s.length).findIdx (fun j=>decide (bis D D (tyO s j) (tyO s i)))<(List.range s.length).length:=List.findIdx_lt_length.2 ⟨i,by simpa using hi,by simp[GT]⟩
  have h2:=List.findIdx_getElem (w:=h1)
  simp only[List.getElem_range,decide_eq_true_eq] at h2
  exact⟨_,by simpa using h1,rfl,h2⟩
 constructor
 ·intro h
  obtain⟨m,_,e1,h1⟩:=key i hi
  obtain⟨m',_,e2,h2⟩:=key j hj
  simp only at h
  rw[e1,e2] at h
  subst h
  rw[ea] at h1
  rw[eb] at h2
  exact Jo (Ys h1) h2
 ·intro h
  simp only[ea,eb]
  congr 1
  funext k
  exact decide_eq_decide.2 ⟨fun g=>Jo g h,fun g=>Jo g (Ys h)⟩
theorem jhQ {D:List Dd} (hdt:dtB D=true) {t:Ty} (ht:Pl D t):Gr D (nds D t)/\∃ n,(nds D t)[rtN D t]? =some n/\bis D D n.t t:=by
 obtain⟨hG,hin,_⟩:=Y8 hdt (l:=[t]) (f:=(uni D [t]).length+1) (fun u hu=>by simp at hu;subst hu;exact ht) (Nat.lt_succ_self _)
 obtain⟨i,hi⟩:=hin t (by simp)
 obtain⟨n,hn,hk⟩:=yp hi
 have e:rtN D t=i:=by unfold rtN nds;rw[hi];rfl
 refine⟨hG,n,by rw[e];exact hn,GC hdt (hG.pl n (List.mem_of_getElem? hn)) ht hk⟩
end Go.Gl

set_option maxHeartbeats 4000000
set_option maxRecDepth 100000
namespace Go.Proofs.YtfpcjabbcpgbjaaDoor
open Go.Am Go.Proofs Go.Hv Go.Gl
open Classical
attribute [local irreducible] AW jA CallB CallY

theorem UN:PCall Tryd.prog 20 [] (.agg [.i 1,.i 0,.sl []]):=by
 refine pI Tryd.func20 jk4 fun E Q hE hN hQ=>?_
 repeat'(first|apply nx|refine zx ?_|rw[zw]|refine zk ?_|refine zp ?_|(apply zA;exact zb)|((first|refine zR hE fun hg=>?_|refine zT hE fun hanc hg=>?_|refine zF hE fun hanc hg=>?_|refine zg (fun hg=>?_) fun hg=>?_)<;>simp only[go_sem,hg])|(refine zc (fun hc=>?_) (fun hc=>?_)<;>try exact zh hc))
 refine je (hQ _ ⟨.agg [.i 1,.i 0,.nilsl],jU (id:=0) (off:=0) (by simp only[go_sem]) jfz (by simp only[go_sem];rfl) rfl,?_,?_,rfl⟩).1
 ·simp[AV.snapOk,AV.snapOkL]
 ·simp[AV.snap,AV.snapL]
theorem Ga (n:Nat):PCall Tryd.prog 22 [.i (n:Nat)] (.agg [.i 2,.i (n:Nat),.sl []]):=by
 refine pI Tryd.func22 jk6 fun E Q hE hN hQ=>?_
 repeat'(first|apply nx|refine zx ?_|rw[zw]|refine zk ?_|refine zp ?_|(apply zA;exact zb)|((first|refine zR hE fun hg=>?_|refine zT hE fun hanc hg=>?_|refine zF hE fun hanc hg=>?_|refine zg (fun hg=>?_) fun hg=>?_)<;>simp only[go_sem,hg])|(refine zc (fun hc=>?_) (fun hc=>?_)<;>try exact zh hc))
 refine je (hQ _ ⟨.agg [.i 2,.i (n:Nat),.nilsl],jU (id:=0) (off:=0) (by simp only[go_sem]) jfz (by simp only[go_sem];rfl) rfl,?_,?_,rfl⟩).1
 ·simp[AV.snapOk,AV.snapOkL]
 ·simp[AV.snap,AV.snapL]
theorem jbL (k i:Int) (l:List AV) (hl:AV.cloL l=true):PCall Tryd.prog 21 [.agg [.i k,.i i,.sl l]] (.agg [.i 3,.i 0,.sl [.agg [.i k,.i i,.sl l]]]):=by
 refine pI Tryd.func21 jk5 fun E Q hE hN hQ=>?_
 repeat'(first|apply nx|refine zx ?_|rw[zw]|refine zk ?_|refine zp ?_|(apply zA;exact zb)|((first|refine zR hE fun hg=>?_|refine zT hE fun hanc hg=>?_|refine zF hE fun hanc hg=>?_|refine zg (fun hg=>?_) fun hg=>?_)<;>simp only[go_sem,hg])|(refine zc (fun hc=>?_) (fun hc=>?_)<;>try exact zh hc))
 refine je (hQ _ ⟨.agg [.i 3,.i 0,.rw 3145728],jU (id:=1048576) (off:=0) (by simp only[go_sem]) jfz (by simp only[go_sem];rfl) rfl,?_,?_,by simp[AV.clo,AV.cloL,hl]⟩).1
 ·simp[AV.snapOk,AV.snapOkL,go_sem,jb,j8,AV.cells,AV.clo,hl]
 ·simp[AV.snap,AV.snapL,jb]
end Go.Proofs.YtfpcjabbcpgbjaaDoor

set_option maxHeartbeats 4000000
set_option maxRecDepth 100000
namespace Go.Proofs.YtfpcjabbcpgbjaaDoor
open Go.Am Go.Proofs Go.Hv Go.Gl
open Classical
theorem jaz {P : Program} {E : En} {fr : Nat -> Option AV} {hp : Nat -> Option AObj} {nx : Nat} {c : Code} {Q : AEx -> St -> Prop} (X id : Nat) {sz sz' : Nat} {l l' xs : List AV} (hX : hp X = some (.row sz' l)) (hid : hp id = some (.row sz xs)) (hne : X ≠ id) (hc : j8 xs)
    (hok:∀ F,F id=some (.row sz xs)->∀ x,x∈l->x.snapOk F) (hl:∀ F,F id=some (.row sz xs)->l.map (AV.snap F)=l')
    (h:AW P E c Q ⟨fr,jb (jb hp id none) X (some (.row sz' l')),nx⟩):AW P E c Q ⟨fr,hp,nx⟩:=by
  refine AW.frz (O':=⟨fr,jb (jb hp id none) X (some (.row sz' l')),nx⟩) (fun i=>if i=id then some (.row sz xs) else none) (fun i o h'=>?_) (fun t x' h'=>⟨x',h',.inl rfl⟩) (fun i o' h'=>?_) rfl h
  · split at h'
    · rename_i e;subst e;cases h';exact hid
    · cases h'
  · simp only[jb] at h'
    split at h'
    · rename_i e
      subst e
      cases h'
      refine⟨by simp[hne],_,hX,?_⟩
      rw[<- hl (fun i=>if i=id then some (.row sz xs) else none) (by simp)]
      refine⟨rfl,List.length_map ..,fun i hi=> .inr ⟨hok _ (by simp) _ (yn hi),getD_map hi⟩⟩
    · split at h'
      · cases h'
      · rename_i e1 e2
        exact⟨if_neg e2,o',h',SnpO.refl _⟩
attribute [local irreducible] AW jA CallB CallY
def intT:Ty:= .mk 1 0 []
def dtT (i:Nat):Ty:= .mk 2 i []
def bxT (t:Ty):Ty:= .mk 3 0 [t]
def xZ (drop:Int) (i:Nat):Dd:=⟨⟨#[]⟩,0,0,[⟨⟨#[]⟩,[]⟩,⟨⟨#[]⟩,[intT,bxT (dtT i)]⟩],drop⟩
theorem jf5 (d:Int) (n:Nat):PCall Tryd.prog 19 [.i d,.i (n:Nat)] (xZ d n).av:=by
 have h1:=UN
 have h2:=Ga n
 have h3:=jbL 2 (n:Nat) [] rfl
 refine pI Tryd.func19 jk3 fun E Q hE hN hQ=>?_
 repeat'(first|apply nx|refine zx ?_|rw[zw]|refine zk ?_|refine zp ?_|(apply zA;exact zb)|((first|refine zR hE fun hg=>?_|refine zT hE fun hanc hg=>?_|refine zF hE fun hanc hg=>?_|(apply zM;exact zu;(first|exact h1|exact h2|exact h3);exact zs;exact zl;intro hg)|refine zg (fun hg=>?_) fun hg=>?_)<;>simp only[go_sem,List.mem_cons,List.not_mem_nil,or_false,hg])|(refine zc (fun hc=>?_) (fun hc=>?_)<;>try exact zh hc))
 refine jaz (l':=dvl (xZ d n).vs) 9437184 7340032 (by simp only[go_sem];rfl) (by simp only[go_sem];rfl) (by decide) (by simp[j8,AV.cells,AV.clo]) ?_ ?_ ?_
 ·intro F hF x hx
  rcases List.mem_cons.1 hx with rfl|hx
  ·simp[AV.snapOk,AV.snapOkL]
  ·rcases List.mem_cons.1 hx with rfl|hx
   ·simp[AV.snapOk,AV.snapOkL,hF,go_sem,AV.cells,AV.clo,j8]
   ·cases hx
 ·intro F hF
  simp[AV.snap,AV.snapL,hF,dvl,xZ,Dv.av,Dv.cs,Ty.avL_eq,intT,bxT,dtT,Ty.av]
 refine je (hQ _ ⟨.agg [.str ⟨#[]⟩,.i 0,.i 0,.rw 9437184,.i d],jU (id:=0) (off:=0) (by simp only[go_sem]) jmg (by simp only[go_sem];rfl) rfl,?_,?_,rfl⟩).1
 ·simp[AV.snapOk,AV.snapOkL,go_sem,jb]
 ·simp[AV.snap,AV.snapL,jb,Dd.av,Dd.cs,xZ]
end Go.Proofs.YtfpcjabbcpgbjaaDoor

set_option maxRecDepth 100000
namespace Go.Gl
open Go Go.Am Go.Hv Go.Proofs.YtfpcjabbcpgbjaaDoor
theorem OU {D:List Dd} (hD:dtB D=true) {t:Ty} (ht:Pl D t) {n:Nat} (hn:yD D (nds D t) (n+1)=yD D (nds D t) n):U8 D t=yz D (nds D t) (shS (nds D t) (fun i=>(j9 D (nds D t) (n+2)).getD i 0) (rtN D t) (nds D t).length).2:=by
 obtain⟨hG,m,hm,hma⟩:=jhQ hD ht
 obtain⟨c1,hc1⟩:=jgt D (nds D t)
 have h1:=jbR hc1
 have h2:YN D (nds D t) (fun i=>(j9 D (nds D t) (n+2)).getD i 0):=fun i j a b ha hb=>Xt hD hG hn ha hb
 exact(jdL hD hD hG hG h1 h2 (r:=rtN D t) (r':=rtN D t) ⟨m,m,hm,hm,GT _ _⟩ _).2
def exD:List Dd:=[xZ 0 0,xZ 0 0,xZ 3 2,⟨⟨#[]⟩,0,0,[⟨⟨#[]⟩,[intT]⟩],0⟩]
def chT (t:Ty):Ty:= .mk 4 0 [t]
theorem XU:dtB exD=true:=by decide
theorem QY:dtF exD=true:=by decide
theorem um:plB exD (dtT 0) 8=true:=by decide
theorem jcv:plB exD (dtT 1) 8=true:=by decide
theorem jgJ:plB exD (dtT 2) 8=true:=by decide
theorem xO:plB exD (dtT 3) 8=true:=by decide
theorem jgK:plB exD (dtT 9) 8=false:=by decide
theorem jcw:plB exD intT 8=true:=by decide
theorem jgM:plB exD (chT intT) 8=true:=by decide
theorem jgL:plB exD (chT (bxT intT)) 8=true:=by decide
theorem jgN:U8 exD (dtT 0)=[2,0,2,0,2,1,2,1,3,0]:=by
 rw[OU (n:=1) XU ⟨8,um⟩ (by decide)]
 decide
theorem jgO:U8 exD (dtT 3)=[2,0,1,1,1,1]:=by
 rw[OU (n:=1) XU ⟨8,xO⟩ (by decide)]
 decide
theorem jak {D : List Dd} (hd : dtF D = true) {a b : Ty} (ha : plB D a 8 = true) (hb : plB D b 8 = true) (n i j : Nat) (hn : yD D (jI D ((uni D [a, b]).length + 1) [a, b]) (n + 1) = yD D (jI D ((uni D [a, b]).length + 1) [a, b]) n) (hi : idx (jI D ((uni D [a, b]).length + 1) [a, b]) a = some i) (hj : idx (jI D ((uni D [a, b]).length + 1) [a, b]) b = some j) {r : Bool}
    (hr:decide ((j9 D (jI D ((uni D [a,b]).length+1) [a,b]) (n+2)).getD i 0=(j9 D (jI D ((uni D [a,b]).length+1) [a,b]) (n+2)).getD j 0)=r):smB D a b=r:=by
  have hdt:dtB D=true:=by simp only[dtF,Bool.and_eq_true] at hd;exact hd.2
  have h:=xF hdt (l:=[a,b]) (f:=(uni D [a,b]).length+1) (fun u hu=>by simp at hu;rcases hu with rfl|rfl<;>first|exact⟨8,ha⟩|exact⟨8,hb⟩) (Nat.lt_succ_self _) hn (a:=a) (b:=b) ⟨8,ha⟩ ⟨8,hb⟩ hi hj
  rw[<- hr]
  simp only[smB,hd,ha,hb,Bool.true_and]
  exact(decide_eq_decide.2 h).symm
theorem gq {D:List Dd} {a b:Ty} (h:lab D a≠lab D b):smB D a b=false:=by
 have:¬ bis D D a b:=fun g=>h (g 1).1
 simp[smB,this]
theorem jct:smB exD (dtT 0) (dtT 1)=true:=jak QY um jcv 1 0 3 (by decide) (by decide) (by decide) (by decide)
theorem jkj:smB exD (dtT 0) (dtT 2)=false:=gq (by decide)
theorem jkr:smB exD intT (chT intT)=false:=gq (by decide)
theorem jkq:smB exD (chT (bxT intT)) (chT intT)=true:=jak QY jgL jgM 0 0 0 (by decide) (by decide) (by decide) (by decide)
theorem jkk:smB exD (dtT 0) (dtT 9)=false:=by simp[smB,jgK]
theorem jkn:smB exD (dtT 2) (dtT 0)=false:=gq (by decide)
theorem jkp:smB exD (dtT 2) intT=false:=gq (by decide)
theorem jkl:smB exD (dtT 0) intT=false:=gq (by decide)
theorem jko:smB exD (dtT 2) (dtT 1)=false:=gq (by decide)
theorem jkm:smB exD (dtT 1) intT=false:=gq (by decide)
theorem jks:smB exD intT intT=true:=by
 have:bis exD exD intT intT:=GT _ _
 simp[smB,QY,jcw,this]
theorem jgI:gg exD [dtT 2,dtT 0,intT,dtT 1,intT]=[0,1,2,1,2]:=by
 simp[gg,jex,List.mapIdx_cons,yP,jkn,jkp,jkl,jko,jct,jkm,jks]
end Go.Gl
