/- A part of the proof: an abstract machine for the walks, and what the walked functions compute. -/
import Derived.Test.YtfpcjabbcpgbjaaDoorHx
set_option linter.unusedVariables false
set_option linter.unusedSimpArgs false
namespace Go.Hv
open Go Go.Am
def gU (d:List Int) (f:Fa) (id:Int):Fa:=if f.pan then f else f.add (d.getD id.toNat 0)
theorem Ge (d:List Int):∀ (l:List Int) (f:Fa),f.pan=true->l.foldl (gU d) f=f
 | [],f,_=>rfl
 |x::l,f,h=>by rw[List.foldl_cons,show gU d f x=f from if_pos h,Ge d l f h]
structure Agr (h h':Hp) (u:Ow) (k:Nat) (dl dm:List Nat):Prop where
 ok:u.Ok h'
 fuel:h'.cells.length<=k+u.cs.length
 live:∀ (j:Nat) (c:Cl),h'.cells[j]? =some c->c.live=true->0<=c.arena->h.cells[j]? =some c
 cells:∀ j,j∈dl->h'.cells[j]? =h.cells[j]? /\j∉u.cs
 arenas:∀ j,j∈dm->h'.arenas[j]? =h.arenas[j]? /\j∉u.ags
def Del (h:Hp) (o o':Ow) (run:Hp->Nat->Ow->Option Ow) (drp:List Int->Fa->Fa):Prop:=
 ∃ dl dm di,o'=⟨o.cs++dl,o.ags++dm,o.ids++di⟩/\(∀ h' k u,Agr h h' u k dl dm->run h' k u=some ⟨u.cs++dl,u.ags++dm,u.ids++di⟩)/\∀ d f,drp d f=di.foldl (gU d) f
theorem Del.comp {h : Hp} {o o1 o2 : Ow} {r1 r2 : Hp -> Nat -> Ow -> Option Ow} {d1 d2 : List Int -> Fa -> Fa} (h1 : Del h o o1 r1 d1) (h2 : Del h o1 o2 r2 d2) (ho : o2.Ok h) (hk : ∀ h' k u u', u.Ok h' -> r1 h' k u = some u' -> u'.Ok h') :
    Del h o o2 (fun h' k u=>(r1 h' k u).bind (r2 h' k)) (fun d f=>d2 d (d1 d f)):=by
  obtain⟨dl,dm,di,rfl,g1,g2⟩:=h1
  obtain⟨el,em,ei,rfl,g3,g4⟩:=h2
  have hnd:∀ j,j∈dl->j∉el:=by
    have:=ho.nd
    simp only[List.append_assoc] at this
    have:=(List.nodup_append.1 this).2.1
    intro j hj hj2
    exact(List.nodup_append.1 this).2.2 j hj j hj2 rfl
  have hna:∀ j,j∈dm->j∉em:=by
    have:=ho.and
    simp only[List.append_assoc] at this
    have:=(List.nodup_append.1 this).2.1
    intro j hj hj2
    exact(List.nodup_append.1 this).2.2 j hj j hj2 rfl
  refine⟨dl++el,dm++em,di++ei,by simp[List.append_assoc],fun h' k u ha=>?_,fun d f=>by show d2 d (d1 d f)=_;rw[g2,g4,List.foldl_append]⟩
  have e1:=g1 h' k u ⟨ha.ok,ha.fuel,ha.live,fun j hj=>ha.cells j (List.mem_append_left _ hj),fun j hj=>ha.arenas j (List.mem_append_left _ hj)⟩
  have hok:=hk h' k u _ ha.ok e1
  have e2:=g3 h' k ⟨u.cs++dl,u.ags++dm,u.ids++di⟩ ⟨hok,by have:=ha.fuel;simp only[List.length_append];omega,ha.live,fun j hj=>⟨(ha.cells j (List.mem_append_right _ hj)).1,fun hh=>by
    rcases List.mem_append.1 hh with hh|hh
    · exact(ha.cells j (List.mem_append_right _ hj)).2 hh
    · exact hnd j hh hj⟩,fun j hj=>⟨(ha.arenas j (List.mem_append_right _ hj)).1,fun hh=>by
    rcases List.mem_append.1 hh with hh|hh
    · exact(ha.arenas j (List.mem_append_right _ hj)).2 hh
    · exact hna j hh hj⟩⟩
  show(r1 h' k u).bind (r2 h' k)=_
  rw[e1,Option.bind_some,e2]
  simp[List.append_assoc]
def Qx (h:Hp) (k:Nat):Prop:=∀ n o o',o.Ok h->(∃ c,h.cells[n]? =some c/\c.live=true)->jy h k n o=some o'->Del h o o' (fun h' k' u=>jy h' k' n u) (fun d f=>JU d h k n f)
theorem uV {h:Hp} :∀ {k n:Nat} {o o':Ow},o.Ok h->(∃ c,h.cells[n]? =some c/\c.live=true)->jy h k n o=some o'->n∉o.cs/\n∈o'.cs
 |0,n,o,o',_,_,he=>by rw[jy] at he;cases he
 |k+1,n,o,o',ho,⟨c,hc,hl⟩,he=>by
  rw[jy] at he
  split at he
  ·cases he
  ·rename_i hn
   rw[hc] at he
   obtain⟨l,e⟩:=(jD (jo h k) c.v _ o' (ho.enter hn hc hl) he).2.cs
   exact⟨hn,by rw[e];simp⟩
theorem jco {h:Hp} {k:Nat} :∀ (l:List Nat) (o o':Ow),o.Ok h->(∀ n,n∈l->∃ c,h.cells[n]? =some c/\c.live=true)->enL (jy h k) l o=some o'->∀ j,j∈l->j∉o.cs/\j∈o'.cs
 | [],_,_,_,_,_,j,hj=>by cases hj
 |i::l,o,o',ho,hl,he,j,hj=>by
  rw[enL] at he
  obtain⟨o1,h1,h2⟩:=Option.bind_eq_some_iff.1 he
  have k1:=jo h k i o o1 ho (hl i (by simp)) h1
  have k2:=Yp (jo h k) l o1 o' k1.1 (fun n hn=>hl n (List.mem_cons_of_mem _ hn)) h2
  obtain⟨a,ea⟩:=k1.2.cs
  obtain⟨b,eb⟩:=k2.2.cs
  rcases List.mem_cons.1 hj with rfl|hj
  ·have:=uV ho (hl j (by simp)) h1
   exact⟨this.1,by rw[eb];exact List.mem_append_left _ this.2⟩
  ·have:=jco l o1 o' k1.1 (fun n hn=>hl n (List.mem_cons_of_mem _ hn)) h2 j hj
   exact⟨fun hh=>this.1 (by rw[ea];exact List.mem_append_left _ hh),this.2⟩
def arP (l:List Cl) (n:Int) (i:Nat):Bool:=match l[i]? with|some c=>c.live&&(c.arena==n)|none=>false
theorem gJ (l:List Cl) (n:Int):∀ N,Js l n=(List.range (l.length+N)).filter (arP l n)
 |0=>rfl
 |N+1=>by
  rw[<- Nat.add_assoc,List.range_succ,List.filter_append, <- gJ l n N]
  have:arP l n (l.length+N)=false:=by simp[arP,List.getElem?_eq_none (show l.length<=l.length+N by omega)]
  rw[List.filter_cons,this]
  simp
theorem arP_iff {l:List Cl} {n:Int} {i:Nat} :arP l n i=true↔∃ c,l[i]? =some c/\c.live=true/\c.arena=n:=by
 unfold arP
 cases l[i]? with
 |none=>simp
 |some c=>simp
theorem xU {a b:List Cl} {n:Int} (h:∀ i,arP a n i=arP b n i):Js a n=Js b n:=by
 rw[gJ a n b.length,gJ b n a.length,Nat.add_comm]
 have:arP a n=arP b n:=funext h
 rw[this]
theorem inArena_arP {l:List Cl} {n:Int} {i:Nat} :i∈Js l n↔arP l n i=true:=by
 constructor
 ·intro h;obtain⟨c,h1,h2,h3⟩:=yS h;exact arP_iff.2 ⟨c,h1,h2,h3⟩
 ·intro h
  obtain⟨c,h1,_⟩:=arP_iff.1 h
  unfold Js
  rw[List.mem_filter,List.mem_range]
  exact⟨(List.getElem?_eq_some_iff.1 h1).1,h⟩
theorem XM {h:Hp} {k:Nat} (hk:Qx h k):∀ (l:List Nat) (o o':Ow),o.Ok h->(∀ n,n∈l->∃ c,h.cells[n]? =some c/\c.live=true)->enL (jy h k) l o=some o'->Del h o o' (fun h' k' u=>enL (jy h' k') l u) (fun d f=>gI (JU d h k) l f)
 | [],o,o',ho,_,he=>by
  rw[enL] at he
  cases he
  exact⟨[],[],[],by simp,fun h' k' u _=>by simp[enL],fun d f=>rfl⟩
 |i::l,o,o',ho,hl,he=>by
  rw[enL] at he
  obtain⟨o1,h1,h2⟩:=Option.bind_eq_some_iff.1 he
  have hl2:=fun n hn=>hl n (List.mem_cons_of_mem i hn)
  have k1:=jo h k i o o1 ho (hl i (by simp)) h1
  have k2:=Yp (jo h k) l o1 o' k1.1 hl2 h2
  have a:=hk i o o1 ho (hl i (by simp)) h1
  have b:=XM hk l o1 o' k1.1 hl2 h2
  obtain⟨dl,dm,di,e1,g1,g2⟩:=a
  obtain⟨el,em,ei,e2,g3,g4⟩:=b
  subst e1
  have hnd:∀ j,j∈dl->j∉el:=by
   have:=k2.1.nd
   rw[e2] at this
   simp only[List.append_assoc] at this
   have:=(List.nodup_append.1 this).2.1
   intro j hj hj2
   exact(List.nodup_append.1 this).2.2 j hj j hj2 rfl
  have hna:∀ j,j∈dm->j∉em:=by
   have:=k2.1.and
   rw[e2] at this
   simp only[List.append_assoc] at this
   have:=(List.nodup_append.1 this).2.1
   intro j hj hj2
   exact(List.nodup_append.1 this).2.2 j hj j hj2 rfl
  have hin:i∈dl:=by
   have:=uV ho (hl i (by simp)) h1
   rcases List.mem_append.1 this.2 with hh|hh
   ·exact absurd hh this.1
   ·exact hh
  refine⟨dl++el,dm++em,di++ei,by rw[e2];simp[List.append_assoc],fun h' k' u ha=>?_,fun d f=>by
   have q1:=g2 d f
   have q2:=g4 d (di.foldl (gU d) f)
   simp only at q1 q2
   show gI (JU d h k) (i::l) f=_
   rw[gI,q1,q2,List.foldl_append]⟩
  have f1:=g1 h' k' u ⟨ha.ok,ha.fuel,ha.live,fun j hj=>ha.cells j (List.mem_append_left _ hj),fun j hj=>ha.arenas j (List.mem_append_left _ hj)⟩
  obtain⟨c,hc,hcl⟩:=hl i (by simp)
  have hok:=(jo h' k' i u _ ha.ok ⟨c,by rw[(ha.cells i (List.mem_append_left _ hin)).1];exact hc,hcl⟩ f1).1
  have f2:=g3 h' k' ⟨u.cs++dl,u.ags++dm,u.ids++di⟩ ⟨hok,by have:=ha.fuel;simp only[List.length_append];omega,ha.live,fun j hj=>⟨(ha.cells j (List.mem_append_right _ hj)).1,fun hh=>by
   rcases List.mem_append.1 hh with hh|hh
   ·exact(ha.cells j (List.mem_append_right _ hj)).2 hh
   ·exact hnd j hh hj⟩,fun j hj=>⟨(ha.arenas j (List.mem_append_right _ hj)).1,fun hh=>by
   rcases List.mem_append.1 hh with hh|hh
   ·exact(ha.arenas j (List.mem_append_right _ hj)).2 hh
   ·exact hna j hh hj⟩⟩
  show(jy h' k' i u).bind (enL (jy h' k') l)=_
  rw[show jy h' k' i u=_ from f1,Option.bind_some,show enL (jy h' k') l _=_ from f2]
  simp[List.append_assoc]
mutual
theorem oQ {h:Hp} {k:Nat} (hk:Qx h k):∀ (v:Vl) (o o':Ow),o.Ok h->jP h (jy h k) v o=some o'->Del h o o' (fun h' k' u=>jP h' (jy h' k') v u) (fun d f=>JK d h (JU d h k) v f)
 | .mk kd id x n fs a b c,o,o',ho,he=>by
  rw[jP] at he
  by_cases h2:kd=2
  ·rw[if_pos h2] at he
   obtain⟨dl,dm,di,e,g1,g2⟩:=xh hk fs { o with ids:=o.ids++[id] } o' ⟨ho.nd,ho.lt,ho.and,ho.alt⟩ he
   refine⟨dl,dm,id::di,by rw[e];simp,fun h' k' u ha=>?_,fun d f=>?_⟩
   ·show jP h' (jy h' k') (.mk kd id x n fs a b c) u=_
    rw[jP,if_pos h2]
    have:=g1 h' k' { u with ids:=u.ids++[id] } ⟨⟨ha.ok.nd,ha.ok.lt,ha.ok.and,ha.ok.alt⟩,ha.fuel,ha.live,ha.cells,ha.arenas⟩
    rw[show Jk h' (jy h' k') fs _=_ from this]
    simp[List.append_assoc]
   ·show JK d h (JU d h k) (.mk kd id x n fs a b c) f=_
    by_cases hp:f.pan=true
    ·rw[Yo _ _ hp,Ge _ _ _ hp]
    ·rw[JK,if_neg hp,if_pos h2,List.foldl_cons,show gU d f id=f.add (d.getD id.toNat 0) from if_neg hp]
     exact g2 d _
  rw[if_neg h2] at he
  by_cases h3:kd=3
  ·rw[if_pos h3] at he
   split at he
   ·rename_i hb
    obtain⟨m,cl,rfl,hc,hl,har⟩:=JX hb
    rw[Int.toNat_natCast] at he
    have hin:=uV ho ⟨cl,hc,hl⟩ he
    obtain⟨dl,dm,di,e,g1,g2⟩:=hk m o o' ho ⟨cl,hc,hl⟩ he
    have hmd:m∈dl:=by
     have:=hin.2
     rw[e] at this
     rcases List.mem_append.1 this with hh|hh
     ·exact absurd hh hin.1
     ·exact hh
    refine⟨dl,dm,di,e,fun h' k' u ha=>?_,fun d f=>?_⟩
    ·show jP h' (jy h' k') (.mk kd id x m fs a b c) u=_
     have hbx:yg h' m=true:=by simp[yg,(ha.cells m hmd).1,hc,hl,har]
     rw[jP,if_neg h2,if_pos h3,if_pos hbx,Int.toNat_natCast]
     exact g1 h' k' u ha
    ·show JK d h (JU d h k) (.mk kd id x m fs a b c) f=_
     by_cases hp:f.pan=true
     ·rw[Yo _ _ hp,Ge _ _ _ hp]
     ·rw[JK,if_neg hp,if_neg h2,if_pos h3,Int.toNat_natCast]
      exact g2 d f
   ·cases he
  rw[if_neg h3] at he
  by_cases h5:kd=5
  ·rw[if_pos h5] at he
   split at he
   ·rename_i hb
    simp only[Bool.and_eq_true,Bool.not_eq_true',decide_eq_false_iff_not] at hb
    obtain⟨m,rfl,hm⟩:=J6 hb.1
    have hm2:m∉o.ags:=hb.2
    rw[Int.toNat_natCast] at he
    have hall:∀ i,i∈Js h.cells (m:Int)->∃ c,h.cells[i]? =some c/\c.live=true:=fun i hi=>by obtain⟨c,h1,h2,_⟩:=yS hi;exact⟨c,h1,h2⟩
    have ho1:=ho.arena hm2 hm
    have hin:=jco _ _ _ ho1 hall he
    have hko:=(Yp (jo h k) _ _ _ ho1 hall he).1
    obtain⟨dl,dm,di,e,g1,g2⟩:=XM hk _ _ _ ho1 hall he
    have hmd:∀ j,j∈dm->j≠m:=by
     have:=hko.and
     rw[e] at this
     have:=(List.nodup_append.1 this).2.2
     intro j hj hjm
     subst hjm
     exact this j (by simp) j hj rfl
    refine⟨dl,m::dm,di,by rw[e];simp,fun h' k' u ha=>?_,fun d f=>?_⟩
    ·show jP h' (jy h' k') (.mk kd id x m fs a b c) u=_
     have ham:=ha.arenas m (by simp)
     have hoa:(JG h' m&&!decide ((m:Int).toNat∈u.ags))=true:=by simp[JG,ham.1,hm,ham.2]
     have hia:Js h'.cells (m:Int)=Js h.cells (m:Int):=by
      refine xU fun i=>?_
      rw[Bool.eq_iff_iff]
      constructor
      ·intro hh
       obtain⟨c,q1,q2,q3⟩:=arP_iff.1 hh
       exact arP_iff.2 ⟨c,ha.live i c q1 q2 (by omega),q2,q3⟩
      ·intro hh
       have hi:=hin i (inArena_arP.2 hh)
       obtain⟨c,q1,q2,q3⟩:=arP_iff.1 hh
       have hid:i∈dl:=by
        have:=hi.2
        rw[e] at this
        rcases List.mem_append.1 this with hx|hx
        ·exact absurd hx hi.1
        ·exact hx
       exact arP_iff.2 ⟨c,by rw[(ha.cells i hid).1];exact q1,q2,q3⟩
     rw[jP,if_neg h2,if_neg h3,if_pos h5,if_pos hoa,hia,Int.toNat_natCast]
     have hau:h'.arenas[m]? =some true:=by rw[ham.1];exact hm
     have:=g1 h' k' { u with ags:=u.ags++[m] } ⟨ha.ok.arena ham.2 hau,ha.fuel,ha.live,ha.cells,fun j hj=>⟨(ha.arenas j (List.mem_cons_of_mem _ hj)).1,fun hh=>by
      rcases List.mem_append.1 hh with hh|hh
      ·exact(ha.arenas j (List.mem_cons_of_mem _ hj)).2 hh
      ·simp only[List.mem_singleton] at hh;exact hmd j hj hh⟩⟩
     rw[show enL (jy h' k') _ _=_ from this]
     simp[List.append_assoc]
    ·show JK d h (JU d h k) (.mk kd id x m fs a b c) f=_
     by_cases hp:f.pan=true
     ·rw[Yo _ _ hp,Ge _ _ _ hp]
     ·rw[JK,if_neg hp,if_neg h2,if_neg h3,if_pos h5]
      exact g2 d f
   ·cases he
  rw[if_neg h5] at he
  cases he
  refine⟨[],[],[],by simp,fun h' k' u ha=>?_,fun d f=>?_⟩
  ·show jP h' (jy h' k') (.mk kd id x n fs a b c) u=_
   rw[jP,if_neg h2,if_neg h3,if_neg h5];simp
  ·show JK d h (JU d h k) (.mk kd id x n fs a b c) f=_
   by_cases hp:f.pan=true
   ·rw[Yo _ _ hp];rfl
   ·rw[JK,if_neg hp,if_neg h2,if_neg h3,if_neg h5];rfl
theorem xh {h:Hp} {k:Nat} (hk:Qx h k):∀ (l:List Vl) (o o':Ow),o.Ok h->Jk h (jy h k) l o=some o'->Del h o o' (fun h' k' u=>Jk h' (jy h' k') l u) (fun d f=>YP d h (JU d h k) l f)
 | [],o,o',ho,he=>by
  rw[Jk] at he
  cases he
  exact⟨[],[],[],by simp,fun h' k' u _=>by simp[Jk],fun d f=>by show YP d h (JU d h k) [] f=_;rw[YP];rfl⟩
 |v::l,o,o',ho,he=>by
  rw[Jk] at he
  obtain⟨o1,h1,h2⟩:=Option.bind_eq_some_iff.1 he
  have k1:=jD (jo h k) v o o1 ho h1
  have a:=oQ hk v o o1 ho h1
  have b:=xh hk l o1 o' k1.1 h2
  have:=Del.comp a b (yf (jo h k) l o1 o' k1.1 h2).1 (fun h' k' u u' hu hr=>(jD (jo h' k') v u u' hu hr).1)
  obtain⟨dl,dm,di,e,g1,g2⟩:=this
  exact⟨dl,dm,di,e,fun h' k' u ha=>by show Jk h' (jy h' k') (v::l) u=_;rw[Jk];exact g1 h' k' u ha,fun d f=>by show YP d h (JU d h k) (v::l) f=_;rw[YP];exact g2 d f⟩
end
theorem XG (h:Hp):∀ k,Qx h k
 |0=>fun n o o' _ _ he=>by rw[jy] at he;cases he
 |k+1=>fun n o o' ho hn he=>by
  obtain⟨c,hc,hl⟩:=hn
  rw[jy] at he
  split at he
  ·cases he
  rename_i hno
  rw[hc] at he
  simp only at he
  have ho1:=ho.enter hno hc hl
  have hko:=(jD (jo h k) c.v _ o' ho1 he).1
  obtain⟨dl,dm,di,e,g1,g2⟩:=oQ (XG h k) c.v _ o' ho1 he
  have hnd:∀ j,j∈dl->j≠n:=by
   have:=hko.nd
   rw[e] at this
   have:=(List.nodup_append.1 this).2.2
   intro j hj hjm
   subst hjm
   exact this j (by simp) j hj rfl
  refine⟨n::dl,dm,di,by rw[e];simp,fun h' k' u ha=>?_,fun d f=>?_⟩
  ·have hac:=ha.cells n (by simp)
   have hcu:h'.cells[n]? =some c:=by rw[hac.1];exact hc
   have hlt:=ha.ok.len_lt hac.2 (List.getElem?_eq_some_iff.1 hcu).1
   have hf:=ha.fuel
   obtain⟨k2,rfl⟩:∃ k2,k'=k2+1:=⟨k' - 1,by omega⟩
   show jy h' (k2+1) n u=_
   rw[jy,if_neg hac.2,hcu]
   have:=g1 h' k2 { u with cs:=u.cs++[n] } ⟨ha.ok.enter hac.2 hcu hl,by simp only[List.length_append,List.length_singleton];omega,ha.live,fun j hj=>⟨(ha.cells j (List.mem_cons_of_mem _ hj)).1,fun hh=>by
    rcases List.mem_append.1 hh with hh|hh
    ·exact(ha.cells j (List.mem_cons_of_mem _ hj)).2 hh
    ·simp only[List.mem_singleton] at hh;exact hnd j hj hh⟩,ha.arenas⟩
   simp only
   rw[show jP h' (jy h' k2) c.v _=_ from this]
   simp[List.append_assoc]
  ·show JU d h (k+1) n f=_
   rw[JU,hc]
   exact g2 d f
theorem Qe {h:Hp} {v:Vl} {o:Ow} (hw:yc h v=some o) (d:List Int):Gb d h v=o.ids.foldl (gU d) Fa.nil:=by
 obtain⟨dl,dm,di,e,_,g⟩:=oQ (XG h _) v Ow.nil o (Ow.nil_ok h) hw
 have:o.ids=di:=by rw[e];simp[Ow.nil]
 rw[this]
 exact g d Fa.nil
end Go.Hv
