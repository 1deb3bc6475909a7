/- A part of the proof: an abstract machine for the walks, and what the walked functions compute. -/
import Derived.Test.YtfgjjnfdcgkpoaaHx
set_option linter.unusedVariables false
set_option linter.unusedSimpArgs false
namespace Go.Hv
open Go Go.Am
def stepF (d:List Int) (f:Fa) (id:Int):Fa:=if f.pan then f else f.add (d.getD id.toNat 0)
theorem foldF_pan (d:List Int):∀ (l:List Int) (f:Fa),f.pan=true→l.foldl (stepF d) f=f
 | [],f,_=>rfl
 |x::l,f,h=>by rw[List.foldl_cons,show stepF d f x=f from if_pos h,foldF_pan d l f h]
structure Agr (h h':Hp) (u:Ow) (k:Nat) (dl dm:List Nat):Prop where
 ok:u.Ok h'
 fuel:h'.cells.length≤k+u.cs.length
 live:∀ (j:Nat) (c:Cl),h'.cells[j]? =some c→c.live=true→0≤c.arena→h.cells[j]? =some c
 cells:∀ j,j∈dl→h'.cells[j]? =h.cells[j]? ∧j∉u.cs
 arenas:∀ j,j∈dm→h'.arenas[j]? =h.arenas[j]? ∧j∉u.ags
def Del (h:Hp) (o o':Ow) (run:Hp→Nat→Ow→Option Ow) (drp:List Int→Fa→Fa):Prop:=
 ∃ dl dm di,o'=⟨o.cs++dl,o.ags++dm,o.ids++di⟩∧(∀ h' k u,Agr h h' u k dl dm→run h' k u=some ⟨u.cs++dl,u.ags++dm,u.ids++di⟩)∧∀ d f,drp d f=di.foldl (stepF d) f
theorem Del.comp {h : Hp} {o o1 o2 : Ow} {r1 r2 : Hp → Nat → Ow → Option Ow} {d1 d2 : List Int → Fa → Fa} (h1 : Del h o o1 r1 d1) (h2 : Del h o1 o2 r2 d2) (ho : o2.Ok h) (hk : ∀ h' k u u', u.Ok h' → r1 h' k u = some u' → u'.Ok h') :
    Del h o o2 (fun h' k u=>(r1 h' k u).bind (r2 h' k)) (fun d f=>d2 d (d1 d f)):=by
  obtain⟨dl,dm,di,rfl,g1,g2⟩:=h1
  obtain⟨el,em,ei,rfl,g3,g4⟩:=h2
  have hnd:∀ j,j∈dl→j∉el:=by
    have:=ho.nd
    simp only[List.append_assoc] at this
    have:=(List.nodup_append.1 this).2.1
    intro j hj hj2
    exact(List.nodup_append.1 this).2.2 j hj j hj2 rfl
  have hna:∀ j,j∈dm→j∉em:=by
    have:=ho.and
    simp only[List.append_assoc] at this
    have:=(List.nodup_append.1 this).2.1
    intro j hj hj2
    exact(List.nodup_append.1 this).2.2 j hj j hj2 rfl
  refine⟨dl++el,dm++em,di++ei,by simp[List.append_assoc],fun h' k u ha=>?_,fun d f=>by show d2 d (d1 d f)=_;rw[g2,g4,List.foldl_append]⟩
  have e1:=g1 h' k u ⟨ha.ok,ha.fuel,ha.live,fun j hj=>ha.cells j (List.mem_append_left _ hj),fun j hj=>ha.arenas j (List.mem_append_left _ hj)⟩
  have hok:=hk h' k u _ ha.ok e1
  have e2:=g3 h' k ⟨u.cs++dl,u.ags++dm,u.ids++di⟩ ⟨hok,by have:=ha.fuel;simp only[List.length_append];omega,ha.live,fun j hj=>⟨(ha.cells j (List.mem_append_right _ hj)).1,fun hh=>by
    rcases List.mem_append.1 hh with hh|hh
    · exact(ha.cells j (List.mem_append_right _ hj)).2 hh
    · exact hnd j hh hj⟩,fun j hj=>⟨(ha.arenas j (List.mem_append_right _ hj)).1,fun hh=>by
    rcases List.mem_append.1 hh with hh|hh
    · exact(ha.arenas j (List.mem_append_right _ hj)).2 hh
    · exact hna j hh hj⟩⟩
  show(r1 h' k u).bind (r2 h' k)=_
  rw[e1,Option.bind_some,e2]
  simp[List.append_assoc]
def CellDel (h:Hp) (k:Nat):Prop:=∀ n o o',o.Ok h→(∃ c,h.cells[n]? =some c∧c.live=true)→visE h k n o=some o'→Del h o o' (fun h' k' u=>visE h' k' n u) (fun d f=>dropE d h k n f)
theorem visE_in {h:Hp} :∀ {k n:Nat} {o o':Ow},o.Ok h→(∃ c,h.cells[n]? =some c∧c.live=true)→visE h k n o=some o'→n∉o.cs∧n∈o'.cs
 |0,n,o,o',_,_,he=>by rw[visE] at he;cases he
 |k+1,n,o,o',ho,⟨c,hc,hl⟩,he=>by
  rw[visE] at he
  split at he
  ·cases he
  ·rename_i hn
   rw[hc] at he
   obtain⟨l,e⟩:=(visV_keeps (visE_keeps h k) c.v _ o' (ho.enter hn hc hl) he).2.cs
   exact⟨hn,by rw[e];simp⟩
theorem enL_in {h:Hp} {k:Nat} :∀ (l:List Nat) (o o':Ow),o.Ok h→(∀ n,n∈l→∃ c,h.cells[n]? =some c∧c.live=true)→enL (visE h k) l o=some o'→∀ j,j∈l→j∉o.cs∧j∈o'.cs
 | [],_,_,_,_,_,j,hj=>by cases hj
 |i::l,o,o',ho,hl,he,j,hj=>by
  rw[enL] at he
  obtain⟨o1,h1,h2⟩:=Option.bind_eq_some_iff.1 he
  have k1:=visE_keeps h k i o o1 ho (hl i (by simp)) h1
  have k2:=enL_keeps (visE_keeps h k) l o1 o' k1.1 (fun n hn=>hl n (List.mem_cons_of_mem _ hn)) h2
  obtain⟨a,ea⟩:=k1.2.cs
  obtain⟨b,eb⟩:=k2.2.cs
  rcases List.mem_cons.1 hj with rfl|hj
  ·have:=visE_in ho (hl j (by simp)) h1
   exact⟨this.1,by rw[eb];exact List.mem_append_left _ this.2⟩
  ·have:=enL_in l o1 o' k1.1 (fun n hn=>hl n (List.mem_cons_of_mem _ hn)) h2 j hj
   exact⟨fun hh=>this.1 (by rw[ea];exact List.mem_append_left _ hh),this.2⟩
def arP (l:List Cl) (n:Int) (i:Nat):Bool:=match l[i]? with|some c=>c.live&&(c.arena==n)|none=>false
theorem inArena_pad (l:List Cl) (n:Int):∀ N,inArena l n=(List.range (l.length+N)).filter (arP l n)
 |0=>rfl
 |N+1=>by
  rw[← Nat.add_assoc,List.range_succ,List.filter_append, ← inArena_pad l n N]
  have:arP l n (l.length+N)=false:=by simp[arP,List.getElem?_eq_none (show l.length≤l.length+N by omega)]
  rw[List.filter_cons,this]
  simp
theorem arP_iff {l:List Cl} {n:Int} {i:Nat} :arP l n i=true↔∃ c,l[i]? =some c∧c.live=true∧c.arena=n:=by
 unfold arP
 cases l[i]? with
 |none=>simp
 |some c=>simp
theorem inArena_eq {a b:List Cl} {n:Int} (h:∀ i,arP a n i=arP b n i):inArena a n=inArena b n:=by
 rw[inArena_pad a n b.length,inArena_pad b n a.length,Nat.add_comm]
 have:arP a n=arP b n:=funext h
 rw[this]
theorem inArena_arP {l:List Cl} {n:Int} {i:Nat} :i∈inArena l n↔arP l n i=true:=by
 constructor
 ·intro h;obtain⟨c,h1,h2,h3⟩:=inArena_mem h;exact arP_iff.2 ⟨c,h1,h2,h3⟩
 ·intro h
  obtain⟨c,h1,_⟩:=arP_iff.1 h
  unfold inArena
  rw[List.mem_filter,List.mem_range]
  exact⟨(List.getElem?_eq_some_iff.1 h1).1,h⟩
theorem enL_del {h:Hp} {k:Nat} (hk:CellDel h k):∀ (l:List Nat) (o o':Ow),o.Ok h→(∀ n,n∈l→∃ c,h.cells[n]? =some c∧c.live=true)→enL (visE h k) l o=some o'→Del h o o' (fun h' k' u=>enL (visE h' k') l u) (fun d f=>foldN (dropE d h k) l f)
 | [],o,o',ho,_,he=>by
  rw[enL] at he
  cases he
  exact⟨[],[],[],by simp,fun h' k' u _=>by simp[enL],fun d f=>rfl⟩
 |i::l,o,o',ho,hl,he=>by
  rw[enL] at he
  obtain⟨o1,h1,h2⟩:=Option.bind_eq_some_iff.1 he
  have hl2:=fun n hn=>hl n (List.mem_cons_of_mem i hn)
  have k1:=visE_keeps h k i o o1 ho (hl i (by simp)) h1
  have k2:=enL_keeps (visE_keeps h k) l o1 o' k1.1 hl2 h2
  have a:=hk i o o1 ho (hl i (by simp)) h1
  have b:=enL_del hk l o1 o' k1.1 hl2 h2
  obtain⟨dl,dm,di,e1,g1,g2⟩:=a
  obtain⟨el,em,ei,e2,g3,g4⟩:=b
  subst e1
  have hnd:∀ j,j∈dl→j∉el:=by
   have:=k2.1.nd
   rw[e2] at this
   simp only[List.append_assoc] at this
   have:=(List.nodup_append.1 this).2.1
   intro j hj hj2
   exact(List.nodup_append.1 this).2.2 j hj j hj2 rfl
  have hna:∀ j,j∈dm→j∉em:=by
   have:=k2.1.and
   rw[e2] at this
   simp only[List.append_assoc] at this
   have:=(List.nodup_append.1 this).2.1
   intro j hj hj2
   exact(List.nodup_append.1 this).2.2 j hj j hj2 rfl
  have hin:i∈dl:=by
   have:=visE_in ho (hl i (by simp)) h1
   rcases List.mem_append.1 this.2 with hh|hh
   ·exact absurd hh this.1
   ·exact hh
  refine⟨dl++el,dm++em,di++ei,by rw[e2];simp[List.append_assoc],fun h' k' u ha=>?_,fun d f=>by
   have q1:=g2 d f
   have q2:=g4 d (di.foldl (stepF d) f)
   simp only at q1 q2
   show foldN (dropE d h k) (i::l) f=_
   rw[foldN,q1,q2,List.foldl_append]⟩
  have f1:=g1 h' k' u ⟨ha.ok,ha.fuel,ha.live,fun j hj=>ha.cells j (List.mem_append_left _ hj),fun j hj=>ha.arenas j (List.mem_append_left _ hj)⟩
  obtain⟨c,hc,hcl⟩:=hl i (by simp)
  have hok:=(visE_keeps h' k' i u _ ha.ok ⟨c,by rw[(ha.cells i (List.mem_append_left _ hin)).1];exact hc,hcl⟩ f1).1
  have f2:=g3 h' k' ⟨u.cs++dl,u.ags++dm,u.ids++di⟩ ⟨hok,by have:=ha.fuel;simp only[List.length_append];omega,ha.live,fun j hj=>⟨(ha.cells j (List.mem_append_right _ hj)).1,fun hh=>by
   rcases List.mem_append.1 hh with hh|hh
   ·exact(ha.cells j (List.mem_append_right _ hj)).2 hh
   ·exact hnd j hh hj⟩,fun j hj=>⟨(ha.arenas j (List.mem_append_right _ hj)).1,fun hh=>by
   rcases List.mem_append.1 hh with hh|hh
   ·exact(ha.arenas j (List.mem_append_right _ hj)).2 hh
   ·exact hna j hh hj⟩⟩
  show(visE h' k' i u).bind (enL (visE h' k') l)=_
  rw[show visE h' k' i u=_ from f1,Option.bind_some,show enL (visE h' k') l _=_ from f2]
  simp[List.append_assoc]
mutual
theorem visV_del {h:Hp} {k:Nat} (hk:CellDel h k):∀ (v:Vl) (o o':Ow),o.Ok h→visV h (visE h k) v o=some o'→Del h o o' (fun h' k' u=>visV h' (visE h' k') v u) (fun d f=>dropV d h (dropE d h k) v f)
 | .mk kd id x n fs a b c,o,o',ho,he=>by
  rw[visV] at he
  by_cases h2:kd=2
  ·rw[if_pos h2] at he
   obtain⟨dl,dm,di,e,g1,g2⟩:=visL_del hk fs { o with ids:=o.ids++[id] } o' ⟨ho.nd,ho.lt,ho.and,ho.alt⟩ he
   refine⟨dl,dm,id::di,by rw[e];simp,fun h' k' u ha=>?_,fun d f=>?_⟩
   ·show visV h' (visE h' k') (.mk kd id x n fs a b c) u=_
    rw[visV,if_pos h2]
    have:=g1 h' k' { u with ids:=u.ids++[id] } ⟨⟨ha.ok.nd,ha.ok.lt,ha.ok.and,ha.ok.alt⟩,ha.fuel,ha.live,ha.cells,ha.arenas⟩
    rw[show visL h' (visE h' k') fs _=_ from this]
    simp[List.append_assoc]
   ·show dropV d h (dropE d h k) (.mk kd id x n fs a b c) f=_
    by_cases hp:f.pan=true
    ·rw[dropV_pan _ _ hp,foldF_pan _ _ _ hp]
    ·rw[dropV,if_neg hp,if_pos h2,List.foldl_cons,show stepF d f id=f.add (d.getD id.toNat 0) from if_neg hp]
     exact g2 d _
  rw[if_neg h2] at he
  by_cases h3:kd=3
  ·rw[if_pos h3] at he
   split at he
   ·rename_i hb
    obtain⟨m,cl,rfl,hc,hl,har⟩:=boxOk_spec hb
    rw[Int.toNat_natCast] at he
    have hin:=visE_in ho ⟨cl,hc,hl⟩ he
    obtain⟨dl,dm,di,e,g1,g2⟩:=hk m o o' ho ⟨cl,hc,hl⟩ he
    have hmd:m∈dl:=by
     have:=hin.2
     rw[e] at this
     rcases List.mem_append.1 this with hh|hh
     ·exact absurd hh hin.1
     ·exact hh
    refine⟨dl,dm,di,e,fun h' k' u ha=>?_,fun d f=>?_⟩
    ·show visV h' (visE h' k') (.mk kd id x m fs a b c) u=_
     have hbx:boxOk h' m=true:=by simp[boxOk,(ha.cells m hmd).1,hc,hl,har]
     rw[visV,if_neg h2,if_pos h3,if_pos hbx,Int.toNat_natCast]
     exact g1 h' k' u ha
    ·show dropV d h (dropE d h k) (.mk kd id x m fs a b c) f=_
     by_cases hp:f.pan=true
     ·rw[dropV_pan _ _ hp,foldF_pan _ _ _ hp]
     ·rw[dropV,if_neg hp,if_neg h2,if_pos h3,Int.toNat_natCast]
      exact g2 d f
   ·cases he
  rw[if_neg h3] at he
  by_cases h5:kd=5
  ·rw[if_pos h5] at he
   split at he
   ·rename_i hb
    simp only[Bool.and_eq_true,Bool.not_eq_true',decide_eq_false_iff_not] at hb
    obtain⟨m,rfl,hm⟩:=arenaOk_spec hb.1
    have hm2:m∉o.ags:=hb.2
    rw[Int.toNat_natCast] at he
    have hall:∀ i,i∈inArena h.cells (m:Int)→∃ c,h.cells[i]? =some c∧c.live=true:=fun i hi=>by obtain⟨c,h1,h2,_⟩:=inArena_mem hi;exact⟨c,h1,h2⟩
    have ho1:=ho.arena hm2 hm
    have hin:=enL_in _ _ _ ho1 hall he
    have hko:=(enL_keeps (visE_keeps h k) _ _ _ ho1 hall he).1
    obtain⟨dl,dm,di,e,g1,g2⟩:=enL_del hk _ _ _ ho1 hall he
    have hmd:∀ j,j∈dm→j≠m:=by
     have:=hko.and
     rw[e] at this
     have:=(List.nodup_append.1 this).2.2
     intro j hj hjm
     subst hjm
     exact this j (by simp) j hj rfl
    refine⟨dl,m::dm,di,by rw[e];simp,fun h' k' u ha=>?_,fun d f=>?_⟩
    ·show visV h' (visE h' k') (.mk kd id x m fs a b c) u=_
     have ham:=ha.arenas m (by simp)
     have hoa:(arenaOk h' m&&!decide ((m:Int).toNat∈u.ags))=true:=by simp[arenaOk,ham.1,hm,ham.2]
     have hia:inArena h'.cells (m:Int)=inArena h.cells (m:Int):=by
      refine inArena_eq fun i=>?_
      rw[Bool.eq_iff_iff]
      constructor
      ·intro hh
       obtain⟨c,q1,q2,q3⟩:=arP_iff.1 hh
       exact arP_iff.2 ⟨c,ha.live i c q1 q2 (by omega),q2,q3⟩
      ·intro hh
       have hi:=hin i (inArena_arP.2 hh)
       obtain⟨c,q1,q2,q3⟩:=arP_iff.1 hh
       have hid:i∈dl:=by
        have:=hi.2
        rw[e] at this
        rcases List.mem_append.1 this with hx|hx
        ·exact absurd hx hi.1
        ·exact hx
       exact arP_iff.2 ⟨c,by rw[(ha.cells i hid).1];exact q1,q2,q3⟩
     rw[visV,if_neg h2,if_neg h3,if_pos h5,if_pos hoa,hia,Int.toNat_natCast]
     have hau:h'.arenas[m]? =some true:=by rw[ham.1];exact hm
     have:=g1 h' k' { u with ags:=u.ags++[m] } ⟨ha.ok.arena ham.2 hau,ha.fuel,ha.live,ha.cells,fun j hj=>⟨(ha.arenas j (List.mem_cons_of_mem _ hj)).1,fun hh=>by
      rcases List.mem_append.1 hh with hh|hh
      ·exact(ha.arenas j (List.mem_cons_of_mem _ hj)).2 hh
      ·simp only[List.mem_singleton] at hh;exact hmd j hj hh⟩⟩
     rw[show enL (visE h' k') _ _=_ from this]
     simp[List.append_assoc]
    ·show dropV d h (dropE d h k) (.mk kd id x m fs a b c) f=_
     by_cases hp:f.pan=true
     ·rw[dropV_pan _ _ hp,foldF_pan _ _ _ hp]
     ·rw[dropV,if_neg hp,if_neg h2,if_neg h3,if_pos h5]
      exact g2 d f
   ·cases he
  rw[if_neg h5] at he
  cases he
  refine⟨[],[],[],by simp,fun h' k' u ha=>?_,fun d f=>?_⟩
  ·show visV h' (visE h' k') (.mk kd id x n fs a b c) u=_
   rw[visV,if_neg h2,if_neg h3,if_neg h5];simp
  ·show dropV d h (dropE d h k) (.mk kd id x n fs a b c) f=_
   by_cases hp:f.pan=true
   ·rw[dropV_pan _ _ hp];rfl
   ·rw[dropV,if_neg hp,if_neg h2,if_neg h3,if_neg h5];rfl
theorem visL_del {h:Hp} {k:Nat} (hk:CellDel h k):∀ (l:List Vl) (o o':Ow),o.Ok h→visL h (visE h k) l o=some o'→Del h o o' (fun h' k' u=>visL h' (visE h' k') l u) (fun d f=>dropL d h (dropE d h k) l f)
 | [],o,o',ho,he=>by
  rw[visL] at he
  cases he
  exact⟨[],[],[],by simp,fun h' k' u _=>by simp[visL],fun d f=>by show dropL d h (dropE d h k) [] f=_;rw[dropL];rfl⟩
 |v::l,o,o',ho,he=>by
  rw[visL] at he
  obtain⟨o1,h1,h2⟩:=Option.bind_eq_some_iff.1 he
  have k1:=visV_keeps (visE_keeps h k) v o o1 ho h1
  have a:=visV_del hk v o o1 ho h1
  have b:=visL_del hk l o1 o' k1.1 h2
  have:=Del.comp a b (visL_keeps (visE_keeps h k) l o1 o' k1.1 h2).1 (fun h' k' u u' hu hr=>(visV_keeps (visE_keeps h' k') v u u' hu hr).1)
  obtain⟨dl,dm,di,e,g1,g2⟩:=this
  exact⟨dl,dm,di,e,fun h' k' u ha=>by show visL h' (visE h' k') (v::l) u=_;rw[visL];exact g1 h' k' u ha,fun d f=>by show dropL d h (dropE d h k) (v::l) f=_;rw[dropL];exact g2 d f⟩
end
theorem cellDel (h:Hp):∀ k,CellDel h k
 |0=>fun n o o' _ _ he=>by rw[visE] at he;cases he
 |k+1=>fun n o o' ho hn he=>by
  obtain⟨c,hc,hl⟩:=hn
  rw[visE] at he
  split at he
  ·cases he
  rename_i hno
  rw[hc] at he
  simp only at he
  have ho1:=ho.enter hno hc hl
  have hko:=(visV_keeps (visE_keeps h k) c.v _ o' ho1 he).1
  obtain⟨dl,dm,di,e,g1,g2⟩:=visV_del (cellDel h k) c.v _ o' ho1 he
  have hnd:∀ j,j∈dl→j≠n:=by
   have:=hko.nd
   rw[e] at this
   have:=(List.nodup_append.1 this).2.2
   intro j hj hjm
   subst hjm
   exact this j (by simp) j hj rfl
  refine⟨n::dl,dm,di,by rw[e];simp,fun h' k' u ha=>?_,fun d f=>?_⟩
  ·have hac:=ha.cells n (by simp)
   have hcu:h'.cells[n]? =some c:=by rw[hac.1];exact hc
   have hlt:=ha.ok.len_lt hac.2 (List.getElem?_eq_some_iff.1 hcu).1
   have hf:=ha.fuel
   obtain⟨k2,rfl⟩:∃ k2,k'=k2+1:=⟨k' - 1,by omega⟩
   show visE h' (k2+1) n u=_
   rw[visE,if_neg hac.2,hcu]
   have:=g1 h' k2 { u with cs:=u.cs++[n] } ⟨ha.ok.enter hac.2 hcu hl,by simp only[List.length_append,List.length_singleton];omega,ha.live,fun j hj=>⟨(ha.cells j (List.mem_cons_of_mem _ hj)).1,fun hh=>by
    rcases List.mem_append.1 hh with hh|hh
    ·exact(ha.cells j (List.mem_cons_of_mem _ hj)).2 hh
    ·simp only[List.mem_singleton] at hh;exact hnd j hj hh⟩,ha.arenas⟩
   simp only
   rw[show visV h' (visE h' k2) c.v _=_ from this]
   simp[List.append_assoc]
  ·show dropE d h (k+1) n f=_
   rw[dropE,hc]
   exact g2 d f
theorem dropAll_ids {h:Hp} {v:Vl} {o:Ow} (hw:walkS h v=some o) (d:List Int):dropAll d h v=o.ids.foldl (stepF d) Fa.nil:=by
 obtain⟨dl,dm,di,e,_,g⟩:=visV_del (cellDel h _) v Ow.nil o (Ow.nil_ok h) hw
 have:o.ids=di:=by rw[e];simp[Ow.nil]
 rw[this]
 exact g d Fa.nil
theorem visV_other {h : Hp} {k : Nat} {v : Vl} {o o' : Ow} (ho : o.Ok h) (he : visV h (visE h k) v o = some o') :
    ∃ dl dm di,o'=⟨o.cs++dl,o.ags++dm,o.ids++di⟩∧∀ h' k u,Agr h h' u k dl dm→visV h' (visE h' k) v u=some ⟨u.cs++dl,u.ags++dm,u.ids++di⟩:=by
  obtain⟨dl,dm,di,e,g,_⟩:=visV_del (cellDel h k) v o o' ho he
  exact⟨dl,dm,di,e,g⟩
end Go.Hv
