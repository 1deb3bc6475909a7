/- A part of the proof: an abstract machine for the walks, and what the walked functions compute. -/
import Derived.Test.YtfgjjnfdcgkpoaaCq
import Derived.Test.YtfgjjnfdcgkpoaaHz
import Derived.Test.YtfgjjnfdcgkpoaaCr
import Derived.Test.YtfgjjnfdcgkpoaaCk
set_option linter.unusedVariables false
set_option linter.unusedSimpArgs false
set_option maxHeartbeats 4000000
set_option maxRecDepth 100000
namespace Go.Proofs.Ytfgjjnfdcgkpoaa
open Go.Am Go.Proofs Go.Hv
open Classical
theorem closed_live {h:Hp} {o:Ow} {j:Nat} {c:Cl} (hj:(closedS h o).cells[j]? =some c) (hl:c.live=true):h.cells[j]? =some c:=by
 simp only[closedS] at hj
 rw[clrC_get] at hj
 split at hj
 ·cases hj;cases hl
 ·exact hj
theorem closed_out {h:Hp} {o:Ow} {j:Nat} (hj:j∉o.cs):(closedS h o).cells[j]? =h.cells[j]? :=by
 simp only[closedS]
 rw[clrC_get,if_neg (fun hh=>hj hh.1)]
theorem closed_outA {h:Hp} {o:Ow} {j:Nat} (hj:j∉o.ags):(closedS h o).arenas[j]? =h.arenas[j]? :=by
 simp only[closedS]
 rw[clrA_get,if_neg (fun hh=>hj hh.1)]
theorem agr_closed {h:Hp} {o:Ow} {dl dm:List Nat} {k:Nat} (hk:h.cells.length≤k) (h1:∀ j,j∈dl→j∉o.cs) (h2:∀ j,j∈dm→j∉o.ags):Agr h (closedS h o) Ow.nil k dl dm:=
 ⟨Ow.nil_ok _,by simp only[closedS,clrC_len];omega,fun j c hj hl _=>closed_live hj hl,fun j hj=>⟨closed_out (h1 j hj),by simp[Ow.nil]⟩,fun j hj=>⟨closed_outA (h2 j hj),by simp[Ow.nil]⟩⟩
theorem closed_nil (h:Hp):closedS h Ow.nil=h:=by
 cases h;rfl
theorem closed_app (h:Hp) (a b:Ow) (x:List Int):closedS (closedS h a) b=closedS h ⟨a.cs++b.cs,a.ags++b.ags,x⟩:=by
 unfold closedS
 congr 1
 ·apply List.ext_getElem?
  intro j
  simp only[clrC_get,clrC_len,List.mem_append]
  by_cases h1:j∈a.cs<;>by_cases h2:j∈b.cs<;>simp[h1,h2]<;>omega
 ·apply List.ext_getElem?
  intro j
  simp only[clrA_get,clrA_len,List.mem_append]
  by_cases h1:j∈a.ags<;>by_cases h2:j∈b.ags<;>simp[h1,h2]<;>omega
theorem walk_step {h:Hp} {v:Vl} {o o':Ow} (ho:o.Ok h) (hv:visV h (visE h h.cells.length) v o=some o'):o'.Ok h∧∃ u,walkS (closedS h o) v=some u∧o'=⟨o.cs++u.cs,o.ags++u.ags,o.ids++u.ids⟩:=by
 have hok:=(visV_keeps (visE_keeps h _) v o o' ho hv).1
 obtain⟨dl,dm,di,rfl,g⟩:=visV_other ho hv
 refine⟨hok,⟨dl,dm,di⟩,?_,rfl⟩
 have n1:=(List.nodup_append.1 hok.nd).2.2
 have n2:=(List.nodup_append.1 hok.and).2.2
 have:=g (closedS h o) h.cells.length Ow.nil (agr_closed (Nat.le_refl _) (fun j hj hh=>n1 j hh j hj rfl) (fun j hj hh=>n2 j hh j hj rfl))
 unfold walkS
 rw[show(closedS h o).cells.length=h.cells.length from by simp only[closedS,clrC_len],this]
 rfl
theorem dropS_of {D:List Dt} {h:Hp} {v:Vl} {o:Ow} (ho:walkS h v=some o) (hx:o.ids.any (unkB (dl D))=false):dropS D h v=(closedS h o,o.ids.foldl (stepF (drs D)) Fa.nil,0):=by
 unfold dropS
 rw[ho]
 simp only
 rw[if_neg (by simp[hx]),dropAll_ids ho]
theorem closeS_of {h:Hp} {v:Vl} {o:Ow} (ho:walkS h v=some o):closeS h v=(closedS h o,0):=by
 unfold closeS
 rw[ho]
theorem countS_of {h:Hp} {v:Vl} {o:Ow} (ho:walkS h v=some o):countS h v=o.ids.length:=by
 unfold countS
 rw[ho]
def Fa.pre (a f:Fa):Fa:=⟨a.out++f.out,a.cnt+f.cnt,f.pan⟩
theorem stepF_pre (d:List Int) (a f:Fa) (x:Int):stepF d (Fa.pre a f) x=Fa.pre a (stepF d f x):=by
 unfold stepF
 by_cases h:f.pan=true
 ·rw[if_pos h,if_pos (show(Fa.pre a f).pan=true from h)]
 ·rw[if_neg h,if_neg (show ¬ (Fa.pre a f).pan=true from h)]
  simp only[Fa.add,Fa.pre,Fa.mk.injEq,and_true,Nat.add_assoc]
  split<;>simp
theorem foldF_pre (d:List Int) (a:Fa):∀ (l:List Int) (f:Fa),l.foldl (stepF d) (Fa.pre a f)=Fa.pre a (l.foldl (stepF d) f)
 | [],_=>rfl
 |x::l,f=>by rw[List.foldl_cons,List.foldl_cons,stepF_pre,foldF_pre d a l]
theorem foldF_from (d:List Int) (a:Fa) (h:a.pan=false) (l:List Int):l.foldl (stepF d) a=Fa.pre a (l.foldl (stepF d) Fa.nil):=by
 rw[← foldF_pre]
 congr 1
 cases a
 simp only at h
 subst h
 simp[Fa.pre,Fa.nil]
def fin (D:List Dt) (l:List Int):Fa:=l.foldl (stepF (drs D)) Fa.nil
theorem stD_of {D : List Dt} {tk : Int} {e : Ed} {v : Vl} {o : Ow} (ho : walkS e.h v = some o) (hx : o.ids.any (unkB (dl D)) = false) :
    stD D tk e v=⟨closedS e.h o,e.ou++(fin D o.ids).out.map (fun p=>(tk,p)),e.dp+((fin D o.ids).cnt:Int),e.cd+((o.ids.length:Int) - ((fin D o.ids).cnt:Int)),if(fin D o.ids).pan then 3 else e.st,(fin D o.ids).pan⟩:=by
  unfold stD
  simp only[dropS_of ho hx,countS_of ho]
  rfl
theorem stS_of {e:Ed} {v:Vl} {o:Ow} (ho:walkS e.h v=some o):stS e v= { e with h:=closedS e.h o,cd:=e.cd+(o.ids.length:Int) } :=by
 unfold stS
 simp only[closeS_of ho,countS_of ho,if_true]
def edU (w:Wd) (tk:Int) (o:Ow):Ed:=⟨closedS w.h o,w.ou++(fin w.D o.ids).out.map (fun p=>(tk,p)),w.dp+((fin w.D o.ids).cnt:Int),w.cd+((o.ids.length:Int) - ((fin w.D o.ids).cnt:Int)),if(fin w.D o.ids).pan then 3 else 2,(fin w.D o.ids).pan⟩
theorem edU_step {w:Wd} {tk:Int} {v:Vl} {o o':Ow} (ho:o.Ok w.h) (hv:visV w.h (visE w.h w.h.cells.length) v o=some o') (hx:o'.ids.any (unkB (dl w.D))=false):stE w.D tk (edU w tk o) v=edU w tk o':=by
 obtain⟨_,u,hu,rfl⟩:=walk_step ho hv
 simp only[List.any_append,Bool.or_eq_false_iff] at hx
 have hf:fin w.D (o.ids++u.ids)=u.ids.foldl (stepF (drs w.D)) (fin w.D o.ids):=List.foldl_append ..
 unfold stE
 cases hp:(fin w.D o.ids).pan
 ·rw[if_neg (by simp[edU,hp]),stD_of (e:=edU w tk o) hu hx.2]
  replace hf:fin w.D (o.ids++u.ids)=Fa.pre (fin w.D o.ids) (fin w.D u.ids):=by rw[hf,foldF_from _ _ hp];rfl
  simp only[edU,hf,hp,Fa.pre,closed_app w.h o u (o.ids++u.ids),List.map_append,List.append_assoc,List.length_append,Ed.mk.injEq,true_and,Bool.false_eq_true,if_false,and_true]
  refine⟨by omega,by omega⟩
 ·rw[if_pos (by simp[edU,hp]),stS_of (e:=edU w tk o) hu]
  rw[foldF_pan _ _ _ hp] at hf
  simp only[edU,hf,closed_app w.h o u (o.ids++u.ids),List.length_append,Ed.mk.injEq,true_and,and_true]
  omega
theorem edU_run {w:Wd} {tk:Int} :∀ (l:List Vl) (o o':Ow),o.Ok w.h→visL w.h (visE w.h w.h.cells.length) l o=some o'→o'.ids.any (unkB (dl w.D))=false→l.foldl (stE w.D tk) (edU w tk o)=edU w tk o'
 | [],o,o',ho,hv,hx=>by rw[visL] at hv;cases hv;rfl
 |v::l,o,o',ho,hv,hx=>by
  rw[visL] at hv
  obtain⟨o1,h1,h2⟩:=Option.bind_eq_some_iff.1 hv
  have ok1:=(walk_step ho h1).1
  obtain⟨z,hz⟩:=(visL_keeps (visE_keeps w.h _) l o1 o' ok1 h2).2.ids
  rw[List.foldl_cons,edU_step ho h1 (by rw[hz] at hx;simp only[List.any_append,Bool.or_eq_false_iff] at hx;exact hx.1)]
  exact edU_run l o1 o' ok1 h2 hx
theorem runU {w:Wd} {tk:Int} {t:Tsk} {o:Ow} (ho:walkL w.h (valsT t)=some o) (hx:o.ids.any (unkB (dl w.D))=false):runE' w tk 2 false t=edU w tk o:=by
 unfold runE'
 rw[← edU_run (valsT t) Ow.nil o (Ow.nil_ok _) ho hx]
 congr 1
 simp[edU,Wd.ed,closed_nil,fin,Fa.nil,Ow.nil]
 exact(closed_nil w.h).symm
end Go.Proofs.Ytfgjjnfdcgkpoaa

set_option maxHeartbeats 4000000
set_option maxRecDepth 100000
namespace Go.Proofs.Ytfgjjnfdcgkpoaa
open Go.Am Go.Proofs Go.Hv
open Classical
attribute [local irreducible] AW CallP CallB CallY
theorem right_facts {w:Wd} {tk:Int} (hg:WG w) (hr:rightW w tk):∃ (m:Nat) (t:Tsk) (o:Ow),tk=m∧w.ts[m]? =some t∧t.st=0∧readyT w m=some t∧walkL w.h (valsT t)=some o∧o.ids.any (unkB (dl w.D))=false∧WS w:=by
 obtain⟨hf,o,ho,hid⟩:=hr
 unfold walkT at ho
 cases ht:readyT w tk with
 |none=>rw[ht] at ho;cases ho
 |some t=>
 rw[ht] at ho
 replace ho:walkL w.h (valsT t)=some o:=ho
 obtain⟨m,rfl,h1,h2⟩:=ready_some ht
 refine⟨m,t,o,rfl,h1,h2,ht,ho,?_,hg.ws hf⟩
 rw[← mx_any _ _ (by have:=hg.D;omega),decide_eq_false_iff_not]
 exact Int.not_lt.2 hid
def setE (w:Wd) (m:Nat) (t:Tsk) (e:Ed):Wd:= { w with h:=e.h,ts:=w.ts.set m { t with st:=e.st,fs:=[],ls:=[] },ou:=e.ou,dp:=e.dp,cd:=e.cd }
theorem endU {w:Wd} {m:Nat} {t:Tsk} {o:Ow} (hr:readyT w m=some t) (ho:walkL w.h (valsT t)=some o) (hx:o.ids.any (unkB (dl w.D))=false):endW w m 2 false=setE w m t (edU w m o):=by
 unfold endW
 rw[hr]
 simp only[runU ho hx]
 rfl
end Go.Proofs.Ytfgjjnfdcgkpoaa
