/- A part of the proof: an abstract machine for the walks, and what the walked functions compute. -/
import Derived.Test.YtfgjjnfdcgkpoaaCq
set_option linter.unusedVariables false
set_option linter.unusedSimpArgs false
set_option maxHeartbeats 4000000
set_option maxRecDepth 100000
namespace Go.Proofs.Ytfgjjnfdcgkpoaa
open Go.Am Go.Proofs Go.Hv
open Classical
attribute [local irreducible] AW CallP CallB CallY
theorem GB.run {w:Wd} {tk:Int} :∀ (l:List Vl) (i:Nat) (e:Ed),GB i e→(∀ v,v∈l→v.sz≤2 ^ 20)→i+l.length≤100→GB (i+l.length) (l.foldl (stE w.D tk) e)
 | [],i,e,h,_,_=>h
 |v::l,i,e,h,hz,hl=>by
  rw[List.foldl_cons,List.length_cons]
  simp only[List.length_cons] at hl
  have:=GB.run (w:=w) (tk:=tk) l (i+1) _ (h.step (D:=w.D) (tk:=tk) (hz v (by simp)) (by omega)) (fun x hx=>hz x (by simp[hx])) (by omega)
  rwa [show i+(l.length+1)=i+1+l.length from by omega]
theorem run_gb {w:Wd} (hw:WS w) {t:Tsk} (ht:t∈w.ts) (tk st:Int) (sh:Bool):GB (valsT t).length (runE' w tk st sh t):=by
 have:=GB.run (w:=w) (tk:=tk) (valsT t) 0 (w.ed st sh) (GB.start hw st sh) (valsT_sz (hw.tv t ht)) (by have:=valsT_len (hw.tb t ht);omega)
 rwa [Nat.zero_add] at this
theorem endW_wl {w:Wd} (hg:WG w) (hw:WS w) (tk st:Int) (sh:Bool):WL (endW w tk st sh):=by
 have hl:=hg.wl
 unfold endW
 cases hr:readyT w tk with
 |none=>exact hl
 |some t=>
  obtain⟨m,rfl,ht,h0⟩:=ready_some hr
  have hmem:=List.mem_of_getElem? ht
  have hb:=run_gb hw hmem m st sh
  have hv:=valsT_len (hw.tb t hmem)
  refine⟨hb.h,by have:=hb.o;simp only;omega,by simp only[List.length_set];exact hl.t,hl.c,fun x hx=>?_,hl.cv⟩
  rcases List.mem_or_eq_of_mem_set hx with hx|rfl
  ·exact hl.tf x hx
  ·exact⟨fun y hy=>(by cases hy),by simp,by simp,(hl.tf t hmem).2.2.2⟩
end Go.Proofs.Ytfgjjnfdcgkpoaa
