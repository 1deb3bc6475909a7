/- A part of the proof: an abstract machine for the walks, and what the walked functions compute. -/
import Derived.Test.YtfgjjnfdcgkpoaaCq
set_option linter.unusedVariables false
set_option linter.unusedSimpArgs false
set_option maxHeartbeats 4000000
set_option maxRecDepth 100000
namespace Go.Proofs.Ytfgjjnfdcgkpoaa
open Go.Am Go.Proofs Go.Hv
open Classical
attribute [local irreducible] AW CallP CallB CallY
theorem GB.run {w:Wd} {tk:Int} :∀ (l:List Vl) (i:Nat) (e:Ed),GB i e→(∀ v,v∈l→v.sz≤2 ^ 20)→i+l.length≤100→GB (i+l.length) (l.foldl (stE w.D tk) e)
 | [],i,e,h,_,_=>h
 |v::l,i,e,h,hz,hl=>by
  rw[List.foldl_cons,List.length_cons]
  simp only[List.length_cons] at hl
  have:=GB.run (w:=w) (tk:=tk) l (i+1) _ (h.step (D:=w.D) (tk:=tk) (hz v (by simp)) (by omega)) (fun x hx=>hz x (by simp[hx])) (by omega)
  rwa [show i+(l.length+1)=i+1+l.length from by omega]
theorem run_gb {w:Wd} (hw:WS w) {t:Tsk} (ht:t∈w.ts) (tk st:Int) (sh:Bool):GB (valsT t).length (runE' w tk st sh t):=by
 have:=GB.run (w:=w) (tk:=tk) (valsT t) 0 (w.ed st sh) (GB.start hw st sh) (valsT_sz (hw.tv t ht)) (by have:=valsT_len (hw.tb t ht);omega)
 rwa [Nat.zero_add] at this
end Go.Proofs.Ytfgjjnfdcgkpoaa
