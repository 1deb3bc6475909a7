/- A part of the proof: an abstract machine for the walks, and what the walked functions compute. -/
import Derived.Test.YtfgjjnfdcgkpoaaCu
set_option linter.unusedVariables false
set_option linter.unusedSimpArgs false
set_option maxHeartbeats 4000000
set_option maxRecDepth 100000
namespace Go.Proofs.Ytfgjjnfdcgkpoaa
open Go.Am Go.Proofs Go.Hv
open Classical
attribute [local irreducible] AW CallP CallB CallY
theorem unk_len {D D':List Dt} {l:List Int} (h:l.any (unkB (dl D))=false) (hl:D'.length=D.length):l.any (unkB (dl D'))=false:=by
 rw[← h];congr 1;funext x;simp only[unkB,dl_len,hl]
theorem clo_dl (l:List Dt):CloRow (dl l):=by
 intro x hx c hc
 obtain⟨p,_,rfl⟩:=List.mem_map.1 hx
 simp only[AV.cells,Dt.av,List.mem_cons,List.not_mem_nil,or_false] at hc
 rcases hc with rfl|rfl|rfl|rfl|rfl<;>rfl
end Go.Proofs.Ytfgjjnfdcgkpoaa
