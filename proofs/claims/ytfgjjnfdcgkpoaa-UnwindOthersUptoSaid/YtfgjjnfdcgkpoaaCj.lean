/- A part of the proof: an abstract machine for the walks, and what the walked functions compute. -/
import Derived.Test.YtfgjjnfdcgkpoaaCg
import Derived.Test.YtfgjjnfdcgkpoaaHx
import Derived.Test.YtfgjjnfdcgkpoaaMq
set_option linter.unusedVariables false
set_option linter.unusedSimpArgs false
set_option maxHeartbeats 4000000
set_option maxRecDepth 100000
namespace Go.Proofs.Ytfgjjnfdcgkpoaa
open Go.Am Go.Proofs Go.Hv
open Classical
attribute [local irreducible] AW CallP CallB CallY
abbrev rwC (h:Hp) (w:Rw):List AV:=[.sl (cl h.cells),.sl (bl h.arenas),.rw 1,.rw 2,.i w.cnt,.i w.ids,.bool w.right]
def objR (h:Hp) (w:Rw):Nat→Option AObj:=mkHp [(0,.cells (rwC h w)),(1,.row 1 (bl w.mc)),(2,.row 1 (bl w.ma))]
def RCel (h:Hp) (n:Nat) (r:Ow→Option Ow) (o:Ow):Prop:=MCall Try.prog 62 [.ptr 0 0,.i n] (objR h) 3 3 (rs h o) (ROk h (r o))





theorem RCel.congr {h:Hp} {n:Nat} {r r':Ow→Option Ow} {o:Ow} (hr:r o=r' o) (he:RCel h n r o):RCel h n r' o:=by
 unfold RCel at he ⊢
 rw[← hr]
 exact he

structure SmL (h:Hp) (vs:List Vl):Prop where
 l:h.cells.length≤2 ^ 20
 a:h.arenas.length≤2 ^ 20
 m:∀ c,c∈h.cells→c.v.sz≤2 ^ 20
 v:∀ v:Vl,v∈vs→v.sz≤2 ^ 20
 n:Vl.szL vs≤2 ^ 30
theorem Sm.one {h:Hp} {v:Vl} (hm:Sm h v):SmL h [v]:=⟨hm.l,hm.a,hm.m,by simpa using hm.v,by have:=hm.v;simp[Vl.szL];omega⟩
end Go.Proofs.Ytfgjjnfdcgkpoaa
