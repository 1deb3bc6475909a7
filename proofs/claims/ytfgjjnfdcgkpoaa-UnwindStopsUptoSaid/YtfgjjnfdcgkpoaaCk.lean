/- A part of the proof: an abstract machine for the walks, and what the walked functions compute. -/
import Derived.Test.YtfgjjnfdcgkpoaaCj
set_option linter.unusedVariables false
set_option linter.unusedSimpArgs false
set_option maxHeartbeats 4000000
set_option maxRecDepth 100000
namespace Go.Proofs.Ytfgjjnfdcgkpoaa
open Go.Am Go.Proofs Go.Hv
open Classical
attribute [local irreducible] AW CallP CallB CallY

structure Fw where
 L:List Cl
 A:List Bool
 f:Fa
abbrev fwC (D:List Dt) (w:Fw):List AV:=[.sl (dl D),.rw 1,.rw 2,.rw 3,.i (w.f.cnt:Int),.bool w.f.pan]
def objF (D:List Dt) (w:Fw):Nat→Option AObj:=mkHp [(0,.cells (fwC D w)),(1,.row 10 (cl w.L)),(2,.row 1 (bl w.A)),(3,.row 1 (il w.f.out))]
def FCon (D:List Dt) (v:Vl) (w w':Fw):Prop:=MCall Try.prog 64 [.ptr 0 0,.agg v.cs] (objF D) 4 3 w (fun wb=>wb=w')
abbrev zAgg:AV:= .agg [.bool false,.i 0,.i 0,.i 0,.i 0,.i 0,.nilsl,.bool false,.nilsl,.nilsl]
theorem Wk.zero {E:En} {fr:Nat→Option AV} {hp:Nat→Option AObj} {nx:Nat} (X:Nat) {L:List Cl} {n:Nat} (hX:hp X=some (.row 10 ((cl L).set n zAgg))):Wk E ⟨fr,hp,nx⟩ ⟨fr,updo hp X (some (.row 10 (cl (L.set n Cl.zero)))),nx⟩:=by
 refine Wk.snpRow X (cl (L.set n Cl.zero)) hX (by simp[cl_len]) (fun i hi=>?_)
 rw[← cl_set]
 refine snp_set (.inr ⟨?_,?_⟩) _ _ _ hi
 ·simp[AV.snapOk,AV.snapOkL]
 ·rfl
end Go.Proofs.Ytfgjjnfdcgkpoaa

set_option maxHeartbeats 4000000
set_option maxRecDepth 100000
namespace Go.Proofs.Ytfgjjnfdcgkpoaa
open Go.Am Go.Proofs Go.Hv
open Classical
attribute [local irreducible] AW CallP CallB CallY FCon
structure FInv (h:Hp) (o:Ow) (w:Fw):Prop where
 l:w.L.length=h.cells.length
 a:w.A.length=h.arenas.length
 c:∀ j,j∉o.cs→w.L[j]? =h.cells[j]?
 d:∀ (j:Nat) (c:Cl),w.L[j]? =some c→c.live=true→h.cells[j]? =some c

theorem mx_any (D:List Dt) (l:List Int) (hD:D.length≤2 ^ 30):decide ((D.length:Int)<mxI l)=l.any (unkB (dl D)):=by
 have h:=mxI_lt (n:=(D.length:Int)) (by omega) (by omega) l
 cases hb:l.any (unkB (dl D))
 ·rw[decide_eq_false_iff_not,h]
  rintro⟨x,hx,h2⟩
  have:=List.any_eq_false.1 hb x hx
  simp only[unkB,dl_len,Bool.or_eq_true,decide_eq_true_eq,not_or] at this
  omega
 ·rw[decide_eq_true_eq,h]
  obtain⟨x,hx,h2⟩:=List.any_eq_true.1 hb
  simp only[unkB,dl_len,Bool.or_eq_true,decide_eq_true_eq] at h2
  exact⟨x,hx,by omega⟩
end Go.Proofs.Ytfgjjnfdcgkpoaa
