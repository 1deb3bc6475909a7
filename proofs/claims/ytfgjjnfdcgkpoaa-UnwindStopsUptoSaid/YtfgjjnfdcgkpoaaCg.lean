/- A part of the proof: an abstract machine for the walks, and what the walked functions compute. -/
import Derived.Test.YtfgjjnfdcgkpoaaCf
set_option linter.unusedVariables false
set_option linter.unusedSimpArgs false
set_option maxHeartbeats 4000000
set_option maxRecDepth 100000
namespace Go.Proofs.Ytfgjjnfdcgkpoaa
open Go.Am Go.Proofs Go.Hv
open Classical
attribute [local irreducible] AW CallP CallB CallY
structure HB (h:Hp):Prop where
 l:h.cells.length≤2 ^ 20
 a:h.arenas.length≤2 ^ 20
 m:∀ c,c∈h.cells→c.v.sz≤2 ^ 20
theorem HB.sm {h:Hp} (hb:HB h) {v:Vl} (hv:v.sz≤2 ^ 20):Sm h v:=⟨hb.l,hb.a,hb.m,hv⟩
theorem HB.z {h:Hp} (hb:HB h):∀ c,c∈h.cells→c.v.sz<2 ^ 40:=fun c hc=>by have:=hb.m c hc;omega
theorem HB.same {h:Hp} (hb:HB h) (a:Hp):PCall Try.prog 24 [h.av,a.av] (.bool (decide (h=a))):=same_call h a hb.l hb.a hb.z
theorem HB.hp0:HB hp0:=⟨by decide,by decide,fun c hc=>by cases hc⟩
theorem zero_sz:Cl.zero.v.sz≤2 ^ 20:=by decide
theorem HB.set {h:Hp} (hb:HB h) (n:Nat) (c:Cl) (hc:c.v.sz≤2 ^ 20) (l:List Bool) (hl:l.length≤2 ^ 20):HB ⟨h.cells.set n c,l⟩:=by
 refine⟨by simp only[List.length_set];exact hb.l,hl,fun x hx=>?_⟩
 rcases List.mem_or_eq_of_mem_set hx with hx|rfl
 ·exact hb.m x hx
 ·exact hc
theorem HB.closed {h:Hp} (hb:HB h) (o:Ow):HB (closedS h o):=by
 refine⟨by simp only[closedS,clrC_len];exact hb.l,by simp only[closedS,clrA_len];exact hb.a,fun c hc=>?_⟩
 obtain⟨i,hi⟩:=List.getElem?_of_mem hc
 simp only[closedS] at hi
 rw[clrC_get] at hi
 split at hi
 ·cases hi;exact zero_sz
 ·exact hb.m c (List.mem_of_getElem? hi)
theorem HB.drop {h:Hp} (hb:HB h) (D:List Dt) (v:Vl):HB (dropS D h v).1:=by
 unfold dropS
 split
 ·exact HB.hp0
 ·split
  ·exact HB.hp0
  ·exact hb.closed _
theorem HB.close {h:Hp} (hb:HB h) (v:Vl):HB (closeS h v).1:=by
 unfold closeS
 split
 ·exact hb.closed _
 ·exact HB.hp0
theorem walk_len {h:Hp} {v:Vl} (hm:Sm h v) (h60:h.cells.length≤100) {o:Ow} (hs:walkS h v=some o):o.ids.length≤2 ^ 30:=by
 have:=(visV_bud (visE_keeps h _) (visE_bud hm.m _) v Ow.nil o (Ow.nil_ok h) hs)
 rw[bud_nil] at this
 have h1:o.ids.length≤bud (2 ^ 20) h o:=Nat.le_add_right _ _
 have:=hm.v
 omega
theorem drop_len (D:List Dt) {h:Hp} {v:Vl} (hm:Sm h v) (h60:h.cells.length≤100):(dropS D h v).2.1.out.length≤(dropS D h v).2.1.cnt∧(dropS D h v).2.1.cnt≤2 ^ 30:=by
 unfold dropS
 split
 ·exact⟨by simp[Fa.nil],by simp[Fa.nil]⟩
 ·rename_i o hs
  split
  ·exact⟨by simp[Fa.nil],by simp[Fa.nil]⟩
  ·have hF:=dropV_le (d:=drs D) (visE_keeps h _) (dropE_le (d:=drs D) h.cells.length) v Ow.nil o Fa.nil (Ow.nil_ok h) hs (Fle.nil _)
   have:=walk_len hm h60 hs
   exact⟨hF.out,Nat.le_trans hF.cnt this⟩
end Go.Proofs.Ytfgjjnfdcgkpoaa
