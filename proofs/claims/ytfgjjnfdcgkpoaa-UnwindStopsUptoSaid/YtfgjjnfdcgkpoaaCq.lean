/- A part of the proof: an abstract machine for the walks, and what the walked functions compute. -/
import Derived.Test.YtfgjjnfdcgkpoaaCp
import Derived.Test.YtfgjjnfdcgkpoaaCj
set_option linter.unusedVariables false
set_option linter.unusedSimpArgs false
set_option maxHeartbeats 4000000
set_option maxRecDepth 100000
namespace Go.Hv
open Go Go.Am Go.Proofs.Ytfgjjnfdcgkpoaa
def walkT (w:Wd) (tk:Int):Option Ow:=(readyT w tk).bind fun t=>walkL w.h (valsT t)
def rightW (w:Wd) (tk:Int):Prop:=fewW w∧∃ o,walkT w tk=some o∧(rs w.h o).ids≤(w.D.length:Int)
end Go.Hv
namespace Go.Proofs.Ytfgjjnfdcgkpoaa
open Go.Am Go.Proofs Go.Hv
open Classical
attribute [local irreducible] AW CallP CallB CallY
theorem szL_le {m:Nat} :∀ l:List Vl,(∀ v,v∈l→v.sz≤m)→Vl.szL l≤l.length*(m+1)
 | [],_=>by simp[Vl.szL]
 |v::l,h=>by
  have h1:=h v (by simp)
  have h2:=szL_le l fun x hx=>h x (by simp[hx])
  rw[Vl.szL,List.length_cons,Nat.add_mul]
  omega
theorem WS.sml {w:Wd} (hw:WS w) {t:Tsk} (ht:t∈w.ts):SmL w.h (valsT t):=by
 have hz:=valsT_sz (hw.tv t ht)
 have hl:=valsT_len (hw.tb t ht)
 refine⟨hw.h.l,hw.h.a,hw.h.m,hz,?_⟩
 have h1:=szL_le _ hz
 have:(valsT t).length*(2 ^ 20+1)≤64*(2 ^ 20+1):=Nat.mul_le_mul_right _ hl
 omega
def IWk (w:Wd) (t:Tsk) (m s d B nx:Nat) (fx:List (Nat×AV)) (D:Nat→Bool) (σ:St):Prop:=
 σ.nx=nx∧(∀ p,p∈fx→σ.fr p.1=some p.2)∧σ.hp 0=some (.cells [.sl (dl w.D),.sl w.R,.i w.mn,.sl (cl w.h.cells),.sl (bl w.h.arenas),.sl (tsl w.ts),.sl (chl w.cn),.sl (oul w.ou),.i w.md,.i w.dp,.i w.cd])∧
 (D 0=true→σ.fr s=some (.ptr 0 3))∧(D 1=true→σ.fr (s+1)=some (.agg [.sl (cl w.h.cells),.sl (bl w.h.arenas)]))∧(D 2=true→σ.fr (s+2)=some (.ptr 0 5))∧(D 3=true→σ.fr (s+3)=some (.sl (tsl w.ts)))∧(D 4=true→σ.fr (s+4)=some (.i m))∧
 (D 5=true→σ.fr (s+5)=some ((AV.agg [.i t.st,.sl (acl t.fs),.sl (lnl t.ls),.i t.al,.i t.ck,.i t.nx,.sl (il t.ce)]).eptr 0))∧(D 6=true→σ.fr (s+6)=some (.agg [.i t.st,.sl (acl t.fs),.sl (lnl t.ls),.i t.al,.i t.ck,.i t.nx,.sl (il t.ce)]))∧(D 7=true→σ.fr (s+7)=some (.sl (Vl.avL (valsT t))))∧(D 8=true→σ.fr (s+8)=some (.ptr B 0))∧(D 9=true→σ.fr d=some (.ptr B 0))∧
 (D 8=true→∃ r,ROk w.h (walkL w.h (valsT t)) r∧σ.hp B=some (.cells [.sl (cl w.h.cells),.sl (bl w.h.arenas),.rw (B+1),.rw (B+2),.i r.cnt,.i r.ids,.bool r.right])∧σ.hp (B+1)=some (.row 1 (bl r.mc))∧σ.hp (B+2)=some (.row 1 (bl r.ma)))
theorem right_c (w:Wd) (tk:Int) (hg:WG w):PCall Try.prog 20 [w.av,.i tk] (.bool (decide (rightW w tk))):=by
 have k1:=few_c w hg
 have k2:=ready_c w tk (by have:=hg.t;omega)
 rw[Wd.av_eq] at*
 by_cases h1:fewW w
 case neg=>
  have hn:¬ rightW w tk:=fun h=>h1 h.1
  rw[decide_eq_false h1] at k1
  refine PCall.intro Try.func20 rfl isf20 (by simp[Try.f20]) (by simp[AV.cloL,AV.clo]) fun E Q hE hN hQ=>K_start ?_
  repeat'(first|apply nx|refine zx ?_|rw[zw]|((first|refine hK _ ?_|refine hKp _ _ ?_);clear hK hKp K Kp;try clear hanc anc)|((with_reducible refine And.intro ?_ ?_);exact zb)|((first|refine zr hE fun K Kp hK hKp=>?_|refine zd false mixed hE fun K Kp hK hKp anc hanc=>?_|(apply zm;exact zu;exact k1;exact zs;exact zl));simp only[go_sem])|(refine zg (fun hg=>?_) (fun hg=>?_)<;>simp only[go_sem,hg])|(refine zc (fun hc=>?_) (fun hc=>?_)<;>try exact zh hc)|(refine K_ret ?_;refine zt hQ ?_))
  simp[AV.snap,hn]
 rw[decide_eq_true h1] at k1
 cases hr:readyT w tk with
 |none=>
  have hn:¬ rightW w tk:=fun⟨_,o,ho,_⟩=>by unfold walkT at ho;rw[hr] at ho;cases ho
  rw[hr] at k2
  simp only[Option.isSome_none] at k2
  refine PCall.intro Try.func20 rfl isf20 (by simp[Try.f20]) (by simp[AV.cloL,AV.clo]) fun E Q hE hN hQ=>K_start ?_
  repeat'(first|apply nx|refine zx ?_|rw[zw]|((first|refine hK _ ?_|refine hKp _ _ ?_);clear hK hKp K Kp;try clear hanc anc)|((with_reducible refine And.intro ?_ ?_);exact zb)|((first|refine zr hE fun K Kp hK hKp=>?_|refine zd false mixed hE fun K Kp hK hKp anc hanc=>?_|(apply zm;exact zu;(first|exact k1|exact k2);exact zs;exact zl));simp only[go_sem])|(refine zg (fun hg=>?_) (fun hg=>?_)<;>simp only[go_sem,hg])|(refine zc (fun hc=>?_) (fun hc=>?_)<;>try exact zh hc)|(refine K_ret ?_;refine zt hQ ?_))
  simp[AV.snap,hn]
 |some t=>
  obtain⟨m,rfl,ht,h0⟩:=ready_some hr
  have hml:m<w.ts.length:=(List.getElem?_eq_some_iff.1 ht).1
  have hmem:=List.mem_of_getElem? ht
  have hw:=hg.ws h1
  have k3:=values_c t (hw.tb t hmem)
  have hsm:=hw.sml hmem
  have hwk:walkT w m=walkL w.h (valsT t):=by unfold walkT;rw[hr];rfl
  rw[hr] at k2
  rw[Tsk.av_eq] at k3
  simp only[Option.isSome_some] at k2
  refine PCall.intro Try.func20 rfl isf20 (by simp[Try.f20]) (by simp[AV.cloL,AV.clo]) fun E Q hE hN hQ=>K_start ?_
  repeat'(first|apply nx|refine zx ?_|rw[zw]|((first|refine hK _ ?_|refine hKp _ _ ?_);clear hK hKp K Kp;try clear hanc anc)|((with_reducible refine And.intro ?_ ?_);exact zb)|((fail_if_success refine K_stop 3 ?_);(first|refine zr hE fun K Kp hK hKp=>?_|refine zd true mixed hE fun K Kp hK hKp anc hanc=>?_|refine zd false mixed hE fun K Kp hK hKp anc hanc=>?_|(apply zm;exact zu;(first|exact k1|exact k2);exact zs;exact zl));simp only[go_sem])|(refine zg (fun hg=>?_) (fun hg=>?_)<;>simp only[go_sem,hg])|(refine zc (fun hc=>?_) (fun hc=>?_)<;>try exact zh hc))
  refine K_inv (n:=10) (IWk w t m 15 5 19922944 11534336 [(1,.i (m:Nat)),(2,.ptr 0 0)]) mixed hE ?_ ?_ (fun Kp hKp=>?_) ?_ rfl
  ·intro D D' σ h
   have:=fun j=>(h j).symm
   unfold IWk
   simp only[this]
   exact fun h=>h
  ·simp[IWk,go_sem,Wd.cs]
  ·refine⟨?_,?_,?_,?_,?_,?_,?_,?_,?_,?_,trivial⟩
   all_goals rintro D ⟨fr,hp,nx⟩ hD hr ⟨hn,fx,h0,d0,d1,d2,d3,d4,d5,d6,d7,d8,d9,d10⟩
   all_goals simp[Region.binds] at hn fx h0 d0 d1 d2 d3 d4 d5 d6 d7 d8 d9 d10 hD hr
   all_goals obtain⟨f1,f2⟩:=fx
   all_goals subst hn
   all_goals try clear hQ hQp
   ·simp only[go_sem,f2]
    (simp only[IWk,upd,updo];simp[f1,f2,h0];simp_all)
   ·simp only[go_sem,d0 hr,h0]
    (simp only[IWk,upd,updo];simp[f1,f2,h0];simp_all)
   ·simp only[go_sem,f2]
    (simp only[IWk,upd,updo];simp[f1,f2,h0];simp_all)
   ·simp only[go_sem,d2 hr,h0]
    (simp only[IWk,upd,updo];simp[f1,f2,h0];simp_all)
   ·simp only[go_sem,f1]
    (simp only[IWk,upd,updo];simp[f1,f2,h0];simp_all)
   ·simp only[go_sem,d3 hr.1,d4 hr.2,lt_dec hml,ht,Tsk.av_eq]
    refine⟨by omega,?_⟩
    (simp only[IWk,upd,updo];simp[f1,f2,h0];simp_all)
   ·simp only[go_sem,d5 hr]
    (simp only[IWk,upd,updo];simp[f1,f2,h0];simp_all)
   ·simp only[go_sem,d6 hr]
    refine CallB_mk (by simp only[go_sem,d6 hr]<;>rfl) k3 (by simp[go_sem,CloRow,AV.cells,AV.clo,d6 hr]) (by first|exact .inl rfl|exact .inr rfl|(right;simp[go_sem])) ?_
    simp only[go_sem]
    (simp only[IWk,upd,updo];simp[f1,f2,h0];simp_all)
   ·simp only[go_sem,d1 hr.1,d7 hr.2]
    refine Hold.mk (walked_use hsm 19922944 rfl fun r hpn hR b0 b1 b2 hold=>?_)
    have h0':=hold _ _ h0
    simp only[go_sem,putf]
    have hex:∃ r,ROk w.h (walkL w.h (valsT t)) r∧hpn 19922944=some (.cells [.sl (cl w.h.cells),.sl (bl w.h.arenas),.rw (19922944+1),.rw (19922944+2),.i r.cnt,.i r.ids,.bool r.right])∧hpn (19922944+1)=some (.row 1 (bl r.mc))∧hpn (19922944+2)=some (.row 1 (bl r.ma)):=⟨r,hR,b0,b1,b2⟩
    clear b0 b1 b2 hR d10 hold h0
    (simp only[IWk,upd,updo];simp[f1,f2,h0'];simp_all)
   ·simp only[go_sem,d8 hr.1]
    (simp only[IWk,upd,updo];simp[f1,f2,h0];simp_all)
  ·rintro⟨fr,hp,n1⟩ D hD ⟨hn,fx,h0,d0,d1,d2,d3,d4,d5,d6,d7,d8,d9,d10⟩
   have f2':fr 2=some (.ptr 0 0):=fx (2,.ptr 0 0) (by simp)
   have g5:=d9 (hD 9)
   obtain⟨r,hR,b0,b1,b2⟩:=d10 (hD 8)
   simp only at hn h0 g5 b0 b1 b2
   refine Kq_norm_code ?_
   refine AW.ent (σ':=mkSt [(2,.ptr 0 0),(5,.ptr 1 0)] [(0,.cells [.sl (dl w.D),.sl w.R,.i w.mn,.sl (cl w.h.cells),.sl (bl w.h.arenas),.sl (tsl w.ts),.sl (chl w.cn),.sl (oul w.ou),.i w.md,.i w.dp,.i w.cd]),(1,.cells [.sl (cl w.h.cells),.sl (bl w.h.arenas),.rw 2,.rw 3,.i r.cnt,.i r.ids,.bool r.right]),(2,.row 1 (bl r.mc)),(3,.row 1 (bl r.ma))] 4) (fun i=>if i=0 then 0 else 19922943+i) ?_ ?_
   ·refine ent_mk (by simp[go_sem,f2',g5]) (by simp[go_sem,h0,b0,b1,b2]) (by simp) (by simp[hN])
   clear hn fx h0 d0 d1 d2 d3 d4 d5 d6 d7 d8 d9 d10 f2' g5 b0 b1 b2
   have hw2:=hwk
   cases ho:walkL w.h (valsT t) with
   |none=>
    rw[ho] at hR
    have hrr:r.right=false:=hR
    have hn:¬ rightW w m:=fun⟨_,o,h2,_⟩=>by rw[hwk,ho] at h2;cases h2
    repeat'(first|apply nx|refine zx ?_|rw[zw]|((first|refine hK _ ?_|refine hKp _ _ ?_);clear hK hKp K Kp;try clear hanc anc)|((with_reducible refine And.intro ?_ ?_);exact zb)|((first|refine zr hE fun K Kp hK hKp=>?_|refine zd false mixed hE fun K Kp hK hKp anc hanc=>?_);simp only[go_sem,hrr])|(refine zg (fun hg=>?_) (fun hg=>?_)<;>simp only[go_sem,hrr,hg])|(refine zc (fun hc=>?_) (fun hc=>?_)<;>try exact zh hc)|(refine K_ret ?_;refine zt hQ ?_))
    simp[AV.snap,hn]
   |some o=>
    rw[ho] at hR
    obtain rfl:r=rs w.h o:=hR
    by_cases hid:(rs w.h o).ids≤(w.D.length:Int)
    ·have qi:decide ((rs w.h o).ids≤(w.D.length:Int))=true:=decide_eq_true hid
     have hn:rightW w m:=⟨h1,o,by rw[hwk,ho],hid⟩
     have hrr:(rs w.h o).right=true:=rfl
     repeat'(first|apply nx|refine zx ?_|rw[zw]|((first|refine hK _ ?_|refine hKp _ _ ?_);clear hK hKp K Kp;try clear hanc anc)|((with_reducible refine And.intro ?_ ?_);exact zb)|((first|refine zr hE fun K Kp hK hKp=>?_|refine zd false mixed hE fun K Kp hK hKp anc hanc=>?_);simp only[go_sem,hrr,qi])|(refine zg (fun hg=>?_) (fun hg=>?_)<;>simp only[go_sem,hrr,qi,hg])|(refine zc (fun hc=>?_) (fun hc=>?_)<;>try exact zh hc)|(refine K_ret ?_;refine zt hQ ?_))
     simp[AV.snap,hn]
    ·have qi:decide ((rs w.h o).ids≤(w.D.length:Int))=false:=decide_eq_false hid
     have hn:¬ rightW w m:=fun⟨_,o2,h2,h3⟩=>by rw[hwk,ho] at h2;cases h2;exact hid h3
     have hrr:(rs w.h o).right=true:=rfl
     repeat'(first|apply nx|refine zx ?_|rw[zw]|((first|refine hK _ ?_|refine hKp _ _ ?_);clear hK hKp K Kp;try clear hanc anc)|((with_reducible refine And.intro ?_ ?_);exact zb)|((first|refine zr hE fun K Kp hK hKp=>?_|refine zd false mixed hE fun K Kp hK hKp anc hanc=>?_);simp only[go_sem,hrr,qi])|(refine zg (fun hg=>?_) (fun hg=>?_)<;>simp only[go_sem,hrr,qi,hg])|(refine zc (fun hc=>?_) (fun hc=>?_)<;>try exact zh hc)|(refine K_ret ?_;refine zt hQ ?_))
     simp[AV.snap,hn]
end Go.Proofs.Ytfgjjnfdcgkpoaa

set_option maxHeartbeats 4000000
set_option maxRecDepth 100000
namespace Go.Proofs.Ytfgjjnfdcgkpoaa
open Go.Am Go.Proofs Go.Hv
open Classical
attribute [local irreducible] AW CallP CallB CallY
theorem SnpO.row {F:Nat→Option AObj} {sz:Nat} {l l':List AV} (h:l'=l.map (AV.snap F)) (ho:∀ x,x∈l→x.snapOk F):SnpO F (.row sz l) (.row sz l'):=by
 subst h
 refine⟨rfl,by simp,fun i hi=> .inr ⟨?_,?_⟩⟩
 ·rw[List.getD_eq_getElem?_getD,List.getElem?_eq_getElem hi]
  exact ho _ (List.getElem_mem hi)
 ·simp[List.getD_eq_getElem?_getD,hi]
def ex0 (n:Int):List (Nat×AObj):=[(1,.row 5 [.agg [.str ⟨#[]⟩,.i 0,.i 0,.nilsl,.i 7],.agg [.str ⟨#[]⟩,.i 0,.i 0,.nilsl,.i n],.agg [.str ⟨#[]⟩,.i 0,.i 0,.nilsl,.i 5]]),(2,.row 10 [.agg [.bool true,.i (-1),.i 2,.i 2,.i 0,.i 0,.nilsl,.bool false,.nilsl,.nilsl]]),(3,.row 8 [.agg [.i 3,.i 0,.i 0,.i 0,.nilsl,.bool false,.nilsl,.nilsl]]),(4,.row 1 [.i 1]),(5,.row 8 [.agg [.i 2,.i 0,.i 0,.i 0,.nilsl,.bool false,.nilsl,.nilsl],.agg [.i 2,.i 1,.i 0,.i 0,.nilsl,.bool false,.nilsl,.nilsl]]),(6,.row 1 [.i 3,.i 2]),(8,.row 7 [.agg [.i 0,.i 0,.i 0,.i 0,.i 0,.rw 3,.rw 4],.agg [.i 1,.i 0,.i 0,.i 0,.i 0,.rw 5,.rw 6]]),(9,.row 5 [.agg [.i 0,.i 0,.bool false,.bool false,.bool false]]),(10,.row 7 [.agg [.i 0,.rw 8,.rw 9,.i 0,.i 0,.i 0,.nilsl]]),(0,.cells [.rw 1,.nilsl,.i 0,.rw 2,.nilsl,.rw 10,.nilsl,.nilsl,.i 3,.i 0,.i 0])]
def ex1 (n:Int):List (Nat×AObj):=[(1,.row 5 [.agg [.str ⟨#[]⟩,.i 0,.i 0,.sl [],.i 7],.agg [.str ⟨#[]⟩,.i 0,.i 0,.sl [],.i n],.agg [.str ⟨#[]⟩,.i 0,.i 0,.sl [],.i 5]]),(2,.row 10 [.agg [.bool true,.i (-1),.i 2,.i 2,.i 0,.i 0,.sl [],.bool false,.sl [],.sl []]]),(3,.row 8 [.agg [.i 3,.i 0,.i 0,.i 0,.sl [],.bool false,.sl [],.sl []]]),(4,.row 1 [.i 1]),(5,.row 8 [.agg [.i 2,.i 0,.i 0,.i 0,.sl [],.bool false,.sl [],.sl []],.agg [.i 2,.i 1,.i 0,.i 0,.sl [],.bool false,.sl [],.sl []]]),(6,.row 1 [.i 3,.i 2]),(8,.row 7 [.agg [.i 0,.i 0,.i 0,.i 0,.i 0,.rw 3,.rw 4],.agg [.i 1,.i 0,.i 0,.i 0,.i 0,.rw 5,.rw 6]]),(9,.row 5 [.agg [.i 0,.i 0,.bool false,.bool false,.bool false]]),(10,.row 7 [.agg [.i 0,.rw 8,.rw 9,.i 0,.i 0,.i 0,.sl []]]),(0,.cells [.rw 1,.nilsl,.i 0,.rw 2,.nilsl,.rw 10,.nilsl,.nilsl,.i 3,.i 0,.i 0])]
def ex2 (n:Int):List (Nat×AObj):=[(1,.row 5 [.agg [.str ⟨#[]⟩,.i 0,.i 0,.sl [],.i 7],.agg [.str ⟨#[]⟩,.i 0,.i 0,.sl [],.i n],.agg [.str ⟨#[]⟩,.i 0,.i 0,.sl [],.i 5]]),(2,.row 10 [.agg [.bool true,.i (-1),.i 2,.i 2,.i 0,.i 0,.sl [],.bool false,.sl [],.sl []]]),(8,.row 7 [.agg [.i 0,.i 0,.i 0,.i 0,.i 0,.sl [.agg [.i 3,.i 0,.i 0,.i 0,.sl [],.bool false,.sl [],.sl []]],.sl [.i 1]],.agg [.i 1,.i 0,.i 0,.i 0,.i 0,.sl [.agg [.i 2,.i 0,.i 0,.i 0,.sl [],.bool false,.sl [],.sl []],.agg [.i 2,.i 1,.i 0,.i 0,.sl [],.bool false,.sl [],.sl []]],.sl [.i 3,.i 2]]]),(9,.row 5 [.agg [.i 0,.i 0,.bool false,.bool false,.bool false]]),(10,.row 7 [.agg [.i 0,.rw 8,.rw 9,.i 0,.i 0,.i 0,.sl []]]),(0,.cells [.rw 1,.nilsl,.i 0,.rw 2,.nilsl,.rw 10,.nilsl,.nilsl,.i 3,.i 0,.i 0])]
def ex3 (n:Int):List (Nat×AObj):=[(1,.row 5 [.agg [.str ⟨#[]⟩,.i 0,.i 0,.sl [],.i 7],.agg [.str ⟨#[]⟩,.i 0,.i 0,.sl [],.i n],.agg [.str ⟨#[]⟩,.i 0,.i 0,.sl [],.i 5]]),(2,.row 10 [.agg [.bool true,.i (-1),.i 2,.i 2,.i 0,.i 0,.sl [],.bool false,.sl [],.sl []]]),(10,.row 7 [.agg [.i 0,.sl [.agg [.i 0,.i 0,.i 0,.i 0,.i 0,.sl [.agg [.i 3,.i 0,.i 0,.i 0,.sl [],.bool false,.sl [],.sl []]],.sl [.i 1]],.agg [.i 1,.i 0,.i 0,.i 0,.i 0,.sl [.agg [.i 2,.i 0,.i 0,.i 0,.sl [],.bool false,.sl [],.sl []],.agg [.i 2,.i 1,.i 0,.i 0,.sl [],.bool false,.sl [],.sl []]],.sl [.i 3,.i 2]]],.sl [.agg [.i 0,.i 0,.bool false,.bool false,.bool false]],.i 0,.i 0,.i 0,.sl []]]),(0,.cells [.rw 1,.nilsl,.i 0,.rw 2,.nilsl,.rw 10,.nilsl,.nilsl,.i 3,.i 0,.i 0])]
def exF2:List (Nat×AObj):=[(3,.row 8 [.agg [.i 3,.i 0,.i 0,.i 0,.sl [],.bool false,.sl [],.sl []]]),(4,.row 1 [.i 1]),(5,.row 8 [.agg [.i 2,.i 0,.i 0,.i 0,.sl [],.bool false,.sl [],.sl []],.agg [.i 2,.i 1,.i 0,.i 0,.sl [],.bool false,.sl [],.sl []]]),(6,.row 1 [.i 3,.i 2])]
def exF3:List (Nat×AObj):=[(8,.row 7 [.agg [.i 0,.i 0,.i 0,.i 0,.i 0,.sl [.agg [.i 3,.i 0,.i 0,.i 0,.sl [],.bool false,.sl [],.sl []]],.sl [.i 1]],.agg [.i 1,.i 0,.i 0,.i 0,.i 0,.sl [.agg [.i 2,.i 0,.i 0,.i 0,.sl [],.bool false,.sl [],.sl []],.agg [.i 2,.i 1,.i 0,.i 0,.sl [],.bool false,.sl [],.sl []]],.sl [.i 3,.i 2]]]),(9,.row 5 [.agg [.i 0,.i 0,.bool false,.bool false,.bool false]])]
def vD (k i:Int):Vl:= .mk k i 0 0 [] false [] []
def exW (n:Int):Wd where
 D:=[⟨⟨#[]⟩,0,0,[],7⟩,⟨⟨#[]⟩,0,0,[],n⟩,⟨⟨#[]⟩,0,0,[],5⟩]
 R:=[]
 mn:=0
 h:=⟨[⟨true, -1,vD 2 2⟩],[]⟩
 ts:=[⟨0,[⟨0,0,0,0,0,[vD 3 0],[1]⟩,⟨1,0,0,0,0,[vD 2 0,vD 2 1],[3,2]⟩],[⟨0,0,false,false,false⟩],0,0,0,[]⟩]
 cn:=[]
 ou:=[]
 md:=3
 dp:=0
 cd:=0
theorem ex_wk1 (E:En) (n:Int) (fr:Nat→Option AV) (nx:Nat):Wk E ⟨fr,mkHp (ex0 n),nx⟩ ⟨fr,mkHp (ex1 n),nx⟩:=by
 refine Wk.frz (fun _=>none) (fun id o h=>by cases h) (fun t x h=>⟨x,h,.inl rfl⟩) (fun id o' h=>?_) rfl
 revert h
 refine mkHp_allP (p:=fun id o'=>(none:Option AObj)=none∧∃ o,mkHp (ex0 n) id=some o∧SnpO (fun _=>none) o o') ?_ id o'
 intro q hq
 simp only[ex1,List.mem_cons,List.not_mem_nil,or_false] at hq
 rcases hq with rfl|rfl|rfl|rfl|rfl|rfl|rfl|rfl|rfl|rfl
 all_goals first|exact⟨rfl,_,rfl,SnpO.row rfl (by simp[AV.snapOk,AV.snapOkL])⟩|exact⟨rfl,_,rfl,SnpO.refl _⟩
theorem ex_wk2 (E:En) (n:Int) (fr:Nat→Option AV) (nx:Nat):Wk E ⟨fr,mkHp (ex1 n),nx⟩ ⟨fr,mkHp (ex2 n),nx⟩:=by
 refine Wk.frz (mkHp exF2) (mkHp_allP (by simp[exF2,ex1,mkHp,updo])) (fun t x h=>⟨x,h,.inl rfl⟩) (fun id o' h=>?_) rfl
 revert h
 refine mkHp_allP (p:=fun id o'=>mkHp exF2 id=none∧∃ o,mkHp (ex1 n) id=some o∧SnpO (mkHp exF2) o o') ?_ id o'
 intro q hq
 simp only[ex2,List.mem_cons,List.not_mem_nil,or_false] at hq
 rcases hq with rfl|rfl|rfl|rfl|rfl|rfl
 all_goals first|exact⟨rfl,_,rfl,SnpO.row rfl (by simp[AV.snapOk,AV.snapOkL,exF2,mkHp,updo,CloRow,AV.cells,AV.clo,AV.cloL])⟩|exact⟨rfl,_,rfl,SnpO.refl _⟩
theorem ex_wk3 (E:En) (n:Int) (fr:Nat→Option AV) (nx:Nat):Wk E ⟨fr,mkHp (ex2 n),nx⟩ ⟨fr,mkHp (ex3 n),nx⟩:=by
 refine Wk.frz (mkHp exF3) (mkHp_allP (by simp[exF3,ex2,mkHp,updo])) (fun t x h=>⟨x,h,.inl rfl⟩) (fun id o' h=>?_) rfl
 revert h
 refine mkHp_allP (p:=fun id o'=>mkHp exF3 id=none∧∃ o,mkHp (ex2 n) id=some o∧SnpO (mkHp exF3) o o') ?_ id o'
 intro q hq
 simp only[ex3,List.mem_cons,List.not_mem_nil,or_false] at hq
 rcases hq with rfl|rfl|rfl|rfl
 all_goals first|exact⟨rfl,_,rfl,SnpO.row rfl (by simp[AV.snapOk,AV.snapOkL,exF3,mkHp,updo,CloRow,AV.cells,AV.clo,AV.cloL])⟩|exact⟨rfl,_,rfl,SnpO.refl _⟩
theorem example_c (n:Int):PCall Try.prog 29 [.i n] (exW n).av:=by
 refine PCall.intro Try.func29 rfl isf29 (by simp[Try.f29]) (by simp[AV.cloL,AV.clo]) fun E Q hE hN hQ=>K_start ?_
 repeat'(first|apply nx|refine zx ?_|rw[zw]|((first|refine hK _ ?_|refine hKp _ _ ?_);clear hK hKp K Kp;try clear hanc anc)|((with_reducible refine And.intro ?_ ?_);exact zb)|((first|refine zr hE fun K Kp hK hKp=>?_|refine zd true mixed hE fun K Kp hK hKp anc hanc=>?_|refine zd false mixed hE fun K Kp hK hKp anc hanc=>?_);simp only[go_sem])|(refine zg (fun hg=>?_) (fun hg=>?_)<;>simp only[go_sem,hg])|(refine zc (fun hc=>?_) (fun hc=>?_)<;>try exact zh hc))
 refine AW.ent (σ':=⟨mkFr [(2,.ptr 0 0)],mkHp (ex0 n),11⟩) (fun i=>if i=1 then 5242880 else if i=2 then 12582912 else if i=3 then 17825792 else if i=4 then 18874368 else if i=5 then 25165824 else if i=6 then 26214400 else if i=8 then 32505856 else if i=9 then 34603008 else if i=10 then 36700160 else if i=0 then 0 else i) ?_ ?_
 ·show Ent _ _ _ (mkSt [(2,.ptr 0 0)] [(1,.row 5 [.agg [.str ⟨#[]⟩,.i 0,.i 0,.nilsl,.i 7],.agg [.str ⟨#[]⟩,.i 0,.i 0,.nilsl,.i n],.agg [.str ⟨#[]⟩,.i 0,.i 0,.nilsl,.i 5]]),(2,.row 10 [.agg [.bool true,.i (-1),.i 2,.i 2,.i 0,.i 0,.nilsl,.bool false,.nilsl,.nilsl]]),(3,.row 8 [.agg [.i 3,.i 0,.i 0,.i 0,.nilsl,.bool false,.nilsl,.nilsl]]),(4,.row 1 [.i 1]),(5,.row 8 [.agg [.i 2,.i 0,.i 0,.i 0,.nilsl,.bool false,.nilsl,.nilsl],.agg [.i 2,.i 1,.i 0,.i 0,.nilsl,.bool false,.nilsl,.nilsl]]),(6,.row 1 [.i 3,.i 2]),(8,.row 7 [.agg [.i 0,.i 0,.i 0,.i 0,.i 0,.rw 3,.rw 4],.agg [.i 1,.i 0,.i 0,.i 0,.i 0,.rw 5,.rw 6]]),(9,.row 5 [.agg [.i 0,.i 0,.bool false,.bool false,.bool false]]),(10,.row 7 [.agg [.i 0,.rw 8,.rw 9,.i 0,.i 0,.i 0,.nilsl]]),(0,.cells [.rw 1,.nilsl,.i 0,.rw 2,.nilsl,.rw 10,.nilsl,.nilsl,.i 3,.i 0,.i 0])] 11)
  refine ent_mk (by simp[go_sem]) (by simp[go_sem]) (by simp) (by simp[hN])
 refine AW.wk (ex_wk1 E n _ _) (AW.wk (ex_wk2 E n _ _) (AW.wk (ex_wk3 E n _ _) ?_))
 refine K_ret (hQ _ ⟨.agg [.rw 1,.nilsl,.i 0,.rw 2,.nilsl,.rw 10,.nilsl,.nilsl,.i 3,.i 0,.i 0],?_,?_,?_,?_⟩).1
 ·rfl
 ·simp[AV.snapOk,AV.snapOkL,ex3,mkHp,updo,CloRow,AV.cells,AV.clo,AV.cloL]
 ·rfl
 ·exact Wd.av_clo _

theorem exW_hb (n:Int):HB (exW n).h:=⟨by simp[exW],by simp[exW],fun c hc=>by simp[exW] at hc;subst hc;decide⟩
theorem exW_ws (n:Int):WS (exW n):=by
 refine⟨exW_hb n,by simp[exW],by simp[exW],fun t ht=>?_,fun t ht a ha v hv=>?_,by simp[exW],by simp[exW],by simp[exW],by simp[exW]⟩
 ·simp only[exW,List.mem_cons,List.not_mem_nil,or_false] at ht
  subst ht
  exact⟨by decide,by decide⟩
 ·simp only[exW,List.mem_cons,List.not_mem_nil,or_false] at ht
  subst ht
  simp only[List.mem_cons,List.not_mem_nil,or_false] at ha
  rcases ha with rfl|rfl<;>simp only[List.mem_cons,List.not_mem_nil,or_false] at hv
  ·subst hv;decide
  ·rcases hv with rfl|rfl<;>decide
def exR (n st:Int) (ou:List (Int×Int)) (dp cd:Int):Wd:= { exW n with h:=⟨[Cl.zero],[]⟩,ts:=[⟨st,[],[],0,0,0,[]⟩],ou:=ou,dp:=dp,cd:=cd }
theorem ex_a:endW (exW 8) 0 2 false=exR 8 2 [(0,7),(0,8),(0,5)] 3 0:=by rfl
theorem ex_b:endW (exW (-1)) 0 2 false=exR (-1) 3 [(0,7)] 2 1:=by rfl
theorem ex_c:endW (exW 8) 0 4 true=exR 8 4 [] 0 3:=by rfl
theorem c_ex8:PCall Try.prog 29 [.i 8] (.agg [.sl (dl (exW 8).D),.sl [],.i 0,.sl [.agg [.bool true,.i (-1),.i 2,.i 2,.i 0,.i 0,.sl [],.bool false,.sl [],.sl []]],.sl [],.sl [.agg [.i 0,.sl [.agg [.i 0,.i 0,.i 0,.i 0,.i 0,.sl [.agg [.i 3,.i 0,.i 0,.i 0,.sl [],.bool false,.sl [],.sl []]],.sl [.i 1]],.agg [.i 1,.i 0,.i 0,.i 0,.i 0,.sl [.agg [.i 2,.i 0,.i 0,.i 0,.sl [],.bool false,.sl [],.sl []],.agg [.i 2,.i 1,.i 0,.i 0,.sl [],.bool false,.sl [],.sl []]],.sl [.i 3,.i 2]]],.sl [.agg [.i 0,.i 0,.bool false,.bool false,.bool false]],.i 0,.i 0,.i 0,.sl []]],.sl [],.sl [],.i 3,.i 0,.i 0]):=example_c 8
theorem c_exm:PCall Try.prog 29 [.i (-1)] (.agg [.sl (dl (exW (-1)).D),.sl [],.i 0,.sl [.agg [.bool true,.i (-1),.i 2,.i 2,.i 0,.i 0,.sl [],.bool false,.sl [],.sl []]],.sl [],.sl [.agg [.i 0,.sl [.agg [.i 0,.i 0,.i 0,.i 0,.i 0,.sl [.agg [.i 3,.i 0,.i 0,.i 0,.sl [],.bool false,.sl [],.sl []]],.sl [.i 1]],.agg [.i 1,.i 0,.i 0,.i 0,.i 0,.sl [.agg [.i 2,.i 0,.i 0,.i 0,.sl [],.bool false,.sl [],.sl []],.agg [.i 2,.i 1,.i 0,.i 0,.sl [],.bool false,.sl [],.sl []]],.sl [.i 3,.i 2]]],.sl [.agg [.i 0,.i 0,.bool false,.bool false,.bool false]],.i 0,.i 0,.i 0,.sl []]],.sl [],.sl [],.i 3,.i 0,.i 0]):=example_c (-1)
theorem c_una:PCall Try.prog 12 [.agg [.sl (dl (exW 8).D),.sl [],.i 0,.sl [.agg [.bool true,.i (-1),.i 2,.i 2,.i 0,.i 0,.sl [],.bool false,.sl [],.sl []]],.sl [],.sl [.agg [.i 0,.sl [.agg [.i 0,.i 0,.i 0,.i 0,.i 0,.sl [.agg [.i 3,.i 0,.i 0,.i 0,.sl [],.bool false,.sl [],.sl []]],.sl [.i 1]],.agg [.i 1,.i 0,.i 0,.i 0,.i 0,.sl [.agg [.i 2,.i 0,.i 0,.i 0,.sl [],.bool false,.sl [],.sl []],.agg [.i 2,.i 1,.i 0,.i 0,.sl [],.bool false,.sl [],.sl []]],.sl [.i 3,.i 2]]],.sl [.agg [.i 0,.i 0,.bool false,.bool false,.bool false]],.i 0,.i 0,.i 0,.sl []]],.sl [],.sl [],.i 3,.i 0,.i 0],.i 0] (.agg [.sl (dl (exW 8).D),.sl [],.i 0,.sl [.agg [.bool false,.i 0,.i 0,.i 0,.i 0,.i 0,.sl [],.bool false,.sl [],.sl []]],.sl [],.sl [.agg [.i 2,.sl [],.sl [],.i 0,.i 0,.i 0,.sl []]],.sl [],.sl [.agg [.i 0,.i 7],.agg [.i 0,.i 8],.agg [.i 0,.i 5]],.i 3,.i 3,.i 0]):=by
 have h:=unwind_c (exW 8) 0 (exW_ws 8)
 rw[ex_a] at h
 exact h
theorem c_unb:PCall Try.prog 12 [.agg [.sl (dl (exW (-1)).D),.sl [],.i 0,.sl [.agg [.bool true,.i (-1),.i 2,.i 2,.i 0,.i 0,.sl [],.bool false,.sl [],.sl []]],.sl [],.sl [.agg [.i 0,.sl [.agg [.i 0,.i 0,.i 0,.i 0,.i 0,.sl [.agg [.i 3,.i 0,.i 0,.i 0,.sl [],.bool false,.sl [],.sl []]],.sl [.i 1]],.agg [.i 1,.i 0,.i 0,.i 0,.i 0,.sl [.agg [.i 2,.i 0,.i 0,.i 0,.sl [],.bool false,.sl [],.sl []],.agg [.i 2,.i 1,.i 0,.i 0,.sl [],.bool false,.sl [],.sl []]],.sl [.i 3,.i 2]]],.sl [.agg [.i 0,.i 0,.bool false,.bool false,.bool false]],.i 0,.i 0,.i 0,.sl []]],.sl [],.sl [],.i 3,.i 0,.i 0],.i 0] (.agg [.sl (dl (exW (-1)).D),.sl [],.i 0,.sl [.agg [.bool false,.i 0,.i 0,.i 0,.i 0,.i 0,.sl [],.bool false,.sl [],.sl []]],.sl [],.sl [.agg [.i 3,.sl [],.sl [],.i 0,.i 0,.i 0,.sl []]],.sl [],.sl [.agg [.i 0,.i 7]],.i 3,.i 2,.i 1]):=by
 have h:=unwind_c (exW (-1)) 0 (exW_ws (-1))
 rw[ex_b] at h
 exact h
theorem c_abc:PCall Try.prog 14 [.agg [.sl (dl (exW 8).D),.sl [],.i 0,.sl [.agg [.bool true,.i (-1),.i 2,.i 2,.i 0,.i 0,.sl [],.bool false,.sl [],.sl []]],.sl [],.sl [.agg [.i 0,.sl [.agg [.i 0,.i 0,.i 0,.i 0,.i 0,.sl [.agg [.i 3,.i 0,.i 0,.i 0,.sl [],.bool false,.sl [],.sl []]],.sl [.i 1]],.agg [.i 1,.i 0,.i 0,.i 0,.i 0,.sl [.agg [.i 2,.i 0,.i 0,.i 0,.sl [],.bool false,.sl [],.sl []],.agg [.i 2,.i 1,.i 0,.i 0,.sl [],.bool false,.sl [],.sl []]],.sl [.i 3,.i 2]]],.sl [.agg [.i 0,.i 0,.bool false,.bool false,.bool false]],.i 0,.i 0,.i 0,.sl []]],.sl [],.sl [],.i 3,.i 0,.i 0],.i 0,.i 4] (.agg [.sl (dl (exW 8).D),.sl [],.i 0,.sl [.agg [.bool false,.i 0,.i 0,.i 0,.i 0,.i 0,.sl [],.bool false,.sl [],.sl []]],.sl [],.sl [.agg [.i 4,.sl [],.sl [],.i 0,.i 0,.i 0,.sl []]],.sl [],.sl [],.i 3,.i 0,.i 3]):=by
 have h:=abandon_c (exW 8) 0 4 (exW_ws 8)
 rw[ex_c] at h
 exact h
theorem c_out3:PCall Try.prog 25 [.sl [.agg [.i 0,.i 7],.agg [.i 0,.i 8],.agg [.i 0,.i 5]],.sl [.agg [.i 0,.i 7],.agg [.i 0,.i 8],.agg [.i 0,.i 5]]] (.bool true):=by
 have h:=sameO_c [(0,7),(0,8),(0,5)] [(0,7),(0,8),(0,5)] (by decide)
 rw[decide_eq_true rfl] at h
 exact h
theorem c_out1:PCall Try.prog 25 [.sl [.agg [.i 0,.i 7]],.sl [.agg [.i 0,.i 7]]] (.bool true):=by
 have h:=sameO_c [(0,7)] [(0,7)] (by decide)
 rw[decide_eq_true rfl] at h
 exact h
theorem c_live:PCall Try.prog 30 [.agg [.sl [.agg [.bool false,.i 0,.i 0,.i 0,.i 0,.i 0,.sl [],.bool false,.sl [],.sl []]],.sl []]] (.i 0):=live_call ⟨[Cl.zero],[]⟩ (by decide)
theorem c_ord:PCall Try.prog 17 [.agg [.i 1,.i 0,.i 0,.i 0,.i 0,.sl [.agg [.i 2,.i 0,.i 0,.i 0,.sl [],.bool false,.sl [],.sl []],.agg [.i 2,.i 1,.i 0,.i 0,.sl [],.bool false,.sl [],.sl []]],.sl [.i 3,.i 2]]] (.sl [.i 0,.i 1]):=order_c ⟨1,0,0,0,0,[vD 2 0,vD 2 1],[3,2]⟩ (by decide)
theorem c_ints:PCall Try.prog 16 [.sl [.i 0,.i 1],.sl [.i 0,.i 1]] (.bool true):=by
 have h:=ints_call [0,1] [0,1] (by decide)
 rw[decide_eq_true rfl] at h
 exact h
theorem c_cnt:PCall Try.prog 31 [.agg [.sl [.agg [.bool true,.i (-1),.i 2,.i 2,.i 0,.i 0,.sl [],.bool false,.sl [],.sl []]],.sl []],.agg [.i 3,.i 0,.i 0,.i 0,.sl [],.bool false,.sl [],.sl []]] (.i 1):=count_call (exW 8).h (vD 3 0) ((exW_hb 8).sm (by decide))
theorem head_c:PCall Try.prog 9 [] (.bool true):=by
 have nz:((0:Nat):Int)=0:=rfl
 have wz:IntKind.i64.wrap 0=0:=by rw[wrap64 (by omega) (by omega)]
 have az:(0:Int)+0=0:=rfl
 have n1:(((1:Nat):Int) !=1)=false:=rfl
 refine PCall.intro Try.func9 rfl isf9 (by simp[Try.f9]) (by simp[AV.cloL,AV.clo]) fun E Q hE hN hQ=>K_start ?_
 repeat'(first|apply nx|refine zx ?_|rw[zw]|((first|refine hK _ ?_|refine hKp _ _ ?_);clear hK hKp K Kp;try clear hanc anc)|((with_reducible refine And.intro ?_ ?_);exact zb)|((first|refine zr hE fun K Kp hK hKp=>?_|refine zd false mixed hE fun K Kp hK hKp anc hanc=>?_|(apply zm;exact zu;(first|exact c_ex8|exact c_exm|exact c_una|exact c_unb|exact c_abc|exact c_out3|exact c_out1|exact c_live|exact c_ord|exact c_ints|exact c_cnt);exact zs;exact zl));simp only[go_sem,nz,wz,az,n1])|(refine zg (fun hg=>?_) (fun hg=>?_)<;>simp only[go_sem,nz,wz,az,n1,hg])|(refine zc (fun hc=>?_) (fun hc=>?_)<;>try exact zh hc)|(refine K_ret ?_;refine zt hQ ?_))
 simp[AV.snap]
end Go.Proofs.Ytfgjjnfdcgkpoaa
