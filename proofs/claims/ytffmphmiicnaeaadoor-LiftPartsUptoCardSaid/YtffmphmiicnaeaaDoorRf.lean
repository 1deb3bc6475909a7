/- A part of the proof: an abstract machine for the walks, and what the walked functions compute. -/
import Derived.Test.YtffmphmiicnaeaaDoorRe
import Derived.Test.YtffmphmiicnaeaaDoorRd
import Derived.Test.YtffmphmiicnaeaaDoorRc
set_option linter.unusedVariables false
set_option linter.unusedSimpArgs false
set_option maxHeartbeats 4000000
set_option maxRecDepth 100000
namespace Go.Proofs.YtffmphmiicnaeaaDoor
open Go.Am Go.Proofs Go.Lf
open Classical
attribute [local irreducible] AW CallP CallB
variable {nm:Nm} {ps:List Nm} {bs:List Bd} {E:En} {Q:AEx→Am.St→Prop}
def INe (nm:Nm) (ps:List Nm) (bs:List Bd) (c:Nat) (we wp:Int) (li:Nm) (O R:List Lf.Fd) (FCs FNs ICs VCs:List AV) (D:Nat→Bool) (σ:Go.Am.St):Prop:=
 σ.nx=8∧σ.fr 0=some (.ptr 0 0)∧σ.fr 3=some (.ptr 3 0)∧σ.fr 4=some (.ptr 4 0)∧σ.fr 5=some (.str li)∧σ.fr 6=some (.ptr 5 0)∧σ.fr 11=some (.ptr 6 0)∧(D 15=false→σ.hp 0=some (.cells [.str nm,.sl (nml ps),.sl (bdl bs),.i c,.rw 2,.i we,.i wp]))∧(D 7=false→σ.hp 2=some (.row 10 (fdl O)))∧σ.hp 3=some (.cells FCs)∧σ.hp 4=some (.cells VCs)∧σ.hp 5=some (.cells FNs)∧σ.hp 6=some (.cells ICs)∧σ.hp 7=some (.row 10 (fdl R))∧(D 0=true→σ.fr 173=some (.ptr 0 0))∧(D 1=true→σ.fr 174=some (.ptr 0 0))∧(D 2=true→σ.fr 175=some (.ptr 0 0))∧(D 3=true→σ.fr 176=some (.ptr 0 4))∧(D 4=true→σ.fr 177=some (.rw 2))∧(D 5=true→σ.fr 178=some (.agg FNs))∧(D 6=true→σ.fr 179=some (.rw 6291464))∧(D 7=true→σ.fr 180=some (.rw 7340040))∧(D 8=true→σ.fr 181=some (.ptr 6 0))∧(D 9=true→σ.fr 182=some (.ptr 6 0))∧(D 10=true→σ.fr 183=some (.ptr 6 4))∧(D 11=true→σ.fr 184=some (.rw 7))∧(D 12=true→σ.fr 185=some (.rw 12582920))∧(D 13=true→σ.fr 186=some (.ptr 0 0))∧(D 14=true→σ.fr 187=some (.ptr 0 4))∧(D 6=true→σ.hp 6291464=some (.row 10 [.agg FNs]))∧(D 7=true→D 12=false→σ.hp 7340040=some (.row 10 (fdl O++[.agg FNs])))∧(D 12=true→σ.hp 12582920=some (.row 10 (fdl O++[.agg FNs]++fdl R)))∧(D 15=true→σ.hp 0=some (.cells [.str nm,.sl (nml ps),.sl (bdl bs),.i c,.rw 12582920,.i we,.i wp]))∧(D 15=true→D 4=true)
theorem rloc_e (hE : E.nt = Tryd.f51.ntmps) (hnp : E.np ≤ 1) {fm li : Nm} {p0 PS : List Nm} {b0 BS : List Bd} {c0 a0 AS : List Ad} {r0 : Tx} {bd T : List Lf.St} {of0 : Int} {z w : Ls} (hO : z.out.length ≤ 2 ^ 20) (hw : w.out.length ≤ 2 ^ 20)
    (hA:RC 26 [.ptr 0 0,.sl (stl bd),.nilsl] (objR li PS BS []) 3 1 ⟨0,[],z.err,z.pos⟩ (.sl (stl T)) w)
    (H:∀ σ m nc,resA Tryd.prog Tryd.f51.results.toList σ=some (.agg [.str fm,.str li,.sl (adl c0)])→Ent E.np m σ ⟨fun _=>none,mkHp [(0,.cells [.str nm,.sl (nml ps),.sl (bdl bs),.i z.cnt,.rw 2,.i w.err,.i w.pos]),(2,.row 10 (fdl (z.out++(.mk li PS BS [] AS r0 T of0::w.out))))],nc⟩→Q .ret σ∧Q .norm σ):
    AW Tryd.prog E (sq1 (sq2 (sq2 (sq2 (sq2 rst5))))) (Kq Tryd.prog E [.code (sq2 (sq2 (sq2 (sq2 (sq2 rst5)))))] Q) (mkSt [(0,.ptr 0 0),(3,.ptr 3 0),(4,.ptr 4 0),(5,.str li),(6,.ptr 5 0)] [(0,.cells [.str nm,.sl (nml ps),.sl (bdl bs),.i z.cnt,.rw 2,.i z.err,.i z.pos]),(2,.row 10 (fdl z.out)),(3,.cells [.str fm,.sl (nml p0),.sl (bdl b0),.sl (adl c0),.sl (adl a0),.str r0.n,.sl (Tx.avL r0.a),.i r0.o,.sl (stl bd),.i of0]),(4,.cells [.str ⟨#[]⟩,.str ⟨#[]⟩,.nilsl]),(5,.cells [.str li,.sl (nml PS),.sl (bdl BS),.nilsl,.sl (adl AS),.str r0.n,.sl (Tx.avL r0.a),.i r0.o,.nilsl,.i of0])] 6):=by
  simp only[b51,Tryd.f51,Option.getD,rst5,sq1,sq2]
  refine AW_nilc 5 3 6 (by simp[go_sem];rfl) rfl ?_
  refine AW_frzCell 5 3 6 (xs:=[]) (by simp only[go_sem];rfl) rfl (by simp only[go_sem];rfl) (by decide) (by intro x hx;cases hx) ?_
  refine AW.ent (σ':=mkSt [(0,.ptr 0 0),(3,.ptr 3 0),(4,.ptr 4 0),(5,.str li),(6,.ptr 5 0)] [(0,.cells [.str nm,.sl (nml ps),.sl (bdl bs),.i z.cnt,.rw 2,.i z.err,.i z.pos]),(2,.row 10 (fdl z.out)),(3,.cells [.str fm,.sl (nml p0),.sl (bdl b0),.sl (adl c0),.sl (adl a0),.str r0.n,.sl (Tx.avL r0.a),.i r0.o,.sl (stl bd),.i of0]),(4,.cells [.str ⟨#[]⟩,.str ⟨#[]⟩,.nilsl]),(5,.cells [.str li,.sl (nml PS),.sl (bdl BS),.sl [],.sl (adl AS),.str r0.n,.sl (Tx.avL r0.a),.i r0.o,.nilsl,.i of0])] 6) (fun i=>i) ?_ ?_
  · exact ent_mk (by simp[go_sem]) (by simp[go_sem]) (by simp) (fun id hid=>⟨rfl,by omega⟩)
  repeat'(first|apply nx|refine zx ?_|rw[zw]|((first|refine hK _ ?_|refine hKp _ _ ?_);clear hK hKp K Kp;try clear hanc anc)|((with_reducible refine And.intro ?_ ?_);exact zb)|((fail_if_success refine K_stop 24 ?_);(first|refine zr hE fun K Kp hK hKp=>?_|refine zd true mixed hE fun K Kp hK hKp anc hanc=>?_|refine zd false mixed hE fun K Kp hK hKp anc hanc=>?_);simp only[go_sem])|(refine zg (fun hg=>?_) (fun hg=>?_)<;>simp only[go_sem,hg])|(refine zc (fun hc=>?_) (fun hc=>?_)<;>try exact zh hc))
  refine AW.ent (σ':=mkSt [(0,.ptr 0 0),(3,.ptr 3 0),(4,.ptr 4 0),(5,.str li),(6,.ptr 5 0),(11,.ptr 6 0)] [(0,.cells [.str nm,.sl (nml ps),.sl (bdl bs),.i z.cnt,.rw 2,.i z.err,.i z.pos]),(2,.row 10 (fdl z.out)),(3,.cells [.str fm,.sl (nml p0),.sl (bdl b0),.sl (adl c0),.sl (adl a0),.str r0.n,.sl (Tx.avL r0.a),.i r0.o,.sl (stl bd),.i of0]),(4,.cells [.str ⟨#[]⟩,.str ⟨#[]⟩,.nilsl]),(5,.cells [.str li,.sl (nml PS),.sl (bdl BS),.sl [],.sl (adl AS),.str r0.n,.sl (Tx.avL r0.a),.i r0.o,.nilsl,.i of0]),(6,.cells [.str li,.sl (nml PS),.sl (bdl BS),.i 0,.nilsl,.i z.err,.i z.pos])] 7) (fun i=>if i=6 then 14680070 else i) ?_ ?_
  · exact ent_mk (by simp[go_sem]) (by simp[go_sem]) (by simp) (fun id hid=>⟨by rw[if_neg (by omega)],by omega⟩)
  refine AW_nilc 6 4 10 (by simp[go_sem];rfl) rfl ?_
  repeat'(first|apply nx|refine zx ?_|rw[zw]|((first|refine hK _ ?_|refine hKp _ _ ?_);clear hK hKp K Kp;try clear hanc anc)|((with_reducible refine And.intro ?_ ?_);exact zb)|((first|refine zr hE fun K Kp hK hKp=>?_|refine zd true mixed hE fun K Kp hK hKp anc hanc=>?_|refine zd false mixed hE fun K Kp hK hKp anc hanc=>?_);simp only[go_sem])|(refine zg (fun hg=>?_) (fun hg=>?_)<;>simp only[go_sem,hg])|(refine zc (fun hc=>?_) (fun hc=>?_)<;>try exact zh hc))
  refine Hold.mk (RC.use1 hA 6 7 3145737 (by decide) (by simp[AV.idsL,AV.ids,go_sem]) (by simp[AV.renL,AV.ren,go_sem]) (by rfl) (by simp only[go_sem,updo];rfl) (by simp only[go_sem,updo]) (fun hpn g6 g7 hold=>?_))
  have g0:=hold 0 (.cells [.str nm,.sl (nml ps),.sl (bdl bs),.i z.cnt,.rw 2,.i z.err,.i z.pos]) (by decide) (by decide) (by simp only[go_sem,updo])
  have g2:=hold 2 (.row 10 (fdl z.out)) (by decide) (by decide) (by simp only[go_sem,updo])
  have g3:=hold 3 (.cells [.str fm,.sl (nml p0),.sl (bdl b0),.sl (adl c0),.sl (adl a0),.str r0.n,.sl (Tx.avL r0.a),.i r0.o,.sl (stl bd),.i of0]) (by decide) (by decide) (by simp only[go_sem,updo])
  have g4:=hold 4 (.cells [.str ⟨#[]⟩,.str ⟨#[]⟩,.nilsl]) (by decide) (by decide) (by simp only[go_sem,updo])
  have g5:=hold 5 (.cells [.str li,.sl (nml PS),.sl (bdl BS),.sl [],.sl (adl AS),.str r0.n,.sl (Tx.avL r0.a),.i r0.o,.nilsl,.i of0]) (by decide) (by decide) (by simp only[go_sem,updo])
  clear hold
  simp only[go_sem,putf,g5]
  repeat'(first|apply nx|refine zx ?_|rw[zw]|((first|refine hK _ ?_|refine hKp _ _ ?_);clear hK hKp K Kp;try clear hanc anc)|((with_reducible refine And.intro ?_ ?_);exact zb)|((fail_if_success refine K_stop 27 ?_);(first|refine zr hE fun K Kp hK hKp=>?_|refine zd true mixed hE fun K Kp hK hKp anc hanc=>?_|refine zd false mixed hE fun K Kp hK hKp anc hanc=>?_);simp only[go_sem,g0,g2,g3,g4,g5,g6,g7])|(refine zg (fun hg=>?_) (fun hg=>?_)<;>simp only[go_sem,g0,g2,g3,g4,g5,g6,g7,hg])|(refine zc (fun hc=>?_) (fun hc=>?_)<;>try exact zh hc))
  refine AW.ent (σ':=mkSt [(0,.ptr 0 0),(3,.ptr 3 0),(4,.ptr 4 0),(5,.str li),(6,.ptr 5 0),(11,.ptr 6 0)] [(0,.cells [.str nm,.sl (nml ps),.sl (bdl bs),.i z.cnt,.rw 2,.i w.err,.i w.pos]),(2,.row 10 (fdl z.out)),(3,.cells [.str fm,.sl (nml p0),.sl (bdl b0),.sl (adl c0),.sl (adl a0),.str r0.n,.sl (Tx.avL r0.a),.i r0.o,.sl (stl bd),.i of0]),(4,.cells [.str ⟨#[]⟩,.str ⟨#[]⟩,.nilsl]),(5,.cells [.str li,.sl (nml PS),.sl (bdl BS),.sl [],.sl (adl AS),.str r0.n,.sl (Tx.avL r0.a),.i r0.o,.sl (stl T),.i of0]),(6,.cells [.str li,.sl (nml PS),.sl (bdl BS),.i w.cnt,.rw 7,.i w.err,.i w.pos]),(7,.row 10 (fdl w.out))] 8) (fun i=>if i=7 then 3145737 else i) ?_ ?_
  · exact ent_mk (by simp[go_sem]) (by simp[go_sem,g0,g2,g3,g4,g5,g6,g7]) (by simp) (fun id hid=>⟨by rw[if_neg (by omega)],by omega⟩)
  clear g0 g2 g3 g4 g5 g6 g7
  repeat(first|apply w1|apply w2)
  refine K_inv (n:=16) (INe nm ps bs z.cnt w.err w.pos li z.out w.out [.str fm,.sl (nml p0),.sl (bdl b0),.sl (adl c0),.sl (adl a0),.str r0.n,.sl (Tx.avL r0.a),.i r0.o,.sl (stl bd),.i of0] [.str li,.sl (nml PS),.sl (bdl BS),.sl [],.sl (adl AS),.str r0.n,.sl (Tx.avL r0.a),.i r0.o,.sl (stl T),.i of0] [.str li,.sl (nml PS),.sl (bdl BS),.i w.cnt,.rw 7,.i w.err,.i w.pos] [.str ⟨#[]⟩,.str ⟨#[]⟩,.nilsl]) mixed hE ?_ ?_ (fun Kp hKp=>?_) ?_ rfl
  · intro D D' σ h
    have:=fun j=>(h j).symm
    unfold INe
    simp only[this]
    exact fun h=>h
  · simp[INe,go_sem]
  · refine⟨?_,?_,?_,?_,?_,?_,?_,?_,?_,?_,?_,?_,?_,?_,?_,?_,trivial⟩
    all_goals rintro D' ⟨fr,hp,nx⟩ hD' hr ⟨hn,f0,f3,f4,f5,f6,f11,h0,h2,h3,h4,h5,h6,h7,d0,d1,d2,d3,d4,d5,d6,d7,d8,d9,d10,d11,d12,d13,d14,e6,e7,e12,s15,o15_4⟩
    all_goals simp[Region.binds] at hn f0 f3 f4 f5 f6 f11 h0 h2 h3 h4 h5 h6 h7 d0 d1 d2 d3 d4 d5 d6 d7 d8 d9 d10 d11 d12 d13 d14 e6 e7 e12 s15 o15_4 hD' hr
    all_goals subst hn
    all_goals try clear H
    · skip
      simp only[go_sem,f0]
      (simp only[INe,upd,updo];simp[f0,f3,f4,f5,f6,f11,h3,h4,h5,h6,h7];simp_all)
    · skip
      simp only[go_sem,f0]
      (simp only[INe,upd,updo];simp[f0,f3,f4,f5,f6,f11,h3,h4,h5,h6,h7];simp_all)
    · skip
      have zd1:=d1 (by first|(simp[hr,hD'];done)|(cases hq:D' 1<;>simp_all))
      simp only[go_sem,zd1]
      (simp only[INe,upd,updo];simp[f0,f3,f4,f5,f6,f11,h3,h4,h5,h6,h7];simp_all)
    · skip
      have zd2:=d2 (by first|(simp[hr,hD'];done)|(cases hq:D' 2<;>simp_all))
      simp only[go_sem,zd2]
      (simp only[INe,upd,updo];simp[f0,f3,f4,f5,f6,f11,h3,h4,h5,h6,h7];simp_all)
    · skip
      have zd3:=d3 (by first|(simp[hr,hD'];done)|(cases hq:D' 3<;>simp_all))
      have zh0:=h0 (by first|(simp[hr,hD'];done)|(cases hq:D' 15<;>simp_all))
      simp only[go_sem,zd3,zh0]
      (simp only[INe,upd,updo];simp[f0,f3,f4,f5,f6,f11,h3,h4,h5,h6,h7];simp_all)
    · skip
      simp only[go_sem,f6,h5]
      (simp only[INe,upd,updo];simp[f0,f3,f4,f5,f6,f11,h3,h4,h5,h6,h7];simp_all)
    · skip
      have zd5:=d5 (by first|(simp[hr,hD'];done)|(cases hq:D' 5<;>simp_all))
      simp only[go_sem,zd5]
      (simp only[INe,upd,updo];simp[f0,f3,f4,f5,f6,f11,h3,h4,h5,h6,h7];simp_all)
    · skip
      have zd4:=d4 (by first|(simp[hr,hD'];done)|(cases hq:D' 4<;>simp_all))
      have zd6:=d6 (by first|(simp[hr,hD'];done)|(cases hq:D' 6<;>simp_all))
      have zh2:=h2 (by first|(simp[hr,hD'];done)|(cases hq:D' 7<;>simp_all))
      have ze6:=e6 (by first|(simp[hr,hD'];done)|(cases hq:D' 6<;>simp_all))
      simp only[go_sem,zd4,zd6,zh2,ze6]
      refine⟨by simp only[Fits,fdl_ln,List.length_cons,List.length_nil];omega,?_⟩
      (simp only[INe,upd,updo];simp[f0,f3,f4,f5,f6,f11,h3,h4,h5,h6,h7];simp_all)
    · skip
      simp only[go_sem,f11]
      (simp only[INe,upd,updo];simp[f0,f3,f4,f5,f6,f11,h3,h4,h5,h6,h7];simp_all)
    · skip
      have zd8:=d8 (by first|(simp[hr,hD'];done)|(cases hq:D' 8<;>simp_all))
      simp only[go_sem,zd8]
      (simp only[INe,upd,updo];simp[f0,f3,f4,f5,f6,f11,h3,h4,h5,h6,h7];simp_all)
    · skip
      have zd9:=d9 (by first|(simp[hr,hD'];done)|(cases hq:D' 9<;>simp_all))
      simp only[go_sem,zd9]
      (simp only[INe,upd,updo];simp[f0,f3,f4,f5,f6,f11,h3,h4,h5,h6,h7];simp_all)
    · skip
      have zd10:=d10 (by first|(simp[hr,hD'];done)|(cases hq:D' 10<;>simp_all))
      simp only[go_sem,zd10,h6]
      (simp only[INe,upd,updo];simp[f0,f3,f4,f5,f6,f11,h3,h4,h5,h6,h7];simp_all)
    · skip
      have zd7:=d7 (by first|(simp[hr,hD'];done)|(cases hq:D' 7<;>simp_all))
      have zd11:=d11 (by first|(simp[hr,hD'];done)|(cases hq:D' 11<;>simp_all))
      have ze7:=e7 (by first|(simp[hr,hD'];done)|(cases hq:D' 7<;>simp_all)) (by first|(simp[hr,hD'];done)|(cases hq:D' 12<;>simp_all))
      simp only[go_sem,zd7,zd11,ze7,h7]
      refine⟨by simp only[Fits,List.length_append,fdl_ln,List.length_cons,List.length_nil];omega,?_⟩
      (simp only[INe,upd,updo];simp[f0,f3,f4,f5,f6,f11,h3,h4,h5,h6,h7];simp_all)
    · skip
      have zd0:=d0 (by first|(simp[hr,hD'];done)|(cases hq:D' 0<;>simp_all))
      simp only[go_sem,zd0]
      (simp only[INe,upd,updo];simp[f0,f3,f4,f5,f6,f11,h3,h4,h5,h6,h7];simp_all)
    · skip
      have zd13:=d13 (by first|(simp[hr,hD'];done)|(cases hq:D' 13<;>simp_all))
      simp only[go_sem,zd13]
      (simp only[INe,upd,updo];simp[f0,f3,f4,f5,f6,f11,h3,h4,h5,h6,h7];simp_all)
    · skip
      have zd14:=d14 (by first|(simp[hr,hD'];done)|(cases hq:D' 14<;>simp_all))
      have zd12:=d12 (by first|(simp[hr,hD'];done)|(cases hq:D' 12<;>simp_all))
      have zh0:=h0 (by first|(simp[hr,hD'];done)|(cases hq:D' 15<;>simp_all))
      simp only[go_sem,zd14,zd12,zh0]
      (simp only[INe,upd,updo];simp[f0,f3,f4,f5,f6,f11,h3,h4,h5,h6,h7];simp_all)
  rintro⟨fr,hp,nx⟩ D' hD' ⟨hn,f0,f3,f4,f5,f6,f11,h0,h2,h3,h4,h5,h6,h7,d0,d1,d2,d3,d4,d5,d6,d7,d8,d9,d10,d11,d12,d13,d14,e6,e7,e12,s15,o15_4⟩
  simp only at hn f0 f3 f4 f5 f6 f11 h0 h2 h3 h4 h5 h6 h7 d0 d1 d2 d3 d4 d5 d6 d7 d8 d9 d10 d11 d12 d13 d14 e6 e7 e12 s15 o15_4
  have zd0:=d0 (hD' 0)
  have zd1:=d1 (hD' 1)
  have zd2:=d2 (hD' 2)
  have zd3:=d3 (hD' 3)
  have zd4:=d4 (hD' 4)
  have zd5:=d5 (hD' 5)
  have zd6:=d6 (hD' 6)
  have zd7:=d7 (hD' 7)
  have zd8:=d8 (hD' 8)
  have zd9:=d9 (hD' 9)
  have zd10:=d10 (hD' 10)
  have zd11:=d11 (hD' 11)
  have zd12:=d12 (hD' 12)
  have zd13:=d13 (hD' 13)
  have zd14:=d14 (hD' 14)
  have ze6:=e6 (hD' 6)
  have ze12:=e12 (hD' 12)
  have zs15:=s15 (hD' 15)
  have en:=fd_one z.out w.out li PS BS AS r0 T of0
  simp only[List.append_assoc,List.cons_append,List.nil_append] at en
  repeat(first|refine Kq_norm_code ?_|refine Kq_norm_blk ?_)
  refine AW.ent (σ':=mkSt [(3,.ptr 3 0),(4,.ptr 4 0),(5,.str li)] [(0,.cells [.str nm,.sl (nml ps),.sl (bdl bs),.i z.cnt,.rw 2,.i w.err,.i w.pos]),(2,.row 10 (fdl (z.out++(.mk li PS BS [] AS r0 T of0::w.out)))),(3,.cells [.str fm,.sl (nml p0),.sl (bdl b0),.sl (adl c0),.sl (adl a0),.str r0.n,.sl (Tx.avL r0.a),.i r0.o,.sl (stl bd),.i of0]),(4,.cells [.str ⟨#[]⟩,.str ⟨#[]⟩,.nilsl])] 5) (fun i=>if i=2 then 12582920 else i) ?_ ?_
  · refine ent_mk (by simp[go_sem,f3,f4,f5]) ?_ (by simp) (fun id hid=>⟨by rw[if_neg (by omega)],by omega⟩)
    simp[go_sem,zs15,ze12,h3,h4,en]
  clear zs15 ze12 ze6 zd0 zd1 zd2 zd3 zd4 zd5 zd6 zd7 zd8 zd9 zd10 zd11 zd12 zd13 zd14 f0 f3 f4 f5 f6 f11 h0 h2 h3 h4 h5 h6 h7 d0 d1 d2 d3 d4 d5 d6 d7 d8 d9 d10 d11 d12 d13 d14 e6 e7 e12 s15 o15_4 hD' hn
  clear fr hp nx D'
  repeat'(first|apply nx|refine zx ?_|rw[zw]|((first|refine hK _ ?_|refine hKp _ _ ?_);clear hK hKp K Kp;try clear hanc anc)|((with_reducible refine And.intro ?_ ?_);exact zb)|((first|refine zr hE fun K Kp hK hKp=>?_|refine zd true mixed hE fun K Kp hK hKp anc hanc=>?_|refine zd false mixed hE fun K Kp hK hKp anc hanc=>?_);simp only[go_sem])|(refine zg (fun hg=>?_) (fun hg=>?_)<;>simp only[go_sem,hg])|(refine zc (fun hc=>?_) (fun hc=>?_)<;>try exact zh hc))
  refine K_ret (H _ (fun i=>i) 3 (resA_cell (id:=4) (off:=0) (by simp only[go_sem]) ti117 (by simp only[go_sem];rfl) rfl) ?_).1
  show Ent _ _ _ (mkSt [] [(0,.cells [.str nm,.sl (nml ps),.sl (bdl bs),.i z.cnt,.rw 2,.i w.err,.i w.pos]),(2,.row 10 (fdl (z.out++(.mk li PS BS [] AS r0 T of0::w.out))))] 3)
  exact ent_mk (by simp) (by simp[go_sem]) (by simp) (fun id hid=>⟨rfl,by omega⟩)
end Go.Proofs.YtffmphmiicnaeaaDoor

set_option maxHeartbeats 4000000
set_option maxRecDepth 100000
namespace Go.Lf
structure OkR (x:Ls) (n:Nat):Prop where
 c:x.cnt+n≤2 ^ 20
 o:x.out.length+n≤2 ^ 20
theorem failO_eq (c:Nat) (o:List Lf.Fd) (e p:Int) (c':Nat) (o':List Lf.Fd) (h:Option (Int×Int)):(⟨c,o,e,p⟩:Ls).failO h=⟨c,o,((⟨c',o',e,p⟩:Ls).failO h).err,((⟨c',o',e,p⟩:Ls).failO h).pos⟩:=by
 cases h with
 |none=>rfl
 |some q=>
  simp only[Ls.failO,Ls.fail]
  split<;>rfl
end Go.Lf
namespace Go.Proofs.YtffmphmiicnaeaaDoor
open Go.Am Go.Proofs Go.Lf
open Classical
attribute [local irreducible] AW CallP CallB
theorem rloc_call (nm : Nm) (ps : List Nm) (bs : List Bd) (fm : Nm) (p0 : List Nm) (b0 : List Bd) (c0 a0 : List Ad) (r0 : Tx) (bd : List Lf.St) (of0 : Int) (hs : (Lf.Fd.mk fm p0 b0 c0 a0 r0 bd of0).sz ≤ 1000) (hw : nm.size + (Lf.Fd.mk fm p0 b0 c0 a0 r0 bd of0).wt ≤ 2 ^ 40) (hps : ps.length ≤ 1000) (hbs : bs.length ≤ 1000)
    (hb:∀ li PS BS,li.size+wtL bd≤2 ^ 40→PS.length≤1000→BS.length≤1000→∀ x,OkR x (stSz bd)→RC 26 [.ptr 0 0,.sl (stl bd),.nilsl] (objR li PS BS []) 3 1 x (.sl (stl (blk dec li PS BS [] bd x).1)) (blk dec li PS BS [] bd x).2) (y:Ls) (hy:OkR y (Lf.Fd.mk fm p0 b0 c0 a0 r0 bd of0).sz):
    RC 51 [.ptr 0 0,(Lf.Fd.mk fm p0 b0 c0 a0 r0 bd of0).av] (objR nm ps bs []) 3 1 y (loc dec nm ps bs (.mk fm p0 b0 c0 a0 r0 bd of0) y).1.av (loc dec nm ps bs (.mk fm p0 b0 c0 a0 r0 bd of0) y).2:=by
  have hsz:=hs
  have hwt:=hw
  rw[Fd.sz] at hsz
  rw[Fd.wt] at hwt
  have hc0:=ad_len c0
  have ha0:=ad_len a0
  have hlc:=st_len_le bd
  have hyc:=hy.c
  have hyo:=hy.o
  rw[Fd.sz] at hyc hyo
  have hdl:=dec_len y.cnt (by omega)
  have hli:(nm++dot++dec y.cnt++dot++fm).size≤nm.size+fm.size+42:=by
    have hd:dot.size=1:=rfl
    simp only[ByteArray.size_append]
    omega
  rw[loc]
  have hz:=failO_eq (y.cnt+1) y.out y.err y.pos y.cnt y.out (chk (c0++a0) of0)
  generalize hzz:(⟨y.cnt+1,y.out,y.err,y.pos⟩:Ls).failO (chk (c0++a0) of0)=z at hz
  change z=⟨y.cnt+1,y.out,(y.failO (chk (c0++a0) of0)).err,(y.failO (chk (c0++a0) of0)).pos⟩ at hz
  generalize (y.failO (chk (c0++a0) of0)).err=ze at*
  generalize (y.failO (chk (c0++a0) of0)).pos=zp at*
  simp only
  generalize hLi:nm++dot++dec y.cnt++dot++fm=li at*
  have hPl:(ps.filter fun p=>inN p (Lf.Fd.mk fm p0 b0 c0 a0 r0 bd of0).nms).length≤1000:=by
    have:=List.length_filter_le (fun p=>inN p (Lf.Fd.mk fm p0 b0 c0 a0 r0 bd of0).nms) ps
    omega
  generalize hPS:(ps.filter fun p=>inN p (Lf.Fd.mk fm p0 b0 c0 a0 r0 bd of0).nms)=PS at*
  have hBl:(bs.filter fun b=>inN b.p PS).length≤1000:=by
    have:=List.length_filter_le (fun b:Bd=>inN b.p PS) bs
    omega
  generalize hBS:(bs.filter fun b=>inN b.p PS)=BS at*
  have hb1:=hb li PS BS (by omega) hPl hBl ⟨0,[],ze,zp⟩ ⟨by simp only;omega,by simp only[List.length_nil];omega⟩
  have hg1:=(blk_grow (dec:=dec) li PS BS bd [] ⟨0,[],ze,zp⟩).2
  simp only[List.length_nil] at hg1
  generalize blk dec li PS BS [] bd ⟨0,[],ze,zp⟩=yy at*
  obtain⟨T,w⟩:=yy
  simp only at hb1 hg1 ⊢
  have hze:z.err=ze:=by rw[hz]
  have hzp:z.pos=zp:=by rw[hz]
  have hzc:z.cnt=y.cnt+1:=by rw[hz]
  have hzo:z.out=y.out:=by rw[hz]
  refine RC.intro (by rfl) Tryd.func51 isf51 rfl (by simp[Tryd.f51]) fun E Q hE hN hQ=>K_start ?_
  show AW Tryd.prog E b51 _ _
  refine rloc_a hE (by omega) hs (by omega) (by omega) (by omega) hzz.symm ?_
  rw[hLi]
  refine rloc_b hE (by omega) hs hps ?_
  rw[hPS]
  refine rloc_c hE (by omega) hPl hbs ?_
  rw[hBS]
  refine rloc_d hE (by omega) (by omega) (by omega) ?_
  refine rloc_e (T:=T) (w:=w) hE (by omega) (by rw[hzo];omega) (by omega) (by rw[hze,hzp];exact hb1) (fun σ m nc h1 h2=>?_)
  refine hQ σ m nc h1 ?_
  rw[hN,hzc,hzo] at h2
  exact h2
end Go.Proofs.YtffmphmiicnaeaaDoor

set_option maxHeartbeats 4000000
set_option maxRecDepth 100000
namespace Go.Proofs.YtffmphmiicnaeaaDoor
open Go.Am Go.Proofs Go.Lf
open Classical
attribute [local irreducible] AW CallP CallB
variable {nm:Nm} {ps:List Nm} {bs:List Bd} {E:En} {Q:AEx→Am.St→Prop}
noncomputable def b26:Code:=Tryd.f26.body.getD .skip
noncomputable def rsb2:Code:=sq2 (sq2 (sq2 b26))
theorem rb_start2 (hE : E.nt = Tryd.f26.ntmps) (hnp : E.np = 2) {l : List Lf.St} {x : Ls} {now : List Vs} (hn : now.length ≤ 2 ^ 20)
    (H:AW Tryd.prog E (sq1 (sq1 rsb2)) (Kq Tryd.prog E [.code (sq2 (sq1 rsb2)),.code (sq2 rsb2)] Q) (mkSt [(0,.ptr 0 0),(1,.sl (stl l)),(7,.rw 4),(8,.rw 3)] [(0,.cells [.str nm,.sl (nml ps),.sl (bdl bs),.i x.cnt,.rw 2,.i x.err,.i x.pos]),(1,.row 3 (vsl now)),(2,.row 10 (fdl x.out)),(3,.row 3 (vsl now)),(4,.row 17 [])] 5)):
    AW Tryd.prog E b26 (Kq Tryd.prog E [] Q) ⟨mkPar 0 [.ptr 0 0,.sl (stl l),.rw 1],objR nm ps bs [(1,.row 3 (vsl now))] x,3⟩:=by
  unfold objR
  simp only[List.cons_append,List.nil_append]
  simp only[b26,Tryd.f26,Option.getD,rsb2,sq1,sq2] at H ⊢
  repeat'(first|apply nx|refine zx ?_|rw[zw]|((first|refine hK _ ?_|refine hKp _ _ ?_);clear hK hKp K Kp;try clear hanc anc)|((with_reducible refine And.intro ?_ ?_);exact zb)|((fail_if_success refine K_stop 3 ?_);(first|refine zr hE fun K Kp hK hKp=>?_|refine zd true mixed hE fun K Kp hK hKp anc hanc=>?_|refine zd false mixed hE fun K Kp hK hKp anc hanc=>?_);simp only[go_sem])|(refine zg (fun hg=>?_) (fun hg=>?_)<;>simp only[go_sem,hg])|(refine zc (fun hc=>?_) (fun hc=>?_)<;>try exact zh hc))
  refine AW.ent (σ':=mkSt [(0,.ptr 0 0),(1,.sl (stl l)),(7,.nilsl),(8,.rw 3)] [(0,.cells [.str nm,.sl (nml ps),.sl (bdl bs),.i x.cnt,.rw 2,.i x.err,.i x.pos]),(1,.row 3 (vsl now)),(2,.row 10 (fdl x.out)),(3,.row 3 (vsl now))] 4) (fun i=>if i=3 then 4194307 else i) ?_ ?_
  · exact ent_mk (by simp[go_sem]) (by simp[go_sem]) (by simp) (fun id hid=>⟨by rw[if_neg (by omega)],by omega⟩)
  refine AW_nil 7 17 (by rw[hE];decide) (by simp[go_sem]) ?_
  refine AW.ent (fun i=>i) ?_ H
  exact ent_mk (by simp[go_sem]) (by simp[go_sem]) (by simp) (fun id hid=>⟨rfl,by omega⟩)
theorem rb_start1 (hE : E.nt = Tryd.f26.ntmps) (hnp : E.np = 1) {l : List Lf.St} {x : Ls}
    (H:AW Tryd.prog E (sq1 (sq1 rsb2)) (Kq Tryd.prog E [.code (sq2 (sq1 rsb2)),.code (sq2 rsb2)] Q) (mkSt [(0,.ptr 0 0),(1,.sl (stl l)),(7,.rw 4),(8,.rw 3)] [(0,.cells [.str nm,.sl (nml ps),.sl (bdl bs),.i x.cnt,.rw 2,.i x.err,.i x.pos]),(1,.row 17 []),(2,.row 10 (fdl x.out)),(3,.row 3 (vsl [])),(4,.row 17 [])] 5)):
    AW Tryd.prog E b26 (Kq Tryd.prog E [] Q) ⟨mkPar 0 [.ptr 0 0,.sl (stl l),.nilsl],objR nm ps bs [] x,3⟩:=by
  unfold objR
  simp only[List.cons_append,List.nil_append]
  simp only[b26,Tryd.f26,Option.getD,rsb2,sq1,sq2] at H ⊢
  repeat'(first|apply nx|refine zx ?_|rw[zw]|((first|refine hK _ ?_|refine hKp _ _ ?_);clear hK hKp K Kp;try clear hanc anc)|((with_reducible refine And.intro ?_ ?_);exact zb)|((fail_if_success refine K_stop 3 ?_);(first|refine zr hE fun K Kp hK hKp=>?_|refine zd true mixed hE fun K Kp hK hKp anc hanc=>?_|refine zd false mixed hE fun K Kp hK hKp anc hanc=>?_);simp only[go_sem])|(refine zg (fun hg=>?_) (fun hg=>?_)<;>simp only[go_sem,hg])|(refine zc (fun hc=>?_) (fun hc=>?_)<;>try exact zh hc))
  refine AW.ent (σ':=mkSt [(0,.ptr 0 0),(1,.sl (stl l)),(6,.nilsl),(7,.nilsl),(8,.rw 3)] [(0,.cells [.str nm,.sl (nml ps),.sl (bdl bs),.i x.cnt,.rw 2,.i x.err,.i x.pos]),(2,.row 10 (fdl x.out)),(3,.row 3 (vsl []))] 4) (fun i=>if i=3 then 4194307 else i) ?_ ?_
  · exact ent_mk (by simp[go_sem]) (by simp[go_sem]) (by simp) (fun id hid=>⟨by rw[if_neg (by omega)],by omega⟩)
  refine AW_nil 7 17 (by rw[hE];decide) (by simp[go_sem]) ?_
  refine AW_nil 6 17 (by rw[hE];decide) (by simp[go_sem]) ?_
  refine AW.ent (fun i=>if i=1 then 5 else i) ?_ H
  exact ent_mk (by simp[go_sem]) (by simp[go_sem]) (by simp) (fun id hid=>⟨by rw[if_neg (by omega)],by omega⟩)
end Go.Proofs.YtffmphmiicnaeaaDoor

set_option maxHeartbeats 4000000
set_option maxRecDepth 100000
namespace Go.Proofs.YtffmphmiicnaeaaDoor
open Go.Am Go.Proofs Go.Lf
open Classical
attribute [local irreducible] AW CallP CallB
noncomputable def rd26:Code:=lpC (blkC (sq2 (sq1 rsb2)))
abbrev mk26 (nm:Nm) (ps:List Nm) (bs:List Bd) (o1:AObj) (l:List Lf.St) (i:Nat) (now:List Vs) (S:List Lf.St) (y:Ls):Am.St:=
 mkSt [(0,.ptr 0 0),(1,.sl (stl l)),(7,.rw 4),(8,.rw 3),(9,.i (i:Nat))] [(0,.cells [.str nm,.sl (nml ps),.sl (bdl bs),.i y.cnt,.rw 2,.i y.err,.i y.pos]),(1,o1),(2,.row 10 (fdl y.out)),(3,.row 3 (vsl now)),(4,.row 17 (stl S))] 5
variable {nm:Nm} {ps:List Nm} {bs:List Bd} {o1:AObj} {l:List Lf.St} {i:Nat} {now:List Vs} {S:List Lf.St} {y:Ls} {E:En} {Q:AEx→Am.St→Prop} {J:Am.St→Prop} {fs:List Fm}
theorem rr_bad (hE : E.nt = Tryd.f26.ntmps) (hnp : E.np ≤ 2) (ho1 : Lone o1) {k : Int} {n : Nm} {ns : List Nm} {ty : List Tx} {ex : Ex} {th el : List Lf.St} {ar : List Ar} {fn : List Lf.Fd} {off : Int} (hx : l[i]? = some (.mk k n ns ty ex th el ar fn off)) (hlt : i < l.length) (hs : stSz l ≤ 1000)
    (hb:k=13∧¬ (fn.length=1∧th.length+el.length+ar.length=0)∨k≠13∧fn.length≠0) (hJ:∀ σ,(∃ m,Ent E.np m σ (mk26 nm ps bs o1 l (i+1) now S (y.fail 1 off)))→J σ):AW Tryd.prog E rd26 (Kq Tryd.prog E (.lp J::fs) Q) (mk26 nm ps bs o1 l i now S y):=by
  simp only[rd26,rsb2,b26,Tryd.f26,Option.getD,sq1,sq2,blkC,lpC]
  have hm:=st_mem_le (List.mem_of_getElem? hx)
  rw[St.sz] at hm
  have h1:=st_len_le th
  have h2:=st_len_le el
  have h3:=ar_len_le ar
  have h4:=fd_len_le fn
  have hln:=st_len_le l
  have v1:=inc_u hlt (by omega)
  rcases hb with ⟨hk,hb⟩|⟨hk,hb⟩
  · subst hk
    by_cases hf:fn.length=1
    · have q1:((fn.length:Int) !=1)=false:=by simp[hf]
      have u1:IntKind.i64.wrap ((th.length:Int)+(el.length:Int))=(th.length:Int)+(el.length:Int):=by rw[wrap64 (by omega) (by omega)]
      have u2:IntKind.i64.wrap ((th.length:Int)+(el.length:Int)+(ar.length:Int))=(th.length:Int)+(el.length:Int)+(ar.length:Int):=by rw[wrap64 (by omega) (by omega)]
      have q2:decide ((th.length:Int)+(el.length:Int)+(ar.length:Int)>0)=true:=decide_eq_true (by omega)
      repeat'(first|apply nx|refine zx ?_|rw[zw]|((first|refine hK _ ?_|refine hKp _ _ ?_);clear hK hKp K Kp;try clear hanc anc)|((with_reducible refine And.intro ?_ ?_);exact zb)|((first|refine zr hE fun K Kp hK hKp=>?_|refine zd true mixed hE fun K Kp hK hKp anc hanc=>?_|refine zd false mixed hE fun K Kp hK hKp anc hanc=>?_);simp only[go_sem,lt_dec hlt,hx,St.av,q1,q2,u1,u2])|(refine zg (fun hg=>?_) (fun hg=>?_)<;>simp only[go_sem,lt_dec hlt,hx,St.av,q1,q2,u1,u2,hg])|(refine zc (fun hc=>?_) (fun hc=>?_)<;>try exact zh hc))
      refine Hold.mk (RC.use1 (rfail_c y 1 off) 0 2 50331654 (by decide) (by simp[AV.idsL,AV.ids]) (by simp[AV.renL,AV.ren]) (by rfl) (by simp only[go_sem,updo];rfl) (by simp only[go_sem,updo]) (fun hpn g0 g2 hold=>?_))
      have g1:=hold 1 o1 (by decide) (by decide) (by simp only[go_sem,updo])
      have g3:=hold 3 (.row 3 (vsl now)) (by decide) (by decide) (by simp only[go_sem,updo])
      have g4:=hold 4 (.row 17 (stl S)) (by decide) (by decide) (by simp only[go_sem,updo])
      clear hold
      simp only[go_sem,putf]
      repeat'(first|apply nx|refine zx ?_|rw[zw]|((first|refine hK _ ?_|refine hKp _ _ ?_);clear hK hKp K Kp;try clear hanc anc)|((with_reducible refine And.intro ?_ ?_);exact zb)|((first|refine zr hE fun K Kp hK hKp=>?_|refine zd true mixed hE fun K Kp hK hKp anc hanc=>?_|refine zd false mixed hE fun K Kp hK hKp anc hanc=>?_);simp only[go_sem,v1])|(refine zg (fun hg=>?_) (fun hg=>?_)<;>simp only[go_sem,v1,hg])|(refine zc (fun hc=>?_) (fun hc=>?_)<;>try exact zh hc))
      refine hJ _ ⟨fun i=>if i=2 then 50331654 else i,?_⟩
      refine ent_mk (by simp[go_sem]) ?_ (by simp) (fun id hid=>⟨by rw[if_neg (by omega)],by omega⟩)
      simp only[List.forall_mem_cons,ho1.r,ho1.i]
      simp[go_sem,g0,g1,g2,g3,g4]
    · have q1:((fn.length:Int) !=1)=true:=bne_iff_ne.2 (by omega)
      repeat'(first|apply nx|refine zx ?_|rw[zw]|((first|refine hK _ ?_|refine hKp _ _ ?_);clear hK hKp K Kp;try clear hanc anc)|((with_reducible refine And.intro ?_ ?_);exact zb)|((first|refine zr hE fun K Kp hK hKp=>?_|refine zd true mixed hE fun K Kp hK hKp anc hanc=>?_|refine zd false mixed hE fun K Kp hK hKp anc hanc=>?_);simp only[go_sem,lt_dec hlt,hx,St.av,q1])|(refine zg (fun hg=>?_) (fun hg=>?_)<;>simp only[go_sem,lt_dec hlt,hx,St.av,q1,hg])|(refine zc (fun hc=>?_) (fun hc=>?_)<;>try exact zh hc))
      refine Hold.mk (RC.use1 (rfail_c y 1 off) 0 2 50331654 (by decide) (by simp[AV.idsL,AV.ids]) (by simp[AV.renL,AV.ren]) (by rfl) (by simp only[go_sem,updo];rfl) (by simp only[go_sem,updo]) (fun hpn g0 g2 hold=>?_))
      have g1:=hold 1 o1 (by decide) (by decide) (by simp only[go_sem,updo])
      have g3:=hold 3 (.row 3 (vsl now)) (by decide) (by decide) (by simp only[go_sem,updo])
      have g4:=hold 4 (.row 17 (stl S)) (by decide) (by decide) (by simp only[go_sem,updo])
      clear hold
      simp only[go_sem,putf]
      repeat'(first|apply nx|refine zx ?_|rw[zw]|((first|refine hK _ ?_|refine hKp _ _ ?_);clear hK hKp K Kp;try clear hanc anc)|((with_reducible refine And.intro ?_ ?_);exact zb)|((first|refine zr hE fun K Kp hK hKp=>?_|refine zd true mixed hE fun K Kp hK hKp anc hanc=>?_|refine zd false mixed hE fun K Kp hK hKp anc hanc=>?_);simp only[go_sem,v1])|(refine zg (fun hg=>?_) (fun hg=>?_)<;>simp only[go_sem,v1,hg])|(refine zc (fun hc=>?_) (fun hc=>?_)<;>try exact zh hc))
      refine hJ _ ⟨fun i=>if i=2 then 50331654 else i,?_⟩
      refine ent_mk (by simp[go_sem]) ?_ (by simp) (fun id hid=>⟨by rw[if_neg (by omega)],by omega⟩)
      simp only[List.forall_mem_cons,ho1.r,ho1.i]
      simp[go_sem,g0,g1,g2,g3,g4]
  · have q1:decide ((fn.length:Int)>0)=true:=decide_eq_true (by omega)
    have q0:(k==13)=false:=by simp[hk]
    · repeat'(first|apply nx|refine zx ?_|rw[zw]|((first|refine hK _ ?_|refine hKp _ _ ?_);clear hK hKp K Kp;try clear hanc anc)|((with_reducible refine And.intro ?_ ?_);exact zb)|((first|refine zr hE fun K Kp hK hKp=>?_|refine zd true mixed hE fun K Kp hK hKp anc hanc=>?_|refine zd false mixed hE fun K Kp hK hKp anc hanc=>?_);simp only[go_sem,lt_dec hlt,hx,St.av,q0,q1])|(refine zg (fun hg=>?_) (fun hg=>?_)<;>simp only[go_sem,lt_dec hlt,hx,St.av,q0,q1,hg])|(refine zc (fun hc=>?_) (fun hc=>?_)<;>try exact zh hc))
      refine Hold.mk (RC.use1 (rfail_c y 1 off) 0 2 50331654 (by decide) (by simp[AV.idsL,AV.ids]) (by simp[AV.renL,AV.ren]) (by rfl) (by simp only[go_sem,updo];rfl) (by simp only[go_sem,updo]) (fun hpn g0 g2 hold=>?_))
      have g1:=hold 1 o1 (by decide) (by decide) (by simp only[go_sem,updo])
      have g3:=hold 3 (.row 3 (vsl now)) (by decide) (by decide) (by simp only[go_sem,updo])
      have g4:=hold 4 (.row 17 (stl S)) (by decide) (by decide) (by simp only[go_sem,updo])
      clear hold
      simp only[go_sem,putf]
      repeat'(first|apply nx|refine zx ?_|rw[zw]|((first|refine hK _ ?_|refine hKp _ _ ?_);clear hK hKp K Kp;try clear hanc anc)|((with_reducible refine And.intro ?_ ?_);exact zb)|((first|refine zr hE fun K Kp hK hKp=>?_|refine zd true mixed hE fun K Kp hK hKp anc hanc=>?_|refine zd false mixed hE fun K Kp hK hKp anc hanc=>?_);simp only[go_sem,v1])|(refine zg (fun hg=>?_) (fun hg=>?_)<;>simp only[go_sem,v1,hg])|(refine zc (fun hc=>?_) (fun hc=>?_)<;>try exact zh hc))
      refine hJ _ ⟨fun i=>if i=2 then 50331654 else i,?_⟩
      refine ent_mk (by simp[go_sem]) ?_ (by simp) (fun id hid=>⟨by rw[if_neg (by omega)],by omega⟩)
      simp only[List.forall_mem_cons,ho1.r,ho1.i]
      simp[go_sem,g0,g1,g2,g3,g4]
end Go.Proofs.YtffmphmiicnaeaaDoor

set_option maxHeartbeats 4000000
set_option maxRecDepth 100000
namespace Go.Proofs.YtffmphmiicnaeaaDoor
open Go.Am Go.Proofs Go.Lf
open Classical
attribute [local irreducible] AW CallP CallB
variable {nm:Nm} {ps:List Nm} {bs:List Bd} {o1:AObj} {l:List Lf.St} {i:Nat} {now:List Vs} {S:List Lf.St} {y:Ls} {E:En} {Q:AEx→Am.St→Prop} {J:Am.St→Prop} {fs:List Fm}
theorem rr_loc (hE : E.nt = Tryd.f26.ntmps) (hnp : E.np ≤ 2) (ho1 : Lone o1) {n : Nm} {ns : List Nm} {ty : List Tx} {ex : Ex} {th el : List Lf.St} {ar : List Ar} {fn : List Lf.Fd} {f : Lf.Fd} {off : Int} (hx : l[i]? = some (.mk 13 n ns ty ex th el ar fn off)) (hfn : fn.length = 1) (hf0 : fn[0]? = some f) (h0 : th.length + el.length + ar.length = 0) (hlt : i < l.length) (hs : stSz l ≤ 1000) (hnow : now.length ≤ 2 ^ 20) {v : Vs} {z : Ls}
    (hF:RC 51 [.ptr 0 0,f.av] (objR nm ps bs []) 3 1 y v.av z) (hJ:∀ σ,(∃ m,Ent E.np m σ (mk26 nm ps bs o1 l (i+1) (now++[v]) S z))→J σ):AW Tryd.prog E rd26 (Kq Tryd.prog E (.lp J::fs) Q) (mk26 nm ps bs o1 l i now S y):=by
  simp only[rd26,rsb2,b26,Tryd.f26,Option.getD,sq1,sq2,blkC,lpC]
  have hln:=st_len_le l
  have v1:=inc_u hlt (by omega)
  cases f with|mk a1 a2 a3 a4 a5 a6 a7 a8=>?_
  rw[Fd.av] at hF
  have ev:=vsl_snoc now v
  unfold Vs.av at hF ev
  have q1:((fn.length:Int) !=1)=false:=by simp[hfn]
  have u1:IntKind.i64.wrap ((th.length:Int)+(el.length:Int))=(th.length:Int)+(el.length:Int):=by rw[wrap64 (by omega) (by omega)]
  have u2:IntKind.i64.wrap ((th.length:Int)+(el.length:Int)+(ar.length:Int))=(th.length:Int)+(el.length:Int)+(ar.length:Int):=by rw[wrap64 (by omega) (by omega)]
  have q2:decide ((th.length:Int)+(el.length:Int)+(ar.length:Int)>0)=false:=decide_eq_false (by omega)
  repeat'(first|apply nx|refine zx ?_|rw[zw]|((first|refine hK _ ?_|refine hKp _ _ ?_);clear hK hKp K Kp;try clear hanc anc)|((with_reducible refine And.intro ?_ ?_);exact zb)|((first|refine zr hE fun K Kp hK hKp=>?_|refine zd true mixed hE fun K Kp hK hKp anc hanc=>?_|refine zd false mixed hE fun K Kp hK hKp anc hanc=>?_);simp only[go_sem,lt_dec hlt,hx,St.av,q1,q2,u1,u2,hf0,Fd.av])|(refine zg (fun hg=>?_) (fun hg=>?_)<;>simp only[go_sem,lt_dec hlt,hx,St.av,q1,q2,u1,u2,hf0,Fd.av,hg])|(refine zc (fun hc=>?_) (fun hc=>?_)<;>try exact zh hc))
  refine Hold.mk (RC.use1 hF 0 2 53477382 (by decide) (by simp[AV.idsL,AV.ids,go_sem]) (by simp[AV.renL,AV.ren,go_sem]) (by rfl) (by simp only[go_sem,updo]) (by simp only[go_sem,updo]) (fun hpn g0 g2 hold=>?_))
  have g1:=hold 1 o1 (by decide) (by decide) (by simp only[go_sem,updo])
  have g3:=hold 3 (.row 3 (vsl now)) (by decide) (by decide) (by simp only[go_sem,updo])
  have g4:=hold 4 (.row 17 (stl S)) (by decide) (by decide) (by simp only[go_sem,updo])
  clear hold
  simp only[go_sem,putf]
  repeat'(first|apply nx|refine zx ?_|rw[zw]|((first|refine hK _ ?_|refine hKp _ _ ?_);clear hK hKp K Kp;try clear hanc anc)|((with_reducible refine And.intro ?_ ?_);exact zb)|((first|refine zr hE fun K Kp hK hKp=>?_|refine zd true mixed hE fun K Kp hK hKp anc hanc=>?_|refine zd false mixed hE fun K Kp hK hKp anc hanc=>?_);simp only[go_sem,v1,g3])|(refine zg (fun hg=>?_) (fun hg=>?_)<;>simp only[go_sem,v1,g3,hg])|(refine zc (fun hc=>?_) (fun hc=>?_)<;>try exact zh hc))
  refine hJ _ ⟨fun i=>if i=2 then 53477382 else if i=3 then 59768837 else i,?_⟩
  refine ent_mk (by simp[go_sem]) ?_ (by simp) (fun id hid=>⟨by rw[if_neg (by omega),if_neg (by omega)],by omega⟩)
  simp only[List.forall_mem_cons,ho1.r,ho1.i]
  simp[go_sem,g0,g1,g2,g3,g4,ev]
end Go.Proofs.YtffmphmiicnaeaaDoor

set_option maxHeartbeats 4000000
set_option maxRecDepth 100000
namespace Go.Proofs.YtffmphmiicnaeaaDoor
open Go.Am Go.Proofs Go.Lf
open Classical
attribute [local irreducible] AW CallP CallB
variable {nm:Nm} {ps:List Nm} {bs:List Bd} {o1:AObj} {l:List Lf.St} {i:Nat} {now:List Vs} {S:List Lf.St} {y:Ls} {E:En} {Q:AEx→Am.St→Prop} {J:Am.St→Prop} {fs:List Fm}
noncomputable def rst16:Code:=sq2 (sq2 (sq2 (sq2 (sq2 (sq2 (sq2 (blkC (sq1 (sq2 rd26)))))))))
theorem rr_mid (hE : E.nt = Tryd.f26.ntmps) (hnp : E.np ≤ 2) (ho1 : Lone o1) {k : Int} {n : Nm} {ns : List Nm} {ty : List Tx} {ex : Ex} {th el T U : List Lf.St} {ar : List Ar} {fn : List Lf.Fd} {off : Int} {y1 y2 : Ls} (hx : l[i]? = some (.mk k n ns ty ex th el ar fn off)) (hlt : i < l.length) (hs : stSz l ≤ 1000) (hk : k ≠ 13) (hfn : fn.length = 0)
    (hA:RC 26 [.ptr 0 0,.sl (stl th),.rw 1] (objR nm ps bs [(1,.row 3 (vsl now))]) 3 2 y (.sl (stl T)) y1)
    (hB:RC 26 [.ptr 0 0,.sl (stl el),.rw 1] (objR nm ps bs [(1,.row 3 (vsl now))]) 3 2 y1 (.sl (stl U)) y2)
    (H:AW Tryd.prog E (sq1 (sq1 rst16)) (Kq Tryd.prog E (.code (sq2 (sq1 rst16)):: .code (sq2 rst16):: .blk 1:: .code (sq2 (sq2 rd26)):: .lp J::fs) Q) (mkSt [(0,.ptr 0 0),(1,.sl (stl l)),(7,.rw 4),(8,.rw 3),(9,.i (i:Nat)),(10,.ptr 5 0)] [(0,.cells [.str nm,.sl (nml ps),.sl (bdl bs),.i y2.cnt,.rw 2,.i y2.err,.i y2.pos]),(1,o1),(2,.row 10 (fdl y2.out)),(3,.row 3 (vsl now)),(4,.row 17 (stl S)),(5,.cells [.i k,.str n,.sl (nml ns),.sl (Tx.avL ty),.i ex.k,.str ex.op,.str ex.nm,.str ex.vr,.sl (nml ex.ns),.i ex.num,.sl (Tx.avL ex.ty),.i ex.off,.sl (stl T),.sl (stl U),.nilsl,.sl (fdl fn),.i off])] 6)):
    AW Tryd.prog E rd26 (Kq Tryd.prog E (.lp J::fs) Q) (mk26 nm ps bs o1 l i now S y):=by
  simp only[rst16,rd26,rsb2,b26,Tryd.f26,Option.getD,sq1,sq2,blkC,lpC] at H ⊢
  have q0:(k==13)=false:=by simp[hk]
  have q1:decide ((fn.length:Int)>0)=false:=decide_eq_false (by omega)
  repeat'(first|apply nx|refine zx ?_|rw[zw]|((first|refine hK _ ?_|refine hKp _ _ ?_);clear hK hKp K Kp;try clear hanc anc)|((with_reducible refine And.intro ?_ ?_);exact zb)|((first|refine zr hE fun K Kp hK hKp=>?_|refine zd true mixed hE fun K Kp hK hKp anc hanc=>?_|refine zd false mixed hE fun K Kp hK hKp anc hanc=>?_);simp only[go_sem,lt_dec hlt,hx,St.av,q0,q1])|(refine zg (fun hg=>?_) (fun hg=>?_)<;>simp only[go_sem,lt_dec hlt,hx,St.av,q0,q1,hg])|(refine zc (fun hc=>?_) (fun hc=>?_)<;>try exact zh hc))
  refine Hold.mk (RC.use2 hA 3 2 55574533 (by decide) (by decide) (by decide) (by simp[AV.idsL,AV.ids,go_sem]) (by simp[AV.renL,AV.ren,go_sem]) (by rfl) (by simp only[go_sem,updo]) (by simp only[go_sem,updo]) (by simp only[go_sem,updo]) (fun hpn g0 g3 g2 hold=>?_))
  have g1:=hold 1 o1 (by decide) (by decide) (by decide) (by simp only[go_sem,updo])
  have g4:=hold 4 (.row 17 (stl S)) (by decide) (by decide) (by decide) (by simp only[go_sem,updo])
  have g5:=hold 8388613 (.cells [.i k,.str n,.sl (nml ns),.sl (Tx.avL ty),.i ex.k,.str ex.op,.str ex.nm,.str ex.vr,.sl (nml ex.ns),.i ex.num,.sl (Tx.avL ex.ty),.i ex.off,.sl (stl th),.sl (stl el),.sl (arl ar),.sl (fdl fn),.i off]) (by decide) (by decide) (by decide) (by simp only[go_sem,updo])
  clear hold
  simp only[go_sem,putf,g5]
  repeat'(first|apply nx|refine zx ?_|rw[zw]|((first|refine hK _ ?_|refine hKp _ _ ?_);clear hK hKp K Kp;try clear hanc anc)|((with_reducible refine And.intro ?_ ?_);exact zb)|((first|refine zr hE fun K Kp hK hKp=>?_|refine zd true mixed hE fun K Kp hK hKp anc hanc=>?_|refine zd false mixed hE fun K Kp hK hKp anc hanc=>?_);simp only[go_sem,lt_dec hlt,hx,St.av,g0,g5])|(refine zg (fun hg=>?_) (fun hg=>?_)<;>simp only[go_sem,lt_dec hlt,hx,St.av,g0,g5,hg])|(refine zc (fun hc=>?_) (fun hc=>?_)<;>try exact zh hc))
  refine Hold.mk (RC.use2 hB 3 55574533 66060293 (by decide) (by decide) (by decide) (by simp[AV.idsL,AV.ids,go_sem]) (by simp[AV.renL,AV.ren,go_sem]) (by rfl) (by simp only[go_sem,updo,g0]) (by simp only[go_sem,updo,g3]) (by simp only[go_sem,updo,g2]) (fun hpn2 k0 k3 k2 hold=>?_))
  have k1:=hold 1 o1 (by decide) (by decide) (by decide) (by simp only[go_sem,updo,g1])
  have k4:=hold 4 (.row 17 (stl S)) (by decide) (by decide) (by decide) (by simp only[go_sem,updo,g4])
  have k5:=hold 8388613 (.cells [.i k,.str n,.sl (nml ns),.sl (Tx.avL ty),.i ex.k,.str ex.op,.str ex.nm,.str ex.vr,.sl (nml ex.ns),.i ex.num,.sl (Tx.avL ex.ty),.i ex.off,.sl (stl T),.sl (stl el),.sl (arl ar),.sl (fdl fn),.i off]) (by decide) (by decide) (by decide) (by simp only[go_sem,updo,g5])
  clear hold g0 g1 g2 g3 g4 g5
  simp only[go_sem,putf,k5]
  repeat'(first|apply nx|refine zx ?_|rw[zw]|((first|refine hK _ ?_|refine hKp _ _ ?_);clear hK hKp K Kp;try clear hanc anc)|((with_reducible refine And.intro ?_ ?_);exact zb)|((fail_if_success refine K_stop 16 ?_);(first|refine zr hE fun K Kp hK hKp=>?_|refine zd true mixed hE fun K Kp hK hKp anc hanc=>?_|refine zd false mixed hE fun K Kp hK hKp anc hanc=>?_);simp only[go_sem,k5])|(refine zg (fun hg=>?_) (fun hg=>?_)<;>simp only[go_sem,k5,hg])|(refine zc (fun hc=>?_) (fun hc=>?_)<;>try exact zh hc))
  refine AW.ent (fun i=>if i=2 then 66060293 else if i=5 then 8388613 else i) ?_ H
  refine ent_mk (by simp[go_sem]) ?_ (by simp) (fun id hid=>⟨by rw[if_neg (by omega),if_neg (by omega)],by omega⟩)
  simp only[List.forall_mem_cons,ho1.r,ho1.i]
  simp[go_sem,k0,k1,k2,k3,k4]
end Go.Proofs.YtffmphmiicnaeaaDoor

set_option maxHeartbeats 4000000
set_option maxRecDepth 100000
namespace Go.Proofs.YtffmphmiicnaeaaDoor
open Go.Am Go.Proofs Go.Lf
open Classical
attribute [local irreducible] AW CallP CallB
variable {nm:Nm} {ps:List Nm} {bs:List Bd} {o1:AObj} {l:List Lf.St} {i:Nat} {now:List Vs} {S:List Lf.St} {y:Ls} {E:En} {Q:AEx→Am.St→Prop} {J:Am.St→Prop} {fs:List Fm}
theorem rr_arms (hE : E.nt = Tryd.f26.ntmps) (hnp : E.np ≤ 2) (ho1 : Lone o1) {k : Int} {n : Nm} {ns : List Nm} {ty : List Tx} {ex : Ex} {th el T U : List Lf.St} {ar : List Ar} {fn : List Lf.Fd} {off : Int} {y2 : Ls} (hx : l[i]? = some (.mk k n ns ty ex th el ar fn off)) (hlt : i < l.length) (hs : stSz l ≤ 1000) (har : ar.length ≤ 1000)
    (hok:OkR y2 (arSz ar))
    (hC:∀ v ns b off,Ar.mk v ns b off∈ar→∀ z,OkR z (stSz b)→RC 26 [.ptr 0 0,.sl (stl b),.rw 1] (objR nm ps bs [(1,.row 3 (vsl now))]) 3 2 z (.sl (stl (blk dec nm ps bs now b z).1)) (blk dec nm ps bs now b z).2)
    (H:AW Tryd.prog E (sq1 (sq2 rst16)) (Kq Tryd.prog E (.code (sq2 (sq2 rst16)):: .blk 1:: .code (sq2 (sq2 rd26)):: .lp J::fs) Q) (mkSt [(0,.ptr 0 0),(1,.sl (stl l)),(7,.rw 4),(8,.rw 3),(9,.i (i:Nat)),(10,.ptr 5 0)] [(0,.cells [.str nm,.sl (nml ps),.sl (bdl bs),.i (arms dec nm ps bs now ar y2).2.cnt,.rw 2,.i (arms dec nm ps bs now ar y2).2.err,.i (arms dec nm ps bs now ar y2).2.pos]),(1,o1),(2,.row 10 (fdl (arms dec nm ps bs now ar y2).2.out)),(3,.row 3 (vsl now)),(4,.row 17 (stl S)),(5,.cells [.i k,.str n,.sl (nml ns),.sl (Tx.avL ty),.i ex.k,.str ex.op,.str ex.nm,.str ex.vr,.sl (nml ex.ns),.i ex.num,.sl (Tx.avL ex.ty),.i ex.off,.sl (stl T),.sl (stl U),.sl (arl (arms dec nm ps bs now ar y2).1),.sl (fdl fn),.i off])] 6)):
    AW Tryd.prog E (sq1 (sq1 rst16)) (Kq Tryd.prog E (.code (sq2 (sq1 rst16)):: .code (sq2 rst16):: .blk 1:: .code (sq2 (sq2 rd26)):: .lp J::fs) Q) (mkSt [(0,.ptr 0 0),(1,.sl (stl l)),(7,.rw 4),(8,.rw 3),(9,.i (i:Nat)),(10,.ptr 5 0)] [(0,.cells [.str nm,.sl (nml ps),.sl (bdl bs),.i y2.cnt,.rw 2,.i y2.err,.i y2.pos]),(1,o1),(2,.row 10 (fdl y2.out)),(3,.row 3 (vsl now)),(4,.row 17 (stl S)),(5,.cells [.i k,.str n,.sl (nml ns),.sl (Tx.avL ty),.i ex.k,.str ex.op,.str ex.nm,.str ex.vr,.sl (nml ex.ns),.i ex.num,.sl (Tx.avL ex.ty),.i ex.off,.sl (stl T),.sl (stl U),.nilsl,.sl (fdl fn),.i off])] 6):=by
  simp only[rst16,rd26,rsb2,b26,Tryd.f26,Option.getD,sq1,sq2,blkC,lpC] at H ⊢
  have hln:=st_len_le l
  refine AW_nilc 5 14 4 (by simp[go_sem];rfl) rfl ?_
  repeat'(first|apply nx|refine zx ?_|rw[zw]|((first|refine hK _ ?_|refine hKp _ _ ?_);clear hK hKp K Kp;try clear hanc anc)|((with_reducible refine And.intro ?_ ?_);exact zb)|((first|refine zr hE fun K Kp hK hKp=>?_|refine zd true mixed hE fun K Kp hK hKp anc hanc=>?_|refine zd false mixed hE fun K Kp hK hKp anc hanc=>?_);simp only[go_sem])|(refine zg (fun hg=>?_) (fun hg=>?_)<;>simp only[go_sem,hg])|(refine zc (fun hc=>?_) (fun hc=>?_)<;>try exact zh hc))
  refine K_loop (X:=Nat×List Ar×Ls) (fun x=>x.1≤ar.length∧x.2.1.length=x.1∧OkR x.2.2 (arSz (ar.drop x.1))∧arms dec nm ps bs now ar y2=(x.2.1++(arms dec nm ps bs now (ar.drop x.1) x.2.2).1,(arms dec nm ps bs now (ar.drop x.1) x.2.2).2)) (fun x=>(mkSt [(0,.ptr 0 0),(1,.sl (stl l)),(7,.rw 4),(8,.rw 3),(9,.i (i:Nat)),(10,.ptr 5 0),(13,.i (x.1:Nat))] [(0,.cells [.str nm,.sl (nml ps),.sl (bdl bs),.i x.2.2.cnt,.rw 2,.i x.2.2.err,.i x.2.2.pos]),(1,o1),(2,.row 10 (fdl x.2.2.out)),(3,.row 3 (vsl now)),(4,.row 17 (stl S)),(5,.cells [.i k,.str n,.sl (nml ns),.sl (Tx.avL ty),.i ex.k,.str ex.op,.str ex.nm,.str ex.vr,.sl (nml ex.ns),.i ex.num,.sl (Tx.avL ex.ty),.i ex.off,.sl (stl T),.sl (stl U),.rw 6,.sl (fdl fn),.i off]),(6,.row 4 (arl x.2.1))] 7)) (fun x=>ar.length - x.1) (0,[],y2) ⟨Nat.zero_le _,rfl,hok,rfl⟩ (fun i=>i) ?_ ?_
  · refine ent_mk (by simp[go_sem]) ?_ (by simp) (fun id hid=>⟨rfl,by omega⟩)
    simp only[List.forall_mem_cons,ho1.r,ho1.i]
    simp[go_sem,arl]
  rintro⟨j,A,z⟩ ⟨hj,hA,hz,hq⟩
  simp only at hj hA hz hq
  by_cases hlj:j<ar.length
  case neg=>
    have hje:j=ar.length:=by omega
    subst hje
    rw[List.drop_length,arms] at hq
    simp only[List.append_nil] at hq
    rw[hq] at H
    repeat'(first|apply nx|refine zx ?_|rw[zw]|((first|refine hK _ ?_|refine hKp _ _ ?_);clear hK hKp K Kp;try clear hanc anc)|((with_reducible refine And.intro ?_ ?_);exact zb)|((fail_if_success refine K_stop 22 ?_);(first|refine zr hE fun K Kp hK hKp=>?_|refine zd true mixed hE fun K Kp hK hKp anc hanc=>?_|refine zd false mixed hE fun K Kp hK hKp anc hanc=>?_);simp only[go_sem,ge_dec,hx,St.av])|(refine zg (fun hg=>?_) (fun hg=>?_)<;>simp only[go_sem,ge_dec,hx,St.av,hg])|(refine zc (fun hc=>?_) (fun hc=>?_)<;>try exact zh hc))
    simp only at H
    refine AW.ent (σ':=(mkSt [(0,.ptr 0 0),(1,.sl (stl l)),(7,.rw 4),(8,.rw 3),(9,.i (i:Nat)),(10,.ptr 5 0)] [(0,.cells [.str nm,.sl (nml ps),.sl (bdl bs),.i z.cnt,.rw 2,.i z.err,.i z.pos]),(1,o1),(2,.row 10 (fdl z.out)),(3,.row 3 (vsl now)),(4,.row 17 (stl S)),(5,.cells [.i k,.str n,.sl (nml ns),.sl (Tx.avL ty),.i ex.k,.str ex.op,.str ex.nm,.str ex.vr,.sl (nml ex.ns),.i ex.num,.sl (Tx.avL ex.ty),.i ex.off,.sl (stl T),.sl (stl U),.rw 6,.sl (fdl fn),.i off]),(6,.row 4 (arl A))] 7)) (fun i=>i) ?_ ?_
    · refine ent_mk (by simp[go_sem]) ?_ (by simp) (fun id hid=>⟨rfl,by omega⟩)
      simp only[List.forall_mem_cons,ho1.r,ho1.i]
      simp[go_sem]
    refine AW_frzCell 5 14 6 (xs:=arl A) (by simp only[go_sem];rfl) rfl (by simp only[go_sem];rfl) (by decide) (arl_clor _) ?_
    refine AW.ent (fun i=>i) ?_ H
    refine ent_mk (by simp[go_sem]) ?_ (by simp) (fun id hid=>⟨rfl,by omega⟩)
    simp only[List.forall_mem_cons,ho1.r,ho1.i]
    simp[go_sem]
  clear H
  obtain⟨⟨v,ns1,bb,of1⟩,ha⟩:=get?_of hlj
  have v1:=inc_u hlj (by omega)
  rw[drop_of ha,arSz,Ar.sz] at hz
  have hzc:=hz.c
  have hzo:=hz.o
  have c:=hC v ns1 bb of1 (List.mem_of_getElem? ha) z ⟨by omega,by omega⟩
  have hg:=blk_grow (dec:=dec) nm ps bs bb now z
  have hg1:=hg.1
  have hg2:=hg.2
  rw[drop_of ha,arms,arm] at hq
  simp only at hq
  generalize blk dec nm ps bs now bb z=yy at*
  obtain⟨B,w⟩:=yy
  simp only at c hg1 hg2 hq
  have ea:=arl_snoc A (.mk v ns1 B of1)
  rw[Ar.av] at ea
  repeat'(first|apply nx|refine zx ?_|rw[zw]|((first|refine hK _ ?_|refine hKp _ _ ?_);clear hK hKp K Kp;try clear hanc anc)|((with_reducible refine And.intro ?_ ?_);exact zb)|((first|refine zr hE fun K Kp hK hKp=>?_|refine zd true mixed hE fun K Kp hK hKp anc hanc=>?_|refine zd false mixed hE fun K Kp hK hKp anc hanc=>?_);simp only[go_sem,lt_dec hlj,hx,St.av,ha,Ar.av])|(refine zg (fun hg=>?_) (fun hg=>?_)<;>simp only[go_sem,lt_dec hlj,hx,St.av,ha,Ar.av,hg])|(refine zc (fun hc=>?_) (fun hc=>?_)<;>try exact zh hc))
  refine Hold.mk (RC.use2 c 3 2 23068679 (by decide) (by decide) (by decide) (by simp[AV.idsL,AV.ids,go_sem]) (by simp[AV.renL,AV.ren,go_sem]) (by rfl) (by simp only[go_sem,updo]) (by simp only[go_sem,updo]) (by simp only[go_sem,updo]) (fun hpn g0 g3 g2 hold=>?_))
  have g1:=hold 1 o1 (by decide) (by decide) (by decide) (by simp only[go_sem,updo])
  have g4:=hold 4 (.row 17 (stl S)) (by decide) (by decide) (by decide) (by simp only[go_sem,updo])
  have g5:=hold 5 (.cells [.i k,.str n,.sl (nml ns),.sl (Tx.avL ty),.i ex.k,.str ex.op,.str ex.nm,.str ex.vr,.sl (nml ex.ns),.i ex.num,.sl (Tx.avL ex.ty),.i ex.off,.sl (stl T),.sl (stl U),.rw 6,.sl (fdl fn),.i off]) (by decide) (by decide) (by decide) (by simp only[go_sem,updo])
  have g6:=hold 6 (.row 4 (arl A)) (by decide) (by decide) (by decide) (by simp only[go_sem,updo])
  have g7:=hold 16777223 (.cells [.str v,.sl (nml ns1),.sl (stl bb),.i of1]) (by decide) (by decide) (by decide) (by simp only[go_sem,updo])
  clear hold
  simp only[go_sem,putf,g7]
  repeat'(first|apply nx|refine zx ?_|rw[zw]|((first|refine hK _ ?_|refine hKp _ _ ?_);clear hK hKp K Kp;try clear hanc anc)|((with_reducible refine And.intro ?_ ?_);exact zb)|((first|refine zr hE fun K Kp hK hKp=>?_|refine zd true mixed hE fun K Kp hK hKp anc hanc=>?_|refine zd false mixed hE fun K Kp hK hKp anc hanc=>?_);simp only[go_sem,g5,g6,g7,v1])|(refine zg (fun hg=>?_) (fun hg=>?_)<;>simp only[go_sem,g5,g6,g7,v1,hg])|(refine zc (fun hc=>?_) (fun hc=>?_)<;>try exact zh hc))
  clear c hC hx ha v1
  refine⟨(j+1,A++[.mk v ns1 B of1],w),⟨by simp only;omega,by simp only[List.length_append,List.length_cons,List.length_nil];omega,⟨by simp only;omega,by simp only;omega⟩,?_⟩,by simp only;omega,fun i=>if i=2 then 23068679 else if i=6 then 30408711 else i,?_⟩
  · rw[hq];simp
  refine ent_mk (by simp[go_sem]) ?_ (by simp) (fun id hid=>⟨by rw[if_neg (by omega),if_neg (by omega)],by omega⟩)
  simp only[List.forall_mem_cons,ho1.r,ho1.i]
  simp[go_sem,g0,g1,g2,g3,g4,g5,g6,ea]
end Go.Proofs.YtffmphmiicnaeaaDoor

set_option maxHeartbeats 4000000
set_option maxRecDepth 100000
namespace Go.Proofs.YtffmphmiicnaeaaDoor
open Go.Am Go.Proofs Go.Lf
open Classical
attribute [local irreducible] AW CallP CallB
variable {nm:Nm} {ps:List Nm} {bs:List Bd} {o1:AObj} {l:List Lf.St} {i:Nat} {now:List Vs} {S:List Lf.St} {y:Ls} {E:En} {Q:AEx→Am.St→Prop} {J:Am.St→Prop} {fs:List Fm}
theorem rr_plain (hE : E.nt = Tryd.f26.ntmps) (hnp : E.np ≤ 2) (ho1 : Lone o1) {k : Int} {n : Nm} {ns : List Nm} {ty : List Tx} {ex : Ex} {T1 T2 : List Lf.St} {A3 : List Ar} {off : Int} (hlt : i < l.length) (hl : l.length ≤ 1000) (hS : S.length ≤ 2 ^ 29) (h12 : k ≠ 12) (hc15 : ¬ ((k = 1 ∨ k = 2) ∧ ex.k = 15))
    (H:∀ σ,(∃ m,Ent E.np m σ (mk26 nm ps bs o1 l (i+1) now (S++[.mk k n ns ty ex T1 T2 A3 [] off]) y))→J σ):
    AW Tryd.prog E (sq1 (sq2 rst16)) (Kq Tryd.prog E (.code (sq2 (sq2 rst16)):: .blk 1:: .code (sq2 (sq2 rd26)):: .lp J::fs) Q) (mkSt [(0,.ptr 0 0),(1,.sl (stl l)),(7,.rw 4),(8,.rw 3),(9,.i (i:Nat)),(10,.ptr 5 0)] [(0,.cells [.str nm,.sl (nml ps),.sl (bdl bs),.i y.cnt,.rw 2,.i y.err,.i y.pos]),(1,o1),(2,.row 10 (fdl y.out)),(3,.row 3 (vsl now)),(4,.row 17 (stl S)),(5,.cells [.i k,.str n,.sl (nml ns),.sl (Tx.avL ty),.i ex.k,.str ex.op,.str ex.nm,.str ex.vr,.sl (nml ex.ns),.i ex.num,.sl (Tx.avL ex.ty),.i ex.off,.sl (stl T1),.sl (stl T2),.sl (arl A3),.sl [],.i off])] 6):=by
  have u0:=inc_u hlt (by omega)
  simp only[rst16,rd26,rsb2,b26,Tryd.f26,Option.getD,sq1,sq2,blkC,lpC]
  have q12:(k==12)=false:=by simp[h12]
  by_cases h1:k=1
  · subst h1
    have q15:(ex.k==15)=false:=beq_eq_false_iff_ne.2 fun h=>hc15 ⟨.inl rfl,h⟩
    repeat'(first|apply nx|refine zx ?_|rw[zw]|((first|refine hK _ ?_|refine hKp _ _ ?_);clear hK hKp K Kp;try clear hanc anc)|((with_reducible refine And.intro ?_ ?_);exact zb)|((first|refine zr hE fun K Kp hK hKp=>?_|refine zd true mixed hE fun K Kp hK hKp anc hanc=>?_|refine zd false mixed hE fun K Kp hK hKp anc hanc=>?_);simp only[go_sem,u0,q15])|(refine zg (fun hg=>?_) (fun hg=>?_)<;>simp only[go_sem,u0,q15,hg])|(refine zc (fun hc=>?_) (fun hc=>?_)<;>try exact zh hc))
    refine H _ ⟨fun i=>if i=4 then 25165830 else i,?_⟩
    refine ent_mk (by simp[go_sem]) ?_ (by simp) (fun id hid=>⟨by rw[if_neg (by omega)],by omega⟩)
    have e:=stl_one 1 n ns ty ex T1 T2 A3 off S
    simp only[List.forall_mem_cons,ho1.r,ho1.i]
    simp[go_sem,e]
  have q1:(k==1)=false:=by simp[h1]
  by_cases h2:k=2
  · subst h2
    have q15:(ex.k==15)=false:=beq_eq_false_iff_ne.2 fun h=>hc15 ⟨.inr rfl,h⟩
    repeat'(first|apply nx|refine zx ?_|rw[zw]|((first|refine hK _ ?_|refine hKp _ _ ?_);clear hK hKp K Kp;try clear hanc anc)|((with_reducible refine And.intro ?_ ?_);exact zb)|((first|refine zr hE fun K Kp hK hKp=>?_|refine zd true mixed hE fun K Kp hK hKp anc hanc=>?_|refine zd false mixed hE fun K Kp hK hKp anc hanc=>?_);simp only[go_sem,u0,q15])|(refine zg (fun hg=>?_) (fun hg=>?_)<;>simp only[go_sem,u0,q15,hg])|(refine zc (fun hc=>?_) (fun hc=>?_)<;>try exact zh hc))
    refine H _ ⟨fun i=>if i=4 then 25165830 else i,?_⟩
    refine ent_mk (by simp[go_sem]) ?_ (by simp) (fun id hid=>⟨by rw[if_neg (by omega)],by omega⟩)
    have e:=stl_one 2 n ns ty ex T1 T2 A3 off S
    simp only[List.forall_mem_cons,ho1.r,ho1.i]
    simp[go_sem,e]
  have q2:(k==2)=false:=by simp[h2]
  repeat'(first|apply nx|refine zx ?_|rw[zw]|((first|refine hK _ ?_|refine hKp _ _ ?_);clear hK hKp K Kp;try clear hanc anc)|((with_reducible refine And.intro ?_ ?_);exact zb)|((first|refine zr hE fun K Kp hK hKp=>?_|refine zd true mixed hE fun K Kp hK hKp anc hanc=>?_|refine zd false mixed hE fun K Kp hK hKp anc hanc=>?_);simp only[go_sem,u0,q12,q1,q2])|(refine zg (fun hg=>?_) (fun hg=>?_)<;>simp only[go_sem,u0,q12,q1,q2,hg])|(refine zc (fun hc=>?_) (fun hc=>?_)<;>try exact zh hc))
  refine H _ ⟨fun i=>if i=4 then 25165830 else i,?_⟩
  refine ent_mk (by simp[go_sem]) ?_ (by simp) (fun id hid=>⟨by rw[if_neg (by omega)],by omega⟩)
  have e:=stl_one k n ns ty ex T1 T2 A3 off S
  simp only[List.forall_mem_cons,ho1.r,ho1.i]
  simp[go_sem,e]
end Go.Proofs.YtffmphmiicnaeaaDoor

set_option maxHeartbeats 4000000
set_option maxRecDepth 100000
namespace Go.Proofs.YtffmphmiicnaeaaDoor
open Go.Am Go.Proofs Go.Lf
open Classical
attribute [local irreducible] AW CallP CallB
def findRV (o:Option Vs):AV:= .tup [match o with|some v=>v.av|none=> .agg [.str ⟨#[]⟩,.str ⟨#[]⟩,.nilsl],.bool o.isSome]
def hpV (l:List Vs):Nat→Option AObj:=mkHp [(0,.row 3 (vsl l))]
theorem hpV_wf (l:List Vs):WF (hpV l) 1:=by
 refine⟨fun id o ho=>?_,fun id hid=>?_,by decide⟩
 ·revert id o
  refine mkHp_allP (p:=fun id o=>id<1∧o.ids (· <1)) (fun q hq=>?_)
  obtain rfl:=List.mem_singleton.1 hq
  exact⟨by show 0<1;decide,by simp[AObj.ids,go_sem]⟩
 ·obtain rfl:id=0:=by omega
  simp[hpV,mkHp,updo]
theorem find_hc (l:List Vs) (n:Nm) (hl:l.length≤2 ^ 40):HC Tryd.prog 52 [.rw 0,.str n] (hpV l) 1 (findRV (find l n)):=by
 have u0:IntKind.i64.wrap ((l.length:Int) - 1)=(l.length:Int) - 1:=by rw[wrap64 (by omega) (by omega)]
 have hw:=hpV_wf l
 have hr:(findRV (find l n)).clo=true:=by unfold findRV;cases find l n<;>rfl
 refine HC.intro hw hr Tryd.func52 rfl isf52 (by simp[Tryd.f52]) fun E Q hE hN hQ=>K_start ?_
 unfold hpV
 repeat'(first|apply nx|refine zx ?_|rw[zw]|((first|refine hK _ ?_|refine hKp _ _ ?_);clear hK hKp K Kp;try clear hanc anc)|((with_reducible refine And.intro ?_ ?_);exact zb)|((first|refine zr hE fun K Kp hK hKp=>?_|refine zd true mixed hE fun K Kp hK hKp anc hanc=>?_|refine zd false mixed hE fun K Kp hK hKp anc hanc=>?_);simp only[go_sem,u0])|(refine zg (fun hg=>?_) (fun hg=>?_)<;>simp only[go_sem,u0,hg])|(refine zc (fun hc=>?_) (fun hc=>?_)<;>try exact zh hc))
 refine K_loop (X:=Nat) (fun i=>i≤l.length∧find l n=find (l.take i) n) (fun i=>mkSt [(0,.rw 0),(1,.str n),(4,.ptr 1 0),(5,.bool false),(6,.i ((i:Int) - 1))] [(0,.row 3 (vsl l)),(1,.cells [.str ⟨#[]⟩,.str ⟨#[]⟩,.nilsl])] 2) (fun i=>i) l.length ⟨Nat.le_refl _,by rw[List.take_length]⟩ (fun i=>if i=1 then 1000000 else i) ?_ ?_
 ·exact ent_mk (by simp[go_sem]) (by simp[go_sem]) (by simp) (fun id hid=>⟨by rw[if_neg (by omega)],by omega⟩)
 rintro i ⟨hi,he⟩
 cases i with
 |zero=>
  have e0:find (l.take 0) n=none:=rfl
  rw[he,e0] at hQ
  have q:decide (((0:Nat):Int) - 1≥0)=false:=by decide
  repeat'(first|apply nx|refine zx ?_|rw[zw]|((first|refine hK _ ?_|refine hKp _ _ ?_);clear hK hKp K Kp;try clear hanc anc)|((with_reducible refine And.intro ?_ ?_);exact zb)|((first|refine zr hE fun K Kp hK hKp=>?_|refine zd true mixed hE fun K Kp hK hKp anc hanc=>?_|refine zd false mixed hE fun K Kp hK hKp anc hanc=>?_);simp only[go_sem,q])|(refine zg (fun hg=>?_) (fun hg=>?_)<;>simp only[go_sem,q,hg])|(refine zc (fun hc=>?_) (fun hc=>?_)<;>try exact zh hc))
  refine K_ret (hQ _ (by simp[resA,rvA,Tryd.f52,go_sem];rfl) (fun id ob h=>?_)).1
  revert id ob
  exact mkHp_allP (by simp[go_sem,hpV])
 |succ i=>
  obtain⟨v,hv⟩:=get?_of (show i<l.length by omega)
  have q:decide ((i:Int)≥0)=true:=decide_eq_true (by omega)
  have q2:((i+1:Nat):Int) - 1=(i:Nat):=by omega
  have u1:IntKind.i64.wrap ((i:Int) - 1)=(i:Int) - 1:=by rw[wrap64 (by omega) (by omega)]
  rw[find_take hv] at he
  rw[q2]
  by_cases hn:v.nm=n
  ·have q3:decide (v.nm=n)=true:=decide_eq_true hn
   rw[if_pos hn] at he
   rw[he] at hQ
   repeat'(first|apply nx|refine zx ?_|rw[zw]|((first|refine hK _ ?_|refine hKp _ _ ?_);clear hK hKp K Kp;try clear hanc anc)|((with_reducible refine And.intro ?_ ?_);exact zb)|((first|refine zr hE fun K Kp hK hKp=>?_|refine zd true mixed hE fun K Kp hK hKp anc hanc=>?_|refine zd false mixed hE fun K Kp hK hKp anc hanc=>?_);simp only[go_sem,q,hv,q3,Vs.av])|(refine zg (fun hg=>?_) (fun hg=>?_)<;>simp only[go_sem,q,hv,q3,Vs.av,hg])|(refine zc (fun hc=>?_) (fun hc=>?_)<;>try exact zh hc))
   refine K_ret (hQ _ (by simp[resA,rvA,Tryd.f52,go_sem];rfl) (fun id ob h=>?_)).1
   revert id ob
   exact mkHp_allP (by simp[go_sem,hpV])
  ·have q3:decide (v.nm=n)=false:=decide_eq_false hn
   rw[if_neg hn] at he
   repeat'(first|apply nx|refine zx ?_|rw[zw]|((first|refine hK _ ?_|refine hKp _ _ ?_);clear hK hKp K Kp;try clear hanc anc)|((with_reducible refine And.intro ?_ ?_);exact zb)|((first|refine zr hE fun K Kp hK hKp=>?_|refine zd true mixed hE fun K Kp hK hKp anc hanc=>?_|refine zd false mixed hE fun K Kp hK hKp anc hanc=>?_);simp only[go_sem,q,hv,q3,u1,Vs.av])|(refine zg (fun hg=>?_) (fun hg=>?_)<;>simp only[go_sem,q,hv,q3,u1,Vs.av,hg])|(refine zc (fun hc=>?_) (fun hc=>?_)<;>try exact zh hc))
   refine⟨i,⟨by omega,he⟩,by omega,fun i=>i,?_⟩
   exact ent_mk (by simp[go_sem]) (by simp[go_sem]) (by simp) (fun id hid=>⟨rfl,by omega⟩)

variable {nm:Nm} {ps:List Nm} {bs:List Bd} {o1:AObj} {l:List Lf.St} {i:Nat} {now:List Vs} {S:List Lf.St} {y:Ls} {E:En} {Q:AEx→Am.St→Prop} {J:Am.St→Prop} {fs:List Fm}
theorem find_use {now : List Vs} {n : Nm} (hl : now.length ≤ 2 ^ 40) {fr : Nat → Option AV} {hp0 : Nat → Option AObj} {n0 k : Nat} {d : Option Nat} {K : Am.St → Prop} {Kp : AV → Am.St → Prop} (h3 : hp0 3 = some (.row 3 (vsl now)))
    (hK:∀ hpn,(∀ id ob,hp0 id=some ob→hpn id=some ob)→K ⟨(St.put ⟨fr,hp0,n0⟩ d (findRV (find now n))).fr,hpn,n0⟩):CallB Tryd.prog 52 [.rw 3,.str n] ⟨fr,hp0,n0⟩ k d K Kp:=
  HC.use (find_hc now n hl) (fun _=>3) (by simp[AV.renL,AV.ren]) (by simp[AV.idsL,AV.ids]) (by
    unfold hpV
    exact mkHp_allP (by simp[AObj.ren,go_sem,h3])) (fun id id' h h' _=>by omega) hK
end Go.Proofs.YtffmphmiicnaeaaDoor

set_option maxHeartbeats 4000000
set_option maxRecDepth 100000
namespace Go.Proofs.YtffmphmiicnaeaaDoor
open Go.Am Go.Proofs Go.Lf
open Classical
attribute [local irreducible] AW CallP CallB
variable {nm:Nm} {ps:List Nm} {bs:List Bd} {o1:AObj} {l:List Lf.St} {i:Nat} {now:List Vs} {S:List Lf.St} {y:Ls} {E:En} {Q:AEx→Am.St→Prop} {J:Am.St→Prop} {fs:List Fm}
theorem rr_none (hE : E.nt = Tryd.f26.ntmps) (hnp : E.np ≤ 2) (ho1 : Lone o1) {n : Nm} {ns : List Nm} {ty : List Tx} {ex : Ex} {T1 T2 : List Lf.St} {A3 : List Ar} {off : Int} (hlt : i < l.length) (hl : l.length ≤ 1000) (hS : S.length ≤ 2 ^ 29) (hnow : now.length ≤ 2 ^ 20) (hf : find now n = none)
    (H:∀ σ,(∃ m,Ent E.np m σ (mk26 nm ps bs o1 l (i+1) now (S++[.mk 12 n ns ty ex T1 T2 A3 [] off]) y))→J σ):
    AW Tryd.prog E (sq1 (sq2 rst16)) (Kq Tryd.prog E (.code (sq2 (sq2 rst16)):: .blk 1:: .code (sq2 (sq2 rd26)):: .lp J::fs) Q) (mkSt [(0,.ptr 0 0),(1,.sl (stl l)),(7,.rw 4),(8,.rw 3),(9,.i (i:Nat)),(10,.ptr 5 0)] [(0,.cells [.str nm,.sl (nml ps),.sl (bdl bs),.i y.cnt,.rw 2,.i y.err,.i y.pos]),(1,o1),(2,.row 10 (fdl y.out)),(3,.row 3 (vsl now)),(4,.row 17 (stl S)),(5,.cells [.i 12,.str n,.sl (nml ns),.sl (Tx.avL ty),.i ex.k,.str ex.op,.str ex.nm,.str ex.vr,.sl (nml ex.ns),.i ex.num,.sl (Tx.avL ex.ty),.i ex.off,.sl (stl T1),.sl (stl T2),.sl (arl A3),.sl [],.i off])] 6):=by
  have u0:=inc_u hlt (by omega)
  simp only[rst16,rd26,rsb2,b26,Tryd.f26,Option.getD,sq1,sq2,blkC,lpC]
  repeat'(first|apply nx|refine zx ?_|rw[zw]|((first|refine hK _ ?_|refine hKp _ _ ?_);clear hK hKp K Kp;try clear hanc anc)|((with_reducible refine And.intro ?_ ?_);exact zb)|((first|refine zr hE fun K Kp hK hKp=>?_|refine zd true mixed hE fun K Kp hK hKp anc hanc=>?_|refine zd false mixed hE fun K Kp hK hKp anc hanc=>?_);simp only[go_sem,u0])|(refine zg (fun hg=>?_) (fun hg=>?_)<;>simp only[go_sem,u0,hg])|(refine zc (fun hc=>?_) (fun hc=>?_)<;>try exact zh hc))
  refine Hold.mk (find_use (now:=now) (by omega) (by simp only[go_sem]) (fun hpn hold=>?_))
  have e0:findRV (find now n)= .tup [.agg [.str ⟨#[]⟩,.str ⟨#[]⟩,.nilsl],.bool false]:=by rw[hf];rfl
  rw[e0]
  have g0:=hold 0 (.cells [.str nm,.sl (nml ps),.sl (bdl bs),.i y.cnt,.rw 2,.i y.err,.i y.pos]) (by simp only[go_sem])
  have g1:=hold 1 o1 (by simp only[go_sem])
  have g2:=hold 2 (.row 10 (fdl y.out)) (by simp only[go_sem])
  have g3:=hold 3 (.row 3 (vsl now)) (by simp only[go_sem])
  have g4:=hold 4 (.row 17 (stl S)) (by simp only[go_sem])
  have g5:=hold 5 (.cells [.i 12,.str n,.sl (nml ns),.sl (Tx.avL ty),.i ex.k,.str ex.op,.str ex.nm,.str ex.vr,.sl (nml ex.ns),.i ex.num,.sl (Tx.avL ex.ty),.i ex.off,.sl (stl T1),.sl (stl T2),.sl (arl A3),.sl [],.i off]) (by simp only[go_sem])
  clear hold
  simp only[go_sem]
  repeat'(first|apply nx|refine zx ?_|rw[zw]|((first|refine hK _ ?_|refine hKp _ _ ?_);clear hK hKp K Kp;try clear hanc anc)|((with_reducible refine And.intro ?_ ?_);exact zb)|((first|refine zr hE fun K Kp hK hKp=>?_|refine zd true mixed hE fun K Kp hK hKp anc hanc=>?_|refine zd false mixed hE fun K Kp hK hKp anc hanc=>?_);simp only[go_sem,u0,g4,g5])|(refine zg (fun hg=>?_) (fun hg=>?_)<;>simp only[go_sem,u0,g4,g5,hg])|(refine zc (fun hc=>?_) (fun hc=>?_)<;>try exact zh hc))
  refine H _ ⟨fun i=>if i=4 then 39845894 else i,?_⟩
  refine ent_mk (by simp[go_sem]) ?_ (by simp) (fun id hid=>⟨by rw[if_neg (by omega)],by omega⟩)
  have e:=stl_one 12 n ns ty ex T1 T2 A3 off S
  simp only[List.forall_mem_cons,ho1.r,ho1.i]
  simp[go_sem,e,g0,g1,g2,g3]
end Go.Proofs.YtffmphmiicnaeaaDoor

set_option maxHeartbeats 4000000
set_option maxRecDepth 100000
namespace Go.Proofs.YtffmphmiicnaeaaDoor
open Nat (reduceAdd reduceMul reduceEqDiff reduceLT reduceLeDiff reduceSub reduceDiv)
open Int (reduceBNe reduceLE reduceEq)
open Go.Am Go.Proofs Go.Lf
open Classical
attribute [local irreducible] AW CallP CallB
theorem borrowedN_c (v:Vs) (off:Int) (hl:v.cs.length≤2 ^ 30) (hn:v.nm.size≤2 ^ 40) (hc:∀ c,c∈v.cs→c.nm.size≤2 ^ 40):ACall Tryd.prog 53 [v.av,.i off] (fun _=>none) 0 0 (fun r hp'=>r= .tup [.sl (stl (v.cs.flatMap (lendS v off))),.rw 0]∧hp'=mkHp [(0,.row 1 (nml (v.cs.map (lendN v))))]) (fun _ _=>False):=by
 obtain⟨vn,li,cs⟩:=v
 simp only at hl hn hc ⊢
 have hbd:∀ k,((cs.take k).flatMap (lendS ⟨vn,li,cs⟩ off)).length≤k:=fun k=>by
  have:=lendS_len ⟨vn,li,cs⟩ off (cs.take k)
  have h2:=List.length_take_le k cs
  omega
 unfold Vs.av
 simp only
 refine ACall.of_bodyR Tryd.func53 isf53 rfl (by simp[Tryd.f53]) fun E Q hE hN hQ hQp=>K_start ?_
 repeat'(first|apply nx|refine zx ?_|rw[zw]|((first|refine hK _ ?_|refine hKp _ _ ?_);clear hK hKp K Kp;try clear hanc anc)|((with_reducible refine And.intro ?_ ?_);exact zb)|((fail_if_success refine K_stop 3 ?_);(first|refine zr hE fun K Kp hK hKp=>?_|refine zd true mixed hE fun K Kp hK hKp anc hanc=>?_|refine zd false mixed hE fun K Kp hK hKp anc hanc=>?_);simp only[go_sem])|(refine zg (fun hg=>?_) (fun hg=>?_)<;>simp only[go_sem,hg])|(refine zc (fun hc=>?_) (fun hc=>?_)<;>try exact zh hc))
 refine AW_nil 6 17 (by rw[hE];decide) (by simp only[go_sem]) ?_
 refine AW_nil 7 1 (by rw[hE];decide) (by simp only[go_sem]) ?_
 repeat'(first|apply nx|refine zx ?_|rw[zw]|((first|refine hK _ ?_|refine hKp _ _ ?_);clear hK hKp K Kp;try clear hanc anc)|((with_reducible refine And.intro ?_ ?_);exact zb)|((first|refine zr hE fun K Kp hK hKp=>?_|refine zd true mixed hE fun K Kp hK hKp anc hanc=>?_|refine zd false mixed hE fun K Kp hK hKp anc hanc=>?_);simp only[go_sem])|(refine zg (fun hg=>?_) (fun hg=>?_)<;>simp only[go_sem,hg])|(refine zc (fun hc=>?_) (fun hc=>?_)<;>try exact zh hc))
 refine K_loop (X:=Nat) (fun i=>i≤cs.length) (fun i=>mkSt [(1,.i off),(2,.ptr 0 0),(6,.rw 1),(7,.rw 2),(8,.i (i:Nat))] [(0,.cells [.str vn,.str li,.sl (adl cs)]),(1,.row 17 (stl ((cs.take i).flatMap (lendS ⟨vn,li,cs⟩ off)))),(2,.row 1 (nml ((cs.take i).map (lendN ⟨vn,li,cs⟩))))] 3) (fun i=>cs.length - i) 0 (Nat.zero_le _) (fun i=>if i=1 then 5242880 else if i=2 then 5242881 else i) ?_ ?_
 ·refine ent_mk (by simp[go_sem]) (by simp[go_sem]) (by simp) (by simp[hN])
 rintro i hi
 by_cases hlt:i<cs.length
 case neg=>
  obtain rfl:i=cs.length:=by omega
  rw[List.take_length]
  repeat'(first|apply nx|refine zx ?_|rw[zw]|((first|refine hK _ ?_|refine hKp _ _ ?_);clear hK hKp K Kp;try clear hanc anc)|((with_reducible refine And.intro ?_ ?_);exact zb)|((fail_if_success refine K_stop 15 ?_);(first|refine zr hE fun K Kp hK hKp=>?_|refine zd true mixed hE fun K Kp hK hKp anc hanc=>?_|refine zd false mixed hE fun K Kp hK hKp anc hanc=>?_);simp only[go_sem,ge_dec])|(refine zg (fun hg=>?_) (fun hg=>?_)<;>simp only[go_sem,ge_dec,hg])|(refine zc (fun hc=>?_) (fun hc=>?_)<;>try exact zh hc))
  refine AW.ent (σ':=mkSt [(6,.rw 1),(7,.rw 0)] [(1,.row 17 (stl (cs.flatMap (lendS ⟨vn,li,cs⟩ off)))),(0,.row 1 (nml (cs.map (lendN ⟨vn,li,cs⟩))))] 2) (fun i=>if i=0 then 2 else i) ?_ ?_
  ·exact ent_mk (by simp[go_sem]) (by simp[go_sem]) (by simp) (by simp[hN])
  refine AW_frz1 6 1 (sz:=17) (xs:=stl (cs.flatMap (lendS ⟨vn,li,cs⟩ off))) (by simp only[go_sem]) (by simp only[go_sem]) (stl_clor _) ?_
  repeat'(first|apply nx|refine zx ?_|rw[zw]|((first|refine hK _ ?_|refine hKp _ _ ?_);clear hK hKp K Kp;try clear hanc anc)|((with_reducible refine And.intro ?_ ?_);exact zb)|((first|refine zr hE fun K Kp hK hKp=>?_|refine zd true mixed hE fun K Kp hK hKp anc hanc=>?_|refine zd false mixed hE fun K Kp hK hKp anc hanc=>?_);simp only[go_sem])|(refine zg (fun hg=>?_) (fun hg=>?_)<;>simp only[go_sem,hg])|(refine zc (fun hc=>?_) (fun hc=>?_)<;>try exact zh hc))
  refine K_ret (hQ _ ⟨.tup [.sl (stl (cs.flatMap (lendS ⟨vn,li,cs⟩ off))),.rw 0],fun i=>i,_,1,(by simp[resA,rvA,Tryd.f53,go_sem]),(by simp[AV.ids,AV.idsL]),?_,rfl,rfl⟩).1
  show Ent _ _ _ (mkSt [] [(0,.row 1 (nml (cs.map (lendN ⟨vn,li,cs⟩))))] 1)
  refine ent_mk (by simp[go_sem]) (by simp[go_sem]) (by simp) (by simp[hN])
 obtain⟨c,hx⟩:=get?_of hlt
 have u1:=inc_u hlt (by omega)
 have hcn:=hc c (List.mem_of_getElem? hx)
 have hb1:=hbd i
 have hl1:=List.length_take_le i cs
 have hs0:(#[46]:Array UInt8).size=1:=rfl
 have ht:(cs.take (i+1))=cs.take i++[c]:=by rw[List.take_add_one,hx];rfl
 by_cases h1:c.cp=1∨c.cp=2
 ·have e1:lendS ⟨vn,li,cs⟩ off c=[.mk 1 (vn++dot++c.nm) [] [] ⟨if c.cp=2 then 8 else 7,⟨#[]⟩,⟨#[]⟩,⟨#[]⟩,[c.nm],0,[],off⟩ [] [] [] [] off]:=by rw[lendS,if_pos h1]
  have e2:lendN ⟨vn,li,cs⟩ c=vn++dot++c.nm:=by rw[lendN,if_pos h1]
  have en:nml ((cs.take i).map (lendN ⟨vn,li,cs⟩))++[.str (vn++⟨#[46]⟩++c.nm)]=nml ((cs.take (i+1)).map (lendN ⟨vn,li,cs⟩)):=by rw[ht,List.map_append,nml_app];simp[nml,e2,dot]
  rcases h1 with h1|h1
  ·repeat'(first|apply nx|refine zx ?_|rw[zw]|((first|refine hK _ ?_|refine hKp _ _ ?_);clear hK hKp K Kp;try clear hanc anc)|((with_reducible refine And.intro ?_ ?_);exact zb)|((fail_if_success refine K_stop 5 ?_);(first|refine zr hE fun K Kp hK hKp=>?_|refine zd true mixed hE fun K Kp hK hKp anc hanc=>?_|refine zd false mixed hE fun K Kp hK hKp anc hanc=>?_);simp only[go_sem,lt_dec hlt,hx,u1,Ad.av,h1])|(refine zg (fun hg=>?_) (fun hg=>?_)<;>simp only[go_sem,lt_dec hlt,hx,u1,Ad.av,h1,hg])|(refine zc (fun hc=>?_) (fun hc=>?_)<;>try exact zh hc))
   refine AW_frzRow 49283075 42991619 (sz:=1) (sz':=17) (xs:=[.str c.nm]) (l':=stl ((cs.take (i+1)).flatMap (lendS ⟨vn,li,cs⟩ off))) (by simp only[updo, ↓reduceIte,Nat.reduceEqDiff];rfl) (by simp only[updo, ↓reduceIte,Nat.reduceEqDiff]) (by decide) (by simp[CloRow,AV.cells,AV.clo]) (fun F hF x hx=>?_) (fun F hF=>?_) ?_
   ·rcases List.mem_append.1 hx with hx|hx
    ·exact stl_snapOk F _ x hx
    ·simp only[List.mem_cons,List.not_mem_nil,or_false] at hx
     subst hx
     simp[AV.snapOk,AV.snapOkL,hF,CloRow,AV.cells,AV.clo]
   ·rw[List.map_append,stl_snap,ht,List.flatMap_append,stl_app]
    simp[e1,stl,St.av,AV.snap,AV.snapL,hF,h1,nml,dot,txl_nil,stl_nil,arl_nil,fdl_nil]
   repeat'(first|apply nx|refine zx ?_|rw[zw]|((first|refine hK _ ?_|refine hKp _ _ ?_);clear hK hKp K Kp;try clear hanc anc)|((with_reducible refine And.intro ?_ ?_);exact zb)|((first|refine zr hE fun K Kp hK hKp=>?_|refine zd true mixed hE fun K Kp hK hKp anc hanc=>?_|refine zd false mixed hE fun K Kp hK hKp anc hanc=>?_);simp only[go_sem,u1])|(refine zg (fun hg=>?_) (fun hg=>?_)<;>simp only[go_sem,u1,hg])|(refine zc (fun hc=>?_) (fun hc=>?_)<;>try exact zh hc))
   refine⟨i+1,hlt,by omega,fun i=>if i=1 then 49283075 else if i=2 then 35651587 else i,?_⟩
   refine ent_mk (by simp[go_sem]) ?_ (by simp) (by simp[hN])
   simp[go_sem,updo,en, -List.map_take, -List.map_append]
  ·repeat'(first|apply nx|refine zx ?_|rw[zw]|((first|refine hK _ ?_|refine hKp _ _ ?_);clear hK hKp K Kp;try clear hanc anc)|((with_reducible refine And.intro ?_ ?_);exact zb)|((fail_if_success refine K_stop 5 ?_);(first|refine zr hE fun K Kp hK hKp=>?_|refine zd true mixed hE fun K Kp hK hKp anc hanc=>?_|refine zd false mixed hE fun K Kp hK hKp anc hanc=>?_);simp only[go_sem,lt_dec hlt,hx,u1,Ad.av,h1])|(refine zg (fun hg=>?_) (fun hg=>?_)<;>simp only[go_sem,lt_dec hlt,hx,u1,Ad.av,h1,hg])|(refine zc (fun hc=>?_) (fun hc=>?_)<;>try exact zh hc))
   refine AW_frzRow 50331651 44040195 (sz:=1) (sz':=17) (xs:=[.str c.nm]) (l':=stl ((cs.take (i+1)).flatMap (lendS ⟨vn,li,cs⟩ off))) (by simp only[updo, ↓reduceIte,Nat.reduceEqDiff];rfl) (by simp only[updo, ↓reduceIte,Nat.reduceEqDiff]) (by decide) (by simp[CloRow,AV.cells,AV.clo]) (fun F hF x hx=>?_) (fun F hF=>?_) ?_
   ·rcases List.mem_append.1 hx with hx|hx
    ·exact stl_snapOk F _ x hx
    ·simp only[List.mem_cons,List.not_mem_nil,or_false] at hx
     subst hx
     simp[AV.snapOk,AV.snapOkL,hF,CloRow,AV.cells,AV.clo]
   ·rw[List.map_append,stl_snap,ht,List.flatMap_append,stl_app]
    simp[e1,stl,St.av,AV.snap,AV.snapL,hF,h1,nml,dot,txl_nil,stl_nil,arl_nil,fdl_nil]
   repeat'(first|apply nx|refine zx ?_|rw[zw]|((first|refine hK _ ?_|refine hKp _ _ ?_);clear hK hKp K Kp;try clear hanc anc)|((with_reducible refine And.intro ?_ ?_);exact zb)|((first|refine zr hE fun K Kp hK hKp=>?_|refine zd true mixed hE fun K Kp hK hKp anc hanc=>?_|refine zd false mixed hE fun K Kp hK hKp anc hanc=>?_);simp only[go_sem,u1])|(refine zg (fun hg=>?_) (fun hg=>?_)<;>simp only[go_sem,u1,hg])|(refine zc (fun hc=>?_) (fun hc=>?_)<;>try exact zh hc))
   refine⟨i+1,hlt,by omega,fun i=>if i=1 then 50331651 else if i=2 then 36700163 else i,?_⟩
   refine ent_mk (by simp[go_sem]) ?_ (by simp) (by simp[hN])
   simp[go_sem,updo,en, -List.map_take, -List.map_append]
 ·have e1:lendS ⟨vn,li,cs⟩ off c=[]:=by rw[lendS,if_neg h1]
  have e2:lendN ⟨vn,li,cs⟩ c=c.nm:=by rw[lendN,if_neg h1]
  have en:nml ((cs.take i).map (lendN ⟨vn,li,cs⟩))++[.str c.nm]=nml ((cs.take (i+1)).map (lendN ⟨vn,li,cs⟩)):=by rw[ht,List.map_append,nml_app];simp[nml,e2]
  have es:stl ((cs.take (i+1)).flatMap (lendS ⟨vn,li,cs⟩ off))=stl ((cs.take i).flatMap (lendS ⟨vn,li,cs⟩ off)):=by rw[ht,List.flatMap_append,stl_app];simp[e1,stl_nil]
  have q1:(c.cp !=1)=true:=by simp;omega
  have q2:(c.cp !=2)=true:=by simp;omega
  repeat'(first|apply nx|refine zx ?_|rw[zw]|((first|refine hK _ ?_|refine hKp _ _ ?_);clear hK hKp K Kp;try clear hanc anc)|((with_reducible refine And.intro ?_ ?_);exact zb)|((first|refine zr hE fun K Kp hK hKp=>?_|refine zd true mixed hE fun K Kp hK hKp anc hanc=>?_|refine zd false mixed hE fun K Kp hK hKp anc hanc=>?_);simp only[go_sem,lt_dec hlt,hx,u1,Ad.av,q1,q2])|(refine zg (fun hg=>?_) (fun hg=>?_)<;>simp only[go_sem,lt_dec hlt,hx,u1,Ad.av,q1,q2,hg])|(refine zc (fun hc=>?_) (fun hc=>?_)<;>try exact zh hc))
  refine⟨i+1,hlt,by omega,fun i=>if i=2 then 25165827 else i,?_⟩
  refine ent_mk (by simp[go_sem]) ?_ (by simp) (by simp[hN])
  simp[go_sem,updo,en,es, -List.map_take, -List.map_append]
end Go.Proofs.YtffmphmiicnaeaaDoor

set_option maxHeartbeats 4000000
set_option maxRecDepth 100000
namespace Go.Proofs.YtffmphmiicnaeaaDoor
open Go.Am Go.Proofs Go.Lf
open Classical
attribute [local irreducible] AW CallP CallB
variable {nm:Nm} {ps:List Nm} {bs:List Bd} {o1:AObj} {l:List Lf.St} {i:Nat} {now:List Vs} {S:List Lf.St} {y:Ls} {E:En} {Q:AEx→Am.St→Prop} {J:Am.St→Prop} {fs:List Fm}
noncomputable def rc28:Code:=sq2 (sq2 (sq2 (cd1 (sq2 (sq1 (sq2 (sq2 rst16)))))))
noncomputable def rc31:Code:=sq2 (sq2 (cd1 (sq2 rc28)))
theorem rr_spawn (hE : E.nt = Tryd.f26.ntmps) (hnp : E.np ≤ 2) (ho1 : Lone o1) {k : Int} {n : Nm} {ns : List Nm} {ty : List Tx} {ex : Ex} {T1 T2 : List Lf.St} {A3 : List Ar} {off : Int} {vn li : Nm} {cs : List Ad} {NM : List Nm} (hlt : i < l.length) (hl : l.length ≤ 1000) (hS : S.length ≤ 2 ^ 30) (hNM : NM.length ≤ 2 ^ 30) (hns : ns.length ≤ 1000)
    (H:∀ σ,(∃ m,Ent E.np m σ (mk26 nm ps bs o1 l (i+1) now (S++[.mk k li (NM++ns) ty ex T1 T2 A3 [] off]) y))→J σ):
    AW Tryd.prog E (sq1 rc31) (Kq Tryd.prog E (.code (sq2 rc31):: .code (sq2 (sq2 (sq2 rst16))):: .blk 1:: .code (sq2 (sq2 rd26)):: .lp J::fs) Q) (mkSt [(0,.ptr 0 0),(1,.sl (stl l)),(7,.rw 4),(8,.rw 3),(9,.i (i:Nat)),(10,.ptr 5 0),(15,.bool false),(17,.ptr 6 0),(20,.rw 7)] [(0,.cells [.str nm,.sl (nml ps),.sl (bdl bs),.i y.cnt,.rw 2,.i y.err,.i y.pos]),(1,o1),(2,.row 10 (fdl y.out)),(3,.row 3 (vsl now)),(4,.row 17 (stl S)),(5,.cells [.i k,.str n,.sl (nml ns),.sl (Tx.avL ty),.i ex.k,.str ex.op,.str ex.nm,.str ex.vr,.sl (nml ex.ns),.i ex.num,.sl (Tx.avL ex.ty),.i ex.off,.sl (stl T1),.sl (stl T2),.sl (arl A3),.sl [],.i off]),(6,.cells [.str vn,.str li,.sl (adl cs)]),(7,.row 1 (nml NM))] 8):=by
  have u0:=inc_u hlt (by omega)
  simp only[rc31,rc28,rst16,rd26,rsb2,b26,Tryd.f26,Option.getD,sq1,sq2,blkC,lpC,cd1]
  repeat'(first|apply nx|refine zx ?_|rw[zw]|((first|refine hK _ ?_|refine hKp _ _ ?_);clear hK hKp K Kp;try clear hanc anc)|((with_reducible refine And.intro ?_ ?_);exact zb)|((first|refine zr hE fun K Kp hK hKp=>?_|refine zd true mixed hE fun K Kp hK hKp anc hanc=>?_|refine zd false mixed hE fun K Kp hK hKp anc hanc=>?_);simp only[go_sem,u0])|(refine zg (fun hg=>?_) (fun hg=>?_)<;>simp only[go_sem,u0,hg])|(refine zc (fun hc=>?_) (fun hc=>?_)<;>try exact zh hc))
  refine⟨⟨nml_szok _,by simp only[Fits];omega⟩,hK _ ?_⟩
  clear hK hKp
  refine Kq_norm_code ?_
  refine AW.ent (σ':=mkSt [(0,.ptr 0 0),(1,.sl (stl l)),(7,.rw 4),(8,.rw 3),(9,.i (i:Nat)),(10,.ptr 5 0)] [(0,.cells [.str nm,.sl (nml ps),.sl (bdl bs),.i y.cnt,.rw 2,.i y.err,.i y.pos]),(1,o1),(2,.row 10 (fdl y.out)),(3,.row 3 (vsl now)),(4,.row 17 (stl S)),(5,.cells [.i k,.str li,.rw 6,.sl (Tx.avL ty),.i ex.k,.str ex.op,.str ex.nm,.str ex.vr,.sl (nml ex.ns),.i ex.num,.sl (Tx.avL ex.ty),.i ex.off,.sl (stl T1),.sl (stl T2),.sl (arl A3),.sl [],.i off]),(6,.row 1 (nml (NM++ns)))] 7) (fun i=>if i=6 then 8388616 else i) ?_ ?_
  · refine ent_mk (by simp[go_sem]) ?_ (by simp) (fun id hid=>⟨by rw[if_neg (by omega)],by omega⟩)
    simp only[List.forall_mem_cons,ho1.r,ho1.i]
    simp[go_sem, ← nml_app]
  refine AW_frzCell 5 2 6 (xs:=nml (NM++ns)) (by simp only[go_sem];rfl) rfl (by simp only[go_sem];rfl) (by decide) (nml_clor _) ?_
  refine AW.ent (σ':=mkSt [(0,.ptr 0 0),(1,.sl (stl l)),(7,.rw 4),(8,.rw 3),(9,.i (i:Nat)),(10,.ptr 5 0)] [(0,.cells [.str nm,.sl (nml ps),.sl (bdl bs),.i y.cnt,.rw 2,.i y.err,.i y.pos]),(1,o1),(2,.row 10 (fdl y.out)),(3,.row 3 (vsl now)),(4,.row 17 (stl S)),(5,.cells [.i k,.str li,.sl (nml (NM++ns)),.sl (Tx.avL ty),.i ex.k,.str ex.op,.str ex.nm,.str ex.vr,.sl (nml ex.ns),.i ex.num,.sl (Tx.avL ex.ty),.i ex.off,.sl (stl T1),.sl (stl T2),.sl (arl A3),.sl [],.i off])] 6) (fun i=>i) ?_ ?_
  · refine ent_mk (by simp[go_sem]) ?_ (by simp) (fun id hid=>⟨rfl,by omega⟩)
    simp only[List.forall_mem_cons,ho1.r,ho1.i]
    simp[go_sem]
  repeat'(first|apply nx|refine zx ?_|rw[zw]|((first|refine hK _ ?_|refine hKp _ _ ?_);clear hK hKp K Kp;try clear hanc anc)|((with_reducible refine And.intro ?_ ?_);exact zb)|((first|refine zr hE fun K Kp hK hKp=>?_|refine zd true mixed hE fun K Kp hK hKp anc hanc=>?_|refine zd false mixed hE fun K Kp hK hKp anc hanc=>?_);simp only[go_sem,u0])|(refine zg (fun hg=>?_) (fun hg=>?_)<;>simp only[go_sem,u0,hg])|(refine zc (fun hc=>?_) (fun hc=>?_)<;>try exact zh hc))
  refine H _ ⟨fun i=>if i=4 then 3145734 else i,?_⟩
  refine ent_mk (by simp[go_sem]) ?_ (by simp) (fun id hid=>⟨by rw[if_neg (by omega)],by omega⟩)
  have e:=stl_one k li (NM++ns) ty ex T1 T2 A3 off S
  try simp only at e
  simp only[List.forall_mem_cons,ho1.r,ho1.i]
  simp[go_sem,e]
theorem rr_value (hE : E.nt = Tryd.f26.ntmps) (hnp : E.np ≤ 2) (ho1 : Lone o1) {k : Int} {n : Nm} {ns : List Nm} {ty : List Tx} {ex : Ex} {T1 T2 : List Lf.St} {A3 : List Ar} {off : Int} {vn li : Nm} {cs : List Ad} {NM : List Nm} (hlt : i < l.length) (hl : l.length ≤ 1000) (hS : S.length ≤ 2 ^ 30) (hNM : NM.length ≤ 2 ^ 30) (hns : ex.ns.length ≤ 1000)
    (H:∀ σ,(∃ m,Ent E.np m σ (mk26 nm ps bs o1 l (i+1) now (S++[.mk k n ns ty ⟨ex.k,ex.op,li,ex.vr,NM++ex.ns,ex.num,ex.ty,ex.off⟩ T1 T2 A3 [] off]) y))→J σ):
    AW Tryd.prog E (sq1 rc31) (Kq Tryd.prog E (.code (sq2 rc31):: .code (sq2 (sq2 (sq2 rst16))):: .blk 1:: .code (sq2 (sq2 rd26)):: .lp J::fs) Q) (mkSt [(0,.ptr 0 0),(1,.sl (stl l)),(7,.rw 4),(8,.rw 3),(9,.i (i:Nat)),(10,.ptr 5 0),(15,.bool true),(17,.ptr 6 0),(20,.rw 7)] [(0,.cells [.str nm,.sl (nml ps),.sl (bdl bs),.i y.cnt,.rw 2,.i y.err,.i y.pos]),(1,o1),(2,.row 10 (fdl y.out)),(3,.row 3 (vsl now)),(4,.row 17 (stl S)),(5,.cells [.i k,.str n,.sl (nml ns),.sl (Tx.avL ty),.i ex.k,.str ex.op,.str ex.nm,.str ex.vr,.sl (nml ex.ns),.i ex.num,.sl (Tx.avL ex.ty),.i ex.off,.sl (stl T1),.sl (stl T2),.sl (arl A3),.sl [],.i off]),(6,.cells [.str vn,.str li,.sl (adl cs)]),(7,.row 1 (nml NM))] 8):=by
  have u0:=inc_u hlt (by omega)
  simp only[rc31,rc28,rst16,rd26,rsb2,b26,Tryd.f26,Option.getD,sq1,sq2,blkC,lpC,cd1]
  repeat'(first|apply nx|refine zx ?_|rw[zw]|((first|refine hK _ ?_|refine hKp _ _ ?_);clear hK hKp K Kp;try clear hanc anc)|((with_reducible refine And.intro ?_ ?_);exact zb)|((first|refine zr hE fun K Kp hK hKp=>?_|refine zd true mixed hE fun K Kp hK hKp anc hanc=>?_|refine zd false mixed hE fun K Kp hK hKp anc hanc=>?_);simp only[go_sem,u0])|(refine zg (fun hg=>?_) (fun hg=>?_)<;>simp only[go_sem,u0,hg])|(refine zc (fun hc=>?_) (fun hc=>?_)<;>try exact zh hc))
  refine⟨⟨nml_szok _,by simp only[Fits];omega⟩,hK _ ?_⟩
  clear hK hKp
  refine Kq_norm_code ?_
  refine AW.ent (σ':=mkSt [(0,.ptr 0 0),(1,.sl (stl l)),(7,.rw 4),(8,.rw 3),(9,.i (i:Nat)),(10,.ptr 5 0)] [(0,.cells [.str nm,.sl (nml ps),.sl (bdl bs),.i y.cnt,.rw 2,.i y.err,.i y.pos]),(1,o1),(2,.row 10 (fdl y.out)),(3,.row 3 (vsl now)),(4,.row 17 (stl S)),(5,.cells [.i k,.str n,.sl (nml ns),.sl (Tx.avL ty),.i ex.k,.str ex.op,.str li,.str ex.vr,.rw 6,.i ex.num,.sl (Tx.avL ex.ty),.i ex.off,.sl (stl T1),.sl (stl T2),.sl (arl A3),.sl [],.i off]),(6,.row 1 (nml (NM++ex.ns)))] 7) (fun i=>if i=6 then 10485768 else i) ?_ ?_
  · refine ent_mk (by simp[go_sem]) ?_ (by simp) (fun id hid=>⟨by rw[if_neg (by omega)],by omega⟩)
    simp only[List.forall_mem_cons,ho1.r,ho1.i]
    simp[go_sem, ← nml_app]
  refine AW_frzCell 5 8 6 (xs:=nml (NM++ex.ns)) (by simp only[go_sem];rfl) rfl (by simp only[go_sem];rfl) (by decide) (nml_clor _) ?_
  refine AW.ent (σ':=mkSt [(0,.ptr 0 0),(1,.sl (stl l)),(7,.rw 4),(8,.rw 3),(9,.i (i:Nat)),(10,.ptr 5 0)] [(0,.cells [.str nm,.sl (nml ps),.sl (bdl bs),.i y.cnt,.rw 2,.i y.err,.i y.pos]),(1,o1),(2,.row 10 (fdl y.out)),(3,.row 3 (vsl now)),(4,.row 17 (stl S)),(5,.cells [.i k,.str n,.sl (nml ns),.sl (Tx.avL ty),.i ex.k,.str ex.op,.str li,.str ex.vr,.sl (nml (NM++ex.ns)),.i ex.num,.sl (Tx.avL ex.ty),.i ex.off,.sl (stl T1),.sl (stl T2),.sl (arl A3),.sl [],.i off])] 6) (fun i=>i) ?_ ?_
  · refine ent_mk (by simp[go_sem]) ?_ (by simp) (fun id hid=>⟨rfl,by omega⟩)
    simp only[List.forall_mem_cons,ho1.r,ho1.i]
    simp[go_sem]
  repeat'(first|apply nx|refine zx ?_|rw[zw]|((first|refine hK _ ?_|refine hKp _ _ ?_);clear hK hKp K Kp;try clear hanc anc)|((with_reducible refine And.intro ?_ ?_);exact zb)|((first|refine zr hE fun K Kp hK hKp=>?_|refine zd true mixed hE fun K Kp hK hKp anc hanc=>?_|refine zd false mixed hE fun K Kp hK hKp anc hanc=>?_);simp only[go_sem,u0])|(refine zg (fun hg=>?_) (fun hg=>?_)<;>simp only[go_sem,u0,hg])|(refine zc (fun hc=>?_) (fun hc=>?_)<;>try exact zh hc))
  refine H _ ⟨fun i=>if i=4 then 3145734 else i,?_⟩
  refine ent_mk (by simp[go_sem]) ?_ (by simp) (fun id hid=>⟨by rw[if_neg (by omega)],by omega⟩)
  have e:=stl_one k n ns ty ⟨ex.k,ex.op,li,ex.vr,NM++ex.ns,ex.num,ex.ty,ex.off⟩ T1 T2 A3 off S
  try simp only at e
  simp only[List.forall_mem_cons,ho1.r,ho1.i]
  simp[go_sem,e]
end Go.Proofs.YtffmphmiicnaeaaDoor

set_option maxHeartbeats 4000000
set_option maxRecDepth 100000
namespace Go.Proofs.YtffmphmiicnaeaaDoor
open Go.Am Go.Proofs Go.Lf
open Classical
attribute [local irreducible] AW CallP CallB
variable {nm:Nm} {ps:List Nm} {bs:List Bd} {o1:AObj} {l:List Lf.St} {i:Nat} {now:List Vs} {S:List Lf.St} {y:Ls} {E:En} {Q:AEx→Am.St→Prop} {J:Am.St→Prop} {fs:List Fm}
theorem rr_lend (hE : E.nt = Tryd.f26.ntmps) (hnp : E.np ≤ 2) (ho1 : Lone o1) {b : Bool} {v : Vs} {k : Int} {n : Nm} {ns : List Nm} {ty : List Tx} {ex : Ex} {T1 T2 : List Lf.St} {A3 : List Ar} {off : Int} (hS : S.length ≤ 2 ^ 29) (hv1 : v.cs.length ≤ 1024) (hv2 : v.nm.size ≤ 2 ^ 40) (hv3 : ∀ c, c ∈ v.cs → c.nm.size ≤ 2 ^ 40)
    (H:AW Tryd.prog E (sq1 rc31) (Kq Tryd.prog E (.code (sq2 rc31):: .code (sq2 (sq2 (sq2 rst16))):: .blk 1:: .code (sq2 (sq2 rd26)):: .lp J::fs) Q) (mkSt [(0,.ptr 0 0),(1,.sl (stl l)),(7,.rw 4),(8,.rw 3),(9,.i (i:Nat)),(10,.ptr 5 0),(15,.bool b),(17,.ptr 6 0),(20,.rw 7)] [(0,.cells [.str nm,.sl (nml ps),.sl (bdl bs),.i y.cnt,.rw 2,.i y.err,.i y.pos]),(1,o1),(2,.row 10 (fdl y.out)),(3,.row 3 (vsl now)),(4,.row 17 (stl (S++v.cs.flatMap (lendS v off)))),(5,.cells [.i k,.str n,.sl (nml ns),.sl (Tx.avL ty),.i ex.k,.str ex.op,.str ex.nm,.str ex.vr,.sl (nml ex.ns),.i ex.num,.sl (Tx.avL ex.ty),.i ex.off,.sl (stl T1),.sl (stl T2),.sl (arl A3),.sl [],.i off]),(6,.cells [.str v.nm,.str v.li,.sl (adl v.cs)]),(7,.row 1 (nml (v.cs.map (lendN v))))] 8)):
    AW Tryd.prog E (sq1 rc28) (Kq Tryd.prog E (.code (sq2 rc28):: .code (sq2 (sq2 (sq2 rst16))):: .blk 1:: .code (sq2 (sq2 rd26)):: .lp J::fs) Q) (mkSt [(0,.ptr 0 0),(1,.sl (stl l)),(7,.rw 4),(8,.rw 3),(9,.i (i:Nat)),(10,.ptr 5 0),(15,.bool b),(17,.ptr 6 0),(18,.bool true)] [(0,.cells [.str nm,.sl (nml ps),.sl (bdl bs),.i y.cnt,.rw 2,.i y.err,.i y.pos]),(1,o1),(2,.row 10 (fdl y.out)),(3,.row 3 (vsl now)),(4,.row 17 (stl S)),(5,.cells [.i k,.str n,.sl (nml ns),.sl (Tx.avL ty),.i ex.k,.str ex.op,.str ex.nm,.str ex.vr,.sl (nml ex.ns),.i ex.num,.sl (Tx.avL ex.ty),.i ex.off,.sl (stl T1),.sl (stl T2),.sl (arl A3),.sl [],.i off]),(6,.cells [.str v.nm,.str v.li,.sl (adl v.cs)])] 7):=by
  have hll:=lendS_len v off v.cs
  have c:=borrowedN_c v off (by omega) hv2 hv3
  simp only[rc31,rc28,rst16,rd26,rsb2,b26,Tryd.f26,Option.getD,sq1,sq2,blkC,lpC,cd1] at H ⊢
  repeat'(first|apply nx|refine zx ?_|rw[zw]|((first|refine hK _ ?_|refine hKp _ _ ?_);clear hK hKp K Kp;try clear hanc anc)|((with_reducible refine And.intro ?_ ?_);exact zb)|((first|refine zr hE fun K Kp hK hKp=>?_|refine zd true mixed hE fun K Kp hK hKp anc hanc=>?_|refine zd false mixed hE fun K Kp hK hKp anc hanc=>?_);simp only[go_sem])|(refine zg (fun hg=>?_) (fun hg=>?_)<;>simp only[go_sem,hg])|(refine zc (fun hc=>?_) (fun hc=>?_)<;>try exact zh hc))
  refine Hold.mk (CallB.newP c (by simp[AV.cloL,AV.clo,Vs.av,go_sem]) (by simp[AV.ids,AV.idsL,go_sem]) (by simp[AObj.ids,go_sem]) ?_)
  simp only[go_sem]
  repeat'(first|apply nx|refine zx ?_|rw[zw]|((first|refine hK _ ?_|refine hKp _ _ ?_);clear hK hKp K Kp;try clear hanc anc)|((with_reducible refine And.intro ?_ ?_);exact zb)|((fail_if_success refine K_stop 31 ?_);(first|refine zr hE fun K Kp hK hKp=>?_|refine zd true mixed hE fun K Kp hK hKp anc hanc=>?_|refine zd false mixed hE fun K Kp hK hKp anc hanc=>?_);simp only[go_sem])|(refine zg (fun hg=>?_) (fun hg=>?_)<;>simp only[go_sem,hg])|(refine zc (fun hc=>?_) (fun hc=>?_)<;>try exact zh hc))
  refine⟨⟨stl_szok _,by simp only[Fits];omega⟩,hK _ ?_⟩
  clear hK hKp
  repeat'(first|apply nx|refine zx ?_|rw[zw]|((first|refine hK _ ?_|refine hKp _ _ ?_);clear hK hKp K Kp;try clear hanc anc)|((with_reducible refine And.intro ?_ ?_);exact zb)|((fail_if_success refine K_stop 31 ?_);(first|refine zr hE fun K Kp hK hKp=>?_|refine zd true mixed hE fun K Kp hK hKp anc hanc=>?_|refine zd false mixed hE fun K Kp hK hKp anc hanc=>?_);simp only[go_sem])|(refine zg (fun hg=>?_) (fun hg=>?_)<;>simp only[go_sem,hg])|(refine zc (fun hc=>?_) (fun hc=>?_)<;>try exact zh hc))
  refine AW.ent (fun i=>if i=4 then 12582919 else if i=7 then 4194311 else i) ?_ H
  refine ent_mk (by simp[go_sem]) ?_ (by simp) (fun id hid=>⟨by rw[if_neg (by omega),if_neg (by omega)],by omega⟩)
  simp only[List.forall_mem_cons,ho1.r,ho1.i]
  simp[go_sem, ← stl_app]
theorem rr_someS12 (hE : E.nt = Tryd.f26.ntmps) (hnp : E.np ≤ 2) (ho1 : Lone o1) {n : Nm} {ns : List Nm} {ty : List Tx} {ex : Ex} {T1 T2 : List Lf.St} {A3 : List Ar} {off : Int} {v : Vs} (hlt : i < l.length) (hl : l.length ≤ 1000) (hS : S.length ≤ 2 ^ 29) (hnow : now.length ≤ 2 ^ 20) (hv1 : v.cs.length ≤ 1024) (hv2 : v.nm.size ≤ 2 ^ 40) (hv3 : ∀ c, c ∈ v.cs → c.nm.size ≤ 2 ^ 40) (hns : ns.length ≤ 1000) (hf : find now n = some v)
    (H:∀ σ,(∃ m,Ent E.np m σ (mk26 nm ps bs o1 l (i+1) now (S++(v.cs.flatMap (lendS v off)++[.mk 12 v.li (v.cs.map (lendN v)++ns) ty ex T1 T2 A3 [] off])) y))→J σ):
    AW Tryd.prog E (sq1 (sq2 rst16)) (Kq Tryd.prog E (.code (sq2 (sq2 rst16)):: .blk 1:: .code (sq2 (sq2 rd26)):: .lp J::fs) Q) (mkSt [(0,.ptr 0 0),(1,.sl (stl l)),(7,.rw 4),(8,.rw 3),(9,.i (i:Nat)),(10,.ptr 5 0)] [(0,.cells [.str nm,.sl (nml ps),.sl (bdl bs),.i y.cnt,.rw 2,.i y.err,.i y.pos]),(1,o1),(2,.row 10 (fdl y.out)),(3,.row 3 (vsl now)),(4,.row 17 (stl S)),(5,.cells [.i 12,.str n,.sl (nml ns),.sl (Tx.avL ty),.i ex.k,.str ex.op,.str ex.nm,.str ex.vr,.sl (nml ex.ns),.i ex.num,.sl (Tx.avL ex.ty),.i ex.off,.sl (stl T1),.sl (stl T2),.sl (arl A3),.sl [],.i off])] 6):=by
  have hll:=lendS_len v off v.cs
  rw[← List.append_assoc] at H
  have hend:=rr_spawn (Q:=Q) (J:=J) (fs:=fs) (nm:=nm) (ps:=ps) (bs:=bs) (o1:=o1) (l:=l) (i:=i) (now:=now) (S:=S++v.cs.flatMap (lendS v off)) (y:=y) (E:=E) hE hnp ho1 (k:=12) (n:=n) (ns:=ns) (ty:=ty) (ex:=ex) (T1:=T1) (T2:=T2) (A3:=A3) (off:=off) (vn:=v.nm) (li:=v.li) (cs:=v.cs) (NM:=v.cs.map (lendN v)) hlt hl (by rw[List.length_append];omega) (by rw[List.length_map];omega) hns H
  have hmid:=rr_lend (y:=y) (k:=12) (n:=n) (ns:=ns) (ty:=ty) (ex:=ex) (T1:=T1) (T2:=T2) (A3:=A3) hE hnp ho1 hS hv1 hv2 hv3 hend
  clear hend H
  simp only[rc28,rst16,rd26,rsb2,b26,Tryd.f26,Option.getD,sq1,sq2,blkC,lpC,cd1] at hmid ⊢
  repeat'(first|apply nx|refine zx ?_|rw[zw]|((first|refine hK _ ?_|refine hKp _ _ ?_);clear hK hKp K Kp;try clear hanc anc)|((with_reducible refine And.intro ?_ ?_);exact zb)|((first|refine zr hE fun K Kp hK hKp=>?_|refine zd true mixed hE fun K Kp hK hKp anc hanc=>?_|refine zd false mixed hE fun K Kp hK hKp anc hanc=>?_);simp only[go_sem])|(refine zg (fun hg=>?_) (fun hg=>?_)<;>simp only[go_sem,hg])|(refine zc (fun hc=>?_) (fun hc=>?_)<;>try exact zh hc))
  refine Hold.mk (find_use (now:=now) (by omega) (by simp only[go_sem]) (fun hpn hold=>?_))
  have e0:findRV (find now n)= .tup [.agg [.str v.nm,.str v.li,.sl (adl v.cs)],.bool true]:=by rw[hf];rfl
  rw[e0]
  have g0:=hold 0 (.cells [.str nm,.sl (nml ps),.sl (bdl bs),.i y.cnt,.rw 2,.i y.err,.i y.pos]) (by simp only[go_sem])
  have g1:=hold 1 o1 (by simp only[go_sem])
  have g2:=hold 2 (.row 10 (fdl y.out)) (by simp only[go_sem])
  have g3:=hold 3 (.row 3 (vsl now)) (by simp only[go_sem])
  have g4:=hold 4 (.row 17 (stl S)) (by simp only[go_sem])
  have g5:=hold 5 (.cells [.i 12,.str n,.sl (nml ns),.sl (Tx.avL ty),.i ex.k,.str ex.op,.str ex.nm,.str ex.vr,.sl (nml ex.ns),.i ex.num,.sl (Tx.avL ex.ty),.i ex.off,.sl (stl T1),.sl (stl T2),.sl (arl A3),.sl [],.i off]) (by simp only[go_sem])
  clear hold
  simp only[go_sem]
  repeat'(first|apply nx|refine zx ?_|rw[zw]|((first|refine hK _ ?_|refine hKp _ _ ?_);clear hK hKp K Kp;try clear hanc anc)|((with_reducible refine And.intro ?_ ?_);exact zb)|((fail_if_success refine K_stop 28 ?_);(first|refine zr hE fun K Kp hK hKp=>?_|refine zd true mixed hE fun K Kp hK hKp anc hanc=>?_|refine zd false mixed hE fun K Kp hK hKp anc hanc=>?_);simp only[go_sem,g4,g5])|(refine zg (fun hg=>?_) (fun hg=>?_)<;>simp only[go_sem,g4,g5,hg])|(refine zc (fun hc=>?_) (fun hc=>?_)<;>try exact zh hc))
  refine AW.ent (fun i=>if i=6 then 32505862 else i) ?_ hmid
  refine ent_mk (by simp[go_sem]) ?_ (by simp) (fun id hid=>⟨by rw[if_neg (by omega)],by omega⟩)
  simp only[List.forall_mem_cons,ho1.r,ho1.i]
  simp[go_sem,g0,g1,g2,g3,g4,g5]
theorem rr_someV1 (hE : E.nt = Tryd.f26.ntmps) (hnp : E.np ≤ 2) (ho1 : Lone o1) {n : Nm} {ns : List Nm} {ty : List Tx} {ex : Ex} {T1 T2 : List Lf.St} {A3 : List Ar} {off : Int} {v : Vs} (hlt : i < l.length) (hl : l.length ≤ 1000) (hS : S.length ≤ 2 ^ 29) (hnow : now.length ≤ 2 ^ 20) (hv1 : v.cs.length ≤ 1024) (hv2 : v.nm.size ≤ 2 ^ 40) (hv3 : ∀ c, c ∈ v.cs → c.nm.size ≤ 2 ^ 40) (hns : ex.ns.length ≤ 1000) (h15 : ex.k = 15) (hf : find now ex.nm = some v)
    (H:∀ σ,(∃ m,Ent E.np m σ (mk26 nm ps bs o1 l (i+1) now (S++(v.cs.flatMap (lendS v off)++[.mk 1 n ns ty ⟨ex.k,ex.op,v.li,ex.vr,v.cs.map (lendN v)++ex.ns,ex.num,ex.ty,ex.off⟩ T1 T2 A3 [] off])) y))→J σ):
    AW Tryd.prog E (sq1 (sq2 rst16)) (Kq Tryd.prog E (.code (sq2 (sq2 rst16)):: .blk 1:: .code (sq2 (sq2 rd26)):: .lp J::fs) Q) (mkSt [(0,.ptr 0 0),(1,.sl (stl l)),(7,.rw 4),(8,.rw 3),(9,.i (i:Nat)),(10,.ptr 5 0)] [(0,.cells [.str nm,.sl (nml ps),.sl (bdl bs),.i y.cnt,.rw 2,.i y.err,.i y.pos]),(1,o1),(2,.row 10 (fdl y.out)),(3,.row 3 (vsl now)),(4,.row 17 (stl S)),(5,.cells [.i 1,.str n,.sl (nml ns),.sl (Tx.avL ty),.i ex.k,.str ex.op,.str ex.nm,.str ex.vr,.sl (nml ex.ns),.i ex.num,.sl (Tx.avL ex.ty),.i ex.off,.sl (stl T1),.sl (stl T2),.sl (arl A3),.sl [],.i off])] 6):=by
  have hll:=lendS_len v off v.cs
  rw[← List.append_assoc] at H
  have hend:=rr_value (Q:=Q) (J:=J) (fs:=fs) (nm:=nm) (ps:=ps) (bs:=bs) (o1:=o1) (l:=l) (i:=i) (now:=now) (S:=S++v.cs.flatMap (lendS v off)) (y:=y) (E:=E) hE hnp ho1 (k:=1) (n:=n) (ns:=ns) (ty:=ty) (ex:=ex) (T1:=T1) (T2:=T2) (A3:=A3) (off:=off) (vn:=v.nm) (li:=v.li) (cs:=v.cs) (NM:=v.cs.map (lendN v)) hlt hl (by rw[List.length_append];omega) (by rw[List.length_map];omega) hns H
  have hmid:=rr_lend (y:=y) (k:=1) (n:=n) (ns:=ns) (ty:=ty) (ex:=ex) (T1:=T1) (T2:=T2) (A3:=A3) hE hnp ho1 hS hv1 hv2 hv3 hend
  clear hend H
  have q15:(ex.k==15)=true:=by simp[h15]
  simp only[rc28,rst16,rd26,rsb2,b26,Tryd.f26,Option.getD,sq1,sq2,blkC,lpC,cd1] at hmid ⊢
  repeat'(first|apply nx|refine zx ?_|rw[zw]|((first|refine hK _ ?_|refine hKp _ _ ?_);clear hK hKp K Kp;try clear hanc anc)|((with_reducible refine And.intro ?_ ?_);exact zb)|((first|refine zr hE fun K Kp hK hKp=>?_|refine zd true mixed hE fun K Kp hK hKp anc hanc=>?_|refine zd false mixed hE fun K Kp hK hKp anc hanc=>?_);simp only[go_sem,q15])|(refine zg (fun hg=>?_) (fun hg=>?_)<;>simp only[go_sem,q15,hg])|(refine zc (fun hc=>?_) (fun hc=>?_)<;>try exact zh hc))
  refine Hold.mk (find_use (now:=now) (by omega) (by simp only[go_sem]) (fun hpn hold=>?_))
  have e0:findRV (find now ex.nm)= .tup [.agg [.str v.nm,.str v.li,.sl (adl v.cs)],.bool true]:=by rw[hf];rfl
  rw[e0]
  have g0:=hold 0 (.cells [.str nm,.sl (nml ps),.sl (bdl bs),.i y.cnt,.rw 2,.i y.err,.i y.pos]) (by simp only[go_sem])
  have g1:=hold 1 o1 (by simp only[go_sem])
  have g2:=hold 2 (.row 10 (fdl y.out)) (by simp only[go_sem])
  have g3:=hold 3 (.row 3 (vsl now)) (by simp only[go_sem])
  have g4:=hold 4 (.row 17 (stl S)) (by simp only[go_sem])
  have g5:=hold 5 (.cells [.i 1,.str n,.sl (nml ns),.sl (Tx.avL ty),.i ex.k,.str ex.op,.str ex.nm,.str ex.vr,.sl (nml ex.ns),.i ex.num,.sl (Tx.avL ex.ty),.i ex.off,.sl (stl T1),.sl (stl T2),.sl (arl A3),.sl [],.i off]) (by simp only[go_sem])
  clear hold
  simp only[go_sem]
  repeat'(first|apply nx|refine zx ?_|rw[zw]|((first|refine hK _ ?_|refine hKp _ _ ?_);clear hK hKp K Kp;try clear hanc anc)|((with_reducible refine And.intro ?_ ?_);exact zb)|((fail_if_success refine K_stop 28 ?_);(first|refine zr hE fun K Kp hK hKp=>?_|refine zd true mixed hE fun K Kp hK hKp anc hanc=>?_|refine zd false mixed hE fun K Kp hK hKp anc hanc=>?_);simp only[go_sem,g4,g5])|(refine zg (fun hg=>?_) (fun hg=>?_)<;>simp only[go_sem,g4,g5,hg])|(refine zc (fun hc=>?_) (fun hc=>?_)<;>try exact zh hc))
  refine AW.ent (fun i=>if i=6 then 36700166 else i) ?_ hmid
  refine ent_mk (by simp[go_sem]) ?_ (by simp) (fun id hid=>⟨by rw[if_neg (by omega)],by omega⟩)
  simp only[List.forall_mem_cons,ho1.r,ho1.i]
  simp[go_sem,g0,g1,g2,g3,g4,g5]
theorem rr_someV2 (hE : E.nt = Tryd.f26.ntmps) (hnp : E.np ≤ 2) (ho1 : Lone o1) {n : Nm} {ns : List Nm} {ty : List Tx} {ex : Ex} {T1 T2 : List Lf.St} {A3 : List Ar} {off : Int} {v : Vs} (hlt : i < l.length) (hl : l.length ≤ 1000) (hS : S.length ≤ 2 ^ 29) (hnow : now.length ≤ 2 ^ 20) (hv1 : v.cs.length ≤ 1024) (hv2 : v.nm.size ≤ 2 ^ 40) (hv3 : ∀ c, c ∈ v.cs → c.nm.size ≤ 2 ^ 40) (hns : ex.ns.length ≤ 1000) (h15 : ex.k = 15) (hf : find now ex.nm = some v)
    (H:∀ σ,(∃ m,Ent E.np m σ (mk26 nm ps bs o1 l (i+1) now (S++(v.cs.flatMap (lendS v off)++[.mk 2 n ns ty ⟨ex.k,ex.op,v.li,ex.vr,v.cs.map (lendN v)++ex.ns,ex.num,ex.ty,ex.off⟩ T1 T2 A3 [] off])) y))→J σ):
    AW Tryd.prog E (sq1 (sq2 rst16)) (Kq Tryd.prog E (.code (sq2 (sq2 rst16)):: .blk 1:: .code (sq2 (sq2 rd26)):: .lp J::fs) Q) (mkSt [(0,.ptr 0 0),(1,.sl (stl l)),(7,.rw 4),(8,.rw 3),(9,.i (i:Nat)),(10,.ptr 5 0)] [(0,.cells [.str nm,.sl (nml ps),.sl (bdl bs),.i y.cnt,.rw 2,.i y.err,.i y.pos]),(1,o1),(2,.row 10 (fdl y.out)),(3,.row 3 (vsl now)),(4,.row 17 (stl S)),(5,.cells [.i 2,.str n,.sl (nml ns),.sl (Tx.avL ty),.i ex.k,.str ex.op,.str ex.nm,.str ex.vr,.sl (nml ex.ns),.i ex.num,.sl (Tx.avL ex.ty),.i ex.off,.sl (stl T1),.sl (stl T2),.sl (arl A3),.sl [],.i off])] 6):=by
  have hll:=lendS_len v off v.cs
  rw[← List.append_assoc] at H
  have hend:=rr_value (Q:=Q) (J:=J) (fs:=fs) (nm:=nm) (ps:=ps) (bs:=bs) (o1:=o1) (l:=l) (i:=i) (now:=now) (S:=S++v.cs.flatMap (lendS v off)) (y:=y) (E:=E) hE hnp ho1 (k:=2) (n:=n) (ns:=ns) (ty:=ty) (ex:=ex) (T1:=T1) (T2:=T2) (A3:=A3) (off:=off) (vn:=v.nm) (li:=v.li) (cs:=v.cs) (NM:=v.cs.map (lendN v)) hlt hl (by rw[List.length_append];omega) (by rw[List.length_map];omega) hns H
  have hmid:=rr_lend (y:=y) (k:=2) (n:=n) (ns:=ns) (ty:=ty) (ex:=ex) (T1:=T1) (T2:=T2) (A3:=A3) hE hnp ho1 hS hv1 hv2 hv3 hend
  clear hend H
  have q15:(ex.k==15)=true:=by simp[h15]
  simp only[rc28,rst16,rd26,rsb2,b26,Tryd.f26,Option.getD,sq1,sq2,blkC,lpC,cd1] at hmid ⊢
  repeat'(first|apply nx|refine zx ?_|rw[zw]|((first|refine hK _ ?_|refine hKp _ _ ?_);clear hK hKp K Kp;try clear hanc anc)|((with_reducible refine And.intro ?_ ?_);exact zb)|((first|refine zr hE fun K Kp hK hKp=>?_|refine zd true mixed hE fun K Kp hK hKp anc hanc=>?_|refine zd false mixed hE fun K Kp hK hKp anc hanc=>?_);simp only[go_sem,q15])|(refine zg (fun hg=>?_) (fun hg=>?_)<;>simp only[go_sem,q15,hg])|(refine zc (fun hc=>?_) (fun hc=>?_)<;>try exact zh hc))
  refine Hold.mk (find_use (now:=now) (by omega) (by simp only[go_sem]) (fun hpn hold=>?_))
  have e0:findRV (find now ex.nm)= .tup [.agg [.str v.nm,.str v.li,.sl (adl v.cs)],.bool true]:=by rw[hf];rfl
  rw[e0]
  have g0:=hold 0 (.cells [.str nm,.sl (nml ps),.sl (bdl bs),.i y.cnt,.rw 2,.i y.err,.i y.pos]) (by simp only[go_sem])
  have g1:=hold 1 o1 (by simp only[go_sem])
  have g2:=hold 2 (.row 10 (fdl y.out)) (by simp only[go_sem])
  have g3:=hold 3 (.row 3 (vsl now)) (by simp only[go_sem])
  have g4:=hold 4 (.row 17 (stl S)) (by simp only[go_sem])
  have g5:=hold 5 (.cells [.i 2,.str n,.sl (nml ns),.sl (Tx.avL ty),.i ex.k,.str ex.op,.str ex.nm,.str ex.vr,.sl (nml ex.ns),.i ex.num,.sl (Tx.avL ex.ty),.i ex.off,.sl (stl T1),.sl (stl T2),.sl (arl A3),.sl [],.i off]) (by simp only[go_sem])
  clear hold
  simp only[go_sem]
  repeat'(first|apply nx|refine zx ?_|rw[zw]|((first|refine hK _ ?_|refine hKp _ _ ?_);clear hK hKp K Kp;try clear hanc anc)|((with_reducible refine And.intro ?_ ?_);exact zb)|((fail_if_success refine K_stop 28 ?_);(first|refine zr hE fun K Kp hK hKp=>?_|refine zd true mixed hE fun K Kp hK hKp anc hanc=>?_|refine zd false mixed hE fun K Kp hK hKp anc hanc=>?_);simp only[go_sem,g4,g5])|(refine zg (fun hg=>?_) (fun hg=>?_)<;>simp only[go_sem,g4,g5,hg])|(refine zc (fun hc=>?_) (fun hc=>?_)<;>try exact zh hc))
  refine AW.ent (fun i=>if i=6 then 36700166 else i) ?_ hmid
  refine ent_mk (by simp[go_sem]) ?_ (by simp) (fun id hid=>⟨by rw[if_neg (by omega)],by omega⟩)
  simp only[List.forall_mem_cons,ho1.r,ho1.i]
  simp[go_sem,g0,g1,g2,g3,g4,g5]
theorem rr_noneV1 (hE : E.nt = Tryd.f26.ntmps) (hnp : E.np ≤ 2) (ho1 : Lone o1) {n : Nm} {ns : List Nm} {ty : List Tx} {ex : Ex} {T1 T2 : List Lf.St} {A3 : List Ar} {off : Int} (hlt : i < l.length) (hl : l.length ≤ 1000) (hS : S.length ≤ 2 ^ 29) (hnow : now.length ≤ 2 ^ 20) (h15 : ex.k = 15) (hf : find now ex.nm = none)
    (H:∀ σ,(∃ m,Ent E.np m σ (mk26 nm ps bs o1 l (i+1) now (S++[.mk 1 n ns ty ex T1 T2 A3 [] off]) y))→J σ):
    AW Tryd.prog E (sq1 (sq2 rst16)) (Kq Tryd.prog E (.code (sq2 (sq2 rst16)):: .blk 1:: .code (sq2 (sq2 rd26)):: .lp J::fs) Q) (mkSt [(0,.ptr 0 0),(1,.sl (stl l)),(7,.rw 4),(8,.rw 3),(9,.i (i:Nat)),(10,.ptr 5 0)] [(0,.cells [.str nm,.sl (nml ps),.sl (bdl bs),.i y.cnt,.rw 2,.i y.err,.i y.pos]),(1,o1),(2,.row 10 (fdl y.out)),(3,.row 3 (vsl now)),(4,.row 17 (stl S)),(5,.cells [.i 1,.str n,.sl (nml ns),.sl (Tx.avL ty),.i ex.k,.str ex.op,.str ex.nm,.str ex.vr,.sl (nml ex.ns),.i ex.num,.sl (Tx.avL ex.ty),.i ex.off,.sl (stl T1),.sl (stl T2),.sl (arl A3),.sl [],.i off])] 6):=by
  have u0:=inc_u hlt (by omega)
  have q15:(ex.k==15)=true:=by simp[h15]
  simp only[rst16,rd26,rsb2,b26,Tryd.f26,Option.getD,sq1,sq2,blkC,lpC]
  repeat'(first|apply nx|refine zx ?_|rw[zw]|((first|refine hK _ ?_|refine hKp _ _ ?_);clear hK hKp K Kp;try clear hanc anc)|((with_reducible refine And.intro ?_ ?_);exact zb)|((first|refine zr hE fun K Kp hK hKp=>?_|refine zd true mixed hE fun K Kp hK hKp anc hanc=>?_|refine zd false mixed hE fun K Kp hK hKp anc hanc=>?_);simp only[go_sem,u0,q15])|(refine zg (fun hg=>?_) (fun hg=>?_)<;>simp only[go_sem,u0,q15,hg])|(refine zc (fun hc=>?_) (fun hc=>?_)<;>try exact zh hc))
  refine Hold.mk (find_use (now:=now) (by omega) (by simp only[go_sem]) (fun hpn hold=>?_))
  have e0:findRV (find now ex.nm)= .tup [.agg [.str ⟨#[]⟩,.str ⟨#[]⟩,.nilsl],.bool false]:=by rw[hf];rfl
  rw[e0]
  have g0:=hold 0 (.cells [.str nm,.sl (nml ps),.sl (bdl bs),.i y.cnt,.rw 2,.i y.err,.i y.pos]) (by simp only[go_sem])
  have g1:=hold 1 o1 (by simp only[go_sem])
  have g2:=hold 2 (.row 10 (fdl y.out)) (by simp only[go_sem])
  have g3:=hold 3 (.row 3 (vsl now)) (by simp only[go_sem])
  have g4:=hold 4 (.row 17 (stl S)) (by simp only[go_sem])
  have g5:=hold 5 (.cells [.i 1,.str n,.sl (nml ns),.sl (Tx.avL ty),.i ex.k,.str ex.op,.str ex.nm,.str ex.vr,.sl (nml ex.ns),.i ex.num,.sl (Tx.avL ex.ty),.i ex.off,.sl (stl T1),.sl (stl T2),.sl (arl A3),.sl [],.i off]) (by simp only[go_sem])
  clear hold
  simp only[go_sem]
  repeat'(first|apply nx|refine zx ?_|rw[zw]|((first|refine hK _ ?_|refine hKp _ _ ?_);clear hK hKp K Kp;try clear hanc anc)|((with_reducible refine And.intro ?_ ?_);exact zb)|((first|refine zr hE fun K Kp hK hKp=>?_|refine zd true mixed hE fun K Kp hK hKp anc hanc=>?_|refine zd false mixed hE fun K Kp hK hKp anc hanc=>?_);simp only[go_sem,u0,g4,g5])|(refine zg (fun hg=>?_) (fun hg=>?_)<;>simp only[go_sem,u0,g4,g5,hg])|(refine zc (fun hc=>?_) (fun hc=>?_)<;>try exact zh hc))
  refine H _ ⟨fun i=>if i=4 then 44040198 else i,?_⟩
  refine ent_mk (by simp[go_sem]) ?_ (by simp) (fun id hid=>⟨by rw[if_neg (by omega)],by omega⟩)
  have e:=stl_one 1 n ns ty ex T1 T2 A3 off S
  simp only[List.forall_mem_cons,ho1.r,ho1.i]
  simp[go_sem,e,g0,g1,g2,g3]
theorem rr_noneV2 (hE : E.nt = Tryd.f26.ntmps) (hnp : E.np ≤ 2) (ho1 : Lone o1) {n : Nm} {ns : List Nm} {ty : List Tx} {ex : Ex} {T1 T2 : List Lf.St} {A3 : List Ar} {off : Int} (hlt : i < l.length) (hl : l.length ≤ 1000) (hS : S.length ≤ 2 ^ 29) (hnow : now.length ≤ 2 ^ 20) (h15 : ex.k = 15) (hf : find now ex.nm = none)
    (H:∀ σ,(∃ m,Ent E.np m σ (mk26 nm ps bs o1 l (i+1) now (S++[.mk 2 n ns ty ex T1 T2 A3 [] off]) y))→J σ):
    AW Tryd.prog E (sq1 (sq2 rst16)) (Kq Tryd.prog E (.code (sq2 (sq2 rst16)):: .blk 1:: .code (sq2 (sq2 rd26)):: .lp J::fs) Q) (mkSt [(0,.ptr 0 0),(1,.sl (stl l)),(7,.rw 4),(8,.rw 3),(9,.i (i:Nat)),(10,.ptr 5 0)] [(0,.cells [.str nm,.sl (nml ps),.sl (bdl bs),.i y.cnt,.rw 2,.i y.err,.i y.pos]),(1,o1),(2,.row 10 (fdl y.out)),(3,.row 3 (vsl now)),(4,.row 17 (stl S)),(5,.cells [.i 2,.str n,.sl (nml ns),.sl (Tx.avL ty),.i ex.k,.str ex.op,.str ex.nm,.str ex.vr,.sl (nml ex.ns),.i ex.num,.sl (Tx.avL ex.ty),.i ex.off,.sl (stl T1),.sl (stl T2),.sl (arl A3),.sl [],.i off])] 6):=by
  have u0:=inc_u hlt (by omega)
  have q15:(ex.k==15)=true:=by simp[h15]
  simp only[rst16,rd26,rsb2,b26,Tryd.f26,Option.getD,sq1,sq2,blkC,lpC]
  repeat'(first|apply nx|refine zx ?_|rw[zw]|((first|refine hK _ ?_|refine hKp _ _ ?_);clear hK hKp K Kp;try clear hanc anc)|((with_reducible refine And.intro ?_ ?_);exact zb)|((first|refine zr hE fun K Kp hK hKp=>?_|refine zd true mixed hE fun K Kp hK hKp anc hanc=>?_|refine zd false mixed hE fun K Kp hK hKp anc hanc=>?_);simp only[go_sem,u0,q15])|(refine zg (fun hg=>?_) (fun hg=>?_)<;>simp only[go_sem,u0,q15,hg])|(refine zc (fun hc=>?_) (fun hc=>?_)<;>try exact zh hc))
  refine Hold.mk (find_use (now:=now) (by omega) (by simp only[go_sem]) (fun hpn hold=>?_))
  have e0:findRV (find now ex.nm)= .tup [.agg [.str ⟨#[]⟩,.str ⟨#[]⟩,.nilsl],.bool false]:=by rw[hf];rfl
  rw[e0]
  have g0:=hold 0 (.cells [.str nm,.sl (nml ps),.sl (bdl bs),.i y.cnt,.rw 2,.i y.err,.i y.pos]) (by simp only[go_sem])
  have g1:=hold 1 o1 (by simp only[go_sem])
  have g2:=hold 2 (.row 10 (fdl y.out)) (by simp only[go_sem])
  have g3:=hold 3 (.row 3 (vsl now)) (by simp only[go_sem])
  have g4:=hold 4 (.row 17 (stl S)) (by simp only[go_sem])
  have g5:=hold 5 (.cells [.i 2,.str n,.sl (nml ns),.sl (Tx.avL ty),.i ex.k,.str ex.op,.str ex.nm,.str ex.vr,.sl (nml ex.ns),.i ex.num,.sl (Tx.avL ex.ty),.i ex.off,.sl (stl T1),.sl (stl T2),.sl (arl A3),.sl [],.i off]) (by simp only[go_sem])
  clear hold
  simp only[go_sem]
  repeat'(first|apply nx|refine zx ?_|rw[zw]|((first|refine hK _ ?_|refine hKp _ _ ?_);clear hK hKp K Kp;try clear hanc anc)|((with_reducible refine And.intro ?_ ?_);exact zb)|((first|refine zr hE fun K Kp hK hKp=>?_|refine zd true mixed hE fun K Kp hK hKp anc hanc=>?_|refine zd false mixed hE fun K Kp hK hKp anc hanc=>?_);simp only[go_sem,u0,g4,g5])|(refine zg (fun hg=>?_) (fun hg=>?_)<;>simp only[go_sem,u0,g4,g5,hg])|(refine zc (fun hc=>?_) (fun hc=>?_)<;>try exact zh hc))
  refine H _ ⟨fun i=>if i=4 then 44040198 else i,?_⟩
  refine ent_mk (by simp[go_sem]) ?_ (by simp) (fun id hid=>⟨by rw[if_neg (by omega)],by omega⟩)
  have e:=stl_one 2 n ns ty ex T1 T2 A3 off S
  simp only[List.forall_mem_cons,ho1.r,ho1.i]
  simp[go_sem,e,g0,g1,g2,g3]
theorem rr_tail (hE : E.nt = Tryd.f26.ntmps) (hnp : E.np ≤ 2) (ho1 : Lone o1) {k : Int} {n : Nm} {ns : List Nm} {ty : List Tx} {ex : Ex} {T1 T2 : List Lf.St} {A3 : List Ar} {off : Int} (hlt : i < l.length) (hl : l.length ≤ 1000) (hS : S.length ≤ 2 ^ 29) (hnv : NV now) (hnow : now.length ≤ 2 ^ 20) (hns : ns.length ≤ 1000) (hns2 : ex.ns.length ≤ 1000)
    (H:∀ σ,(∃ m,Ent E.np m σ (mk26 nm ps bs o1 l (i+1) now (S++call now k n ns ty ex T1 T2 A3 [] off) y))→J σ):
    AW Tryd.prog E (sq1 (sq2 rst16)) (Kq Tryd.prog E (.code (sq2 (sq2 rst16)):: .blk 1:: .code (sq2 (sq2 rd26)):: .lp J::fs) Q) (mkSt [(0,.ptr 0 0),(1,.sl (stl l)),(7,.rw 4),(8,.rw 3),(9,.i (i:Nat)),(10,.ptr 5 0)] [(0,.cells [.str nm,.sl (nml ps),.sl (bdl bs),.i y.cnt,.rw 2,.i y.err,.i y.pos]),(1,o1),(2,.row 10 (fdl y.out)),(3,.row 3 (vsl now)),(4,.row 17 (stl S)),(5,.cells [.i k,.str n,.sl (nml ns),.sl (Tx.avL ty),.i ex.k,.str ex.op,.str ex.nm,.str ex.vr,.sl (nml ex.ns),.i ex.num,.sl (Tx.avL ex.ty),.i ex.off,.sl (stl T1),.sl (stl T2),.sl (arl A3),.sl [],.i off])] 6):=by
  by_cases h12:k=12
  · subst h12
    rw[call,if_pos rfl] at H
    cases hfn:find now n with
    |none=>
      rw[hfn] at H
      exact rr_none hE hnp ho1 hlt hl hS hnow hfn H
    |some v=>
      rw[hfn] at H
      obtain⟨hv1,hv2,hv3⟩:=hnv v (find_mem hfn).1
      exact rr_someS12 hE hnp ho1 hlt hl hS hnow hv1 hv2 hv3 hns hfn H
  rw[call,if_neg h12] at H
  by_cases hc15:(k=1∨k=2)∧ex.k=15
  · rw[if_pos hc15] at H
    obtain⟨hk12,h15⟩:=hc15
    cases hfn:find now ex.nm with
    |none=>
      rw[hfn] at H
      rcases hk12 with rfl|rfl
      · exact rr_noneV1 hE hnp ho1 hlt hl hS hnow h15 hfn H
      · exact rr_noneV2 hE hnp ho1 hlt hl hS hnow h15 hfn H
    |some v=>
      rw[hfn] at H
      obtain⟨hv1,hv2,hv3⟩:=hnv v (find_mem hfn).1
      rcases hk12 with rfl|rfl
      · exact rr_someV1 hE hnp ho1 hlt hl hS hnow hv1 hv2 hv3 hns2 h15 hfn H
      · exact rr_someV2 hE hnp ho1 hlt hl hS hnow hv1 hv2 hv3 hns2 h15 hfn H
  · rw[if_neg hc15] at H
    exact rr_plain hE hnp ho1 hlt hl hS h12 hc15 H
end Go.Proofs.YtffmphmiicnaeaaDoor

set_option maxHeartbeats 4000000
set_option maxRecDepth 100000
namespace Go.Lf
open Go Go.Am
variable {dec:Nat→Nm}
theorem OkR.mono {x:Ls} {n m:Nat} (h:OkR x n) (hm:m≤n):OkR x m:=⟨by have:=h.c;omega,by have:=h.o;omega⟩
theorem OkR.grow {x y:Ls} {n m:Nat} (h:OkR x n) (g:Grow y x m) (hm:m≤n):OkR y (n - m):=⟨by have:=h.c;have:=g.1;omega,by have:=h.o;have:=g.2;omega⟩
theorem OkR.fail {x:Ls} {n:Nat} (h:OkR x n) (e p:Int):OkR (x.fail e p) n:=by
 unfold Ls.fail
 split
 ·exact⟨h.c,h.o⟩
 ·exact h
end Go.Lf
namespace Go.Proofs.YtffmphmiicnaeaaDoor
open Go.Am Go.Proofs Go.Lf
open Classical
attribute [local irreducible] AW CallP CallB
variable {nm:Nm} {ps:List Nm} {bs:List Bd} {o1:AObj} {l:List Lf.St} {i:Nat} {S:List Lf.St} {y:Ls} {E:En} {Q:AEx→Am.St→Prop} {J:Am.St→Prop} {fs:List Fm}
structure RR (nm:Nm) (ps:List Nm) (bs:List Bd) (l:List Lf.St) (now0:List Vs) (x:Ls) (i:Nat) (now:List Vs) (S:List Lf.St) (y:Ls):Prop where
 il:i≤l.length
 eq:blk dec nm ps bs now0 l x=(S++(blk dec nm ps bs now (l.drop i) y).1,(blk dec nm ps bs now (l.drop i) y).2)
 nv:NV now
 nl:now.length+stSz (l.drop i)≤2 ^ 20
 ok:OkR y (stSz (l.drop i))
 sl:S.length≤i*1025
def SubRB (nm:Nm) (ps:List Nm) (bs:List Bd) (N W:Nat):Prop:=∀ b,stSz b<N→wtL b≤W→∀ now y,NV now→now.length+stSz b≤2 ^ 20→OkR y (stSz b)→RC 26 [.ptr 0 0,.sl (stl b),.rw 1] (objR nm ps bs [(1,.row 3 (vsl now))]) 3 2 y (.sl (stl (blk dec nm ps bs now b y).1)) (blk dec nm ps bs now b y).2
def SubRF (nm:Nm) (ps:List Nm) (bs:List Bd) (N W:Nat):Prop:=∀ f:Lf.Fd,f.sz<N→f.wt≤W→∀ y,OkR y f.sz→RC 51 [.ptr 0 0,f.av] (objR nm ps bs []) 3 1 y (loc dec nm ps bs f y).1.av (loc dec nm ps bs f y).2
theorem rr_all (hE : E.nt = Tryd.f26.ntmps) (hnp : E.np ≤ 2) (ho1 : Lone o1) {now0 now : List Vs} {x : Ls} {W : Nat} (hW : W ≤ 2 ^ 40) (hs : stSz l ≤ 1000) (hw : wtL l ≤ W) (hB : SubRB nm ps bs (stSz l) W) (hF : SubRF nm ps bs (stSz l) W) (R : RR nm ps bs l now0 x i now S y) (hlt : i < l.length)
    (hJ:∀ now' S' y',RR nm ps bs l now0 x (i+1) now' S' y'→∀ σ,(∃ m,Ent E.np m σ (mk26 nm ps bs o1 l (i+1) now' S' y'))→J σ):
    AW Tryd.prog E rd26 (Kq Tryd.prog E (.lp J::fs) Q) (mk26 nm ps bs o1 l i now S y):=by
  obtain⟨⟨k,n,ns,ty,ex,th,el,ar,fn,off⟩,hx⟩:=get?_of hlt
  have hm:=List.mem_of_getElem? hx
  have hsz:=st_mem_le hm
  have hwt:=st_wt_mem hm
  rw[St.sz,Ex.sz] at hsz
  rw[St.wt] at hwt
  have heq:=R.eq
  have hok:=R.ok
  have hnl:=R.nl
  have hdr:stSz (l.drop i)=1+ns.length+Tx.szL ty+(ex.ns.length+Tx.szL ex.ty)+stSz th+stSz el+arSz ar+fdSz fn+stSz (l.drop (i+1)):=by rw[drop_of hx,stSz,St.sz,Ex.sz]
  rw[drop_of hx,blk] at heq
  simp only at heq
  have hln:=st_len_le l
  have hil:i*1025≤1000*1025:=Nat.mul_le_mul_right _ (by omega)
  have hSl:=R.sl
  rw[stm] at heq
  by_cases hk:k=13
  · rw[if_pos hk] at heq
    by_cases hg:fn.length=1∧th.length+el.length+ar.length=0
    · rw[if_pos hg] at heq
      obtain⟨hg1,hg2⟩:=hg
      match fn,hg1 with
      | [f],hg1=>
        obtain⟨fnm,p0,b0,c0,a0,r0,bd,of0⟩:=f
        subst hk
        rw[fdSz,fdSz] at hsz hdr
        rw[wtF,wtF] at hwt
        have hc:=hF (.mk fnm p0 b0 c0 a0 r0 bd of0) (by have:=st_mem_le hm;rw[St.sz,Ex.sz,fdSz,fdSz] at this;omega) (by omega) y (hok.mono (by omega))
        have hg:=loc_grow (dec:=dec) nm ps bs (.mk fnm p0 b0 c0 a0 r0 bd of0) y
        have hv1:(loc dec nm ps bs (.mk fnm p0 b0 c0 a0 r0 bd of0) y).1.nm=fnm∧(loc dec nm ps bs (.mk fnm p0 b0 c0 a0 r0 bd of0) y).1.cs=c0:=by rw[loc];exact⟨rfl,rfl⟩
        rw[locs] at heq
        generalize hz:loc dec nm ps bs (.mk fnm p0 b0 c0 a0 r0 bd of0) y=z at*
        have hfsz:(Lf.Fd.mk fnm p0 b0 c0 a0 r0 bd of0).sz=1+p0.length+b0.length+adSz c0+adSz a0+r0.sz+stSz bd:=by rw[Fd.sz]
        have hfwt:(Lf.Fd.mk fnm p0 b0 c0 a0 r0 bd of0).wt=fnm.size+64+(c0.map fun c=>c.nm.size).sum+wtL bd:=by rw[Fd.wt]
        have hc0:=ad_len c0
        refine rr_loc hE hnp ho1 hx hg1 rfl hg2 hlt hs (by omega) hc (fun σ hm2=>?_)
        refine hJ (now++[z.1]) S z.2 ⟨hlt,?_,?_,?_,?_,?_⟩ σ hm2
        · rw[heq];simp
        · refine R.nv.snoc ⟨by rw[hv1.2];omega,by rw[hv1.1];omega,fun c hcm=>?_⟩
          rw[hv1.2] at hcm
          have:=sum_mem (f:=fun c:Ad=>c.nm.size) hcm
          omega
        · rw[List.length_append,List.length_cons,List.length_nil];omega
        · exact(hok.grow hg (by omega)).mono (by omega)
        · omega
    · rw[if_neg hg] at heq
      refine rr_bad hE hnp ho1 hx hlt hs (.inl ⟨hk,hg⟩) (fun σ hm2=>hJ now S (y.fail 1 off) ⟨hlt,?_,R.nv,by omega,(hok.fail 1 off).mono (by omega),by omega⟩ σ hm2)
      rw[heq];simp
  rw[if_neg hk] at heq
  by_cases hf0:fn.length=0
  case neg=>
    rw[if_neg hf0] at heq
    refine rr_bad hE hnp ho1 hx hlt hs (.inr ⟨hk,hf0⟩) (fun σ hm2=>hJ now S (y.fail 1 off) ⟨hlt,?_,R.nv,by omega,(hok.fail 1 off).mono (by omega),by omega⟩ σ hm2)
    rw[heq];simp
  rw[if_pos hf0] at heq
  obtain rfl:fn=[]:=List.length_eq_zero_iff.1 hf0
  simp only at heq
  rw[fdSz] at hsz hdr
  rw[wtF] at hwt
  have har:=ar_len_le ar
  have hA1:=hB th (by omega) (by omega) now y R.nv (by omega) (hok.mono (by omega))
  have g1:=blk_grow (dec:=dec) nm ps bs th now y
  generalize hz1:blk dec nm ps bs now th y=z1 at*
  have q1:=hok.grow g1 (by omega)
  have hA2:=hB el (by omega) (by omega) now z1.2 R.nv (by omega) (q1.mono (by omega))
  have g2:=blk_grow (dec:=dec) nm ps bs el now z1.2
  generalize hz2:blk dec nm ps bs now el z1.2=z2 at*
  have q2:=(q1.grow g2 (by omega)).mono (m:=arSz ar+stSz (l.drop (i+1))) (by omega)
  have g3:=arms_grow (dec:=dec) nm ps bs ar now z2.2
  have hmemw:∀ v ns1 b of1,Ar.mk v ns1 b of1∈ar→stSz b<stSz l∧wtL b≤W∧stSz b≤arSz ar:=fun v ns1 b of1 hmm=>by
    have a1:=ar_mem_le hmm
    have a2:=ar_wt_mem hmm
    rw[Ar.sz] at a1
    rw[Ar.wt] at a2
    omega
  have hrd:=rr_arms (J:=J) (fs:=fs) (Q:=Q) (k:=k) (n:=n) (ns:=ns) (ty:=ty) (ex:=ex) (T:=z1.1) (U:=z2.1) (off:=off) (now:=now) (l:=l) (i:=i) (S:=S) (y2:=z2.2) (ar:=ar) hE hnp ho1 hx hlt hs (by omega) (q2.mono (by omega)) (fun v ns1 b of1 hmm y' hy'=>hB b (hmemw v ns1 b of1 hmm).1 (hmemw v ns1 b of1 hmm).2.1 now y' R.nv (by have:=(hmemw v ns1 b of1 hmm).2.2;omega) hy')
  generalize hz3:arms dec nm ps bs now ar z2.2=z3 at*
  refine rr_mid hE hnp ho1 hx hlt hs hk rfl hA1 hA2 (hrd ?_)
  have hcl:=call_len R.nv.vb k n ns ty ex z1.1 z2.1 z3.1 [] off
  refine rr_tail hE hnp ho1 hlt (by omega) (by omega) R.nv (by omega) (by omega) (by omega) (fun σ hm2=>?_)
  refine hJ now (S++call now k n ns ty ex z1.1 z2.1 z3.1 [] off) z3.2 ⟨hlt,?_,R.nv,by omega,(q2.grow g3 (by omega)).mono (by omega),?_⟩ σ hm2
  · rw[heq];simp
  · rw[List.length_append]
    omega
end Go.Proofs.YtffmphmiicnaeaaDoor

set_option maxHeartbeats 4000000
set_option maxRecDepth 100000
namespace Go.Proofs.YtffmphmiicnaeaaDoor
open Go.Am Go.Proofs Go.Lf
open Classical
attribute [local irreducible] AW CallP CallB
theorem lone_vsl (now:List Vs):Lone (.row 3 (vsl now)):=⟨fun m=>by simp only[AObj.ren,vsl_ren],fun p=>by simp[AObj.ids,go_sem]⟩
theorem rblock_c (nm:Nm) (ps:List Nm) (bs:List Bd) (l:List Lf.St) {W:Nat} (hW:W≤2 ^ 40) (hs:stSz l≤1000) (hw:wtL l≤W) (hB:SubRB nm ps bs (stSz l) W) (hF:SubRF nm ps bs (stSz l) W) (now:List Vs) (om:List (Nat×AObj)) (arg:AV) (x:Ls) (hom:(om=[]∧arg= .nilsl∧now=[])∨(om=[(1,.row 3 (vsl now))]∧arg= .rw 1)) (hnv:NV now) (hnl:now.length+stSz l≤2 ^ 20) (hx:OkR x (stSz l)):RC 26 [.ptr 0 0,.sl (stl l),arg] (objR nm ps bs om) 3 (1+om.length) x (.sl (stl (blk dec nm ps bs now l x).1)) (blk dec nm ps bs now l x).2:=by
  refine RC.intro (by simp[AV.clo]) Tryd.func26 isf26 rfl (by simp[Tryd.f26]) fun E Q hE hN hQ=>K_start ?_
  have hln:=st_len_le l
  show AW Tryd.prog E b26 _ _
  have key : ∀ (o1 : AObj), Lone o1 → E.np ≤ 2 → (om = [] ∨ om = [(1, o1)]) →
      AW Tryd.prog E (sq1 (sq1 rsb2)) (Kq Tryd.prog E [.code (sq2 (sq1 rsb2)),.code (sq2 rsb2)] Q) (mkSt [(0,.ptr 0 0),(1,.sl (stl l)),(7,.rw 4),(8,.rw 3)] [(0,.cells [.str nm,.sl (nml ps),.sl (bdl bs),.i x.cnt,.rw 2,.i x.err,.i x.pos]),(1,o1),(2,.row 10 (fdl x.out)),(3,.row 3 (vsl now)),(4,.row 17 [])] 5):=by
    intro o1 ho1 hnp hom2
    have hk:∀ z:Nat×List Vs×List Lf.St×Ls,RR nm ps bs l now x z.1 z.2.1 z.2.2.1 z.2.2.2→∀ (gs:List Fm),z.1<l.length→
      AW Tryd.prog E rd26 (Kq Tryd.prog E (.lp (fun σ'=>∃ z':Nat×List Vs×List Lf.St×Ls,RR nm ps bs l now x z'.1 z'.2.1 z'.2.2.1 z'.2.2.2∧l.length - z'.1<l.length - z.1∧∃ m,Ent E.np m σ' (mk26 nm ps bs o1 l z'.1 z'.2.1 z'.2.2.1 z'.2.2.2))::gs) Q) (mk26 nm ps bs o1 l z.1 z.2.1 z.2.2.1 z.2.2.2):=by
      rintro⟨i,now',S,y⟩ R gs hlt
      exact rr_all hE hnp ho1 hW hs hw hB hF R hlt (fun now2 S2 y2 R2 σ hm2=>⟨(i+1,now2,S2,y2),R2,by simp only at hlt ⊢;omega,hm2⟩)
    simp only[rd26,rsb2,b26,Tryd.f26,Option.getD,sq1,sq2,blkC,lpC] at hk ⊢
    repeat'(first|apply nx|refine zx ?_|rw[zw]|((first|refine hK _ ?_|refine hKp _ _ ?_);clear hK hKp K Kp;try clear hanc anc)|((with_reducible refine And.intro ?_ ?_);exact zb)|((first|refine zr hE fun K Kp hK hKp=>?_|refine zd true mixed hE fun K Kp hK hKp anc hanc=>?_|refine zd false mixed hE fun K Kp hK hKp anc hanc=>?_);simp only[go_sem])|(refine zg (fun hg=>?_) (fun hg=>?_)<;>simp only[go_sem,hg])|(refine zc (fun hc=>?_) (fun hc=>?_)<;>try exact zh hc))
    refine K_loop (X:=Nat×List Vs×List Lf.St×Ls) (fun z=>RR nm ps bs l now x z.1 z.2.1 z.2.2.1 z.2.2.2) (fun z=>mk26 nm ps bs o1 l z.1 z.2.1 z.2.2.1 z.2.2.2) (fun z=>l.length - z.1) (0,now,[],x) ⟨Nat.zero_le _,rfl,hnv,hnl,hx,Nat.zero_le _⟩ (fun i=>i) ?_ ?_
    · refine ent_mk (by simp[go_sem]) ?_ (by simp) (fun id hid=>⟨rfl,by omega⟩)
      simp only[List.forall_mem_cons,ho1.r,ho1.i]
      simp[go_sem,stl_nil]
    rintro⟨i,now',S,y⟩ hz
    by_cases hlt:i<l.length
    · exact hk _ hz _ hlt
    obtain rfl:i=l.length:=by have:=hz.il;simp only at this;omega
    clear hk hB hF
    have heq:=hz.eq
    rw[List.drop_length,blk] at heq
    simp only[List.append_nil] at heq
    rw[heq] at hQ
    clear hz heq
    simp only at hQ
    repeat'(first|apply nx|refine zx ?_|rw[zw]|((first|refine hK _ ?_|refine hKp _ _ ?_);clear hK hKp K Kp;try clear hanc anc)|((with_reducible refine And.intro ?_ ?_);exact zb)|((fail_if_success refine K_stop 37 ?_);(first|refine zr hE fun K Kp hK hKp=>?_|refine zd true mixed hE fun K Kp hK hKp anc hanc=>?_|refine zd false mixed hE fun K Kp hK hKp anc hanc=>?_);simp only[go_sem,ge_dec])|(refine zg (fun hg=>?_) (fun hg=>?_)<;>simp only[go_sem,ge_dec,hg])|(refine zc (fun hc=>?_) (fun hc=>?_)<;>try exact zh hc))
    refine AW.ent (σ':=mkSt [(7,.rw 4)] [(0,.cells [.str nm,.sl (nml ps),.sl (bdl bs),.i y.cnt,.rw 2,.i y.err,.i y.pos]),(1,o1),(2,.row 10 (fdl y.out)),(4,.row 17 (stl S))] 5) (fun i=>i) ?_ ?_
    · refine ent_mk (by simp[go_sem]) ?_ (by simp) (fun id hid=>⟨rfl,by omega⟩)
      simp only[List.forall_mem_cons,ho1.r,ho1.i]
      simp[go_sem]
    refine AW_frz1 7 4 (sz:=17) (xs:=stl S) (by simp only[go_sem]) (by simp only[go_sem]) (stl_clor S) ?_
    repeat'(first|apply nx|refine zx ?_|rw[zw]|((first|refine hK _ ?_|refine hKp _ _ ?_);clear hK hKp K Kp;try clear hanc anc)|((with_reducible refine And.intro ?_ ?_);exact zb)|((first|refine zr hE fun K Kp hK hKp=>?_|refine zd true mixed hE fun K Kp hK hKp anc hanc=>?_|refine zd false mixed hE fun K Kp hK hKp anc hanc=>?_);simp only[go_sem])|(refine zg (fun hg=>?_) (fun hg=>?_)<;>simp only[go_sem,hg])|(refine zc (fun hc=>?_) (fun hc=>?_)<;>try exact zh hc))
    refine K_ret (hQ _ (fun i=>i) 3 (resA_tmp (by simp only[go_sem])) ?_).1
    rcases hom2 with hom2|hom2
    · rw[hom2]
      show Ent _ _ _ (mkSt [] [(0,.cells [.str nm,.sl (nml ps),.sl (bdl bs),.i y.cnt,.rw 2,.i y.err,.i y.pos]),(2,.row 10 (fdl y.out))] 3)
      exact ent_mk (by simp) (by simp[go_sem,updo]) (by simp) (fun id hid=>⟨rfl,by simp at hid;omega⟩)
    · rw[hom2]
      show Ent _ _ _ (mkSt [] [(0,.cells [.str nm,.sl (nml ps),.sl (bdl bs),.i y.cnt,.rw 2,.i y.err,.i y.pos]),(2,.row 10 (fdl y.out)),(1,o1)] 3)
      refine ent_mk (by simp) ?_ (by simp) (fun id hid=>⟨rfl,by simp at hid;omega⟩)
      simp only[List.forall_mem_cons,ho1.r,ho1.i]
      simp[go_sem,updo]
  rcases hom with ⟨hom,rfl,rfl⟩|⟨hom,rfl⟩
  · subst hom
    exact rb_start1 hE (by rw[hN];rfl) (key (.row 17 []) lone_row (by rw[hN];simp) (.inl rfl))
  · subst hom
    exact rb_start2 hE (by rw[hN];rfl) (by omega) (key (.row 3 (vsl now)) (lone_vsl now) (by rw[hN];simp) (.inr rfl))
theorem rlift_c:∀ (N:Nat),N≤1001→∀ (nm:Nm) (ps:List Nm) (bs:List Bd) (l:List Lf.St),stSz l<N→nm.size+wtL l≤2 ^ 40→ps.length≤1000→bs.length≤1000→∀ (now:List Vs) (om:List (Nat×AObj)) (arg:AV) (x:Ls),((om=[]∧arg= .nilsl∧now=[])∨(om=[(1,.row 3 (vsl now))]∧arg= .rw 1))→NV now→now.length+stSz l≤2 ^ 20→OkR x (stSz l)→RC 26 [.ptr 0 0,.sl (stl l),arg] (objR nm ps bs om) 3 (1+om.length) x (.sl (stl (blk dec nm ps bs now l x).1)) (blk dec nm ps bs now l x).2:=by
 intro N
 induction N with
 |zero=>intro _ nm ps bs l h;omega
 |succ N IH=>
  intro hN1 nm ps bs l hl hw hps hbs now om arg x hom hnv hnl hx
  refine rblock_c nm ps bs l (W:=wtL l) (by omega) (by omega) (Nat.le_refl _) ?_ ?_ now om arg x hom hnv hnl hx
  ·intro b hb hwb now' y hnv' hnl' hok
   exact IH (by omega) nm ps bs b (by omega) (by omega) hps hbs now' [(1,.row 3 (vsl now'))] (.rw 1) y (.inr ⟨rfl,rfl⟩) hnv' hnl' hok
  ·rintro⟨fm,p0,b0,c0,a0,r0,bd,of0⟩ hf hwf y hy
   refine rloc_call nm ps bs fm p0 b0 c0 a0 r0 bd of0 (by omega) (by omega) hps hbs (fun li PS BS h1 h2 h3 z hz=>?_) y hy
   rw[Fd.sz] at hf
   exact IH (by omega) li PS BS bd (by omega) h1 h2 h3 [] [] .nilsl z (.inl ⟨rfl,rfl,rfl⟩) (fun v hv=>by cases hv) (by simp only[List.length_nil];omega) hz

theorem rlift_call (x:Md) (hz:fdSz x.fs≤1000) (hw:∀ f,f∈x.fs→f.wt≤2 ^ 40):PCall Tryd.prog 10 [x.av] (liftAV x):=by
 obtain⟨mn,us,ds,ts,ms,fs⟩:=x
 simp only at hz hw
 have hln:=fd_len_le fs
 unfold liftAV Md.av Md.cs
 simp only
 refine PCall.intro Tryd.func10 rfl isf10 (by simp[Tryd.f10]) (by simp[AV.cloL,AV.clo]) fun E Q hE hN hQ=>K_start ?_
 repeat'(first|apply nx|refine zx ?_|rw[zw]|((first|refine hK _ ?_|refine hKp _ _ ?_);clear hK hKp K Kp;try clear hanc anc)|((with_reducible refine And.intro ?_ ?_);exact zb)|((fail_if_success refine K_stop 5 ?_);(first|refine zr hE fun K Kp hK hKp=>?_|refine zd true mixed hE fun K Kp hK hKp anc hanc=>?_|refine zd false mixed hE fun K Kp hK hKp anc hanc=>?_);simp only[go_sem])|(refine zg (fun hg=>?_) (fun hg=>?_)<;>simp only[go_sem,hg])|(refine zc (fun hc=>?_) (fun hc=>?_)<;>try exact zh hc))
 refine AW.ent (σ':=mkSt [(1,.ptr 3 0),(2,.ptr 1 0),(3,.i 0),(4,.i 0),(5,.ptr 0 0),(6,.nilsl),(7,.i (0:Nat))] [(0,.cells [.str mn,.sl (nml us),.sl (dtl ds),.sl (trl ts),.sl (iml ms),.nilsl]),(1,.cells [.str ⟨#[]⟩,.nilsl,.nilsl,.nilsl,.nilsl,.nilsl]),(3,.cells [.str mn,.sl (nml us),.sl (dtl ds),.sl (trl ts),.sl (iml ms),.sl (fdl fs)])] 4) (fun i=>if i=1 then 1048576 else if i=0 then 5242880 else 0) ?_ ?_
 ·refine ent_mk (by simp[go_sem]) ?_ (by simp) (by simp[hN])
  simp[go_sem]
 refine AW_nilc 0 5 10 (by simp[go_sem];rfl) rfl ?_
 refine AW_nil 6 10 (by rw[hE];decide) (by simp[go_sem]) ?_
 repeat'(first|apply nx|refine zx ?_|rw[zw]|((first|refine hK _ ?_|refine hKp _ _ ?_);clear hK hKp K Kp;try clear hanc anc)|((with_reducible refine And.intro ?_ ?_);exact zb)|((first|refine zr hE fun K Kp hK hKp=>?_|refine zd true mixed hE fun K Kp hK hKp anc hanc=>?_|refine zd false mixed hE fun K Kp hK hKp anc hanc=>?_);simp only[go_sem])|(refine zg (fun hg=>?_) (fun hg=>?_)<;>simp only[go_sem,hg])|(refine zc (fun hc=>?_) (fun hc=>?_)<;>try exact zh hc))
 refine K_loop (X:=Nat×List Lf.Fd×List Lf.Fd) (fun x=>x.1≤fs.length∧x.2.1.length=x.1∧x.2.2.length+fdSz (fs.drop x.1)≤1000∧liftL dec fs=match liftL dec (fs.drop x.1) with| .ok z=> .ok (x.2.1++z.1,x.2.2++z.2)| .error e=> .error e) (fun x=>mkSt [(1,.ptr 3 0),(2,.ptr 1 0),(3,.i 0),(4,.i 0),(5,.ptr 0 0),(6,.rw 4),(7,.i (x.1:Nat))] [(0,.cells [.str mn,.sl (nml us),.sl (dtl ds),.sl (trl ts),.sl (iml ms),.rw 2]),(1,.cells [.str ⟨#[]⟩,.nilsl,.nilsl,.nilsl,.nilsl,.nilsl]),(2,.row 10 (fdl x.2.1)),(3,.cells [.str mn,.sl (nml us),.sl (dtl ds),.sl (trl ts),.sl (iml ms),.sl (fdl fs)]),(4,.row 10 (fdl x.2.2))] 6) (fun x=>fs.length - x.1) (0,[],[]) ⟨Nat.zero_le _,rfl,by simpa using hz,by simp only[List.drop_zero,List.nil_append];cases liftL dec fs<;>rfl⟩ (fun i=>if i=2 then 4 else if i=4 then 5 else i) ?_ ?_
 ·refine ent_mk (by simp[go_sem]) ?_ (by simp) (by simp[hN])
  simp[go_sem,fdl_nil]
 rintro⟨i,A,B⟩ ⟨hi,hA,hB,hL⟩
 simp only at hi hA hB hL
 by_cases hlt:i<fs.length
 ·obtain⟨f,hf⟩:=get?_of hlt
  have hsz:=sumle hf
  have hwf:=hw f (List.mem_of_getElem? hf)
  rw[drop_of hf] at hL
  obtain⟨fm,p0,b0,c0,a0,r0,bd,of0⟩:=f
  rw[Fd.sz] at hsz
  rw[Fd.wt] at hwf
  have hlc:=st_len_le bd
  have u0:=inc_u hlt (by omega)
  rw[liftL_mk] at hL
  by_cases hcap:0<c0.length
  ·rw[if_pos hcap] at hL
   simp only at hL
   rw[hL] at hQ
   have hcap':decide ((c0.length:Int)>0)=true:=decide_eq_true (by omega)
   repeat'(first|apply nx|refine zx ?_|rw[zw]|((first|refine hK _ ?_|refine hKp _ _ ?_);clear hK hKp K Kp;try clear hanc anc)|((with_reducible refine And.intro ?_ ?_);exact zb)|((first|refine zr hE fun K Kp hK hKp=>?_|refine zd true mixed hE fun K Kp hK hKp anc hanc=>?_|refine zd false mixed hE fun K Kp hK hKp anc hanc=>?_);simp only[go_sem,lt_dec hlt,hf,Fd.av,hcap'])|(refine zg (fun hg=>?_) (fun hg=>?_)<;>simp only[go_sem,lt_dec hlt,hf,Fd.av,hcap',hg])|(refine zc (fun hc=>?_) (fun hc=>?_)<;>try exact zh hc))
   simp only at hQ
   refine K_ret (hQ _ ⟨.tup [.agg zMd,.i 1,.i of0],?_,?_,?_,rfl⟩).1
   ·simp[resA,rvA,Tryd.f10,go_sem,zMd];rfl
   ·simp[AV.snapOk,AV.snapOkL,zMd]
   ·rfl
  ·rw[if_neg hcap] at hL
   have hcap':decide ((c0.length:Int)>0)=false:=decide_eq_false (by omega)
   have hA':=rlift_c 1001 (Nat.le_refl _) fm p0 b0 bd (by omega) (by omega) (by omega) (by omega) [] [] .nilsl ⟨0,[],0,0⟩ (.inl ⟨rfl,rfl,rfl⟩) (fun v hv=>by cases hv) (by simp only[List.length_nil];omega) ⟨by simp only;omega,by simp only[List.length_nil];omega⟩
   have hg1:=(blk_grow (dec:=dec) fm p0 b0 bd [] ⟨0,[],0,0⟩).2
   generalize blk dec fm p0 b0 [] bd ⟨0,[],0,0⟩=yy at hA' hg1 hL
   obtain⟨T,z⟩:=yy
   simp only[List.length_nil] at hA' hg1 hL
   repeat'(first|apply nx|refine zx ?_|rw[zw]|((first|refine hK _ ?_|refine hKp _ _ ?_);clear hK hKp K Kp;try clear hanc anc)|((with_reducible refine And.intro ?_ ?_);exact zb)|((fail_if_success refine K_stop 11 ?_);(first|refine zr hE fun K Kp hK hKp=>?_|refine zd true mixed hE fun K Kp hK hKp anc hanc=>?_|refine zd false mixed hE fun K Kp hK hKp anc hanc=>?_);simp only[go_sem,lt_dec hlt,hf,Fd.av,hcap'])|(refine zg (fun hg=>?_) (fun hg=>?_)<;>simp only[go_sem,lt_dec hlt,hf,Fd.av,hcap',hg])|(refine zc (fun hc=>?_) (fun hc=>?_)<;>try exact zh hc))
   refine AW.ent (σ':=mkSt [(1,.ptr 3 0),(2,.ptr 1 0),(3,.i 0),(4,.i 0),(5,.ptr 0 0),(6,.rw 4),(7,.i (i:Nat)),(8,.ptr 6 0),(9,.ptr 8 0)] [(0,.cells [.str mn,.sl (nml us),.sl (dtl ds),.sl (trl ts),.sl (iml ms),.rw 2]),(1,.cells [.str ⟨#[]⟩,.nilsl,.nilsl,.nilsl,.nilsl,.nilsl]),(2,.row 10 (fdl A)),(3,.cells [.str mn,.sl (nml us),.sl (dtl ds),.sl (trl ts),.sl (iml ms),.sl (fdl fs)]),(4,.row 10 (fdl B)),(6,.cells [.str fm,.sl (nml p0),.sl (bdl b0),.sl (adl c0),.sl (adl a0),.str r0.n,.sl (Tx.avL r0.a),.i r0.o,.sl (stl bd),.i of0]),(8,.cells [.str fm,.sl (nml p0),.sl (bdl b0),.i 0,.nilsl,.i 0,.i 0])] 10) (fun i=>if i=6 then 10485766 else if i=8 then 24117254 else i) ?_ ?_
   ·refine ent_mk (by simp[go_sem]) ?_ (by simp) (by simp[hN])
    simp[go_sem]
   refine AW_nilc 8 4 10 (by simp[go_sem];rfl) rfl ?_
   repeat'(first|apply nx|refine zx ?_|rw[zw]|((first|refine hK _ ?_|refine hKp _ _ ?_);clear hK hKp K Kp;try clear hanc anc)|((with_reducible refine And.intro ?_ ?_);exact zb)|((first|refine zr hE fun K Kp hK hKp=>?_|refine zd true mixed hE fun K Kp hK hKp anc hanc=>?_|refine zd false mixed hE fun K Kp hK hKp anc hanc=>?_);simp only[go_sem])|(refine zg (fun hg=>?_) (fun hg=>?_)<;>simp only[go_sem,hg])|(refine zc (fun hc=>?_) (fun hc=>?_)<;>try exact zh hc))
   refine Hold.mk (RC.use1 hA' 8 10 3145740 (by decide) (by simp[AV.idsL,AV.ids,go_sem]) (by simp[AV.renL,AV.ren,go_sem]) (by rfl) (by simp only[go_sem,updo];rfl) (by simp only[go_sem,updo]) (fun hpn g8 g9 hold=>?_))
   have g0:=hold 0 (.cells [.str mn,.sl (nml us),.sl (dtl ds),.sl (trl ts),.sl (iml ms),.rw 2]) (by decide) (by decide) (by simp only[go_sem,updo])
   have g1:=hold 1 (.cells [.str ⟨#[]⟩,.nilsl,.nilsl,.nilsl,.nilsl,.nilsl]) (by decide) (by decide) (by simp only[go_sem,updo])
   have g2:=hold 2 (.row 10 (fdl A)) (by decide) (by decide) (by simp only[go_sem,updo])
   have g3:=hold 3 (.cells [.str mn,.sl (nml us),.sl (dtl ds),.sl (trl ts),.sl (iml ms),.sl (fdl fs)]) (by decide) (by decide) (by simp only[go_sem,updo])
   have g4:=hold 4 (.row 10 (fdl B)) (by decide) (by decide) (by simp only[go_sem,updo])
   have g6:=hold 6 (.cells [.str fm,.sl (nml p0),.sl (bdl b0),.sl (adl c0),.sl (adl a0),.str r0.n,.sl (Tx.avL r0.a),.i r0.o,.sl (stl bd),.i of0]) (by decide) (by decide) (by simp only[go_sem,updo])
   clear hold
   simp only[go_sem,putf,g6]
   by_cases hze:z.err=0
   case neg=>
    rw[if_pos hze] at hL
    simp only at hL
    rw[hL] at hQ
    have q:(z.err !=0)=true:=bne_iff_ne.2 hze
    repeat'(first|apply nx|refine zx ?_|rw[zw]|((first|refine hK _ ?_|refine hKp _ _ ?_);clear hK hKp K Kp;try clear hanc anc)|((with_reducible refine And.intro ?_ ?_);exact zb)|((first|refine zr hE fun K Kp hK hKp=>?_|refine zd true mixed hE fun K Kp hK hKp anc hanc=>?_|refine zd false mixed hE fun K Kp hK hKp anc hanc=>?_);simp only[go_sem,g0,g1,g2,g3,g4,g6,g8,g9,q])|(refine zg (fun hg=>?_) (fun hg=>?_)<;>simp only[go_sem,g0,g1,g2,g3,g4,g6,g8,g9,q,hg])|(refine zc (fun hc=>?_) (fun hc=>?_)<;>try exact zh hc))
    simp only at hQ
    refine K_ret (hQ _ ⟨.tup [.agg zMd,.i z.err,.i z.pos],?_,?_,?_,rfl⟩).1
    ·simp[resA,rvA,Tryd.f10,go_sem,zMd,g1];rfl
    ·simp[AV.snapOk,AV.snapOkL,zMd]
    ·rfl
   rw[if_neg (by simpa using hze)] at hL
   have q:(z.err !=0)=false:=by simp[hze]
   repeat'(first|apply nx|refine zx ?_|rw[zw]|((first|refine hK _ ?_|refine hKp _ _ ?_);clear hK hKp K Kp;try clear hanc anc)|((with_reducible refine And.intro ?_ ?_);exact zb)|((first|refine zr hE fun K Kp hK hKp=>?_|refine zd true mixed hE fun K Kp hK hKp anc hanc=>?_|refine zd false mixed hE fun K Kp hK hKp anc hanc=>?_);simp only[go_sem,g0,g1,g2,g3,g4,g6,g8,g9,q,u0])|(refine zg (fun hg=>?_) (fun hg=>?_)<;>simp only[go_sem,g0,g1,g2,g3,g4,g6,g8,g9,q,u0,hg])|(refine zc (fun hc=>?_) (fun hc=>?_)<;>try exact zh hc))
   have ea:=fdl_sn A (.mk fm p0 b0 c0 a0 r0 T of0)
   rw[Fd.av] at ea
   have eb:=(fdl_app B z.out).symm
   refine⟨(i+1,A++[.mk fm p0 b0 c0 a0 r0 T of0],B++z.out),⟨by simp only;omega,by simp only[List.length_append,List.length_cons,List.length_nil];omega,by simp only[List.length_append];omega,?_⟩,by simp only;omega,fun i=>if i=2 then 15728651 else if i=4 then 24117259 else i,?_⟩
   ·rw[hL]
    simp only
    cases liftL dec (List.drop (i+1) fs)<;>simp
   ·refine ent_mk (by simp[go_sem]) ?_ (by simp) (by simp[hN])
    simp[go_sem,g0,g1,g3,ea,eb]
 ·have hie:i=fs.length:=by omega
  subst hie
  rw[List.drop_length,liftL] at hL
  simp only[List.append_nil] at hL
  rw[hL] at hQ
  repeat'(first|apply nx|refine zx ?_|rw[zw]|((first|refine hK _ ?_|refine hKp _ _ ?_);clear hK hKp K Kp;try clear hanc anc)|((with_reducible refine And.intro ?_ ?_);exact zb)|((fail_if_success refine K_stop 17 ?_);(first|refine zr hE fun K Kp hK hKp=>?_|refine zd true mixed hE fun K Kp hK hKp anc hanc=>?_|refine zd false mixed hE fun K Kp hK hKp anc hanc=>?_);simp only[go_sem,ge_dec])|(refine zg (fun hg=>?_) (fun hg=>?_)<;>simp only[go_sem,ge_dec,hg])|(refine zc (fun hc=>?_) (fun hc=>?_)<;>try exact zh hc))
  have eb:=(fdl_app A B).symm
  refine AW.ent (σ':=mkSt [(2,.ptr 1 0),(3,.i 0),(4,.i 0),(5,.ptr 0 0)] [(0,.cells [.str mn,.sl (nml us),.sl (dtl ds),.sl (trl ts),.sl (iml ms),.rw 2]),(1,.cells [.str ⟨#[]⟩,.nilsl,.nilsl,.nilsl,.nilsl,.nilsl]),(2,.row 10 (fdl (A++B)))] 3) (fun i=>if i=2 then 8388614 else i) ?_ ?_
  ·refine ent_mk (by simp[go_sem]) ?_ (by simp) (by simp[hN])
   simp[go_sem,eb]
  refine AW_frzCell 0 5 2 (xs:=fdl (A++B)) (by simp only[go_sem];rfl) rfl (by simp only[go_sem];rfl) (by decide) (fdl_clor _) ?_
  simp only[go_sem]
  repeat'(first|apply nx|refine zx ?_|rw[zw]|((first|refine hK _ ?_|refine hKp _ _ ?_);clear hK hKp K Kp;try clear hanc anc)|((with_reducible refine And.intro ?_ ?_);exact zb)|((first|refine zr hE fun K Kp hK hKp=>?_|refine zd true mixed hE fun K Kp hK hKp anc hanc=>?_|refine zd false mixed hE fun K Kp hK hKp anc hanc=>?_);simp only[go_sem])|(refine zg (fun hg=>?_) (fun hg=>?_)<;>simp only[go_sem,hg])|(refine zc (fun hc=>?_) (fun hc=>?_)<;>try exact zh hc))
  simp only at hQ
  refine K_ret (hQ _ ⟨.tup [.agg [.str mn,.sl (nml us),.sl (dtl ds),.sl (trl ts),.sl (iml ms),.sl (fdl (A++B))],.i 0,.i 0],?_,?_,?_,?_⟩).1
  ·simp[resA,rvA,Tryd.f10,go_sem];rfl
  ·simp[AV.snapOk,AV.snapOkL]
  ·rfl
  ·rfl
end Go.Proofs.YtffmphmiicnaeaaDoor

set_option maxRecDepth 100000
namespace Go.Lf
open Go Go.Am Go.Proofs.YtffmphmiicnaeaaDoor
def cInt:Tx:= .mk ⟨#[73,110,116]⟩ [] 0
def cD:Tx:= .mk ⟨#[68]⟩ [] 0
def nmf:Nm:=⟨#[102]⟩
def nmg:Nm:=⟨#[103]⟩
def nmr:Nm:=⟨#[114]⟩
def nmx:Nm:=⟨#[120]⟩
def nmy:Nm:=⟨#[121]⟩
def nmz:Nm:=⟨#[122]⟩
def nm0:Nm:=⟨#[]⟩
def exN:Ex:=⟨0,nm0,nm0,nm0,[],0,[],0⟩
def stK (k:Int) (n:Nm):Lf.St:= .mk k n [] [] exN [] [] [] [] 0
def exG (a:Nm) (o:Int):Lf.Fd:= .mk nmg [] [] [⟨nmy,cInt,0,0⟩,⟨nmz,cD,1,0⟩] [⟨a,cInt,0,o⟩] cInt [stK 7 nmx] 0
def exB (a:Nm) (o:Int):List Lf.St:=[.mk 13 nm0 [] [] exN [] [] [] [exG a o] 0,.mk 1 nmr [] [] ⟨15,nm0,nmg,nm0,[nmy],0,[],0⟩ [] [] [] [] 0,stK 7 nmr]
def exF (a:Nm) (o:Int) (c:List Ad) (p:Int):Lf.Fd:= .mk nmf [] [] c [⟨nmy,cInt,0,0⟩] cInt (exB a o) p
def exM (a:Nm) (o:Int) (c:List Ad) (p:Int):Md:=⟨⟨#[77]⟩,[],[],[],[],[exF a o c p]⟩
def nmgz:Nm:=⟨#[103,46,122]⟩
def nmf0g:Nm:=⟨#[102,46,48,46,103]⟩
def exL1:Lf.Fd:= .mk nmf [] [] [] [⟨nmy,cInt,0,0⟩] cInt [.mk 1 nmgz [] [] ⟨7,nm0,nm0,nm0,[nmz],0,[],0⟩ [] [] [] [] 0,.mk 1 nmr [] [] ⟨15,nm0,nmf0g,nm0,[nmy,nmgz,nmy],0,[],0⟩ [] [] [] [] 0,stK 7 nmr] 0
def exL2:Lf.Fd:= .mk nmf0g [] [] [] [⟨nmy,cInt,0,0⟩,⟨nmz,.mk ⟨#[38]⟩ [cD] 0,0,0⟩,⟨nmx,cInt,0,0⟩] cInt [stK 7 nmx] 0
def exL:Md:=⟨⟨#[77]⟩,[],[],[],[],[exL1,exL2]⟩
theorem dec0:dec 0=⟨#[48]⟩:=dec_small (by decide)
theorem ex_chk (o:Int):chk [⟨nmy,cInt,0,0⟩,⟨nmz,cD,1,0⟩,⟨nmx,cInt,0,o⟩] 0=none:=by
 simp[chk,twice,inN,nmx,nmy,nmz]
theorem ex_chk2:chk [⟨nmy,cInt,0,0⟩,⟨nmz,cD,1,0⟩,⟨nmz,cInt,0,17⟩] 0=some (7,17):=by
 simp[chk,twice,inN,nmx,nmy,nmz]
theorem ex_li:nmf++dot++(⟨#[48]⟩:Nm)++dot++nmg=nmf0g:=by decide
theorem ex_gz:nmg++dot++nmz=nmgz:=by decide
theorem ex_lift:liftL dec (exM nmx 0 [] 0).fs= .ok ([exL1],[exL2]):=by
 simp[exM,exF,liftL_mk,liftL,exB,exG,stK,blk,stm,locs,loc,dec0,ex_li,ex_chk,Ls.failO,call,exL1,exL2,find,lendS,lendN,ex_gz,arms,argOf,exN]
 exact⟨rfl,rfl⟩
theorem ex_lift2:liftL dec (exM nmz 17 [] 0).fs= .error (7,17):=by
 simp[exM,exF,liftL_mk,liftL,exB,exG,stK,blk,stm,locs,loc,dec0,ex_li,ex_chk2,Ls.failO,Ls.fail,call,exL1,exL2,find,lendS,lendN,ex_gz,arms,argOf,exN]
theorem ex_lift3 (c:List Ad) (hc:0<c.length):liftL dec (exM nmx 0 c 5).fs= .error (1,5):=by
 simp[exM,exF,liftL_mk,hc]
end Go.Lf
