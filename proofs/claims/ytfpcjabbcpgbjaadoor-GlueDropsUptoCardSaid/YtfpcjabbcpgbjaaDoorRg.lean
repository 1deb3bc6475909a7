/- A part of the proof: an abstract machine for the walks, and what the walked functions compute. -/
import Derived.Test.YtfpcjabbcpgbjaaDoorRf
import Derived.Test.YtfpcjabbcpgbjaaDoorHx
import Derived.Test.YtfpcjabbcpgbjaaDoorMq
import Derived.Test.YtfpcjabbcpgbjaaDoorRe
set_option linter.unusedVariables false
set_option linter.unusedSimpArgs false
set_option maxHeartbeats 4000000
set_option maxRecDepth 100000
namespace Go.Proofs.YtfpcjabbcpgbjaaDoor
open Go.Am Go.Proofs Go.Hv Go.Gl
open Classical
attribute [local irreducible] AW jA CallB CallY
def jef (DD:List Dd) (ar:List Bool) (L L1:List Cl) (ok0 ok1:Bool) (c3 p5 q6 pv qv fsv la lb F F2 xv vd wd Av Bv wv:List AV) (j vi:Nat) (D:Nat->Bool) (O:St):Prop:=
 O.nx=8/\O.fr 0=some (.ptr 0 0)/\O.fr 5=some (.ptr 3 0)/\O.fr 8=some (.ptr 4 0)/\O.fr 9=some (.ptr 5 0)/\O.fr 10=some (.ptr 6 0)/\O.fr 12=some (.i (j:Nat))/\(D 30=false->O.fr 11=some (.rw 7))/\(D 27=false->O.hp 0=some (.cells [.sl (ddl DD),.rw 1,.rw 2,.bool ok0]))/\(D 27=false->O.hp 1=some (.row 10 (Hv.cl L)))/\O.hp 2=some (.row 1 (bl ar))/\O.hp 3=some (.cells c3)/\O.hp 4=some (.cells [.i 0,.i 0,.i 0,.i 0,.nilsl,.bool false,.nilsl,.nilsl])/\O.hp 5=some (.cells p5)/\O.hp 6=some (.cells q6)/\(D 29=false->O.hp 7=some (.row 8 F))/\(D 0=true->O.fr 203=some (.rw 7))/\(D 1=true->O.fr 204=some (.ptr 0 0))/\(D 2=true->O.fr 205=some (.ptr 3 4))/\(D 3=true->O.fr 206=some (.sl fsv))/\(D 4=true->O.fr 207=some (.i (j:Nat)))/\(D 5=true->O.fr 208=some ((AV.agg xv).eptr 0))/\(D 6=true->O.fr 209=some (.agg xv))/\(D 7=true->O.fr 210=some (.ptr 5 3))/\(D 8=true->O.fr 211=some (.sl pv))/\(D 9=true->O.fr 212=some (.ptr 3 2))/\(D 10=true->O.fr 213=some (.i (vi:Nat)))/\(D 11=true->O.fr 214=some ((AV.agg vd).eptr 0))/\(D 12=true->O.fr 215=some ((AV.agg vd).eptr 1))/\(D 13=true->O.fr 216=some (.sl la))/\(D 14=true->O.fr 217=some (.i (j:Nat)))/\(D 15=true->O.fr 218=some ((AV.agg Av).eptr 0))/\(D 16=true->O.fr 219=some (.agg Av))/\(D 17=true->O.fr 220=some (.ptr 6 3))/\(D 18=true->O.fr 221=some (.sl qv))/\(D 19=true->O.fr 222=some (.ptr 3 2))/\(D 20=true->O.fr 223=some (.i (vi:Nat)))/\(D 21=true->O.fr 224=some ((AV.agg wd).eptr 0))/\(D 22=true->O.fr 225=some ((AV.agg wd).eptr 1))/\(D 23=true->O.fr 226=some (.sl lb))/\(D 24=true->O.fr 227=some (.i (j:Nat)))/\(D 25=true->O.fr 228=some ((AV.agg Bv).eptr 0))/\(D 26=true->O.fr 229=some (.agg Bv))/\(D 27=true->O.fr 230=some (.agg wv))/\(D 28=true->O.fr 231=some (.rw 29360136))/\(D 29=true->O.fr 232=some (.rw 30408712))/\(D 30=true->O.fr 11=some (.rw 30408712))/\(D 27=true->O.hp 0=some (.cells [.sl (ddl DD),.rw 1,.rw 2,.bool ok1]))/\(D 27=true->O.hp 1=some (.row 10 (Hv.cl L1)))/\(D 28=true->O.hp 29360136=some (.row 8 [.agg wv]))/\(D 29=true->O.hp 30408712=some (.row 8 F2))/\(D 30=true->D 29=true)/\(D 30=true->D 0=true)
theorem Xv {D : List Dd} (hD : DB D) (hdt : dtB D = true) {ar : List Bool} {h : Hp} (hl20 : h.cells.length <= 2 ^ 20) (hM : ∀ c, c ∈ h.cells -> c.v.sz <= 2 ^ 20) {k : Nat}
    (kd id vr n:Int) (fs:List Vl) (e:Bool) (p l:List Int) (o o':Ow) (a b:Ty) (s:Rs) (hs:(Vl.mk kd id vr n fs e p l).sz<=2 ^ 20) (ho:o.Ok h) (hv:jP h (jy h k) (.mk kd id vr n fs e p l) o=some o') (hI:Rin h o s) (hpa:Pl D a) (hpb:Pl D b) (hso:s.ok=true) (hkk:(a.kind !=b.kind)=false) (h2:a.kind=2) (ih:∀ N,N<(Vl.mk kd id vr n fs e p l).sz->jbE D ar h k N):
    MCallR Tryd.prog 17 [.ptr 0 0,(Vl.mk kd id vr n fs e p l).av,a.av,b.av] (ou D ar) 3 3 s (Jc D (j4 D k) (.mk kd id vr n fs e p l) a b s).2.av (fun s'=>s'=(Jc D (j4 D k) (.mk kd id vr n fs e p l) a b s).1):=by
  have hka:=yL hpa
  have hkb:=yL hpb
  have hLl:=hI.len
  rw[Vl.av_eq (.mk kd id vr n fs e p l),Ty.av_eq a,Ty.av_eq b]
  simp only[Vl.kind,Vl.id,Vl.var,Vl.n,Vl.fs,Vl.excl,Vl.path,Vl.loans]
  refine MCallR.intro (Vl.av_clo _) Tryd.func17 jcQ rfl (by simp[Tryd.f17]) fun E Q hE hN hMk hQ=>jg ?_
  repeat'(first|apply nx|refine zx ?_|rw[zw]|refine zk ?_|refine zp ?_|(apply zA;exact zb)|((fail_if_success refine j3 1 ?_);(first|refine zR hE @fun K Kp hK hKp hg=>?_|refine zT hE @fun K Kp hK hKp anc hanc hg=>?_|refine zF hE @fun K Kp hK hKp anc hanc hg=>?_|refine zg (fun hg=>?_) fun hg=>?_)<;>simp only[go_sem,Xa,hg])|(refine zc (fun hc=>?_) (fun hc=>?_)<;>try exact zh hc))
  refine AW.ent (O':=jx [(0,.ptr 0 0),(5,.ptr 3 0),(6,.ptr 4 0),(7,.ptr 5 0),(8,.ptr 6 0)] (lsX D ar s kd id vr n (.sl (Vl.avL fs)) e p l a b zV) 7) (fun i=>if i=4 then 1048579 else if i=5 then 2097155 else if i=6 then 3145731 else i) ?_ ?_
  · refine jc (by simp[go_sem]) ?_ (by simp) (by rw[hN];exact fun id hid=>⟨by rw[if_neg (by omega),if_neg (by omega),if_neg (by omega)],by omega⟩)
    simp[go_sem,ou,jp,jb,zV]
  unfold lsX zV
  rw[hso]
  have hs0:¬ ((!s.ok||a.kind !=b.kind)=true):=by simp[hso,hkk]
  have h1:¬ a.kind=1:=by omega
  have h4:¬ a.kind=4:=by omega
  have h3:¬ a.kind=3:=by omega
  have q1:(a.kind==1)=false:=by simp[h1]
  have q4:(a.kind==4)=false:=by simp[h4]
  have q3:(a.kind==3)=false:=by simp[h3]
  have q2:(a.kind==2)=true:=by simp[h2]
  have hk2:a.kind=b.kind:=by simpa using hkk
  obtain⟨p1,hp1,ha0,_⟩:=yK hpa h2
  obtain⟨p2,hp2,hb0,_⟩:=yK hpb (hk2▸h2)
  obtain⟨ia,hia⟩:=Int.eq_ofNat_of_zero_le ha0
  obtain⟨ib,hib⟩:=Int.eq_ofNat_of_zero_le hb0
  have er:Jc D (j4 D k) (.mk kd id vr n fs e p l) a b s=if Uz D kd id vr fs.length a b then((J8 D (j4 D k) fs (gh D a vr) (gh D b vr) s).1,.mk kd b.id vr n (J8 D (j4 D k) fs (gh D a vr) (gh D b vr) s).2 e p l) else(⟨s.L,false⟩,.mk kd id vr n fs e p l):=by rw[Jc,if_neg hs0,if_neg h1,if_neg h4,if_neg h3,if_pos h2]
  have efit:Uz D kd id vr fs.length a b=(kd==2&&(id==a.id&&(decide (0<=vr)&&(decide (vr<(p1.vs.length:Int))&&(decide (vr<(p2.vs.length:Int))&&((fs.length==((p1.vs[vr.toNat]?).map fun v=>v.fs.length).getD 0)&&(fs.length==((p2.vs[vr.toNat]?).map fun v=>v.fs.length).getD 0))))))):=by unfold Uz;rw[hp1,hp2]
  have efa:gh D a vr=((p1.vs[vr.toNat]?).map Dv.fs).getD []:=by unfold gh;rw[hp1]
  have efb:gh D b vr=((p2.vs[vr.toNat]?).map Dv.fs).getD []:=by unfold gh;rw[hp2]
  rw[hia,Int.toNat_natCast] at hp1
  rw[hib,Int.toNat_natCast] at hp2
  rw[er,efit,efa,efb,hia,hib] at hQ
  rw[hia,hib]
  have la:=(List.getElem?_eq_some_iff.1 hp1).1
  have lb:=(List.getElem?_eq_some_iff.1 hp2).1
  repeat'(first|apply nx|refine zx ?_|rw[zw]|refine zk ?_|refine zp ?_|(apply zA;exact zb)|((fail_if_success refine j3 17 ?_);(first|refine zR hE @fun K Kp hK hKp hg=>?_|refine zT hE @fun K Kp hK hKp anc hanc hg=>?_|refine zF hE @fun K Kp hK hKp anc hanc hg=>?_|refine zg (fun hg=>?_) fun hg=>?_)<;>simp only[go_sem,hkk,q1,q4,q3,q2,ja la,ja lb,hp1,hp2,Dd.av_eq,hg])|(refine zc (fun hc=>?_) (fun hc=>?_)<;>try exact zh hc))
  refine AW.ent (O':=jx [(0,.ptr 0 0),(5,.ptr 3 0),(6,.ptr 4 0),(7,.ptr 5 0),(8,.ptr 6 0),(9,.ptr 7 0),(10,.ptr 8 0)] [(0,.cells [.sl (ddl D),.rw 1,.rw 2,.bool true]),(1,.row 10 (Hv.cl s.L)),(2,.row 1 (bl ar)),(3,.cells [.i kd,.i id,.i vr,.i n,.sl (Vl.avL fs),.bool e,.sl (il p),.sl (il l)]),(4,.cells [.i a.kind,.i (ia:Nat),.sl (Ty.avL a.args)]),(5,.cells [.i b.kind,.i (ib:Nat),.sl (Ty.avL b.args)]),(6,.cells [.i 0,.i 0,.i 0,.i 0,.nilsl,.bool false,.nilsl,.nilsl]),(7,.cells [.str p1.nm,.i p1.md,.i p1.pr,.sl (dvl p1.vs),.i p1.dr]),(8,.cells [.str p2.nm,.i p2.md,.i p2.pr,.sl (dvl p2.vs),.i p2.dr])] 9) (fun i=>if i=7 then 31457287 else if i=8 then 41943047 else i) ?_ ?_
  · refine jc (by simp[go_sem]) ?_ (by simp) (by rw[hN];exact fun id hid=>⟨by rw[if_neg (by omega),if_neg (by omega)],by omega⟩)
    simp[go_sem]
  by_cases c1:kd=2
  case neg=>
    rw[if_neg (by simp[c1])] at hQ
    have r1:(kd==2)=false:=by simp[c1]
    repeat'(first|apply nx|refine zx ?_|rw[zw]|refine zk ?_|refine zp ?_|(apply zA;exact zb)|((first|refine zR hE @fun K Kp hK hKp hg=>?_|refine zT hE @fun K Kp hK hKp anc hanc hg=>?_|refine zF hE @fun K Kp hK hKp anc hanc hg=>?_|refine zg (fun hg=>?_) fun hg=>?_)<;>simp only[go_sem,r1,hg])|(refine zc (fun hc=>?_) (fun hc=>?_)<;>try exact zh hc))
    refine je (hQ _ (by rw[Vl.av];exact jU (id:=6) (off:=0) (by simp only[go_sem]) gy (by simp only[go_sem];rfl) rfl) ⟨fun i=>i,3,_,?_,rfl⟩).1
    exact gG (by simp only[go_sem]) (by simp only[go_sem]) (by simp only[go_sem])
  have r1:(kd==2)=true:=by simp[c1]
  by_cases c2:id=((ia:Nat):Int)
  case neg=>
    rw[if_neg (by simp[c2])] at hQ
    have r2:(id==((ia:Nat):Int))=false:=by simp[c2]
    repeat'(first|apply nx|refine zx ?_|rw[zw]|refine zk ?_|refine zp ?_|(apply zA;exact zb)|((first|refine zR hE @fun K Kp hK hKp hg=>?_|refine zT hE @fun K Kp hK hKp anc hanc hg=>?_|refine zF hE @fun K Kp hK hKp anc hanc hg=>?_|refine zg (fun hg=>?_) fun hg=>?_)<;>simp only[go_sem,r1,r2,hg])|(refine zc (fun hc=>?_) (fun hc=>?_)<;>try exact zh hc))
    refine je (hQ _ (by rw[Vl.av];exact jU (id:=6) (off:=0) (by simp only[go_sem]) gy (by simp only[go_sem];rfl) rfl) ⟨fun i=>i,3,_,?_,rfl⟩).1
    exact gG (by simp only[go_sem]) (by simp only[go_sem]) (by simp only[go_sem])
  have r2:(id==((ia:Nat):Int))=true:=by simp[c2]
  by_cases c3:0<=vr
  case neg=>
    rw[if_neg (by simp[c3])] at hQ
    have r3:decide (vr>=0)=false:=decide_eq_false (by omega)
    repeat'(first|apply nx|refine zx ?_|rw[zw]|refine zk ?_|refine zp ?_|(apply zA;exact zb)|((first|refine zR hE @fun K Kp hK hKp hg=>?_|refine zT hE @fun K Kp hK hKp anc hanc hg=>?_|refine zF hE @fun K Kp hK hKp anc hanc hg=>?_|refine zg (fun hg=>?_) fun hg=>?_)<;>simp only[go_sem,r1,r2,r3,hg])|(refine zc (fun hc=>?_) (fun hc=>?_)<;>try exact zh hc))
    refine je (hQ _ (by rw[Vl.av];exact jU (id:=6) (off:=0) (by simp only[go_sem]) gy (by simp only[go_sem];rfl) rfl) ⟨fun i=>i,3,_,?_,rfl⟩).1
    exact gG (by simp only[go_sem]) (by simp only[go_sem]) (by simp only[go_sem])
  have r3:decide (vr>=0)=true:=decide_eq_true (by omega)
  obtain⟨vi,rfl⟩:=Int.eq_ofNat_of_zero_le c3
  rw[Int.toNat_natCast] at hQ
  by_cases c4:vi<p1.vs.length
  case neg=>
    rw[if_neg (by simp[show ¬ ((vi:Nat):Int)<(p1.vs.length:Int) by omega])] at hQ
    have r4:decide (((vi:Nat):Int)<(p1.vs.length:Int))=false:=decide_eq_false (by omega)
    repeat'(first|apply nx|refine zx ?_|rw[zw]|refine zk ?_|refine zp ?_|(apply zA;exact zb)|((first|refine zR hE @fun K Kp hK hKp hg=>?_|refine zT hE @fun K Kp hK hKp anc hanc hg=>?_|refine zF hE @fun K Kp hK hKp anc hanc hg=>?_|refine zg (fun hg=>?_) fun hg=>?_)<;>simp only[go_sem,r1,r2,r3,r4,hg])|(refine zc (fun hc=>?_) (fun hc=>?_)<;>try exact zh hc))
    refine je (hQ _ (by rw[Vl.av];exact jU (id:=6) (off:=0) (by simp only[go_sem]) gy (by simp only[go_sem];rfl) rfl) ⟨fun i=>i,3,_,?_,rfl⟩).1
    exact gG (by simp only[go_sem]) (by simp only[go_sem]) (by simp only[go_sem])
  have r4:decide (((vi:Nat):Int)<(p1.vs.length:Int))=true:=decide_eq_true (by omega)
  by_cases c5:vi<p2.vs.length
  case neg=>
    rw[if_neg (by simp[show ¬ ((vi:Nat):Int)<(p2.vs.length:Int) by omega])] at hQ
    have r5:decide (((vi:Nat):Int)<(p2.vs.length:Int))=false:=decide_eq_false (by omega)
    repeat'(first|apply nx|refine zx ?_|rw[zw]|refine zk ?_|refine zp ?_|(apply zA;exact zb)|((first|refine zR hE @fun K Kp hK hKp hg=>?_|refine zT hE @fun K Kp hK hKp anc hanc hg=>?_|refine zF hE @fun K Kp hK hKp anc hanc hg=>?_|refine zg (fun hg=>?_) fun hg=>?_)<;>simp only[go_sem,r1,r2,r3,r4,r5,hg])|(refine zc (fun hc=>?_) (fun hc=>?_)<;>try exact zh hc))
    refine je (hQ _ (by rw[Vl.av];exact jU (id:=6) (off:=0) (by simp only[go_sem]) gy (by simp only[go_sem];rfl) rfl) ⟨fun i=>i,3,_,?_,rfl⟩).1
    exact gG (by simp only[go_sem]) (by simp only[go_sem]) (by simp only[go_sem])
  have r5:decide (((vi:Nat):Int)<(p2.vs.length:Int))=true:=decide_eq_true (by omega)
  obtain⟨v1,hv1⟩:=get?_of c4
  obtain⟨w1,hw1⟩:=get?_of c5
  rw[hv1,hw1] at hQ
  simp only[Option.map_some,Option.getD_some] at hQ
  by_cases c6:fs.length=v1.fs.length
  case neg=>
    rw[if_neg (by simp[c6])] at hQ
    have r6:((fs.length:Int)==(v1.fs.length:Int))=false:=by simp;omega
    repeat'(first|apply nx|refine zx ?_|rw[zw]|refine zk ?_|refine zp ?_|(apply zA;exact zb)|((first|refine zR hE @fun K Kp hK hKp hg=>?_|refine zT hE @fun K Kp hK hKp anc hanc hg=>?_|refine zF hE @fun K Kp hK hKp anc hanc hg=>?_|refine zg (fun hg=>?_) fun hg=>?_)<;>simp only[go_sem,r1,r2,r3,r4,r5,ja c4,ja c5,hv1,hw1,Dv.av_eq,r6,hg])|(refine zc (fun hc=>?_) (fun hc=>?_)<;>try exact zh hc))
    refine je (hQ _ (by rw[Vl.av];exact jU (id:=6) (off:=0) (by simp only[go_sem]) gy (by simp only[go_sem];rfl) rfl) ⟨fun i=>i,3,_,?_,rfl⟩).1
    exact gG (by simp only[go_sem]) (by simp only[go_sem]) (by simp only[go_sem])
  have r6:((fs.length:Int)==(v1.fs.length:Int))=true:=by simp;omega
  by_cases c7:fs.length=w1.fs.length
  case neg=>
    rw[if_neg (by simp[c7])] at hQ
    have r7:((fs.length:Int)==(w1.fs.length:Int))=false:=by simp;omega
    repeat'(first|apply nx|refine zx ?_|rw[zw]|refine zk ?_|refine zp ?_|(apply zA;exact zb)|((first|refine zR hE @fun K Kp hK hKp hg=>?_|refine zT hE @fun K Kp hK hKp anc hanc hg=>?_|refine zF hE @fun K Kp hK hKp anc hanc hg=>?_|refine zg (fun hg=>?_) fun hg=>?_)<;>simp only[go_sem,r1,r2,r3,r4,r5,ja c4,ja c5,hv1,hw1,Dv.av_eq,r6,r7,hg])|(refine zc (fun hc=>?_) (fun hc=>?_)<;>try exact zh hc))
    refine je (hQ _ (by rw[Vl.av];exact jU (id:=6) (off:=0) (by simp only[go_sem]) gy (by simp only[go_sem];rfl) rfl) ⟨fun i=>i,3,_,?_,rfl⟩).1
    exact gG (by simp only[go_sem]) (by simp only[go_sem]) (by simp only[go_sem])
  have r7:((fs.length:Int)==(w1.fs.length:Int))=true:=by simp;omega
  rw[if_pos (by simp only[r1,r2,decide_eq_true c3,r4,r5,beq_iff_eq.2 c6,beq_iff_eq.2 c7,Bool.and_self])] at hQ
  repeat'(first|apply nx|refine zx ?_|rw[zw]|refine zk ?_|refine zp ?_|(apply zA;exact zb)|((first|refine zR hE @fun K Kp hK hKp hg=>?_|refine zT hE @fun K Kp hK hKp anc hanc hg=>?_|refine zF hE @fun K Kp hK hKp anc hanc hg=>?_|refine zg (fun hg=>?_) fun hg=>?_)<;>simp only[go_sem,r1,r2,r3,r4,r5,ja c4,ja c5,hv1,hw1,Dv.av_eq,r6,r7,hg])|(refine zc (fun hc=>?_) (fun hc=>?_)<;>try exact zh hc))
  refine gz 11 8 (by rw[hE];decide) (by simp only[go_sem]) ?_
  try dsimp only
  try simp only[Nat.reduceAdd]
  have hlf:=Vl.len_le fs
  rw[Vl.sz] at hs
  rw[jP,if_pos c1] at hv
  refine jB (X:=Nat×Rs×List Vl×Ow) (fun z=>z.1<=fs.length/\z.2.2.1.length=z.1/\z.2.2.2.Ok h/\Rin h z.2.2.2 z.2.1/\Jk h (jy h k) (fs.drop z.1) z.2.2.2=some o'/\J8 D (j4 D k) fs v1.fs w1.fs s=((J8 D (j4 D k) (fs.drop z.1) (v1.fs.drop z.1) (w1.fs.drop z.1) z.2.1).1,z.2.2.1++(J8 D (j4 D k) (fs.drop z.1) (v1.fs.drop z.1) (w1.fs.drop z.1) z.2.1).2))
    (fun z=>jx [(0,.ptr 0 0),(5,.ptr 3 0),(8,.ptr 4 0),(9,.ptr 5 0),(10,.ptr 6 0),(11,.rw 7),(12,.i (z.1:Nat))] [(0,.cells [.sl (ddl D),.rw 1,.rw 2,.bool z.2.1.ok]),(1,.row 10 (Hv.cl z.2.1.L)),(2,.row 1 (bl ar)),(3,.cells [.i kd,.i (ib:Nat),.i (vi:Nat),.i n,.sl (Vl.avL fs),.bool e,.sl (il p),.sl (il l)]),(4,.cells [.i 0,.i 0,.i 0,.i 0,.nilsl,.bool false,.nilsl,.nilsl]),(5,.cells [.str p1.nm,.i p1.md,.i p1.pr,.sl (dvl p1.vs),.i p1.dr]),(6,.cells [.str p2.nm,.i p2.md,.i p2.pr,.sl (dvl p2.vs),.i p2.dr]),(7,.row 8 (Vl.avL z.2.2.1))] 8) (fun z=>fs.length - z.1) (0,s,[],{ o with ids:=o.ids++[id] }) ⟨Nat.zero_le _,rfl,⟨ho.nd,ho.lt,ho.and,ho.alt⟩,⟨hI.len,hI.out,hI.mrk⟩,by simpa using hv,by simp⟩ (fun i=>if i=4 then 6 else if i=5 then 7 else if i=6 then 8 else if i=7 then 77594633 else i) ?_ ?_
  · refine jc (by simp[go_sem]) ?_ (by simp) (by rw[hN];exact fun id hid=>⟨by rw[if_neg (by omega),if_neg (by omega),if_neg (by omega),if_neg (by omega)],by omega⟩)
    simp[go_sem,hso,Vl.avL]
  rintro⟨j,sj,fj,oj⟩ ⟨hj,hfl,hoj,hIj,hvj,hrj⟩
  simp only at hj hfl hoj hIj hvj hrj
  dsimp only
  by_cases hlt:j<fs.length
  · obtain⟨x,hx⟩:=get?_of hlt
    obtain⟨A,hA⟩:=get?_of (show j<v1.fs.length by omega)
    obtain⟨B,hB⟩:=get?_of (show j<w1.fs.length by omega)
    rw[jS hx,Jk] at hvj
    obtain⟨o1,hw1',hw2⟩:=Option.bind_eq_some_iff.1 hvj
    rw[jS hx,jS hA,jS hB,J8] at hrj
    have hxm:=Vl.sz_mem (List.mem_of_getElem? hx)
    have hpA:=uH hdt (a:=a) hp1 (List.mem_of_getElem? hv1) (List.mem_of_getElem? hA)
    have hpB:=uH hdt (a:=a) hp2 (List.mem_of_getElem? hw1) (List.mem_of_getElem? hB)
    have hcal:=ih x.sz (by rw[Vl.sz];omega) x oj o1 A B sj (Nat.le_refl _) hoj hw1' hIj hpA hpB
    obtain⟨i1,_⟩:=yj (yi (D:=D) k) x oj o1 A B sj hoj hw1' hIj
    obtain⟨hok1,_⟩:=jD (jo h k) x oj o1 hoj hw1'
    generalize hs1:(Jc D (j4 D k) x A B sj).1=s1 at*
    generalize hw0:(Jc D (j4 D k) x A B sj).2=w at*
    have lA:j<v1.fs.length:=by omega
    have lB:j<w1.fs.length:=by omega
    have u2:=JA hlt (by omega)
    have hFit:Fits (fj.length+1) 112:=⟨by omega,by omega⟩
    have e29:Vl.avL fj++[.agg [.i w.kind,.i w.id,.i w.var,.i w.n,.sl (Vl.avL w.fs),.bool w.excl,.sl (il w.path),.sl (il w.loans)]]=Vl.avL (fj++[w]):=by rw[<- Vl.av_eq];simp[Vl.avL_eq]
    rw[Vl.av_eq x,Ty.av_eq A,Ty.av_eq B,Vl.av_eq w] at hcal
    repeat'(first|apply nx|refine zx ?_|rw[zw]|refine zk ?_|refine zp ?_|(apply zA;exact zb)|((fail_if_success refine j3 25 ?_);(first|refine zR hE @fun K Kp hK hKp hg=>?_|refine zT hE @fun K Kp hK hKp anc hanc hg=>?_|refine zF hE @fun K Kp hK hKp anc hanc hg=>?_|refine zg (fun hg=>?_) fun hg=>?_)<;>simp only[go_sem,ja hlt,hg])|(refine zc (fun hc=>?_) (fun hc=>?_)<;>try exact zh hc))
    refine AW.ent (O':=jx [(0,.ptr 0 0),(5,.ptr 3 0),(8,.ptr 4 0),(9,.ptr 5 0),(10,.ptr 6 0),(11,.rw 7),(12,.i (j:Nat))] [(0,.cells [.sl (ddl D),.rw 1,.rw 2,.bool sj.ok]),(1,.row 10 (Hv.cl sj.L)),(2,.row 1 (bl ar)),(3,.cells [.i kd,.i (ib:Nat),.i (vi:Nat),.i n,.sl (Vl.avL fs),.bool e,.sl (il p),.sl (il l)]),(4,.cells [.i 0,.i 0,.i 0,.i 0,.nilsl,.bool false,.nilsl,.nilsl]),(5,.cells [.str p1.nm,.i p1.md,.i p1.pr,.sl (dvl p1.vs),.i p1.dr]),(6,.cells [.str p2.nm,.i p2.md,.i p2.pr,.sl (dvl p2.vs),.i p2.dr]),(7,.row 8 (Vl.avL fj))] 8) (fun i=>i) ?_ ?_
    · refine jc (by simp[go_sem]) (by simp[go_sem]) (by simp) (by rw[hN];exact fun id hid=>⟨rfl,by omega⟩)
    repeat(first|apply w1|apply w2)
    refine uZ (n:=31) (jef D ar sj.L s1.L sj.ok s1.ok [.i kd,.i (ib:Nat),.i (vi:Nat),.i n,.sl (Vl.avL fs),.bool e,.sl (il p),.sl (il l)] [.str p1.nm,.i p1.md,.i p1.pr,.sl (dvl p1.vs),.i p1.dr] [.str p2.nm,.i p2.md,.i p2.pr,.sl (dvl p2.vs),.i p2.dr] (dvl p1.vs) (dvl p2.vs) (Vl.avL fs) (Ty.avL v1.fs) (Ty.avL w1.fs) (Vl.avL fj) (Vl.avL (fj++[w])) [.i x.kind,.i x.id,.i x.var,.i x.n,.sl (Vl.avL x.fs),.bool x.excl,.sl (il x.path),.sl (il x.loans)] [.str v1.nm,.sl (Ty.avL v1.fs)] [.str w1.nm,.sl (Ty.avL w1.fs)] [.i A.kind,.i A.id,.sl (Ty.avL A.args)] [.i B.kind,.i B.id,.sl (Ty.avL B.args)] [.i w.kind,.i w.id,.i w.var,.i w.n,.sl (Vl.avL w.fs),.bool w.excl,.sl (il w.path),.sl (il w.loans)] j vi) mixed hE ?_ ?_ (fun Kp hKp=>?_) ?_ rfl
    · intro D D' O h
      have:=fun j=>(h j).symm
      unfold jef
      simp only[this]
      exact fun h=>h
    · simp[jef,go_sem,hx,hv1,hw1,hA,hB,ja hlt,ja c4,ja c5,ja lA,ja lB,Vl.av_eq x,Dv.av_eq,Ty.av_eq A,Ty.av_eq B,e29]
    · refine⟨?_,?_,?_,?_,?_,?_,?_,?_,?_,?_,?_,?_,?_,?_,?_,?_,?_,?_,?_,?_,?_,?_,?_,?_,?_,?_,?_,?_,?_,?_,?_,trivial⟩
      all_goals rintro D' ⟨fr,hp,nx⟩ hD' hr ⟨hn,f0,f5,f8,f9,f10,f12,f11,h0,h1,h2,h3,h4,h5,h6,h7,d0,d1,d2,d3,d4,d5,d6,d7,d8,d9,d10,d11,d12,d13,d14,d15,d16,d17,d18,d19,d20,d21,d22,d23,d24,d25,d26,d27,d28,d29,d30,s27h0,s27h1,e28,e29,o30_29,o30_0⟩
      all_goals simp[Region.binds] at hn f0 f5 f8 f9 f10 f12 f11 h0 h1 h2 h3 h4 h5 h6 h7 d0 d1 d2 d3 d4 d5 d6 d7 d8 d9 d10 d11 d12 d13 d14 d15 d16 d17 d18 d19 d20 d21 d22 d23 d24 d25 d26 d27 d28 d29 d30 s27h0 s27h1 e28 e29 o30_29 o30_0 hD' hr
      all_goals subst hn
      all_goals try clear hQ
      have zf11:=f11 (by first|(simp[hr,hD'];done)|(cases hq:D' 30<;>simp_all))
      simp only[go_sem,zf11,hx,hv1,hw1,hA,hB,ja hlt,ja c4,ja c5,ja lA,ja lB,Vl.av_eq x,Dv.av_eq,Ty.av_eq A,Ty.av_eq B,e29]
      rotate_left
      simp only[go_sem,f0,hx,hv1,hw1,hA,hB,ja hlt,ja c4,ja c5,ja lA,ja lB,Vl.av_eq x,Dv.av_eq,Ty.av_eq A,Ty.av_eq B,e29]
      rotate_left
      simp only[go_sem,f5,hx,hv1,hw1,hA,hB,ja hlt,ja c4,ja c5,ja lA,ja lB,Vl.av_eq x,Dv.av_eq,Ty.av_eq A,Ty.av_eq B,e29]
      rotate_left
      have zd2:=d2 (by simp[hr,hD'])
      simp only[go_sem,zd2,h3,hx,hv1,hw1,hA,hB,ja hlt,ja c4,ja c5,ja lA,ja lB,Vl.av_eq x,Dv.av_eq,Ty.av_eq A,Ty.av_eq B,e29]
      rotate_left
      simp only[go_sem,f12,hx,hv1,hw1,hA,hB,ja hlt,ja c4,ja c5,ja lA,ja lB,Vl.av_eq x,Dv.av_eq,Ty.av_eq A,Ty.av_eq B,e29]
      rotate_left
      have zd3:=d3 (by simp[hr,hD'])
      have zd4:=d4 (by simp[hr,hD'])
      simp only[go_sem,zd3,zd4,hx,hv1,hw1,hA,hB,ja hlt,ja c4,ja c5,ja lA,ja lB,Vl.av_eq x,Dv.av_eq,Ty.av_eq A,Ty.av_eq B,e29]
      rotate_left
      have zd5:=d5 (by simp[hr,hD'])
      simp only[go_sem,zd5,hx,hv1,hw1,hA,hB,ja hlt,ja c4,ja c5,ja lA,ja lB,Vl.av_eq x,Dv.av_eq,Ty.av_eq A,Ty.av_eq B,e29]
      rotate_left
      simp only[go_sem,f9,hx,hv1,hw1,hA,hB,ja hlt,ja c4,ja c5,ja lA,ja lB,Vl.av_eq x,Dv.av_eq,Ty.av_eq A,Ty.av_eq B,e29]
      rotate_left
      have zd7:=d7 (by simp[hr,hD'])
      simp only[go_sem,zd7,h5,hx,hv1,hw1,hA,hB,ja hlt,ja c4,ja c5,ja lA,ja lB,Vl.av_eq x,Dv.av_eq,Ty.av_eq A,Ty.av_eq B,e29]
      rotate_left
      simp only[go_sem,f5,hx,hv1,hw1,hA,hB,ja hlt,ja c4,ja c5,ja lA,ja lB,Vl.av_eq x,Dv.av_eq,Ty.av_eq A,Ty.av_eq B,e29]
      rotate_left
      have zd9:=d9 (by simp[hr,hD'])
      simp only[go_sem,zd9,h3,hx,hv1,hw1,hA,hB,ja hlt,ja c4,ja c5,ja lA,ja lB,Vl.av_eq x,Dv.av_eq,Ty.av_eq A,Ty.av_eq B,e29]
      rotate_left
      have zd8:=d8 (by simp[hr,hD'])
      have zd10:=d10 (by simp[hr,hD'])
      simp only[go_sem,zd8,zd10,hx,hv1,hw1,hA,hB,ja hlt,ja c4,ja c5,ja lA,ja lB,Vl.av_eq x,Dv.av_eq,Ty.av_eq A,Ty.av_eq B,e29]
      rotate_left
      have zd11:=d11 (by simp[hr,hD'])
      simp only[go_sem,zd11,hx,hv1,hw1,hA,hB,ja hlt,ja c4,ja c5,ja lA,ja lB,Vl.av_eq x,Dv.av_eq,Ty.av_eq A,Ty.av_eq B,e29]
      rotate_left
      have zd12:=d12 (by simp[hr,hD'])
      simp only[go_sem,zd12,hx,hv1,hw1,hA,hB,ja hlt,ja c4,ja c5,ja lA,ja lB,Vl.av_eq x,Dv.av_eq,Ty.av_eq A,Ty.av_eq B,e29]
      rotate_left
      simp only[go_sem,f12,hx,hv1,hw1,hA,hB,ja hlt,ja c4,ja c5,ja lA,ja lB,Vl.av_eq x,Dv.av_eq,Ty.av_eq A,Ty.av_eq B,e29]
      rotate_left
      have zd13:=d13 (by simp[hr,hD'])
      have zd14:=d14 (by simp[hr,hD'])
      simp only[go_sem,zd13,zd14,hx,hv1,hw1,hA,hB,ja hlt,ja c4,ja c5,ja lA,ja lB,Vl.av_eq x,Dv.av_eq,Ty.av_eq A,Ty.av_eq B,e29]
      rotate_left
      have zd15:=d15 (by simp[hr,hD'])
      simp only[go_sem,zd15,hx,hv1,hw1,hA,hB,ja hlt,ja c4,ja c5,ja lA,ja lB,Vl.av_eq x,Dv.av_eq,Ty.av_eq A,Ty.av_eq B,e29]
      rotate_left
      simp only[go_sem,f10,hx,hv1,hw1,hA,hB,ja hlt,ja c4,ja c5,ja lA,ja lB,Vl.av_eq x,Dv.av_eq,Ty.av_eq A,Ty.av_eq B,e29]
      rotate_left
      have zd17:=d17 (by simp[hr,hD'])
      simp only[go_sem,zd17,h6,hx,hv1,hw1,hA,hB,ja hlt,ja c4,ja c5,ja lA,ja lB,Vl.av_eq x,Dv.av_eq,Ty.av_eq A,Ty.av_eq B,e29]
      rotate_left
      simp only[go_sem,f5,hx,hv1,hw1,hA,hB,ja hlt,ja c4,ja c5,ja lA,ja lB,Vl.av_eq x,Dv.av_eq,Ty.av_eq A,Ty.av_eq B,e29]
      rotate_left
      have zd19:=d19 (by simp[hr,hD'])
      simp only[go_sem,zd19,h3,hx,hv1,hw1,hA,hB,ja hlt,ja c4,ja c5,ja lA,ja lB,Vl.av_eq x,Dv.av_eq,Ty.av_eq A,Ty.av_eq B,e29]
      rotate_left
      have zd18:=d18 (by simp[hr,hD'])
      have zd20:=d20 (by simp[hr,hD'])
      simp only[go_sem,zd18,zd20,hx,hv1,hw1,hA,hB,ja hlt,ja c4,ja c5,ja lA,ja lB,Vl.av_eq x,Dv.av_eq,Ty.av_eq A,Ty.av_eq B,e29]
      rotate_left
      have zd21:=d21 (by simp[hr,hD'])
      simp only[go_sem,zd21,hx,hv1,hw1,hA,hB,ja hlt,ja c4,ja c5,ja lA,ja lB,Vl.av_eq x,Dv.av_eq,Ty.av_eq A,Ty.av_eq B,e29]
      rotate_left
      have zd22:=d22 (by simp[hr,hD'])
      simp only[go_sem,zd22,hx,hv1,hw1,hA,hB,ja hlt,ja c4,ja c5,ja lA,ja lB,Vl.av_eq x,Dv.av_eq,Ty.av_eq A,Ty.av_eq B,e29]
      rotate_left
      simp only[go_sem,f12,hx,hv1,hw1,hA,hB,ja hlt,ja c4,ja c5,ja lA,ja lB,Vl.av_eq x,Dv.av_eq,Ty.av_eq A,Ty.av_eq B,e29]
      rotate_left
      have zd23:=d23 (by simp[hr,hD'])
      have zd24:=d24 (by simp[hr,hD'])
      simp only[go_sem,zd23,zd24,hx,hv1,hw1,hA,hB,ja hlt,ja c4,ja c5,ja lA,ja lB,Vl.av_eq x,Dv.av_eq,Ty.av_eq A,Ty.av_eq B,e29]
      rotate_left
      have zd25:=d25 (by simp[hr,hD'])
      simp only[go_sem,zd25,hx,hv1,hw1,hA,hB,ja hlt,ja c4,ja c5,ja lA,ja lB,Vl.av_eq x,Dv.av_eq,Ty.av_eq A,Ty.av_eq B,e29]
      rotate_left
      have zd1:=d1 (by simp[hr,hD'])
      have zd6:=d6 (by simp[hr,hD'])
      have zd16:=d16 (by simp[hr,hD'])
      have zd26:=d26 (by simp[hr,hD'])
      have zh0:=h0 (by first|(simp[hr,hD'];done)|(cases hq:D' 27<;>simp_all))
      have zh1:=h1 (by first|(simp[hr,hD'];done)|(cases hq:D' 27<;>simp_all))
      simp only[go_sem,zd1,zd6,zd16,zd26,zh0,zh1,hx,hv1,hw1,hA,hB,ja hlt,ja c4,ja c5,ja lA,ja lB,Vl.av_eq x,Dv.av_eq,Ty.av_eq A,Ty.av_eq B,e29]
      refine Hold.mk (oP hcal (by simp[AV.ids,AV.idsL,go_sem]) zh0 zh1 h2 fun hpn b0 b1 b2 hold=>?_)
      have yh3:=hold 3 _ (by decide) (h3)
      have yh4:=hold 4 _ (by decide) (h4)
      have yh5:=hold 5 _ (by decide) (h5)
      have yh6:=hold 6 _ (by decide) (h6)
      have yh7:=fun c0=>hold 7 _ (by decide) (h7 c0)
      have ye28:=fun c0=>hold 29360136 _ (by decide) (e28 c0)
      have ye29:=fun c0=>hold 30408712 _ (by decide) (e29 c0)
      clear hold
      simp only[go_sem,Jg]
      rotate_left
      have zd27:=d27 (by simp[hr,hD'])
      simp only[go_sem,zd27,hx,hv1,hw1,hA,hB,ja hlt,ja c4,ja c5,ja lA,ja lB,Vl.av_eq x,Dv.av_eq,Ty.av_eq A,Ty.av_eq B,e29]
      rotate_left
      have zd0:=d0 (by simp[hr,hD'])
      have zd28:=d28 (by simp[hr,hD'])
      have ze28:=e28 (by simp[hr,hD'])
      have zh7:=h7 (by first|(simp[hr,hD'];done)|(cases hq:D' 29<;>simp_all))
      simp only[go_sem,zd0,zd28,ze28,zh7,hx,hv1,hw1,hA,hB,ja hlt,ja c4,ja c5,ja lA,ja lB,Vl.av_eq x,Dv.av_eq,Ty.av_eq A,Ty.av_eq B,e29]
      refine⟨hFit,?_⟩
      rotate_left
      have zd29:=d29 (by simp[hr,hD'])
      simp only[go_sem,zd29,hx,hv1,hw1,hA,hB,ja hlt,ja c4,ja c5,ja lA,ja lB,Vl.av_eq x,Dv.av_eq,Ty.av_eq A,Ty.av_eq B,e29]
      rotate_left
      all_goals (simp only[jef,upd,jb];simp[f0,f5,f8,f9,f10,f12,h2,h3,h4,h5,h6];simp_all)
    rintro⟨fr,hp,nx⟩ D' hD' ⟨hn,f0,f5,f8,f9,f10,f12,f11,h0,h1,h2,h3,h4,h5,h6,h7,d0,d1,d2,d3,d4,d5,d6,d7,d8,d9,d10,d11,d12,d13,d14,d15,d16,d17,d18,d19,d20,d21,d22,d23,d24,d25,d26,d27,d28,d29,d30,s27h0,s27h1,e28,e29,o30_29,o30_0⟩
    simp only at hn f0 f5 f8 f9 f10 f12 f11 h0 h1 h2 h3 h4 h5 h6 h7 d0 d1 d2 d3 d4 d5 d6 d7 d8 d9 d10 d11 d12 d13 d14 d15 d16 d17 d18 d19 d20 d21 d22 d23 d24 d25 d26 d27 d28 d29 d30 s27h0 s27h1 e28 e29 o30_29 o30_0
    have zd0:=d0 (hD' 0)
    have zd1:=d1 (hD' 1)
    have zd2:=d2 (hD' 2)
    have zd3:=d3 (hD' 3)
    have zd4:=d4 (hD' 4)
    have zd5:=d5 (hD' 5)
    have zd6:=d6 (hD' 6)
    have zd7:=d7 (hD' 7)
    have zd8:=d8 (hD' 8)
    have zd9:=d9 (hD' 9)
    have zd10:=d10 (hD' 10)
    have zd11:=d11 (hD' 11)
    have zd12:=d12 (hD' 12)
    have zd13:=d13 (hD' 13)
    have zd14:=d14 (hD' 14)
    have zd15:=d15 (hD' 15)
    have zd16:=d16 (hD' 16)
    have zd17:=d17 (hD' 17)
    have zd18:=d18 (hD' 18)
    have zd19:=d19 (hD' 19)
    have zd20:=d20 (hD' 20)
    have zd21:=d21 (hD' 21)
    have zd22:=d22 (hD' 22)
    have zd23:=d23 (hD' 23)
    have zd24:=d24 (hD' 24)
    have zd25:=d25 (hD' 25)
    have zd26:=d26 (hD' 26)
    have zd27:=d27 (hD' 27)
    have zd28:=d28 (hD' 28)
    have zd29:=d29 (hD' 29)
    have zd30:=d30 (hD' 30)
    have zs27h0:=s27h0 (hD' 27)
    have zs27h1:=s27h1 (hD' 27)
    have ze28:=e28 (hD' 28)
    have ze29:=e29 (hD' 29)
    repeat(first|refine jk ?_|refine jj ?_|refine jK ?_)
    refine AW.ent (O':=jx [(0,.ptr 0 0),(5,.ptr 3 0),(8,.ptr 4 0),(9,.ptr 5 0),(10,.ptr 6 0),(11,.rw 7),(12,.i (j:Nat))] [(0,.cells [.sl (ddl D),.rw 1,.rw 2,.bool s1.ok]),(1,.row 10 (Hv.cl s1.L)),(2,.row 1 (bl ar)),(3,.cells [.i kd,.i (ib:Nat),.i (vi:Nat),.i n,.sl (Vl.avL fs),.bool e,.sl (il p),.sl (il l)]),(4,.cells [.i 0,.i 0,.i 0,.i 0,.nilsl,.bool false,.nilsl,.nilsl]),(5,.cells [.str p1.nm,.i p1.md,.i p1.pr,.sl (dvl p1.vs),.i p1.dr]),(6,.cells [.str p2.nm,.i p2.md,.i p2.pr,.sl (dvl p2.vs),.i p2.dr]),(7,.row 8 (Vl.avL (fj++[w])))] 8) (fun i=>if i=0 then 0 else if i=1 then 1 else if i=2 then 2 else if i=3 then 3 else if i=4 then 4 else if i=5 then 5 else if i=6 then 6 else 30408712) (by refine jc (by simp[go_sem,f0,f5,f8,f9,f10,f12,h2,h3,h4,h5,h6,zd0,zd1,zd2,zd3,zd4,zd5,zd6,zd7,zd8,zd9,zd10,zd11,zd12,zd13,zd14,zd15,zd16,zd17,zd18,zd19,zd20,zd21,zd22,zd23,zd24,zd25,zd26,zd27,zd28,zd29,zd30,zs27h0,zs27h1,ze28,ze29,hx,hv1,hw1,hA,hB,ja hlt,ja c4,ja c5,ja lA,ja lB,Vl.av_eq x,Dv.av_eq,Ty.av_eq A,Ty.av_eq B,e29]) (by simp[go_sem,f0,f5,f8,f9,f10,f12,h2,h3,h4,h5,h6,zd0,zd1,zd2,zd3,zd4,zd5,zd6,zd7,zd8,zd9,zd10,zd11,zd12,zd13,zd14,zd15,zd16,zd17,zd18,zd19,zd20,zd21,zd22,zd23,zd24,zd25,zd26,zd27,zd28,zd29,zd30,zs27h0,zs27h1,ze28,ze29,hx,hv1,hw1,hA,hB,ja hlt,ja c4,ja c5,ja lA,ja lB,Vl.av_eq x,Dv.av_eq,Ty.av_eq A,Ty.av_eq B,e29]) (by simp) (by first|(simp[hN];done)|(rw[hN];intro id hid;rcases(by omega:id=0\/id=1\/id=2) with rfl|rfl|rfl<;>simp))) ?_
    clear zd0 zd1 zd2 zd3 zd4 zd5 zd6 zd7 zd8 zd9 zd10 zd11 zd12 zd13 zd14 zd15 zd16 zd17 zd18 zd19 zd20 zd21 zd22 zd23 zd24 zd25 zd26 zd27 zd28 zd29 zd30 zs27h0 zs27h1 ze28 ze29 hn f0 f5 f8 f9 f10 f12 f11 h0 h1 h2 h3 h4 h5 h6 h7 d0 d1 d2 d3 d4 d5 d6 d7 d8 d9 d10 d11 d12 d13 d14 d15 d16 d17 d18 d19 d20 d21 d22 d23 d24 d25 d26 d27 d28 d29 d30 s27h0 s27h1 e28 e29 o30_29 o30_0 hD' fr hp nx D'
    repeat'(first|apply nx|refine zx ?_|rw[zw]|refine zk ?_|refine zp ?_|(apply zA;exact zb)|((first|refine zR hE @fun K Kp hK hKp hg=>?_|refine zT hE @fun K Kp hK hKp anc hanc hg=>?_|refine zF hE @fun K Kp hK hKp anc hanc hg=>?_|refine zg (fun hg=>?_) fun hg=>?_)<;>simp only[go_sem,u2,hg])|(refine zc (fun hc=>?_) (fun hc=>?_)<;>try exact zh hc))
    refine⟨(j+1,s1,fj++[w],o1),⟨by simp only;omega,by simp[hfl],hok1,i1,hw2,by rw[hrj];simp⟩,by simp only;omega,fun i=>i,jc (by simp[go_sem]) (by simp[go_sem]) (by simp) (by rw[hN];exact fun id hid=>⟨rfl,by omega⟩)⟩
  · obtain rfl:j=fs.length:=by omega
    rw[List.drop_length] at hrj
    have e0:J8 D (j4 D k) [] (v1.fs.drop fs.length) (w1.fs.drop fs.length) sj=(sj,[]):=by rw[J8];intro x fs a la b lb h1;cases h1
    rw[e0,List.append_nil] at hrj
    rw[hrj] at hQ
    repeat'(first|apply nx|refine zx ?_|rw[zw]|refine zk ?_|refine zp ?_|(apply zA;exact zb)|((fail_if_success refine j3 26 ?_);(first|refine zR hE @fun K Kp hK hKp hg=>?_|refine zT hE @fun K Kp hK hKp anc hanc hg=>?_|refine zF hE @fun K Kp hK hKp anc hanc hg=>?_|refine zg (fun hg=>?_) fun hg=>?_)<;>simp only[go_sem,jE,hg])|(refine zc (fun hc=>?_) (fun hc=>?_)<;>try exact zh hc))
    refine Qv 11 7 (sz:=8) (xs:=Vl.avL fj) (by simp only[go_sem]) (by simp only[go_sem]) (Vl.clo_avL _) ?_
    try dsimp only
    repeat'(first|apply nx|refine zx ?_|rw[zw]|refine zk ?_|refine zp ?_|(apply zA;exact zb)|((first|refine zR hE @fun K Kp hK hKp hg=>?_|refine zT hE @fun K Kp hK hKp anc hanc hg=>?_|refine zF hE @fun K Kp hK hKp anc hanc hg=>?_|refine zg (fun hg=>?_) fun hg=>?_)<;>simp only[go_sem,hg])|(refine zc (fun hc=>?_) (fun hc=>?_)<;>try exact zh hc))
    refine je (hQ _ (by rw[Vl.av];exact jU (id:=4) (off:=0) (by simp only[go_sem]) gy (by simp only[go_sem];rfl) rfl) ⟨fun i=>i,3,_,?_,rfl⟩).1
    exact gG (by simp only[go_sem]) (by simp only[go_sem]) (by simp only[go_sem])

theorem jav {D:List Dd} (hD:DB D) (hdt:dtB D=true) {ar:List Bool} {h:Hp} (hl20:h.cells.length<=2 ^ 20) (hM:∀ c,c∈h.cells->c.v.sz<=2 ^ 20) {k:Nat} (hbx:∀ k',k=k'+1->jbE D ar h k' (2 ^ 20)):∀ N,N<=2 ^ 20->jbE D ar h k N:=by
 intro N
 induction N using Nat.strongRecOn with
 |_ N ihN=>
 intro hN20 v o o' a b s hs ho hv hI hpa hpb
 cases v with
 |mk kd id vr n fs e p l=>
 by_cases h3:s.ok=true/\(a.kind !=b.kind)=false/\a.kind=3
 ·exact jbr hD hdt hl20 hM hbx kd id vr n fs e p l o o' a b s (by omega) ho hv hI hpa hpb h3.1 h3.2.1 h3.2.2
 by_cases h2:s.ok=true/\(a.kind !=b.kind)=false/\a.kind=2
 ·exact Xv hD hdt hl20 hM kd id vr n fs e p l o o' a b s (by omega) ho hv hI hpa hpb h2.1 h2.2.1 h2.2.2 (fun M hM2=>ihN M (by omega) (by omega))
 clear ihN hbx
 have hka:=yL hpa
 have hkb:=yL hpb
 have hLl:=hI.len
 rw[Vl.av_eq (.mk kd id vr n fs e p l),Ty.av_eq a,Ty.av_eq b]
 simp only[Vl.kind,Vl.id,Vl.var,Vl.n,Vl.fs,Vl.excl,Vl.path,Vl.loans]
 refine MCallR.intro (Vl.av_clo _) Tryd.func17 jcQ rfl (by simp[Tryd.f17]) fun E Q hE hN hMk hQ=>jg ?_
 repeat'(first|apply nx|refine zx ?_|rw[zw]|refine zk ?_|refine zp ?_|(apply zA;exact zb)|((fail_if_success refine j3 1 ?_);(first|refine zR hE fun hg=>?_|refine zT hE fun hanc hg=>?_|refine zF hE fun hanc hg=>?_|refine zg (fun hg=>?_) fun hg=>?_)<;>simp only[go_sem,Xa,hg])|(refine zc (fun hc=>?_) (fun hc=>?_)<;>try exact zh hc))
 refine AW.ent (O':=jx [(0,.ptr 0 0),(5,.ptr 3 0),(6,.ptr 4 0),(7,.ptr 5 0),(8,.ptr 6 0)] (lsX D ar s kd id vr n (.sl (Vl.avL fs)) e p l a b zV) 7) (fun i=>if i=4 then 1048579 else if i=5 then 2097155 else if i=6 then 3145731 else i) ?_ ?_
 ·refine jc (by simp[go_sem]) ?_ (by simp) (by rw[hN];exact fun id hid=>⟨by rw[if_neg (by omega),if_neg (by omega),if_neg (by omega)],by omega⟩)
  simp[go_sem,ou,jp,jb,zV]
 unfold lsX zV
 cases hso:s.ok
 ·have er:Jc D (j4 D k) (.mk kd id vr n fs e p l) a b s=(⟨s.L,false⟩,.mk kd id vr n fs e p l):=by rw[Jc,if_pos (by simp[hso])]
  rw[er] at hQ
  repeat'(first|apply nx|refine zx ?_|rw[zw]|refine zk ?_|refine zp ?_|(apply zA;exact zb)|((first|refine zR hE fun hg=>?_|refine zT hE fun hanc hg=>?_|refine zF hE fun hanc hg=>?_|refine zg (fun hg=>?_) fun hg=>?_)<;>simp only[go_sem,hg])|(refine zc (fun hc=>?_) (fun hc=>?_)<;>try exact zh hc))
  refine je (hQ _ (by rw[Vl.av];exact jU (id:=6) (off:=0) (by simp only[go_sem]) gy (by simp only[go_sem];rfl) rfl) ⟨fun i=>i,3,_,?_,rfl⟩).1
  exact gG (by simp only[go_sem]) (by simp only[go_sem]) (by simp only[go_sem])
 cases hkk:(a.kind !=b.kind)
 case true=>
  have er:Jc D (j4 D k) (.mk kd id vr n fs e p l) a b s=(⟨s.L,false⟩,.mk kd id vr n fs e p l):=by rw[Jc,if_pos (by simp[hkk])]
  rw[er] at hQ
  repeat'(first|apply nx|refine zx ?_|rw[zw]|refine zk ?_|refine zp ?_|(apply zA;exact zb)|((first|refine zR hE fun hg=>?_|refine zT hE fun hanc hg=>?_|refine zF hE fun hanc hg=>?_|refine zg (fun hg=>?_) fun hg=>?_)<;>simp only[go_sem,hkk,hg])|(refine zc (fun hc=>?_) (fun hc=>?_)<;>try exact zh hc))
  refine je (hQ _ (by rw[Vl.av];exact jU (id:=6) (off:=0) (by simp only[go_sem]) gy (by simp only[go_sem];rfl) rfl) ⟨fun i=>i,3,_,?_,rfl⟩).1
  exact gG (by simp only[go_sem]) (by simp only[go_sem]) (by simp only[go_sem])
 replace h3:¬ a.kind=3:=fun h=>h3 ⟨hso,hkk,h⟩
 replace h2:¬ a.kind=2:=fun h=>h2 ⟨hso,hkk,h⟩
 have hs0:¬ ((!s.ok||a.kind !=b.kind)=true):=by simp[hso,hkk]
 by_cases h1:a.kind=1
 ·have er:Jc D (j4 D k) (.mk kd id vr n fs e p l) a b s=(⟨s.L,kd==1⟩,.mk kd id vr n fs e p l):=by rw[Jc,if_neg hs0,if_pos h1]
  rw[er] at hQ
  have q1:(a.kind==1)=true:=by simp[h1]
  repeat'(first|apply nx|refine zx ?_|rw[zw]|refine zk ?_|refine zp ?_|(apply zA;exact zb)|((first|refine zR hE fun hg=>?_|refine zT hE fun hanc hg=>?_|refine zF hE fun hanc hg=>?_|refine zg (fun hg=>?_) fun hg=>?_)<;>simp only[go_sem,hkk,q1,hg])|(refine zc (fun hc=>?_) (fun hc=>?_)<;>try exact zh hc))
  refine je (hQ _ (by rw[Vl.av];exact jU (id:=6) (off:=0) (by simp only[go_sem]) gy (by simp only[go_sem];rfl) rfl) ⟨fun i=>i,3,_,?_,rfl⟩).1
  exact gG (by simp only[go_sem]) (by simp only[go_sem]) (by simp only[go_sem])
 have q1:(a.kind==1)=false:=by simp[h1]
 by_cases h4:a.kind=4
 ·have er:Jc D (j4 D k) (.mk kd id vr n fs e p l) a b s=(⟨s.L,kd==4⟩,.mk kd id vr n fs e p l):=by rw[Jc,if_neg hs0,if_neg h1,if_pos h4]
  rw[er] at hQ
  have q4:(a.kind==4)=true:=by simp[h4]
  repeat'(first|apply nx|refine zx ?_|rw[zw]|refine zk ?_|refine zp ?_|(apply zA;exact zb)|((first|refine zR hE fun hg=>?_|refine zT hE fun hanc hg=>?_|refine zF hE fun hanc hg=>?_|refine zg (fun hg=>?_) fun hg=>?_)<;>simp only[go_sem,hkk,q1,q4,hg])|(refine zc (fun hc=>?_) (fun hc=>?_)<;>try exact zh hc))
  refine je (hQ _ (by rw[Vl.av];exact jU (id:=6) (off:=0) (by simp only[go_sem]) gy (by simp only[go_sem];rfl) rfl) ⟨fun i=>i,3,_,?_,rfl⟩).1
  exact gG (by simp only[go_sem]) (by simp only[go_sem]) (by simp only[go_sem])
 have q4:(a.kind==4)=false:=by simp[h4]
 have q3:(a.kind==3)=false:=by simp[h3]
 have q2:(a.kind==2)=false:=by simp[h2]
 have er:Jc D (j4 D k) (.mk kd id vr n fs e p l) a b s=(⟨s.L,false⟩,.mk kd id vr n fs e p l):=by rw[Jc,if_neg hs0,if_neg h1,if_neg h4,if_neg h3,if_neg h2]
 rw[er] at hQ
 repeat'(first|apply nx|refine zx ?_|rw[zw]|refine zk ?_|refine zp ?_|(apply zA;exact zb)|((first|refine zR hE fun hg=>?_|refine zT hE fun hanc hg=>?_|refine zF hE fun hanc hg=>?_|refine zg (fun hg=>?_) fun hg=>?_)<;>simp only[go_sem,hkk,q1,q4,q3,q2,hg])|(refine zc (fun hc=>?_) (fun hc=>?_)<;>try exact zh hc))
 refine je (hQ _ (by rw[Vl.av];exact jU (id:=6) (off:=0) (by simp only[go_sem]) gy (by simp only[go_sem];rfl) rfl) ⟨fun i=>i,3,_,?_,rfl⟩).1
 exact gG (by simp only[go_sem]) (by simp only[go_sem]) (by simp only[go_sem])
theorem jbq {D:List Dd} (hD:DB D) (hdt:dtB D=true) {ar:List Bool} {h:Hp} (hl20:h.cells.length<=2 ^ 20) (hM:∀ c,c∈h.cells->c.v.sz<=2 ^ 20) (k:Nat):jbE D ar h k (2 ^ 20):=by
 induction k with
 |zero=>exact jav hD hdt hl20 hM (fun k' hk'=>absurd hk' (by omega)) _ (Nat.le_refl _)
 |succ k ih=>
  refine jav hD hdt hl20 hM (fun k' hk'=>?_) _ (Nat.le_refl _)
  obtain rfl:k=k':=by omega
  exact ih
end Go.Proofs.YtfpcjabbcpgbjaaDoor

set_option maxHeartbeats 4000000
set_option maxRecDepth 100000
namespace Go.Proofs.YtfpcjabbcpgbjaaDoor
open Go.Am Go.Proofs Go.Hv
open Classical
attribute [local irreducible] AW jA CallB CallY
structure HB (h:Hp):Prop where
 l:h.cells.length<=2 ^ 20
 a:h.arenas.length<=2 ^ 20
 m:∀ c,c∈h.cells->c.v.sz<=2 ^ 20
theorem HB.z {h:Hp} (hb:HB h):∀ c,c∈h.cells->c.v.sz<2 ^ 40:=fun c hc=>by have:=hb.m c hc;omega
theorem HB.hp0:HB hp0:=⟨by decide,by decide,fun c hc=>by cases hc⟩
theorem jfG:Cl.zero.v.sz<=2 ^ 20:=by decide
theorem HB.set {h:Hp} (hb:HB h) (n:Nat) (c:Cl) (hc:c.v.sz<=2 ^ 20) (l:List Bool) (hl:l.length<=2 ^ 20):HB ⟨h.cells.set n c,l⟩:=by
 refine⟨by simp only[List.length_set];exact hb.l,hl,fun x hx=>?_⟩
 rcases List.mem_or_eq_of_mem_set hx with hx|rfl
 ·exact hb.m x hx
 ·exact hc
theorem HB.closed {h:Hp} (hb:HB h) (o:Ow):HB (j0 h o):=by
 refine⟨by simp only[j0,gF];exact hb.l,by simp only[j0,QR];exact hb.a,fun c hc=>?_⟩
 obtain⟨i,hi⟩:=List.getElem?_of_mem hc
 simp only[j0] at hi
 rw[gE] at hi
 split at hi
 ·cases hi;exact jfG
 ·exact hb.m c (List.mem_of_getElem? hi)
theorem HB.drop {h:Hp} (hb:HB h) (D:List Dt) (v:Vl):HB (gv D h v).1:=by
 unfold gv
 split
 ·exact HB.hp0
 ·split
  ·exact HB.hp0
  ·exact hb.closed _
theorem jdY {h:Hp} {v:Vl} (hm:Sm h v) (h60:h.cells.length<=100) {o:Ow} (hs:yc h v=some o):o.ids.length<=2 ^ 30:=by
 have:=(yY (jo h _) (yb hm.m _) v Ow.nil o (Ow.nil_ok h) hs)
 rw[GV] at this
 have h1:o.ids.length<=bud (2 ^ 20) h o:=Nat.le_add_right _ _
 have:=hm.v
 omega
theorem jb9 (D:List Dt) {h:Hp} {v:Vl} (hm:Sm h v) (h60:h.cells.length<=100):(gv D h v).2.1.out.length<=(gv D h v).2.1.cnt/\(gv D h v).2.1.cnt<=2 ^ 30:=by
 unfold gv
 split
 ·exact⟨by simp[Fa.nil],by simp[Fa.nil]⟩
 ·rename_i o hs
  split
  ·exact⟨by simp[Fa.nil],by simp[Fa.nil]⟩
  ·have hF:=G5 (d:=drs D) (jo h _) (G4 (d:=drs D) h.cells.length) v Ow.nil o Fa.nil (Ow.nil_ok h) hs (Fle.nil _)
   have:=jdY hm h60 hs
   exact⟨hF.out,Nat.le_trans hF.cnt this⟩

abbrev rwC (h:Hp) (w:Rw):List AV:=[.sl (cl h.cells),.sl (bl h.arenas),.rw 1,.rw 2,.i w.cnt,.i w.ids,.bool w.right]
def qg (h:Hp) (w:Rw):Nat->Option AObj:=jp [(0,.cells (rwC h w)),(1,.row 1 (bl w.mc)),(2,.row 1 (bl w.ma))]
theorem JR (h:Hp) (w:Rw):qg h w 0=some (.cells (rwC h w)):=rfl
theorem J1 (h:Hp) (w:Rw):qg h w 1=some (.row 1 (bl w.mc)):=rfl
theorem ya (h:Hp) (w:Rw):qg h w 2=some (.row 1 (bl w.ma)):=rfl
theorem Yf (h:Hp):Fam (qg h) 3:=by
 refine⟨fun w id ob ho=>?_,fun w id hid=>?_⟩
 ·simp only[qg,jp,jb] at ho
  repeat' split at ho
  all_goals first|(cases ho;done)|skip
  all_goals cases ho;subst_vars
  all_goals exact⟨by decide,by simp[AObj.ids,AV.ids,AV.idsL,go_sem]⟩
 ·have:id=0\/id=1\/id=2:=by omega
  rcases this with rfl|rfl|rfl<;>simp[qg,jp,jb]
theorem x7 {h:Hp} {w:Rw} {id:Nat} {ob:AObj} (ho:qg h w id=some ob):(id=0/\ob= .cells (rwC h w))\/(id=1/\ob= .row 1 (bl w.mc))\/(id=2/\ob= .row 1 (bl w.ma)):=by
 simp only[qg,jp,jb] at ho
 repeat' split at ho
 all_goals first|(cases ho;done)|skip
 all_goals cases ho;subst_vars
 ·exact .inl ⟨rfl,rfl⟩
 ·exact .inr (.inl ⟨rfl,rfl⟩)
 ·exact .inr (.inr ⟨rfl,rfl⟩)
theorem Jf {h:Hp} {w:Rw} {hp:Nat->Option AObj} (h0:hp 0=some (.cells (rwC h w))) (h1:hp 1=some (.row 1 (bl w.mc))) (h2:hp 2=some (.row 1 (bl w.ma))):∀ id ob,qg h w id=some ob->hp id=some ob:=by
 intro id ob ho
 rcases x7 ho with ⟨rfl,rfl⟩|⟨rfl,rfl⟩|⟨rfl,rfl⟩
 ·exact h0
 ·exact h1
 ·exact h2
def GQ (h:Hp) (v:Vl) (r:Ow->Option Ow) (o:Ow):Prop:=MCall Tryd.prog 62 [.ptr 0 0,.agg v.cs] (qg h) 3 3 (rs h o) (ROk h (r o))
def RCel (h:Hp) (n:Nat) (r:Ow->Option Ow) (o:Ow):Prop:=MCall Tryd.prog 80 [.ptr 0 0,.i n] (qg h) 3 3 (rs h o) (ROk h (r o))
theorem jae (h:Hp) (k n:Nat) (o:Ow) (c:Cl) (hcc:h.cells[n]? =some c) (hv:n∉o.cs->GQ h c.v (jP h (jy h k) c.v) { o with cs:=o.cs++[n] }):RCel h n (fun o=>jy h (k+1) n o) o:=by
 have hn:n<h.cells.length:=(List.getElem?_eq_some_iff.1 hcc).1
 refine MCall.intro Tryd.func80 jlp rfl (by simp[Tryd.f80]) rfl fun E Q hE hN hQ=>jg ?_
 have hm:=YU (l:=o.cs) hn
 by_cases hmem:n∈o.cs
 ·rw[decide_eq_true hmem] at hm
  repeat'(first|apply nx|refine zx ?_|rw[zw]|refine zk ?_|refine zp ?_|(apply zA;exact zb)|((first|refine zR hE @fun K Kp hK hKp hg=>?_|refine zT hE @fun K Kp hK hKp anc hanc hg=>?_|refine zF hE @fun K Kp hK hKp anc hanc hg=>?_|refine zg (fun hg=>?_) fun hg=>?_)<;>simp only[go_sem,JR,J1,rs,hm,hg])|(refine zc (fun hc=>?_) (fun hc=>?_)<;>try exact zh hc))
  refine je (hQ _ (MCall.fin (Yf h) (by decide) (x':= { rs h o with right:=false }) ?_ (Jf ?_ ?_ ?_))).1
  ·simp only;rw[jy,if_pos hmem];rfl
  ·simp[jb,rs]
  ·simp[jb,rs,J1]
  ·simp[jb,rs,ya]
 ·rw[decide_eq_false hmem] at hm
  repeat'(first|apply nx|refine zx ?_|rw[zw]|refine zk ?_|refine zp ?_|(apply zA;exact zb)|((fail_if_success refine j3 9 ?_);(first|refine zR hE @fun K Kp hK hKp hg=>?_|refine zT hE @fun K Kp hK hKp anc hanc hg=>?_|refine zF hE @fun K Kp hK hKp anc hanc hg=>?_|refine zg (fun hg=>?_) fun hg=>?_)<;>simp only[go_sem,JR,J1,rs,hm,OI hn,hcc,Cl.av,Cl.cs_eq,hg])|(refine zc (fun hc=>?_) (fun hc=>?_)<;>try exact zh hc))
  have hv1:=hv hmem
  unfold GQ at hv1
  rw[show c.v.cs=[.i c.v.kind,.i c.v.id,.i c.v.var,.i c.v.n,.sl (Vl.avL c.v.fs),.bool c.v.excl,.sl (il c.v.path),.sl (il c.v.loans)] from rfl] at hv1
  refine Hold.mk (MCall.use (Yf h) hv1 (by simp[AV.ids,AV.idsL,go_sem]) (Jf (by simp[jb,rs,JR]) (by simp[jb,rs,J1]) (by simp[jb,rs,ya])) fun w' hpn hG hob hold=>?_)
  simp only[go_sem]
  refine hK.h _ ?_;clear hK hKp K Kp;try clear hanc anc
  repeat(first|refine jk ?_|refine jj ?_|refine jK ?_)
  repeat(first|refine jj ?_|refine jl ?_)
  refine(hQ _ (MCall.fin (Yf h) (by decide) (x':=w') ?_ hob)).2
  simp only;rw[jy,if_neg hmem,hcc];exact hG

theorem Xn (h:Hp) (en:Nat->Ow->Option Ow) (v:Vl) (o:Ow) (h2:v.kind≠2) (h3:v.kind≠3) (h5:v.kind≠5):GQ h v (jP h en v) o:=by
 have hr:jP h en v o=some o:=by
  cases v
  simp only[Vl.kind] at h2 h3 h5
  rw[jP,if_neg h2,if_neg h3,if_neg h5]
 unfold GQ
 rw[hr,show v.cs=[.i v.kind,.i v.id,.i v.var,.i v.n,.sl (Vl.avL v.fs),.bool v.excl,.sl (il v.path),.sl (il v.loans)] from rfl]
 have q2:(v.kind==2)=false:=by simpa using h2
 have q3:(v.kind==3)=false:=by simpa using h3
 have q5:(v.kind==5)=false:=by simpa using h5
 refine MCall.intro Tryd.func62 YE rfl (by simp[Tryd.f62]) rfl fun E Q hE hN hQ=>jg ?_
 repeat'(first|apply nx|refine zx ?_|rw[zw]|refine zk ?_|refine zp ?_|(apply zA;exact zb)|((first|refine zR hE @fun K Kp hK hKp hg=>?_|refine zT hE @fun K Kp hK hKp anc hanc hg=>?_|refine zF hE @fun K Kp hK hKp anc hanc hg=>?_|refine zg (fun hg=>?_) fun hg=>?_)<;>simp only[go_sem,q2,q3,q5,hg])|(refine zc (fun hc=>?_) (fun hc=>?_)<;>try exact zh hc))
 refine jl ?_
 refine(hQ _ (MCall.fin (Yf h) (by decide) (x':=rs h o) rfl (Jf ?_ ?_ ?_))).2
 ·simp[jb,JR]
 ·simp[jb,J1]
 ·simp[jb,ya]
abbrev hpL (h:Hp) (v:Vl) (w:Rw):List (Nat×AObj):=[(0,.cells (rwC h w)),(1,.row 1 (bl w.mc)),(2,.row 1 (bl w.ma)),(3,.cells [.i v.kind,.i v.id,.i v.var,.i v.n,.sl (Vl.avL v.fs),.bool v.excl,.sl (il v.path),.sl (il v.loans)])]
theorem jbm (h : Hp) (en : Nat -> Ow -> Option Ow) (v : Vl) (o : Ow) (hk : v.kind = 2) (hl : v.fs.length <= 2 ^ 30) (hid : o.ids.length <= 2 ^ 43) (P : Nat -> Ow -> Prop) (hP : P 0 { o with ids := o.ids ++ [v.id] })
    (hf:∀ i x o,v.fs[i]? =some x->P i o->GQ h x (jP h en x) o) (hs:∀ i x o o',v.fs[i]? =some x->P i o->jP h en x o=some o'->P (i+1) o'):GQ h v (jP h en v) o:=by
  have hr:jP h en v o=Jk h en v.fs { o with ids:=o.ids++[v.id] } :=by
    cases v
    simp only[Vl.kind] at hk
    rw[jP,if_pos hk];rfl
  unfold GQ
  rw[hr,show v.cs=[.i v.kind,.i v.id,.i v.var,.i v.n,.sl (Vl.avL v.fs),.bool v.excl,.sl (il v.path),.sl (il v.loans)] from rfl]
  have q2:(v.kind==2)=true:=by simpa using hk
  have hcn:((o.ids.length:Nat):Int)<=2 ^ 43:=by omega
  have hw0:rs h { o with ids:=o.ids++[v.id] } =⟨marks h.cells.length o.cs,marks h.arenas.length o.ags,o.ids.length+1,mxS (mxI o.ids) v.id,true⟩:=by
    simp[rs,jfg]
  generalize hO:({ o with ids:=o.ids++[v.id] } :Ow)=o0 at*
  refine MCall.intro Tryd.func62 YE rfl (by simp[Tryd.f62]) rfl fun E Q hE hN hQ=>jg ?_
  repeat'(first|apply nx|refine zx ?_|rw[zw]|refine zk ?_|refine zp ?_|(apply zA;exact zb)|((fail_if_success refine j3 4 ?_);(first|refine zR hE @fun K Kp hK hKp hg=>?_|refine zT hE @fun K Kp hK hKp anc hanc hg=>?_|refine zF hE @fun K Kp hK hKp anc hanc hg=>?_|refine zg (fun hg=>?_) fun hg=>?_)<;>simp only[go_sem,q2,JR,rs,hg])|(refine zc (fun hc=>?_) (fun hc=>?_)<;>try exact zh hc))
  repeat(first|apply w1|apply w2)
  refine AW.ent (O':=jx [(0,.ptr 0 0),(3,.ptr 3 0)] (hpL h v ⟨marks h.cells.length o.cs,marks h.arenas.length o.ags,o.ids.length+1,mxI o.ids,true⟩) 4) (fun i=>i) ?_ ?_
  · refine jc (by simp[go_sem]) (by simp[go_sem,J1,ya,rs]) (by simp) (by rw[hN];exact fun id hid=>⟨rfl,by omega⟩)
  refine jgj (X:=Unit) (fun _=>True) (fun _=>jx [(0,.ptr 0 0),(3,.ptr 3 0)] (hpL h v (rs h o0)) 4) ?_ fun _ _=>?_
  · by_cases h1:0<=v.id
    case neg=>
      have q4:decide (0<=v.id)=false:=by simpa using h1
      repeat'(first|apply nx|refine zx ?_|rw[zw]|refine zk ?_|refine zp ?_|(apply zA;exact zb)|((first|refine zR hE @fun K Kp hK hKp hg=>?_|refine zT hE @fun K Kp hK hKp anc hanc hg=>?_|refine zF hE @fun K Kp hK hKp anc hanc hg=>?_|refine zg (fun hg=>?_) fun hg=>?_)<;>simp only[go_sem,q4,hg])|(refine zc (fun hc=>?_) (fun hc=>?_)<;>try exact zh hc))
      refine QU () trivial (fun i=>i) ?_
      refine jc (by simp[go_sem]) ?_ (by simp) (by rw[hN];exact fun id hid=>⟨rfl,by omega⟩)
      rw[hw0,mxS,if_neg (by omega)]
      simp[go_sem]
    have q4:decide (0<=v.id)=true:=by simpa using h1
    by_cases h2:v.id<1099511627776
    case neg=>
      have q5:decide (v.id<1099511627776)=false:=by simpa using h2
      repeat'(first|apply nx|refine zx ?_|rw[zw]|refine zk ?_|refine zp ?_|(apply zA;exact zb)|((first|refine zR hE @fun K Kp hK hKp hg=>?_|refine zT hE @fun K Kp hK hKp anc hanc hg=>?_|refine zF hE @fun K Kp hK hKp anc hanc hg=>?_|refine zg (fun hg=>?_) fun hg=>?_)<;>simp only[go_sem,q4,q5,hg])|(refine zc (fun hc=>?_) (fun hc=>?_)<;>try exact zh hc))
      refine QU () trivial (fun i=>i) ?_
      refine jc (by simp[go_sem]) ?_ (by simp) (by rw[hN];exact fun id hid=>⟨rfl,by omega⟩)
      rw[hw0,mxS,if_neg (by omega)]
      simp[go_sem]
    have q5:decide (v.id<1099511627776)=true:=by simpa using h2
    repeat'(first|apply nx|refine zx ?_|rw[zw]|refine zk ?_|refine zp ?_|(apply zA;exact zb)|((first|refine zR hE @fun K Kp hK hKp hg=>?_|refine zT hE @fun K Kp hK hKp anc hanc hg=>?_|refine zF hE @fun K Kp hK hKp anc hanc hg=>?_|refine zg (fun hg=>?_) fun hg=>?_)<;>simp only[go_sem,q4,q5,hg])|(refine zc (fun hc=>?_) (fun hc=>?_)<;>try exact zh hc))
    refine QU () trivial (fun i=>i) ?_
    refine jc (by simp[go_sem]) ?_ (by simp) (by rw[hN];exact fun id hid=>⟨rfl,by omega⟩)
    rw[hw0,mxS,if_pos ⟨h1,h2⟩]
    simp[go_sem]
  repeat'(first|apply nx|refine zx ?_|rw[zw]|refine zk ?_|refine zp ?_|(apply zA;exact zb)|((fail_if_success refine j3 8 ?_);(first|refine zR hE @fun K Kp hK hKp hg=>?_|refine zT hE @fun K Kp hK hKp anc hanc hg=>?_|refine zF hE @fun K Kp hK hKp anc hanc hg=>?_|refine zg (fun hg=>?_) fun hg=>?_)<;>simp only[go_sem,hg])|(refine zc (fun hc=>?_) (fun hc=>?_)<;>try exact zh hc))
  refine jB (X:=Nat×Rw) (fun x=>x.1<=v.fs.length/\((∃ o1,x.2=rs h o1/\Jk h en v.fs o0=Jk h en (v.fs.drop x.1) o1/\P x.1 o1)\/(x.2.right=false/\Jk h en v.fs o0=none))) (fun x=>jx [(0,.ptr 0 0),(3,.ptr 3 0),(4,.i x.1)] (hpL h v x.2) 4) (fun x=>v.fs.length - x.1) (0,rs h o0) ⟨Nat.zero_le _,.inl ⟨o0,rfl,rfl,hP⟩⟩ (fun i=>i) ?_ ?_
  · refine jc (by simp[go_sem]) (by simp[go_sem]) (by simp) (by rw[hN];exact fun id hid=>⟨rfl,by omega⟩)
  rintro⟨i,w⟩ ⟨hi,ht⟩
  simp only at hi ht
  by_cases hlt:i<v.fs.length
  case neg=>
    obtain rfl:i=v.fs.length:=by omega
    repeat'(first|apply nx|refine zx ?_|rw[zw]|refine zk ?_|refine zp ?_|(apply zA;exact zb)|((first|refine zR hE @fun K Kp hK hKp hg=>?_|refine zT hE @fun K Kp hK hKp anc hanc hg=>?_|refine zF hE @fun K Kp hK hKp anc hanc hg=>?_|refine zg (fun hg=>?_) fun hg=>?_)<;>simp only[go_sem,jE,hg])|(refine zc (fun hc=>?_) (fun hc=>?_)<;>try exact zh hc))
    refine jl ?_
    refine(hQ _ (MCall.fin (Yf h) (by decide) (x':=w) ?_ (Jf (by simp[jb]) (by simp[jb]) (by simp[jb])))).2
    rcases ht with ⟨o1,hw,ht,_⟩|⟨hw,ht⟩
    · rw[List.drop_length,Jk] at ht
      rw[ht];exact hw
    · rw[ht];exact hw
  obtain⟨x,hx⟩:=get?_of hlt
  rcases ht with ⟨o1,rfl,ht,hPi⟩|⟨hw,ht⟩
  case inr=>
    repeat'(first|apply nx|refine zx ?_|rw[zw]|refine zk ?_|refine zp ?_|(apply zA;exact zb)|((first|refine zR hE @fun K Kp hK hKp hg=>?_|refine zT hE @fun K Kp hK hKp anc hanc hg=>?_|refine zF hE @fun K Kp hK hKp anc hanc hg=>?_|refine zg (fun hg=>?_) fun hg=>?_)<;>simp only[go_sem,ja hlt,hw,hg])|(refine zc (fun hc=>?_) (fun hc=>?_)<;>try exact zh hc))
    refine jl ?_
    refine(hQ _ (MCall.fin (Yf h) (by decide) (x':=w) ?_ (Jf (by simp[jb,hw]) (by simp[jb]) (by simp[jb])))).2
    rw[ht];exact hw
  have hv1:=hf i x o1 hx hPi
  unfold GQ at hv1
  rw[show x.cs=[.i x.kind,.i x.id,.i x.var,.i x.n,.sl (Vl.avL x.fs),.bool x.excl,.sl (il x.path),.sl (il x.loans)] from rfl] at hv1
  rw[jS hx,Jk] at ht
  repeat'(first|apply nx|refine zx ?_|rw[zw]|refine zk ?_|refine zp ?_|(apply zA;exact zb)|((first|refine zR hE @fun K Kp hK hKp hg=>?_|refine zT hE @fun K Kp hK hKp anc hanc hg=>?_|refine zF hE @fun K Kp hK hKp anc hanc hg=>?_|refine zg (fun hg=>?_) fun hg=>?_)<;>simp only[go_sem,ja hlt,rs,hx,Vl.av_eq,hg])|(refine zc (fun hc=>?_) (fun hc=>?_)<;>try exact zh hc))
  refine Hold.mk (MCall.use (Yf h) hv1 (by simp[AV.ids,AV.idsL,go_sem]) (Jf (by simp[jb,rs]) (by simp[jb,rs]) (by simp[jb,rs])) fun w' hpn hG hob hold=>?_)
  have g0:=hob 0 _ rfl
  have g1:=hob 1 _ rfl
  have g2:=hob 2 _ rfl
  have g3:=hold 3 (.cells [.i v.kind,.i v.id,.i v.var,.i v.n,.sl (Vl.avL v.fs),.bool v.excl,.sl (il v.path),.sl (il v.loans)]) (by decide) (by simp[jb])
  simp only[go_sem,Jg]
  refine hK.h _ ?_;clear hK hKp K Kp;try clear hanc anc
  repeat(first|refine jk ?_|refine jj ?_|refine jK ?_)
  repeat'(first|apply nx|refine zx ?_|rw[zw]|refine zk ?_|refine zp ?_|(apply zA;exact zb)|((first|refine zR hE @fun K Kp hK hKp hg=>?_|refine zT hE @fun K Kp hK hKp anc hanc hg=>?_|refine zF hE @fun K Kp hK hKp anc hanc hg=>?_|refine zg (fun hg=>?_) fun hg=>?_)<;>simp only[go_sem,hg])|(refine zc (fun hc=>?_) (fun hc=>?_)<;>try exact zh hc))
  refine⟨(i+1,w'),⟨by simp only;omega,?_⟩,by simp only;omega,fun i=>i,?_⟩
  · cases hy:jP h en x o1 with
    |some o2=>
      rw[hy] at hG ht
      exact .inl ⟨o2,hG,ht,hs i x o1 o2 hx hPi hy⟩
    |none=>
      rw[hy] at hG ht
      exact .inr ⟨hG,ht⟩
  · refine jc (by simp[go_sem]) (by simp[go_sem,g0,g1,g2,g3]) (by simp) (by rw[hN];exact fun id hid=>⟨rfl,by omega⟩)

theorem jdH (h:Hp) (en:Nat->Ow->Option Ow) (v:Vl) (o:Ow) (hk:v.kind=3) (hl:h.cells.length<=2 ^ 20) (hen:∀ m c,h.cells[m]? =some c->c.live=true->RCel h m (en m) o):GQ h v (jP h en v) o:=by
 have hr:jP h en v o=if yg h v.n then en v.n.toNat o else none:=by
  cases v
  simp only[Vl.kind] at hk
  rw[jP,if_neg (by omega),if_pos hk];rfl
 unfold GQ
 rw[hr,show v.cs=[.i v.kind,.i v.id,.i v.var,.i v.n,.sl (Vl.avL v.fs),.bool v.excl,.sl (il v.path),.sl (il v.loans)] from rfl]
 have q2:(v.kind==2)=false:=by simp[hk]
 have q3:(v.kind==3)=true:=by simp[hk]
 by_cases h1:0<=v.n
 case neg=>
  have q4:decide (v.n<0)=true:=by simp;omega
  rw[if_neg (by simp[yg,show ¬ 0<=v.n from h1])]
  refine MCall.intro Tryd.func62 YE rfl (by simp[Tryd.f62]) rfl fun E Q hE hN hQ=>jg ?_
  repeat'(first|apply nx|refine zx ?_|rw[zw]|refine zk ?_|refine zp ?_|(apply zA;exact zb)|((first|refine zR hE @fun K Kp hK hKp hg=>?_|refine zT hE @fun K Kp hK hKp anc hanc hg=>?_|refine zF hE @fun K Kp hK hKp anc hanc hg=>?_|refine zg (fun hg=>?_) fun hg=>?_)<;>simp only[go_sem,q2,q3,q4,JR,hg])|(refine zc (fun hc=>?_) (fun hc=>?_)<;>try exact zh hc))
  refine je (hQ _ (MCall.fin (Yf h) (by decide) (x':= { rs h o with right:=false }) rfl (Jf ?_ ?_ ?_))).1
  ·simp[jb,rs]
  ·simp[jb,rs,J1]
  ·simp[jb,rs,ya]
 obtain⟨m,hm⟩:=Int.eq_ofNat_of_zero_le h1
 have q4:decide ((m:Int)<0)=false:=by simp
 by_cases h2:m<h.cells.length
 case neg=>
  have q5:decide ((h.cells.length:Int)<=(m:Int))=true:=by simp;omega
  rw[if_neg (by simp[yg,hm,List.getElem?_eq_none (show h.cells.length<=m by omega)])]
  refine MCall.intro Tryd.func62 YE rfl (by simp[Tryd.f62]) rfl fun E Q hE hN hQ=>jg ?_
  repeat'(first|apply nx|refine zx ?_|rw[zw]|refine zk ?_|refine zp ?_|(apply zA;exact zb)|((first|refine zR hE @fun K Kp hK hKp hg=>?_|refine zT hE @fun K Kp hK hKp anc hanc hg=>?_|refine zF hE @fun K Kp hK hKp anc hanc hg=>?_|refine zg (fun hg=>?_) fun hg=>?_)<;>simp only[go_sem,q2,q3,hm,q4,q5,JR,hg])|(refine zc (fun hc=>?_) (fun hc=>?_)<;>try exact zh hc))
  refine je (hQ _ (MCall.fin (Yf h) (by decide) (x':= { rs h o with right:=false }) rfl (Jf ?_ ?_ ?_))).1
  ·simp[jb,rs]
  ·simp[jb,rs,J1]
  ·simp[jb,rs,ya]
 obtain⟨c,hcc⟩:=get?_of h2
 have q5:decide ((h.cells.length:Int)<=(m:Int))=false:=by simp;omega
 cases hv:c.live
 ·rw[if_neg (by simp[yg,hm,hcc,hv])]
  refine MCall.intro Tryd.func62 YE rfl (by simp[Tryd.f62]) rfl fun E Q hE hN hQ=>jg ?_
  repeat'(first|apply nx|refine zx ?_|rw[zw]|refine zk ?_|refine zp ?_|(apply zA;exact zb)|((first|refine zR hE @fun K Kp hK hKp hg=>?_|refine zT hE @fun K Kp hK hKp anc hanc hg=>?_|refine zF hE @fun K Kp hK hKp anc hanc hg=>?_|refine zg (fun hg=>?_) fun hg=>?_)<;>simp only[go_sem,q2,q3,hm,q4,q5,JR,hcc,Cl.av,Cl.cs_eq,hv,hg])|(refine zc (fun hc=>?_) (fun hc=>?_)<;>try exact zh hc))
  refine je (hQ _ (MCall.fin (Yf h) (by decide) (x':= { rs h o with right:=false }) rfl (Jf ?_ ?_ ?_))).1
  ·simp[jb,rs]
  ·simp[jb,rs,J1]
  ·simp[jb,rs,ya]
 by_cases h3:c.arena= -1
 case neg=>
  have q6:(c.arena != -1)=true:=by simpa using h3
  rw[if_neg (by simp[yg,hm,hcc,hv,h3])]
  refine MCall.intro Tryd.func62 YE rfl (by simp[Tryd.f62]) rfl fun E Q hE hN hQ=>jg ?_
  repeat'(first|apply nx|refine zx ?_|rw[zw]|refine zk ?_|refine zp ?_|(apply zA;exact zb)|((first|refine zR hE @fun K Kp hK hKp hg=>?_|refine zT hE @fun K Kp hK hKp anc hanc hg=>?_|refine zF hE @fun K Kp hK hKp anc hanc hg=>?_|refine zg (fun hg=>?_) fun hg=>?_)<;>simp only[go_sem,q2,q3,hm,q4,q5,JR,hcc,Cl.av,Cl.cs_eq,hv,q6,hg])|(refine zc (fun hc=>?_) (fun hc=>?_)<;>try exact zh hc))
  refine je (hQ _ (MCall.fin (Yf h) (by decide) (x':= { rs h o with right:=false }) rfl (Jf ?_ ?_ ?_))).1
  ·simp[jb,rs]
  ·simp[jb,rs,J1]
  ·simp[jb,rs,ya]
 have q6:(c.arena != -1)=false:=by simpa using h3
 rw[if_pos (by simp[yg,hm,hcc,hv,h3]),hm,Int.toNat_natCast]
 have he1:=hen m c hcc hv
 unfold RCel at he1
 refine MCall.intro Tryd.func62 YE rfl (by simp[Tryd.f62]) rfl fun E Q hE hN hQ=>jg ?_
 repeat'(first|apply nx|refine zx ?_|rw[zw]|refine zk ?_|refine zp ?_|(apply zA;exact zb)|((first|refine zR hE @fun K Kp hK hKp hg=>?_|refine zT hE @fun K Kp hK hKp anc hanc hg=>?_|refine zF hE @fun K Kp hK hKp anc hanc hg=>?_|refine zg (fun hg=>?_) fun hg=>?_)<;>simp only[go_sem,q2,q3,hm,q4,q5,JR,hcc,Cl.av,Cl.cs_eq,hv,q6,hg])|(refine zc (fun hc=>?_) (fun hc=>?_)<;>try exact zh hc))
 refine Hold.mk (MCall.use (Yf h) he1 (by simp[AV.ids,AV.idsL,go_sem]) (Jf (by simp[jb,rs,JR]) (by simp[jb,rs,J1]) (by simp[jb,rs,ya])) fun w' hpn hG hob hold=>?_)
 simp only[go_sem,Jg]
 refine hK.h _ ?_;clear hK hKp K Kp;try clear hanc anc
 repeat(first|refine jk ?_|refine jj ?_|refine jK ?_)
 repeat(first|refine jj ?_|refine jl ?_)
 exact(hQ _ (MCall.fin (Yf h) (by decide) (x':=w') hG hob)).2

theorem Xm (h : Hp) (en : Nat -> Ow -> Option Ow) (v : Vl) (o : Ow) (hk : v.kind = 5) (hl : h.cells.length <= 2 ^ 20) (hal : h.arenas.length <= 2 ^ 20) (P : Ow -> Prop) (hP : ∀ m, m ∉ o.ags -> h.arenas[m]? = some true -> P { o with ags := o.ags ++ [m] })
    (hen:∀ m c o,P o->h.cells[m]? =some c->c.live=true->RCel h m (en m) o) (hs:∀ m c o o',P o->h.cells[m]? =some c->c.live=true->en m o=some o'->P o'):GQ h v (jP h en v) o:=by
  have hr:jP h en v o=if JG h v.n&&!decide (v.n.toNat∈o.ags) then enL en (Js h.cells v.n) { o with ags:=o.ags++[v.n.toNat] } else none:=by
    cases v
    simp only[Vl.kind] at hk
    rw[jP,if_neg (by omega),if_neg (by omega),if_pos hk];rfl
  unfold GQ
  rw[hr,show v.cs=[.i v.kind,.i v.id,.i v.var,.i v.n,.sl (Vl.avL v.fs),.bool v.excl,.sl (il v.path),.sl (il v.loans)] from rfl]
  have q2:(v.kind==2)=false:=by simp[hk]
  have q3:(v.kind==3)=false:=by simp[hk]
  have q5:(v.kind==5)=true:=by simp[hk]
  by_cases h1:0<=v.n
  case neg=>
    have q4:decide (v.n<0)=true:=by simp;omega
    rw[if_neg (by simp[JG,show ¬ 0<=v.n from h1])]
    refine MCall.intro Tryd.func62 YE rfl (by simp[Tryd.f62]) rfl fun E Q hE hN hQ=>jg ?_
    repeat'(first|apply nx|refine zx ?_|rw[zw]|refine zk ?_|refine zp ?_|(apply zA;exact zb)|((first|refine zR hE @fun K Kp hK hKp hg=>?_|refine zT hE @fun K Kp hK hKp anc hanc hg=>?_|refine zF hE @fun K Kp hK hKp anc hanc hg=>?_|refine zg (fun hg=>?_) fun hg=>?_)<;>simp only[go_sem,q2,q3,q5,q4,JR,hg])|(refine zc (fun hc=>?_) (fun hc=>?_)<;>try exact zh hc))
    refine je (hQ _ (MCall.fin (Yf h) (by decide) (x':= { rs h o with right:=false }) rfl (Jf ?_ ?_ ?_))).1
    · simp[jb,rs]
    · simp[jb,rs,J1]
    · simp[jb,rs,ya]
  obtain⟨m,hm⟩:=Int.eq_ofNat_of_zero_le h1
  have q4:decide ((m:Int)<0)=false:=by simp
  by_cases h2:m<h.arenas.length
  case neg=>
    have q6:decide ((h.arenas.length:Int)<=(m:Int))=true:=by simp;omega
    rw[if_neg (by simp[JG,hm,List.getElem?_eq_none (show h.arenas.length<=m by omega)])]
    refine MCall.intro Tryd.func62 YE rfl (by simp[Tryd.f62]) rfl fun E Q hE hN hQ=>jg ?_
    repeat'(first|apply nx|refine zx ?_|rw[zw]|refine zk ?_|refine zp ?_|(apply zA;exact zb)|((first|refine zR hE @fun K Kp hK hKp hg=>?_|refine zT hE @fun K Kp hK hKp anc hanc hg=>?_|refine zF hE @fun K Kp hK hKp anc hanc hg=>?_|refine zg (fun hg=>?_) fun hg=>?_)<;>simp only[go_sem,q2,q3,q5,hm,q4,q6,JR,hg])|(refine zc (fun hc=>?_) (fun hc=>?_)<;>try exact zh hc))
    refine je (hQ _ (MCall.fin (Yf h) (by decide) (x':= { rs h o with right:=false }) rfl (Jf ?_ ?_ ?_))).1
    · simp[jb,rs]
    · simp[jb,rs,J1]
    · simp[jb,rs,ya]
  obtain⟨b,hb⟩:=get?_of h2
  have q6:decide ((h.arenas.length:Int)<=(m:Int))=false:=by simp;omega
  cases b
  · rw[if_neg (by simp[JG,hm,hb])]
    refine MCall.intro Tryd.func62 YE rfl (by simp[Tryd.f62]) rfl fun E Q hE hN hQ=>jg ?_
    repeat'(first|apply nx|refine zx ?_|rw[zw]|refine zk ?_|refine zp ?_|(apply zA;exact zb)|((first|refine zR hE @fun K Kp hK hKp hg=>?_|refine zT hE @fun K Kp hK hKp anc hanc hg=>?_|refine zF hE @fun K Kp hK hKp anc hanc hg=>?_|refine zg (fun hg=>?_) fun hg=>?_)<;>simp only[go_sem,q2,q3,q5,hm,q4,q6,JR,hb,hg])|(refine zc (fun hc=>?_) (fun hc=>?_)<;>try exact zh hc))
    refine je (hQ _ (MCall.fin (Yf h) (by decide) (x':= { rs h o with right:=false }) rfl (Jf ?_ ?_ ?_))).1
    · simp[jb,rs]
    · simp[jb,rs,J1]
    · simp[jb,rs,ya]
  have hmk:=YU (l:=o.ags) h2
  by_cases h3:m∈o.ags
  · rw[decide_eq_true h3] at hmk
    rw[if_neg (by simp[JG,hm,hb,h3])]
    refine MCall.intro Tryd.func62 YE rfl (by simp[Tryd.f62]) rfl fun E Q hE hN hQ=>jg ?_
    repeat'(first|apply nx|refine zx ?_|rw[zw]|refine zk ?_|refine zp ?_|(apply zA;exact zb)|((first|refine zR hE @fun K Kp hK hKp hg=>?_|refine zT hE @fun K Kp hK hKp anc hanc hg=>?_|refine zF hE @fun K Kp hK hKp anc hanc hg=>?_|refine zg (fun hg=>?_) fun hg=>?_)<;>simp only[go_sem,q2,q3,q5,hm,q4,q6,JR,ya,rs,hb,hmk,hg])|(refine zc (fun hc=>?_) (fun hc=>?_)<;>try exact zh hc))
    refine je (hQ _ (MCall.fin (Yf h) (by decide) (x':= { rs h o with right:=false }) rfl (Jf ?_ ?_ ?_))).1
    · simp[jb,rs]
    · simp[jb,rs,J1]
    · simp[jb,rs,ya]
  rw[decide_eq_false h3] at hmk
  rw[if_pos (by simp[JG,hm,hb,h3]),hm,Int.toNat_natCast]
  have hP0:=hP m h3 hb
  generalize hO:({ o with ags:=o.ags++[m] } :Ow)=o0 at*
  have hw0:rs h o0=⟨marks h.cells.length o.cs,marks h.arenas.length (o.ags++[m]),o.ids.length,mxI o.ids,true⟩:=by
    rw[<- hO];rfl
  refine MCall.intro Tryd.func62 YE rfl (by simp[Tryd.f62]) rfl fun E Q hE hN hQ=>jg ?_
  repeat'(first|apply nx|refine zx ?_|rw[zw]|refine zk ?_|refine zp ?_|(apply zA;exact zb)|((fail_if_success refine j3 20 ?_);(first|refine zR hE @fun K Kp hK hKp hg=>?_|refine zT hE @fun K Kp hK hKp anc hanc hg=>?_|refine zF hE @fun K Kp hK hKp anc hanc hg=>?_|refine zg (fun hg=>?_) fun hg=>?_)<;>simp only[go_sem,q2,q3,q5,hm,q4,q6,JR,ya,rs,hb,hmk,OI h2,hg])|(refine zc (fun hc=>?_) (fun hc=>?_)<;>try exact zh hc))
  refine jB (X:=Nat×Rw) (fun x=>x.1<=h.cells.length/\((∃ o1,x.2=rs h o1/\enL en (Js h.cells m) o0=enL en (JF h.cells m x.1) o1/\P o1)\/(x.2.right=false/\enL en (Js h.cells m) o0=none))) (fun x=>jx [(0,.ptr 0 0),(3,.ptr 3 0),(5,.i x.1)] (hpL h v x.2) 4) (fun x=>h.cells.length - x.1) (0,rs h o0) ⟨Nat.zero_le _,.inl ⟨o0,rfl,by rw[YD],hP0⟩⟩ (fun i=>i) ?_ ?_
  · simp only[hw0]
    refine jc (by simp[go_sem]) (by simp[go_sem,JR,J1,rs,hm]) (by simp) (by rw[hN];exact fun id hid=>⟨rfl,by omega⟩)
  rintro⟨i,w⟩ ⟨hi,ht⟩
  simp only at hi ht
  by_cases hlt:i<h.cells.length
  case neg=>
    obtain rfl:i=h.cells.length:=by omega
    repeat'(first|apply nx|refine zx ?_|rw[zw]|refine zk ?_|refine zp ?_|(apply zA;exact zb)|((first|refine zR hE @fun K Kp hK hKp hg=>?_|refine zT hE @fun K Kp hK hKp anc hanc hg=>?_|refine zF hE @fun K Kp hK hKp anc hanc hg=>?_|refine zg (fun hg=>?_) fun hg=>?_)<;>simp only[go_sem,jE,hg])|(refine zc (fun hc=>?_) (fun hc=>?_)<;>try exact zh hc))
    refine jl ?_
    refine(hQ _ (MCall.fin (Yf h) (by decide) (x':=w) ?_ (Jf (by simp[jb]) (by simp[jb]) (by simp[jb])))).2
    rcases ht with ⟨o1,hw,ht,_⟩|⟨hw,ht⟩
    · rw[GA,enL] at ht
      rw[ht];exact hw
    · rw[ht];exact hw
  obtain⟨x,hx⟩:=get?_of hlt
  rcases ht with ⟨o1,rfl,ht,hPi⟩|⟨hw,ht⟩
  case inr=>
    repeat'(first|apply nx|refine zx ?_|rw[zw]|refine zk ?_|refine zp ?_|(apply zA;exact zb)|((first|refine zR hE @fun K Kp hK hKp hg=>?_|refine zT hE @fun K Kp hK hKp anc hanc hg=>?_|refine zF hE @fun K Kp hK hKp anc hanc hg=>?_|refine zg (fun hg=>?_) fun hg=>?_)<;>simp only[go_sem,ja hlt,hw,hg])|(refine zc (fun hc=>?_) (fun hc=>?_)<;>try exact zh hc))
    refine jl ?_
    refine(hQ _ (MCall.fin (Yf h) (by decide) (x':=w) ?_ (Jf (by simp[jb,hw]) (by simp[jb]) (by simp[jb])))).2
    rw[ht];exact hw
  rw[JD hx] at ht
  cases hlv:x.live
  · rw[if_neg (by simp[hlv])] at ht
    repeat'(first|apply nx|refine zx ?_|rw[zw]|refine zk ?_|refine zp ?_|(apply zA;exact zb)|((first|refine zR hE @fun K Kp hK hKp hg=>?_|refine zT hE @fun K Kp hK hKp anc hanc hg=>?_|refine zF hE @fun K Kp hK hKp anc hanc hg=>?_|refine zg (fun hg=>?_) fun hg=>?_)<;>simp only[go_sem,ja hlt,rs,hx,Cl.av,Cl.cs_eq,hlv,hg])|(refine zc (fun hc=>?_) (fun hc=>?_)<;>try exact zh hc))
    refine⟨(i+1,rs h o1),⟨by simp only;omega,.inl ⟨o1,rfl,ht,hPi⟩⟩,by simp only;omega,fun i=>i,?_⟩
    refine jc (by simp[go_sem]) (by simp[go_sem,rs]) (by simp) (by rw[hN];exact fun id hid=>⟨rfl,by omega⟩)
  by_cases har:x.arena=m
  case neg=>
    have q7:(x.arena==(m:Int))=false:=by simpa using har
    rw[if_neg (by simp[q7])] at ht
    repeat'(first|apply nx|refine zx ?_|rw[zw]|refine zk ?_|refine zp ?_|(apply zA;exact zb)|((first|refine zR hE @fun K Kp hK hKp hg=>?_|refine zT hE @fun K Kp hK hKp anc hanc hg=>?_|refine zF hE @fun K Kp hK hKp anc hanc hg=>?_|refine zg (fun hg=>?_) fun hg=>?_)<;>simp only[go_sem,ja hlt,rs,hx,Cl.av,Cl.cs_eq,hlv,hm,q7,hg])|(refine zc (fun hc=>?_) (fun hc=>?_)<;>try exact zh hc))
    refine⟨(i+1,rs h o1),⟨by simp only;omega,.inl ⟨o1,rfl,ht,hPi⟩⟩,by simp only;omega,fun i=>i,?_⟩
    refine jc (by simp[go_sem]) (by simp[go_sem,rs,hm]) (by simp) (by rw[hN];exact fun id hid=>⟨rfl,by omega⟩)
  have q7:(x.arena==(m:Int))=true:=by simpa using har
  rw[if_pos (by simp[q7,hlv]),enL] at ht
  have he1:=hen i x o1 hPi hx hlv
  unfold RCel at he1
  repeat'(first|apply nx|refine zx ?_|rw[zw]|refine zk ?_|refine zp ?_|(apply zA;exact zb)|((first|refine zR hE @fun K Kp hK hKp hg=>?_|refine zT hE @fun K Kp hK hKp anc hanc hg=>?_|refine zF hE @fun K Kp hK hKp anc hanc hg=>?_|refine zg (fun hg=>?_) fun hg=>?_)<;>simp only[go_sem,ja hlt,rs,hx,Cl.av,Cl.cs_eq,hlv,hm,q7,hg])|(refine zc (fun hc=>?_) (fun hc=>?_)<;>try exact zh hc))
  refine Hold.mk (MCall.use (Yf h) he1 (by simp[AV.ids,AV.idsL,go_sem]) (Jf (by simp[jb,rs]) (by simp[jb,rs]) (by simp[jb,rs])) fun w' hpn hG hob hold=>?_)
  have g0:=hob 0 _ rfl
  have g1:=hob 1 _ rfl
  have g2:=hob 2 _ rfl
  have g3:=hold 3 (.cells [.i v.kind,.i v.id,.i v.var,.i m,.sl (Vl.avL v.fs),.bool v.excl,.sl (il v.path),.sl (il v.loans)]) (by decide) (by simp[jb])
  simp only[go_sem,Jg]
  refine hK.h _ ?_;clear hK hKp K Kp;try clear hanc anc
  repeat(first|refine jk ?_|refine jj ?_|refine jK ?_)
  repeat'(first|apply nx|refine zx ?_|rw[zw]|refine zk ?_|refine zp ?_|(apply zA;exact zb)|((first|refine zR hE @fun K Kp hK hKp hg=>?_|refine zT hE @fun K Kp hK hKp anc hanc hg=>?_|refine zF hE @fun K Kp hK hKp anc hanc hg=>?_|refine zg (fun hg=>?_) fun hg=>?_)<;>simp only[go_sem,hg])|(refine zc (fun hc=>?_) (fun hc=>?_)<;>try exact zh hc))
  refine⟨(i+1,w'),⟨by simp only;omega,?_⟩,by simp only;omega,fun i=>i,?_⟩
  · cases hy:en i o1 with
    |some o2=>
      rw[hy] at hG ht
      exact .inl ⟨o2,hG,ht,hs i x o1 o2 hPi hx hlv hy⟩
    |none=>
      rw[hy] at hG ht
      exact .inr ⟨hG,ht⟩
  · refine jc (by simp[go_sem]) (by simp[go_sem,g0,g1,g2,g3,hm]) (by simp) (by rw[hN];exact fun id hid=>⟨rfl,by omega⟩)
def XC (h:Hp) (k:Nat):Prop:=∀ n c o,h.cells[n]? =some c->c.live=true->o.Ok h->h.cells.length<=k+o.cs.length->bud (2 ^ 20) h o<=2 ^ 42->RCel h n (jy h k n) o
theorem U6 {h:Hp} (hl:h.cells.length<=2 ^ 20) (hal:h.arenas.length<=2 ^ 20) (hM:∀ c,c∈h.cells->c.v.sz<=2 ^ 20) {k:Nat} (hE:XC h k):∀ (N:Nat) (v:Vl) (o:Ow),v.sz<N->v.sz<=2 ^ 20->o.Ok h->h.cells.length<=k+o.cs.length->bud (2 ^ 20) h o+v.sz<=2 ^ 42->GQ h v (jP h (jy h k) v) o:=by
 intro N
 induction N with
 |zero=>intro v o h0;omega
 |succ N ih=>
 intro v o hN hv20 ho hlen hbud
 have hsz:=v.sz_eq
 have hfl:=Vl.len_le v.fs
 have hids:o.ids.length<=bud (2 ^ 20) h o:=Nat.le_add_right _ _
 by_cases h2:v.kind=2
 ·refine jbm h _ v o h2 (by omega) (by omega) (fun i o=>o.Ok h/\h.cells.length<=k+o.cs.length/\bud (2 ^ 20) h o+Vl.szL (v.fs.drop i)<=2 ^ 42) ⟨⟨ho.nd,ho.lt,ho.and,ho.alt⟩,hlen,?_⟩ ?_ ?_
  ·have e:bud (2 ^ 20) h { o with ids:=o.ids++[v.id] } =bud (2 ^ 20) h o+1:=by simp only[bud,List.length_append,List.length_singleton];omega
   rw[e,List.drop_zero]
   omega
  ·rintro i x o1 hx ⟨g1,g2,g3⟩
   rw[jS hx,Vl.szL] at g3
   have:=Vl.sz_mem (List.mem_of_getElem? hx)
   exact ih x o1 (by omega) (by omega) g1 g2 (by omega)
  ·rintro i x o1 o2 hx ⟨g1,g2,g3⟩ he
   rw[jS hx,Vl.szL] at g3
   have k1:=jD (jo h k) x o1 o2 g1 he
   have k2:=yY (jo h k) (yb hM k) x o1 o2 g1 he
   have k3:=Ow.Le.len k1.2
   exact⟨k1.1,by omega,by omega⟩
 by_cases h3:v.kind=3
 ·exact jdH h _ v o h3 hl (fun m c hc hv=>hE m c o hc hv ho hlen (by omega))
 by_cases h5:v.kind=5
 ·refine Xm h _ v o h5 hl hal (fun o=>o.Ok h/\h.cells.length<=k+o.cs.length/\bud (2 ^ 20) h o<=2 ^ 42) (fun m hm1 hm2=>⟨ho.arena hm1 hm2,hlen,?_⟩) (fun m c o1 g hc hv=>hE m c o1 hc hv g.1 g.2.1 g.2.2) (fun m c o1 o2 g hc hv he=>?_)
  ·have e:bud (2 ^ 20) h (Ow.mk o.cs (o.ags++[m]) o.ids)=bud (2 ^ 20) h o:=rfl
   show bud (2 ^ 20) h (Ow.mk o.cs (o.ags++[m]) o.ids)<=2 ^ 42
   rw[e]
   omega
  ·have k1:=jo h k m o1 o2 g.1 ⟨c,hc,hv⟩ he
   have k2:=yb hM k m o1 o2 g.1 ⟨c,hc,hv⟩ he
   have k3:=Ow.Le.len k1.2
   exact⟨k1.1,by omega,by omega⟩
 exact Xn h _ v o h2 h3 h5
theorem RCel.congr {h:Hp} {n:Nat} {r r':Ow->Option Ow} {o:Ow} (hr:r o=r' o) (he:RCel h n r o):RCel h n r' o:=by
 unfold RCel at he ⊢
 rw[<- hr]
 exact he
theorem U0 {h:Hp} (hl:h.cells.length<=2 ^ 20) (hal:h.arenas.length<=2 ^ 20) (hM:∀ c,c∈h.cells->c.v.sz<=2 ^ 20):∀ k,XC h k
 |0=>fun n c o hc hv ho hlen hbud=>by
  have hin:n∈o.cs:=Classical.byContradiction fun hn=>by
   have:=ho.len_lt hn (List.getElem?_eq_some_iff.1 hc).1
   omega
  refine RCel.congr (r:=fun o=>jy h (0+1) n o) ?_ (jae h 0 n o c hc fun hn=>absurd hin hn)
  have e1:jy h (0+1) n o=none:=by rw[jy,if_pos hin]
  have e0:jy h 0 n o=none:=by rw[jy]
  show jy h (0+1) n o=jy h 0 n o
  rw[e1,e0]
 |k+1=>fun n c o hc hv ho hlen hbud=>by
  refine jae h k n o c hc fun hn=>?_
  have g1:=ho.len_lt hn (List.getElem?_eq_some_iff.1 hc).1
  have g2:=hM c (List.mem_of_getElem? hc)
  refine U6 hl hal hM (U0 hl hal hM k) (c.v.sz+1) c.v _ (by omega) g2 (ho.enter hn hc hv) ?_ ?_
  ·simp only[List.length_append,List.length_singleton];omega
  ·have e:bud (2 ^ 20) h { o with cs:=o.cs++[n] } +2 ^ 20=bud (2 ^ 20) h o:=by
    unfold bud
    simp only[List.length_append,List.length_singleton]
    have:h.cells.length - o.cs.length=(h.cells.length - (o.cs.length+1))+1:=by omega
    rw[this,Nat.add_mul]
    omega
   omega

def qt (h:Hp) (l:List Vl):Option Ow:=Jk h (jy h h.cells.length) l Ow.nil
theorem jbu (h:Hp) (v:Vl):qt h [v]=yc h v:=by
 unfold qt yc
 rw[Jk]
 cases jP h (jy h h.cells.length) v Ow.nil<;>rfl
structure SmL (h:Hp) (vs:List Vl):Prop where
 l:h.cells.length<=2 ^ 20
 a:h.arenas.length<=2 ^ 20
 m:∀ c,c∈h.cells->c.v.sz<=2 ^ 20
 v:∀ v:Vl,v∈vs->v.sz<=2 ^ 20
 n:Vl.szL vs<=2 ^ 30
theorem Sm.one {h:Hp} {v:Vl} (hm:Sm h v):SmL h [v]:=⟨hm.l,hm.a,hm.m,by simpa using hm.v,by have:=hm.v;simp[Vl.szL];omega⟩
theorem jdZ {h:Hp} {l:List Vl} (hm:SmL h l):ACall Tryd.prog 38 [h.av,.sl (Vl.avL l)] (fun _=>none) 0 0 (fun r hp'=>r= .ptr 0 0/\∃ w,hp'=qg h w/\ROk h (qt h l) w) (fun _ _=>False):=by
 have hl:=hm.l
 have ha:=hm.a
 have hll:=Vl.len_le l
 have hn:=hm.n
 have hw0:rs h Ow.nil=⟨List.replicate h.cells.length false,List.replicate h.arenas.length false,0,0,true⟩:=by
  rw[OH,OH];rfl
 rw[Hp.av_eq]
 refine ACall.of_bodyR Tryd.func38 jlg rfl (by simp[Tryd.f38]) fun E Q hE hN hQ hQp=>jg ?_
 repeat'(first|apply nx|refine zx ?_|rw[zw]|refine zk ?_|refine zp ?_|(apply zA;exact zb)|((fail_if_success refine j3 3 ?_);(first|refine zR hE @fun K Kp hK hKp hg=>?_|refine zT hE @fun K Kp hK hKp anc hanc hg=>?_|refine zF hE @fun K Kp hK hKp anc hanc hg=>?_|refine zg (fun hg=>?_) fun hg=>?_)<;>simp only[go_sem,hg])|(refine zc (fun hc=>?_) (fun hc=>?_)<;>try exact zh hc))
 refine jB (X:=Nat×Rw) (fun x=>x.1<=l.length/\((∃ o1,x.2=rs h o1/\qt h l=Jk h (jy h h.cells.length) (l.drop x.1) o1/\(o1.Ok h/\bud (2 ^ 20) h o1+Vl.szL (l.drop x.1)<=2 ^ 42))\/(x.2.right=false/\qt h l=none))) (fun x=>jx [(1,.sl (Vl.avL l)),(4,.nilp),(5,.ptr 0 0),(6,.i x.1)] [(0,.cells (rwC h x.2)),(1,.row 1 (bl x.2.mc)),(2,.row 1 (bl x.2.ma))] 3) (fun x=>l.length - x.1) (0,rs h Ow.nil) ⟨Nat.zero_le _,.inl ⟨Ow.nil,rfl,rfl,Ow.nil_ok h,?_⟩⟩ (fun i=>if i=0 then 12582912 else if i=1 then 6291456 else 10485760) ?_ ?_
 ·rw[GV,List.drop_zero];omega
 ·simp only[hw0]
  refine jc (by simp[go_sem]) (by simp[go_sem]) (by simp) (by simp[hN])
 have hfin:∀ (O:St) (w:Rw),ROk h (qt h l) w->O.fr 4=some (.ptr 0 0)->(∀ id ob,qg h w id=some ob->O.hp id=some ob)->Q .ret O:=fun O w hG h4 ho=>
  (hQ _ ⟨.ptr 0 0,fun i=>i,qg h w,3,(by simp[Jy,rvA,Tryd.f38,go_sem,h4]),by simp[AV.ids],j6 (fr:=[]) (by simp) (fun id o hx=>⟨ho id o hx,(Yf h).lt w id o hx⟩) (by decide),rfl,w,rfl,hG⟩).1
 rintro⟨i,w⟩ ⟨hi,ht⟩
 simp only at hi ht
 by_cases hlt:i<l.length
 case neg=>
  obtain rfl:i=l.length:=by omega
  repeat'(first|apply nx|refine zx ?_|rw[zw]|refine zk ?_|refine zp ?_|(apply zA;exact zb)|((first|refine zR hE @fun K Kp hK hKp hg=>?_|refine zT hE @fun K Kp hK hKp anc hanc hg=>?_|refine zF hE @fun K Kp hK hKp anc hanc hg=>?_|refine zg (fun hg=>?_) fun hg=>?_)<;>simp only[go_sem,jE,hg])|(refine zc (fun hc=>?_) (fun hc=>?_)<;>try exact zh hc))
  refine je (hfin _ w ?_ (by simp[upd]) (Jf (by simp[jb]) (by simp[jb]) (by simp[jb])))
  rcases ht with ⟨o1,hw,ht,_⟩|⟨hw,ht⟩
  ·rw[List.drop_length,Jk] at ht
   rw[ht];exact hw
  ·rw[ht];exact hw
 obtain⟨x,hx⟩:=get?_of hlt
 rcases ht with ⟨o1,rfl,ht,hok,hbud⟩|⟨hw,ht⟩
 case inr=>
  repeat'(first|apply nx|refine zx ?_|rw[zw]|refine zk ?_|refine zp ?_|(apply zA;exact zb)|((first|refine zR hE @fun K Kp hK hKp hg=>?_|refine zT hE @fun K Kp hK hKp anc hanc hg=>?_|refine zF hE @fun K Kp hK hKp anc hanc hg=>?_|refine zg (fun hg=>?_) fun hg=>?_)<;>simp only[go_sem,ja hlt,hw,hg])|(refine zc (fun hc=>?_) (fun hc=>?_)<;>try exact zh hc))
  refine je (hfin _ w ?_ (by simp[upd]) (Jf (by simp[jb,hw]) (by simp[jb]) (by simp[jb])))
  rw[ht];exact hw
 rw[jS hx,Jk] at ht
 rw[jS hx,Vl.szL] at hbud
 have hxm:=Vl.sz_mem (List.mem_of_getElem? hx)
 have hv1:=U6 hm.l hm.a hm.m (U0 hm.l hm.a hm.m h.cells.length) (x.sz+1) x o1 (by omega) (hm.v x (List.mem_of_getElem? hx)) hok (by omega) (by omega)
 unfold GQ at hv1
 rw[show x.cs=[.i x.kind,.i x.id,.i x.var,.i x.n,.sl (Vl.avL x.fs),.bool x.excl,.sl (il x.path),.sl (il x.loans)] from rfl] at hv1
 repeat'(first|apply nx|refine zx ?_|rw[zw]|refine zk ?_|refine zp ?_|(apply zA;exact zb)|((first|refine zR hE @fun K Kp hK hKp hg=>?_|refine zT hE @fun K Kp hK hKp anc hanc hg=>?_|refine zF hE @fun K Kp hK hKp anc hanc hg=>?_|refine zg (fun hg=>?_) fun hg=>?_)<;>simp only[go_sem,ja hlt,rs,hx,Vl.av_eq,hg])|(refine zc (fun hc=>?_) (fun hc=>?_)<;>try exact zh hc))
 refine Hold.mk (MCall.use (Yf h) hv1 (by simp[AV.ids,AV.idsL,go_sem]) (Jf (by simp[jb,rs]) (by simp[jb,rs]) (by simp[jb,rs])) fun w' hpn hG hob hold=>?_)
 have g0:=hob 0 _ rfl
 have g1:=hob 1 _ rfl
 have g2:=hob 2 _ rfl
 simp only[go_sem,Jg]
 refine hK.h _ ?_;clear hK hKp K Kp;try clear hanc anc
 repeat(first|refine jk ?_|refine jj ?_|refine jK ?_)
 repeat'(first|apply nx|refine zx ?_|rw[zw]|refine zk ?_|refine zp ?_|(apply zA;exact zb)|((first|refine zR hE @fun K Kp hK hKp hg=>?_|refine zT hE @fun K Kp hK hKp anc hanc hg=>?_|refine zF hE @fun K Kp hK hKp anc hanc hg=>?_|refine zg (fun hg=>?_) fun hg=>?_)<;>simp only[go_sem,hg])|(refine zc (fun hc=>?_) (fun hc=>?_)<;>try exact zh hc))
 refine⟨(i+1,w'),⟨by simp only;omega,?_⟩,by simp only;omega,fun i=>i,?_⟩
 ·cases hy:jP h (jy h h.cells.length) x o1 with
  |some o2=>
   rw[hy] at hG ht
   have k1:=jD (jo h _) x o1 o2 hok hy
   have k2:=yY (jo h _) (yb hm.m _) x o1 o2 hok hy
   exact .inl ⟨o2,hG,ht,k1.1,by simp only;omega⟩
  |none=>
   rw[hy] at hG ht
   exact .inr ⟨hG,ht⟩
 ·refine jc (by simp[go_sem]) (by simp[go_sem,g0,g1,g2]) (by simp) (by simp[hN])
theorem Xx {h : Hp} {l : List Vl} (hm : SmL h l) {fr : Nat -> Option AV} {hp0 : Nat -> Option AObj} {n0 k : Nat} {d : Option Nat} {K : St -> Prop} {Kp : AV -> St -> Prop} (B : Nat) (hB : n0 + 1048576 * k = B)
    (hK:∀ w hpn,ROk h (qt h l) w->hpn B=some (.cells [.sl (cl h.cells),.sl (bl h.arenas),.rw (B+1),.rw (B+2),.i w.cnt,.i w.ids,.bool w.right])->hpn (B+1)=some (.row 1 (bl w.mc))->hpn (B+2)=some (.row 1 (bl w.ma))->(∀ id o,hp0 id=some o->hpn id=some o)->K ⟨Jg fr d (.ptr B 0),hpn,n0⟩):
    CallB Tryd.prog 38 [h.av,.sl (Vl.avL l)] ⟨fr,hp0,n0⟩ k d K Kp:=by
  subst hB
  have hb:∀ j,jn (fun i=>i) 0 (n0+1048576*k) j=n0+1048576*k+j:=fun j=>by rw[Jq (Nat.zero_le _),Nat.sub_zero]
  refine CallB.use (jdZ hm) (fun i=>i) (by rw[jv]) (by simp[AV.ids,AV.idsL,Hp.av,go_sem]) (fun id ob ho=>by cases ho) (fun _ _ _ _ _ _ e=>e) (fun id hid=>absurd hid (Nat.not_lt_zero _)) ?_ (fun _ _ h=>h.elim) ?_ (fun _ _ _ h=>h.elim)
  · rintro r hp' ⟨rfl,w,rfl,_⟩
    exact⟨by simp[AV.ids],fun id o ho=>⟨by have:=((Yf h).lt w id o ho).1;omega,jf _ (fun j hj=>by omega) ((Yf h).lt w id o ho).2⟩⟩
  · rintro r hp' fr' hpn ⟨rfl,w,rfl,hG⟩ hfr hobj hold
    have e:fr'=Jg fr d (.ptr (n0+1048576*k) 0):=by subst hfr;simp only[AV.ren,hb,Nat.add_zero];cases d<;>rfl
    subst e
    have g0:=hobj 0 _ (JR h w)
    have g1:=hobj 1 _ (J1 h w)
    have g2:=hobj 2 _ (ya h w)
    simp only[AObj.ren,AV.ren,AV.renL,hb,Nat.add_zero,jgr] at g0 g1 g2
    exact hK w hpn hG g0 g1 g2 fun id o ho=>hold id o ho fun j hj=>absurd rfl hj
end Go.Proofs.YtfpcjabbcpgbjaaDoor

set_option maxHeartbeats 4000000
set_option maxRecDepth 100000
namespace Go.Proofs.YtfpcjabbcpgbjaaDoor
open Go.Am Go.Proofs Go.Hv Go.Gl
open Classical
attribute [local irreducible] AW jA CallB CallY
theorem Xj {h:Hp} {l:List Vl} (hm:SmL h l):PCall Tryd.prog 15 [h.av,.sl (Vl.avL l)] (.bool (qt h l).isSome):=by
 rw[Hp.av_eq]
 refine pI Tryd.func15 jk1 fun E Q hE hN hQ=>?_
 repeat'(first|apply nx|refine zx ?_|rw[zw]|refine zk ?_|refine zp ?_|(apply zA;exact zb)|((first|refine zR hE fun hg=>?_|refine zT hE fun hanc hg=>?_|refine zF hE fun hanc hg=>?_|refine zg (fun hg=>?_) fun hg=>?_)<;>simp only[go_sem,hg])|(refine zc (fun hc=>?_) (fun hc=>?_)<;>try exact zh hc))
 refine Hold.mk (Xx hm 4194304 rfl fun w hpn hG g0 g1 g2 hold=>?_)
 have e:w.right=(qt h l).isSome:=by
  unfold ROk at hG
  split at hG
  ·rename_i o ho;rw[ho,hG];rfl
  ·rename_i ho;rw[ho,hG];rfl
 simp only[go_sem,Jg,g0]
 repeat'(first|apply nx|refine zx ?_|rw[zw]|refine zk ?_|refine zp ?_|(apply zA;exact zb)|((first|refine zR hE fun hg=>?_|refine zF hE fun hanc hg=>?_|refine zg (fun hg=>?_) fun hg=>?_)<;>simp only[go_sem,hg])|(refine zc (fun hc=>?_) (fun hc=>?_)<;>try exact zh hc)|(refine je ?_;refine zt hQ ?_))
 simp[AV.snap,e]
theorem jeI {D:List Dd} (hD:DB D) (hR:DR D) {a b:Ty} (ha:a.sz<=2 ^ 20) (hb:b.sz<=2 ^ 20) (hU:(uni D [a,b]).length<=2 ^ 30) {h:Hp} {v:Vl} (hm:Sm h v):PCall Tryd.prog 6 [.sl (ddl D),a.av,b.av,h.av,v.av] (.bool true):=by
 have hh:=jhB
 have hv20:=hm.v
 have hl20:=hm.l
 have c1:=jdn (l:=[a,b]) hD (by simp) (fun u hu=>by simp at hu;rcases hu with rfl|rfl<;>omega)
 have havl:Ty.avL [a,b]=[a.av,b.av]:=by simp[Ty.avL]
 have c2:=jcA h v (by omega) (fun c hc=>by have:=hm.m c hc;omega) hm.l
 have c3:=Xj (l:=[v]) hm.one
 have c4:=Xo hD hR (a:=a) (b:=b) (by omega) (by omega) hU
 have hvl:Vl.avL [v]=[v.av]:=by simp[Vl.avL]
 rw[jbu] at c3
 rw[havl,Ty.av_eq a,Ty.av_eq b] at c1
 rw[Ty.av_eq a,Ty.av_eq b] at c4
 rw[hvl,Hp.av_eq,Vl.av_eq v] at c3
 rw[Hp.av_eq,Vl.av_eq v] at c2
 rw[Ty.av_eq a,Ty.av_eq b,Hp.av_eq,Vl.av_eq v]
 by_cases p1:qO D [a,b]
 case neg=>
  rw[decide_eq_false p1] at c1
  refine pI Tryd.func6 jcU fun E Q hE hN hQ=>?_
  repeat'(first|apply nx|refine zx ?_|rw[zw]|refine zk ?_|refine zp ?_|(apply zA;exact zb)|((first|refine zR hE fun hg=>?_|refine zF hE fun hanc hg=>?_|(apply zM;exact zu;(first|exact hh|exact c1);exact zs;exact zl;intro hg)|refine zg (fun hg=>?_) fun hg=>?_)<;>simp only[go_sem,hg])|(refine zc (fun hc=>?_) (fun hc=>?_)<;>try exact zh hc)|(refine je ?_;refine zt hQ ?_))
  all_goals simp[AV.snap]
 rw[decide_eq_true p1] at c1
 by_cases p2:xP h v
 case neg=>
  rw[decide_eq_false p2] at c2
  refine pI Tryd.func6 jcU fun E Q hE hN hQ=>?_
  repeat'(first|apply nx|refine zx ?_|rw[zw]|refine zk ?_|refine zp ?_|(apply zA;exact zb)|((first|refine zR hE fun hg=>?_|refine zF hE fun hanc hg=>?_|(apply zM;exact zu;(first|exact hh|exact c1|exact c2);exact zs;exact zl;intro hg)|refine zg (fun hg=>?_) fun hg=>?_)<;>simp only[go_sem,hg])|(refine zc (fun hc=>?_) (fun hc=>?_)<;>try exact zh hc)|(refine je ?_;refine zt hQ ?_))
  all_goals simp[AV.snap]
 rw[decide_eq_true p2] at c2
 cases hw:yc h v with
 |none=>
  rw[hw] at c3
  refine pI Tryd.func6 jcU fun E Q hE hN hQ=>?_
  repeat'(first|apply nx|refine zx ?_|rw[zw]|refine zk ?_|refine zp ?_|(apply zA;exact zb)|((first|refine zR hE fun hg=>?_|refine zF hE fun hanc hg=>?_|(apply zM;exact zu;(first|exact hh|exact c1|exact c2|exact c3);exact zs;exact zl;intro hg)|refine zg (fun hg=>?_) fun hg=>?_)<;>simp only[go_sem,hg])|(refine zc (fun hc=>?_) (fun hc=>?_)<;>try exact zh hc)|(refine je ?_;refine zt hQ ?_))
  all_goals simp[AV.snap]
 |some o=>
 rw[hw] at c3
 cases hs:smB D a b
 ·rw[hs] at c4
  refine pI Tryd.func6 jcU fun E Q hE hN hQ=>?_
  repeat'(first|apply nx|refine zx ?_|rw[zw]|refine zk ?_|refine zp ?_|(apply zA;exact zb)|((first|refine zR hE fun hg=>?_|refine zF hE fun hanc hg=>?_|(apply zM;exact zu;(first|exact hh|exact c1|exact c2|exact c3|exact c4);exact zs;exact zl;intro hg)|refine zg (fun hg=>?_) fun hg=>?_)<;>simp only[go_sem,hg])|(refine zc (fun hc=>?_) (fun hc=>?_)<;>try exact zh hc)|(refine je ?_;refine zt hQ ?_))
  all_goals simp[AV.snap]
 rw[hs] at c4
 have hdt:=p1.2.2.1
 have hpa:Pl D a:=⟨8,p1.1 a (by simp)⟩
 have hpb:Pl D b:=⟨8,p1.1 b (by simp)⟩
 have hab:bis D D a b:=by
  simp only[smB,Bool.and_eq_true,decide_eq_true_eq] at hs
  exact hs.2.2.2
 have hcp:=jeC h hm.l hm.a
 rw[Hp.av_eq] at hcp
 refine pI Tryd.func6 jcU fun E Q hE hN hQ=>?_
 repeat'(first|apply nx|refine zx ?_|rw[zw]|refine zk ?_|refine zp ?_|(apply zA;exact zb)|((first|refine zR hE fun hg=>?_|refine zT hE fun hanc hg=>?_|refine zF hE fun hanc hg=>?_|(apply zM;exact zu;(first|exact hh|exact c1|exact c2|exact c3|exact c4);exact zs;exact zl;intro hg)|refine zg (fun hg=>?_) fun hg=>?_)<;>simp only[go_sem,hg])|(refine zc (fun hc=>?_) (fun hc=>?_)<;>try exact zh hc))
 refine Hold.mk (CallB.newRows hcp (by simp[AV.cloL,AV.clo]) (QP _) (QK _) ?_)
 simp only[go_sem]
 repeat'(first|apply nx|refine zx ?_|rw[zw]|refine zk ?_|refine zp ?_|(apply zA;exact zb)|((fail_if_success refine j3 5 ?_);(first|refine zR hE fun hg=>?_|refine zT hE fun hanc hg=>?_|refine zF hE fun hanc hg=>?_|refine zg (fun hg=>?_) fun hg=>?_)<;>simp only[go_sem,hg])|(refine zc (fun hc=>?_) (fun hc=>?_)<;>try exact zh hc))
 have hI:Rin h Ow.nil ⟨h.cells,true⟩:=⟨rfl,fun i _=>rfl,fun i=>rfl⟩
 have hcal:=jbq (ar:=h.arenas) hD hdt hm.l hm.m h.cells.length v Ow.nil o a b ⟨h.cells,true⟩ hm.v (Ow.nil_ok h) hw hI hpa hpb
 have hrs:Jc D (j4 D h.cells.length) v a b ⟨h.cells,true⟩=rlS D h v a b:=rfl
 rw[hrs] at hcal
 have hkp:=(yj (yi (D:=D) h.cells.length) v Ow.nil o a b ⟨h.cells,true⟩ (Ow.nil_ok h) hw hI).1
 rw[hrs] at hkp
 have hlenX:(rlH D h v a b).cells.length=h.cells.length:=hkp.len
 have hmX:=jl3 hm (D:=D) (a:=a) (b:=b) hlenX
 have hdrop:=fun hok=>jfo hdt hw (a:=a) (b:=b) hok hab hpa hpb
 have hH:rlH D h v a b=⟨(rlS D h v a b).1.L,h.arenas⟩:=rfl
 rw[hH] at hmX hlenX hdrop
 generalize (rlS D h v a b).2=w at*
 generalize (rlS D h v a b).1=s1 at*
 rw[Vl.av_eq v,Vl.av_eq w,Ty.av_eq a,Ty.av_eq b] at hcal
 refine AW.ent (O':=jx [(0,.sl (ddl D)),(6,.ptr 3 0),(7,.ptr 4 0),(8,.ptr 5 0),(9,.ptr 6 0),(11,.bool true),(12,.ptr 0 0)] [(0,.cells [.sl (ddl D),.rw 1,.rw 2,.bool true]),(1,.row 10 (Hv.cl h.cells)),(2,.row 1 (bl h.arenas)),(3,.cells [.i a.kind,.i a.id,.sl (Ty.avL a.args)]),(4,.cells [.i b.kind,.i b.id,.sl (Ty.avL b.args)]),(5,.cells [.sl (Hv.cl h.cells),.sl (bl h.arenas)]),(6,.cells [.i v.kind,.i v.id,.i v.var,.i v.n,.sl (Vl.avL v.fs),.bool v.excl,.sl (il v.path),.sl (il v.loans)])] 7) (fun i=>if i=0 then 38797312 else if i=1 then 36700160 else if i=2 then 36700161 else if i=3 then 0 else if i=4 then 1048576 else if i=5 then 2097152 else if i=6 then 3145728 else i) ?_ ?_
 ·refine jc (by simp[go_sem]) ?_ (by simp) (by simp[hN])
  simp[go_sem]
 repeat'(first|apply nx|refine zx ?_|rw[zw]|refine zk ?_|refine zp ?_|(apply zA;exact zb)|((first|refine zR hE fun hg=>?_|refine zT hE fun hanc hg=>?_|refine zF hE fun hanc hg=>?_|refine zg (fun hg=>?_) fun hg=>?_)<;>simp only[go_sem,hg])|(refine zc (fun hc=>?_) (fun hc=>?_)<;>try exact zh hc))
 refine Hold.mk (oP hcal (by simp[AV.ids,AV.idsL,go_sem]) (by simp only[go_sem]) (by simp only[go_sem]) (by simp only[go_sem]) fun hpn b0 b1 b2 hold=>?_)
 have b5:=hold 5 (.cells [.sl (Hv.cl h.cells),.sl (bl h.arenas)]) (by decide) (by simp[jb])
 have b6:=hold 6 (.cells [.i v.kind,.i v.id,.i v.var,.i v.n,.sl (Vl.avL v.fs),.bool v.excl,.sl (il v.path),.sl (il v.loans)]) (by decide) (by simp[jb])
 clear hold
 simp only[go_sem,Jg]
 cases hok:s1.ok
 ·rw[hok] at b0
  repeat'(first|apply nx|refine zx ?_|rw[zw]|refine zk ?_|refine zp ?_|(apply zA;exact zb)|((first|refine zR hE fun hg=>?_|refine zF hE fun hanc hg=>?_|refine zg (fun hg=>?_) fun hg=>?_)<;>simp only[go_sem,b0,b1,b2,b5,b6,hg])|(refine zc (fun hc=>?_) (fun hc=>?_)<;>try exact zh hc)|(refine je ?_;refine zt hQ ?_))
  all_goals simp[AV.snap]
 rw[hok] at b0
 repeat'(first|apply nx|refine zx ?_|rw[zw]|refine zk ?_|refine zp ?_|(apply zA;exact zb)|((fail_if_success refine j3 8 ?_);(first|refine zR hE fun hg=>?_|refine zT hE fun hanc hg=>?_|refine zF hE fun hanc hg=>?_|refine zg (fun hg=>?_) fun hg=>?_)<;>simp only[go_sem,b0,b1,b2,b5,b6,hg])|(refine zc (fun hc=>?_) (fun hc=>?_)<;>try exact zh hc))
 obtain⟨F,o2,e1,e2,_,hlq,hlive⟩:=hdrop hok
 have hDl:(dtL D).length<=2 ^ 30:=by rw[XK];exact hD.l
 have d1:=Om (dtL D) h v hm hDl
 have d2:=Om (dtL D) ⟨s1.L,h.arenas⟩ w hmX hDl
 rw[jcc,e1] at d1
 rw[jcc,e2] at d2
 have hGl:(j0 h o).cells.length=(j0 ⟨s1.L,h.arenas⟩ o2).cells.length:=by simp only[j0,gF];exact hlenX.symm
 have hG60:(j0 h o).cells.length<=2 ^ 20:=by simp only[j0,gF];exact hm.l
 have hF30:F.out.length<=2 ^ 40:=by
  have:=jb9 (dtL D) hm (by have:=p2.1;omega)
  rw[e1] at this
  have h1:=this.1
  have h2:=this.2
  simp only at h1 h2
  omega
 clear hdrop hcal hkp e1 e2 hmX
 generalize j0 h o=G1 at*
 generalize j0 ⟨s1.L,h.arenas⟩ o2=G2 at*
 have d3:=jcP F.out F.out hF30
 rw[decide_eq_true rfl] at d3
 unfold jdD at d1 d2
 simp only[Hp.av_eq] at d1 d2
 rw[Vl.av_eq v] at d1
 rw[Vl.av_eq w] at d2
 refine AW.ent (O':=jx [(0,.sl (ddl D)),(8,.ptr 3 0),(9,.ptr 4 0),(11,.bool true),(12,.ptr 0 0),(13,.ptr 5 0)] [(0,.cells [.sl (ddl D),.rw 1,.rw 2,.bool true]),(1,.row 10 (Hv.cl s1.L)),(2,.row 1 (bl h.arenas)),(3,.cells [.sl (Hv.cl h.cells),.sl (bl h.arenas)]),(4,.cells [.i v.kind,.i v.id,.i v.var,.i v.n,.sl (Vl.avL v.fs),.bool v.excl,.sl (il v.path),.sl (il v.loans)]),(5,.cells [.i w.kind,.i w.id,.i w.var,.i w.n,.sl (Vl.avL w.fs),.bool w.excl,.sl (il w.path),.sl (il w.loans)])] 6) (fun i=>if i=3 then 5 else if i=4 then 6 else if i=5 then 5242887 else i) ?_ ?_
 ·refine jc (by simp[go_sem]) ?_ (by simp) (by simp[hN])
  simp[go_sem,b0,b1,b2,b5,b6]
 clear b0 b1 b2 b5 b6
 refine JE 0 1 1 (sz:=10) (l:=[.sl (ddl D),.rw 1,.rw 2,.bool true]) (xs:=Hv.cl s1.L) (by simp only[go_sem]) rfl (by simp only[go_sem]) (by decide) (jbV _) ?_
 refine JE 0 2 2 (sz:=1) (l:=[.sl (ddl D),.sl (Hv.cl s1.L),.rw 2,.bool true]) (xs:=bl h.arenas) (by simp only[go_sem]) rfl (by simp only[go_sem]) (by decide) (jbU _) ?_
 have q10:((G1.cells.length:Int) !=(G2.cells.length:Int))=false:=by simp[hGl]
 repeat'(first|apply nx|refine zx ?_|rw[zw]|refine zk ?_|refine zp ?_|(apply zA;exact zb)|((first|refine zR hE fun hg=>?_|refine zT hE fun hanc hg=>?_|refine zF hE fun hanc hg=>?_|(apply zM;exact zu;(first|exact d1|exact d2);exact zs;exact zl;intro hg)|refine zg (fun hg=>?_) fun hg=>?_)<;>simp only[go_sem,q10,hg])|(refine zc (fun hc=>?_) (fun hc=>?_)<;>try exact zh hc))
 refine jB (X:=Nat) (fun i=>i<=G1.cells.length) (fun i=>jx [(11,.bool true),(14,.ptr 0 0),(15,.sl (il F.out)),(16,.i (F.cnt:Int)),(17,.bool F.pan),(19,.ptr 1 0),(20,.sl (il F.out)),(21,.i (F.cnt:Int)),(22,.bool F.pan),(24,.i (i:Nat))] [(0,.cells [.sl (Hv.cl G1.cells),.sl (bl G1.arenas)]),(1,.cells [.sl (Hv.cl G2.cells),.sl (bl G2.arenas)])] 2) (fun i=>G1.cells.length - i) 0 (Nat.zero_le _) (fun i=>if i=0 then 10485766 else 30408710) ?_ ?_
 ·refine jc (by simp[go_sem]) ?_ (by simp) (by simp[hN])
  simp[go_sem]
 intro i hi
 by_cases hlt:i<G1.cells.length
 ·obtain⟨x,hx⟩:=get?_of hlt
  have hlt2:i<G2.cells.length:=by omega
  obtain⟨y,hy⟩:=get?_of hlt2
  have hxy:=hlive i
  rw[hx,hy] at hxy
  simp only[Option.map_some,Option.some.injEq] at hxy
  have u1:=JA hlt (by omega)
  have q11:(!x.live==y.live)=false:=by rw[hxy];simp
  repeat'(first|apply nx|refine zx ?_|rw[zw]|refine zk ?_|refine zp ?_|(apply zA;exact zb)|((first|refine zR hE fun hg=>?_|refine zT hE fun hanc hg=>?_|refine zF hE fun hanc hg=>?_|refine zg (fun hg=>?_) fun hg=>?_)<;>simp only[go_sem,ja hlt,ja hlt2,hx,hy,Cl.av,Cl.cs_eq,q11,u1,hg])|(refine zc (fun hc=>?_) (fun hc=>?_)<;>try exact zh hc))
  refine⟨i+1,by omega,by omega,fun i=>i,jc (by simp[go_sem]) (by simp[go_sem]) (by simp) (by simp[hN])⟩
 ·obtain rfl:i=G1.cells.length:=by omega
  repeat'(first|apply nx|refine zx ?_|rw[zw]|refine zk ?_|refine zp ?_|(apply zA;exact zb)|((first|refine zR hE fun hg=>?_|refine zF hE fun hanc hg=>?_|(apply zM;exact zu;exact d3;exact zs;exact zl;intro hg)|refine zg (fun hg=>?_) fun hg=>?_)<;>simp only[go_sem,jE,hg])|(refine zc (fun hc=>?_) (fun hc=>?_)<;>try exact zh hc)|(refine je ?_;refine zt hQ ?_))
  simp[AV.snap]
end Go.Proofs.YtfpcjabbcpgbjaaDoor
