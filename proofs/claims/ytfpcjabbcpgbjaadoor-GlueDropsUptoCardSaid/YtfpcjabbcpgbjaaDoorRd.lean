/- A part of the proof: an abstract machine for the walks, and what the walked functions compute. -/
import Derived.Test.YtfpcjabbcpgbjaaDoorRc
import Derived.Test.YtfpcjabbcpgbjaaDoorRa
import Derived.Test.YtfpcjabbcpgbjaaDoorHv
import Derived.Test.YtfpcjabbcpgbjaaDoorMk
import Derived.Test.YtfpcjabbcpgbjaaDoorHw
set_option linter.unusedVariables false
set_option linter.unusedSimpArgs false
set_option maxHeartbeats 4000000
set_option maxRecDepth 100000
namespace Go.Proofs.YtfpcjabbcpgbjaaDoor
open Go.Am Go.Proofs Go.Hv Go.Gl
open Classical
attribute [local irreducible] AW jA CallB CallY
structure Fx where
 r:Ty
 l:List Ty
namespace Fx
def cs (f:Fx):List AV:=[.str ⟨#[]⟩,.i 0,.i 0,.sl [],.i 0,.i f.r.kind,.i f.r.id,.sl (Ty.avL f.r.args),.sl (Ty.avL f.l),.sl [],.sl []]
def av (f:Fx):AV:= .agg f.cs
theorem av_eq (f:Fx):f.av= .agg [.str ⟨#[]⟩,.i 0,.i 0,.sl [],.i 0,.i f.r.kind,.i f.r.id,.sl (Ty.avL f.r.args),.sl (Ty.avL f.l),.sl [],.sl []]:=rfl
theorem av_clo (f:Fx):f.av.clo=true:=rfl
end Fx
def fxl (l:List Fx):List AV:=l.map Fx.av
@[go_sem] theorem jmI (l:List Fx):(fxl l).length=l.length:=List.length_map ..
@[go_sem] theorem jmH (l:List Fx) (i:Nat):(fxl l)[i]? =(l[i]?).map Fx.av:=List.getElem?_map ..
theorem UG (f:Fx) (g:Nat) (cap:List AV) (hp:Nat->Option AObj) (np:Nat) (hcap:AV.idsL (· <np) cap) (hw:WF hp np):HC Tryd.prog 71 [f.av,.fn (.func g) [] cap] hp np (.tup []):=by
 have hwl:∀ id ob,hp id=some ob->id<1000000/\ob.ids (· <1000000):=fun id ob h=>by
  have:=hw.1 id ob h;have:=hw.2.2
  exact⟨by omega,jf _ (fun i hi=>by omega) (hw.1 id ob h).2⟩
 rw[Fx.av_eq]
 refine HC.intro hw rfl Tryd.func71 rfl jlt (by simp[Tryd.f71]) fun E Q hE hN hQ=>jg ?_
 repeat'(first|apply nx|refine zx ?_|rw[zw]|refine zk ?_|refine zp ?_|(apply zA;exact zb)|((first|refine zR hE fun hg=>?_|refine zT hE fun hanc hg=>?_|refine zF hE fun hanc hg=>?_|refine zg (fun hg=>?_) fun hg=>?_)<;>simp only[go_sem,hg])|(refine zc (fun hc=>?_) (fun hc=>?_)<;>try exact zh hc))
 refine jB (X:=Unit) (fun i=>True) (fun i=>⟨jL [(9,.sl []),(10,AV.i 0),(11,AV.i 0)],hp,1000000⟩) (fun i=>0) () trivial (fun i=>i) (JZ (by simp[go_sem,AV.ids]) (fun id ob h=>⟨hw.keep h (by decide) _,hwl id ob h⟩) (by have:=hw.2.2;omega)) ?_
 rintro _ _
 repeat'(first|apply nx|refine zx ?_|rw[zw]|refine zk ?_|refine zp ?_|(apply zA;exact zb)|((first|refine zR hE fun hg=>?_|refine zT hE fun hanc hg=>?_|refine zF hE fun hanc hg=>?_|refine zg (fun hg=>?_) fun hg=>?_)<;>simp only[go_sem,hg])|(refine zc (fun hc=>?_) (fun hc=>?_)<;>try exact zh hc))
 exact jl (hQ _ rfl (fun id ob h=>h)).2
theorem xG:PCall Tryd.prog 24 [intT.av] (.bool true):=by
 have h:PCall Tryd.prog 53 [.sl [.i 1,.i 4,.i 7],.i 1] (.bool true):=by
  have h2:PCall Tryd.prog 75 [.sl [.i 1,.i 4,.i 7],.i 1] (.i 0):=by
   refine pI Tryd.func75 jlv fun E Q hE hN hQ=>?_
   repeat'(first|apply nx|refine zx ?_|rw[zw]|refine zk ?_|refine zp ?_|(apply zA;exact zb)|((first|refine zR hE fun hg=>?_|refine zT hE fun hanc hg=>?_|refine zF hE fun hanc hg=>?_|refine zg (fun hg=>?_) fun hg=>?_)<;>simp only[go_sem,hg])|(refine zc (fun hc=>?_) (fun hc=>?_)<;>try exact zh hc))
   refine jB (X:=Unit) (fun i=>True) (fun i=>jx [(0,.sl [.i 1,.i 4,.i 7]),(1,.i 1),(7,.i 3),(8,.i 0)] [] 0) (fun i=>0) () trivial (fun i=>i) (jc (by simp[go_sem]) (by simp) (by simp) (by simp[hN])) ?_
   rintro _ _
   repeat'(first|apply nx|refine zx ?_|rw[zw]|refine zk ?_|refine zp ?_|(apply zA;exact zb)|((first|refine zR hE fun hg=>?_|refine zF hE fun hanc hg=>?_|refine zg (fun hg=>?_) fun hg=>?_)<;>simp only[go_sem,hg])|(refine zc (fun hc=>?_) (fun hc=>?_)<;>try exact zh hc)|(refine je ?_;refine zt hQ ?_))
   simp[AV.snap]
  refine pI Tryd.func53 jlm fun E Q hE hN hQ=>?_
  repeat'(first|apply nx|refine zx ?_|rw[zw]|refine zk ?_|refine zp ?_|(apply zA;exact zb)|((first|refine zR hE fun hg=>?_|refine zF hE fun hanc hg=>?_|(apply zM;exact zu;exact h2;exact zs;exact zl;intro hg)|refine zg (fun hg=>?_) fun hg=>?_)<;>simp only[go_sem,hg])|(refine zc (fun hc=>?_) (fun hc=>?_)<;>try exact zh hc)|(refine je ?_;refine zt hQ ?_))
  simp[AV.snap]
 rw[Ty.av_eq]
 refine pI Tryd.func24 jk8 fun E Q hE hN hQ=>?_
 repeat'(first|apply nx|refine zx ?_|rw[zw]|refine zk ?_|refine zp ?_|(apply zA;exact zb)|((first|refine zR hE fun hg=>?_|refine zF hE fun hanc hg=>?_|(apply zM;exact zu;exact h;exact zs;exact zl;intro hg)|refine zg (fun hg=>?_) fun hg=>?_)<;>simp only[go_sem,intT,Ty.kind,hg])|(refine zc (fun hc=>?_) (fun hc=>?_)<;>try exact zh hc)|(refine je ?_;refine zt hQ ?_))
 simp[AV.snap]
def objT (l:List AV):Nat->Option AObj:=jp [(0,.cells [.rw 1]),(1,.row 3 l)]
theorem wfT {l:List AV} (hl:AV.cloL l=true):WF (objT l) 2:=by
 refine WF.of_list (by decide) ?_ (fun id hid=>?_)
 ·intro q hq
  simp only[List.mem_cons,List.not_mem_nil,or_false] at hq
  rcases hq with rfl|rfl
  ·exact⟨by show 0<2;decide,by simp[AObj.ids,AV.ids,AV.idsL,go_sem]⟩
  ·exact⟨by show 1<2;decide,jt hl⟩
 ·rcases(by omega:id=0\/id=1) with rfl|rfl<;>simp[jp,jb]
theorem jas (f:Fx) (hl:f.l.length<=2 ^ 30):PCall Tryd.prog 46 [f.av] (.sl (Ty.avL (f.r::f.l))):=by
 have hF:Fits (1+f.l.length) 40:=⟨by omega,by omega⟩
 have hcl:=Ty.avL_clo (f.r::f.l)
 have e1:Ty.avL (f.r::f.l)=AV.agg [.i f.r.kind,.i f.r.id,.sl (Ty.avL f.r.args)]::Ty.avL f.l:=by rw[Ty.avL,Ty.av_eq]
 have hrn:∀ m,AV.renL m (Ty.avL (f.r::f.l))=Ty.avL (f.r::f.l):=fun m=>js hcl
 have c0:=UG f 73 [.ptr 0 0] (objT (Ty.avL (f.r::f.l))) 2 (by simp[AV.idsL,AV.ids]) (wfT hcl)
 rw[Fx.av_eq] at c0 ⊢
 refine pI Tryd.func46 jfY fun E Q hE hN hQ=>?_
 repeat'(first|apply nx|refine zx ?_|rw[zw]|refine zk ?_|refine zp ?_|(apply zA;exact zb)|((first|refine zR hE fun hg=>?_|refine zT hE fun hanc hg=>?_|refine zF hE fun hanc hg=>?_|refine zg (fun hg=>?_) fun hg=>?_)<;>simp only[go_sem,hg])|(refine zc (fun hc=>?_) (fun hc=>?_)<;>try exact zh hc))
 refine⟨⟨szok_avL f.l,hF⟩,?_⟩
 repeat'(first|apply nx|refine zx ?_|rw[zw]|refine zk ?_|refine zp ?_|(apply zA;exact zb)|((first|refine zR hE fun hg=>?_|refine zT hE fun hanc hg=>?_|refine zF hE fun hanc hg=>?_|refine zg (fun hg=>?_) fun hg=>?_)<;>simp only[go_sem,hg])|(refine zc (fun hc=>?_) (fun hc=>?_)<;>try exact zh hc))
 rw[<- e1]
 refine Hold.mk (HC.use c0 (fun i=>if i=0 then 8388608 else if i=1 then 7340032 else i) (by simp[AV.renL,AV.ren,go_sem]) (by simp[go_sem,AV.idsL,AV.ids]) (fun id ob h=>?_) (fun a b ha hb e=>by split at e<;>split at e<;>(try split at e)<;>(try split at e)<;>omega) ?_)
 ·revert id ob
  exact jM (p:=fun id ob=>jb _ _ _ _=some (ob.ren _)) (by simp[jb,AObj.ren,AV.renL,AV.ren,go_sem,hrn])
 rintro hpn hold
 have b0:=hold 8388608 (.cells [.rw 7340032]) (by simp[jb])
 have b1:=hold 7340032 (.row 3 (Ty.avL (f.r::f.l))) (by simp[jb])
 clear hold
 simp only[go_sem,b0,b1]
 repeat'(first|apply nx|refine zx ?_|rw[zw]|refine zk ?_|refine zp ?_|(apply zA;exact zb)|((first|refine zR hE fun hg=>?_|refine zT hE fun hanc hg=>?_|refine zF hE fun hanc hg=>?_|refine zg (fun hg=>?_) fun hg=>?_)<;>simp only[go_sem,b0,b1,hg])|(refine zc (fun hc=>?_) (fun hc=>?_)<;>try exact zh hc))
 refine je (hQ _ ⟨.rw 7340032,(by simp only[go_sem];rfl),?_,?_,rfl⟩).1
 ·simp[AV.snapOk,b1,Ty.clo_avLT]
 ·simp[AV.snap,b1]
def J4 (D:List Dd) (F:List Fx):List AV:=[.sl [],.sl [],.sl (ddl D),.sl [],.sl [],.sl [],.sl (fxl F),.i 0]
def OQ (D:List Dd) (F:List Fx):AV:= .agg (J4 D F)
theorem Yw (D:List Dd) (F:List Fx):AV.cloL (J4 D F)=true:=rfl
def jc9 (D:List Dd) (F:List Fx):Nat->Option AObj:=jp [(0,.cells (J4 D F)),(1,.cells [.bool true])]
theorem wfM (D:List Dd) (F:List Fx):WF (jc9 D F) 2:=by
 refine WF.of_list (by decide) ?_ (fun id hid=>?_)
 ·intro q hq
  simp only[List.mem_cons,List.not_mem_nil,or_false] at hq
  rcases hq with rfl|rfl
  ·exact⟨by show 0<2;decide,jt (Yw D F)⟩
  ·exact⟨by show 1<2;decide,by simp[AObj.ids,AV.ids,AV.idsL,go_sem]⟩
 ·rcases(by omega:id=0\/id=1) with rfl|rfl<;>simp[jp,jb]
theorem jhT (D:List Dd) (F:List Fx):jc9 D F 0=some (.cells (J4 D F)):=rfl
theorem jbI {D:List Dd} (hD:DB D) (F:List Fx) (x:Ty) (hx:x.sz<=2 ^ 30):HC Tryd.prog 70 [x.av,.ptr 0 0] (jc9 D F) 2 (.bool (!plB D x 8)):=by
 have hw:=wfM D F
 have c0:=Gj (2 ^ 30) x D 8 hx (by have:=hD.l;omega) (by decide) (by decide)
 rw[Ty.av_eq] at c0 ⊢
 refine HC.intro hw rfl Tryd.func70 rfl jls (by simp[Tryd.f70]) fun E Q hE hN hQ=>jg ?_
 repeat'(first|apply nx|refine zx ?_|rw[zw]|refine zk ?_|refine zp ?_|(apply zA;exact zb)|((first|refine zR hE fun hg=>?_|refine zT hE fun hanc hg=>?_|refine zF hE fun hanc hg=>?_|(apply zM;exact zu;exact c0;exact zs;exact zl;intro hg)|refine zg (fun hg=>?_) fun hg=>?_)<;>simp only[go_sem,jhT,J4,hg])|(refine zc (fun hc=>?_) (fun hc=>?_)<;>try exact zh hc))
 exact je (hQ _ (by simp only[go_sem];rfl) (fun id ob h=>by have:=hw.lt h;simp only[jb];rw[if_neg (by omega)];exact h)).1
theorem UL {D:List Dd} (hD:DB D) (hdt:dtF D=true) {F:List Fx} (hF:F.length<=2 ^ 30) (hFl:∀ f,f∈F->f.l.length<=2 ^ 20/\∀ t,t∈f.r::f.l->plB D t 8=true/\t.sz<=2 ^ 30):PCall Tryd.prog 45 [OQ D F] (.bool true):=by
 have c0:=uc hD
 rw[show(decide (D.length<=200)&&dtB D)=dtF D from rfl,hdt] at c0
 unfold OQ J4
 refine pI Tryd.func45 jfX fun E Q hE hN hQ=>?_
 repeat'(first|apply nx|refine zx ?_|rw[zw]|refine zk ?_|refine zp ?_|(apply zA;exact zb)|((first|refine zR hE fun hg=>?_|refine zT hE fun hanc hg=>?_|refine zF hE fun hanc hg=>?_|(apply zM;exact zu;exact c0;exact zs;exact zl;intro hg)|refine zg (fun hg=>?_) fun hg=>?_)<;>simp only[go_sem,hg])|(refine zc (fun hc=>?_) (fun hc=>?_)<;>try exact zh hc))
 refine jB (X:=Nat) (fun i=>i<=F.length) (fun i=>jx [(1,.ptr 0 0),(3,.ptr 1 0),(10,.sl (fxl F)),(11,.i F.length),(12,.i (i:Nat))] [(0,.cells (J4 D F)),(1,.cells [.bool true])] 2) (fun i=>F.length - i) 0 (Nat.zero_le _) (fun i=>if i=1 then 5242880 else i) ?_ ?_
 ·refine jc (by simp[go_sem]) ?_ (by simp) (by simp[hN])
  simp[go_sem,J4]
 intro i hi
 by_cases hlt:i<F.length
 ·obtain⟨f,hf⟩:=get?_of hlt
  have hfm:=hFl f (List.mem_of_getElem? hf)
  have u1:=JA hlt (by omega)
  have c1:=jas f (by omega)
  have c2:=Un (f.r::f.l) 70 [.ptr 0 0] (jc9 D F) 2 (fun f=>!plB D f 8) (by simp[AV.idsL,AV.ids]) (wfM D F) (by simp;omega) (fun x hx=>jbI hD F x (hfm.2 x hx).2)
  have e2:((f.r::f.l).any fun t=>!plB D t 8)=false:=by
   rw[List.any_eq_false]
   intro x hx
   simp[(hfm.2 x hx).1]
  have c3:=UG f 72 [.ptr 1 0,.ptr 0 0] (jc9 D F) 2 (by simp[AV.idsL,AV.ids]) (wfM D F)
  rw[e2] at c2
  rw[Fx.av_eq] at c1 c3
  repeat'(first|apply nx|refine zx ?_|rw[zw]|refine zk ?_|refine zp ?_|(apply zA;exact zb)|((first|refine zR hE fun hg=>?_|refine zT hE fun hanc hg=>?_|refine zF hE fun hanc hg=>?_|(apply zM;exact zu;exact c1;exact zs;exact zl;intro hg)|refine zg (fun hg=>?_) fun hg=>?_)<;>simp only[go_sem,ja hlt,hf,Fx.av_eq,u1,J4,hg])|(refine zc (fun hc=>?_) (fun hc=>?_)<;>try exact zh hc))
  refine Hold.mk (HC.use c2 (fun i=>i) (by rw[jv]) (by simp[go_sem,AV.idsL,AV.ids]) (fun id ob h=>?_) (fun _ _ _ _ e=>e) ?_)
  ·rw[jw]
   revert id ob
   exact jM (p:=fun id ob=>jb _ _ _ _=some ob) (by simp[jb,J4])
  rintro hpn hold
  have b0:=hold 0 (.cells (J4 D F)) (by simp[jb,J4])
  have b1:=hold 1 (.cells [.bool true]) (by simp[jb])
  have b2:=hold 3145730 (.cells f.cs) (by simp[jb,Fx.cs])
  clear hold
  unfold Fx.cs at b2
  simp only[go_sem,b0,b1,b2]
  repeat'(first|apply nx|refine zx ?_|rw[zw]|refine zk ?_|refine zp ?_|(apply zA;exact zb)|((first|refine zR hE fun hg=>?_|refine zT hE fun hanc hg=>?_|refine zF hE fun hanc hg=>?_|refine zg (fun hg=>?_) fun hg=>?_)<;>simp only[go_sem,b0,b1,b2,Fx.av_eq,u1,J4,hg])|(refine zc (fun hc=>?_) (fun hc=>?_)<;>try exact zh hc))
  refine Hold.mk (HC.use c3 (fun i=>i) (by rw[jv]) (by simp[go_sem,AV.idsL,AV.ids]) (fun id ob h=>?_) (fun _ _ _ _ e=>e) ?_)
  ·rw[jw]
   revert id ob
   exact jM (p:=fun id ob=>jb _ _ _ _=some ob) (by simp[jb,b0])
  rintro hpn2 hold2
  have d0:=hold2 0 (.cells (J4 D F)) (by simp[jb,b0])
  have d1:=hold2 1 (.cells [.bool true]) (by simp[jb])
  clear hold2
  simp only[go_sem,d0,d1]
  repeat'(first|apply nx|refine zx ?_|rw[zw]|refine zk ?_|refine zp ?_|(apply zA;exact zb)|((first|refine zR hE fun hg=>?_|refine zT hE fun hanc hg=>?_|refine zF hE fun hanc hg=>?_|refine zg (fun hg=>?_) fun hg=>?_)<;>simp only[go_sem,d0,d1,u1,hg])|(refine zc (fun hc=>?_) (fun hc=>?_)<;>try exact zh hc))
  refine⟨i+1,by omega,by omega,fun i=>i,jc (by simp[go_sem]) ?_ (by simp) (by simp[hN])⟩
  simp[go_sem,d0,d1,J4]
 ·obtain rfl:i=F.length:=by omega
  repeat'(first|apply nx|refine zx ?_|rw[zw]|refine zk ?_|refine zp ?_|(apply zA;exact zb)|((first|refine zR hE fun hg=>?_|refine zF hE fun hanc hg=>?_|refine zg (fun hg=>?_) fun hg=>?_)<;>simp only[go_sem,jE,hg])|(refine zc (fun hc=>?_) (fun hc=>?_)<;>try exact zh hc)|(refine je ?_;refine zt hQ ?_))
  simp[AV.snap]
end Go.Proofs.YtfpcjabbcpgbjaaDoor

set_option maxHeartbeats 4000000
set_option maxRecDepth 100000
namespace Go.Proofs.YtfpcjabbcpgbjaaDoor
open Go.Am Go.Proofs Go.Hv Go.Gl
open Classical
attribute [local irreducible] AW jA CallB CallY
def kcl (s:List Nd) (c:List Nat) (t:Ty):Int:=((c.getD ((idx s t).getD 0) 0:Nat):Int)
def KOk (D:List Dd) (s:List Nd) (c:List Nat) (t:Ty):Prop:=Pl D t/\t.sz<=2 ^ 30/\∃ i k,idx s t=some i/\c[i]? =some k
theorem jcY {D:List Dd} (hD:DB D) {s:List Nd} {c:List Nat} (hcl:c.length=s.length) {t:Ty} (ht:KOk D s c t):HC Tryd.prog 33 [.ptr 0 0,t.av] (qL D (esF 0 s) (jN D s c)) 3 (.i (kcl s c t)):=by
 obtain⟨h1,h2,i,k,h3,h4⟩:=ht
 have e:kcl s c t=(k:Int):=by simp[kcl,h3,List.getD_eq_getElem?_getD,h4]
 rw[e]
 exact G0 hD hcl h1 h2 h3 h4
def YZ (D:List Dd) (s:List Nd) (c:List Nat) (R:List Int):Nat->Option AObj:=jp [(0,.cells [.sl (ddl D),.rw 2,.mp 1]),(1,.map (esF 0 s)),(2,.row 6 (jN D s c)),(3,.cells [.ptr 0 0]),(4,.cells [.fn (.func 47) [] [.ptr 3 0]]),(5,.cells [.rw 6]),(6,.row 1 (il R))]
theorem jmk {D:List Dd} {s:List Nd} {c:List Nat} {R:List Int} :WF (YZ D s c R) 7:=by
 have he:=Je 0 s
 have hR:=Jb D s c
 refine WF.of_list (by decide) ?_ (fun id hid=>?_)
 ·intro q hq
  simp only[List.mem_cons,List.not_mem_nil,or_false] at hq
  rcases hq with rfl|rfl|rfl|rfl|rfl|rfl|rfl
  ·exact⟨by show 0<7;decide,by simp[AObj.ids,AV.ids,AV.idsL,go_sem]⟩
  ·exact⟨by show 1<7;decide,he.ids _⟩
  ·exact⟨by show 2<7;decide,jt hR⟩
  ·exact⟨by show 3<7;decide,by simp[AObj.ids,AV.ids,AV.idsL,go_sem]⟩
  ·exact⟨by show 4<7;decide,by simp[AObj.ids,AV.ids,AV.idsL,go_sem]⟩
  ·exact⟨by show 5<7;decide,by simp[AObj.ids,AV.ids,AV.idsL,go_sem]⟩
  ·exact⟨by show 6<7;decide,by simp[AObj.ids,go_sem]⟩
 ·rcases(by omega:id=0\/id=1\/id=2\/id=3\/id=4\/id=5\/id=6) with rfl|rfl|rfl|rfl|rfl|rfl|rfl<;>simp[jp,jb]
theorem jac (D:List Dd) (s:List Nd) (c:List Nat) (R:List Int):YZ D s c R 3=some (.cells [.ptr 0 0]):=rfl
theorem jfj (D:List Dd) (s:List Nd) (c:List Nat) (R:List Int):YZ D s c R 4=some (.cells [.fn (.func 47) [] [.ptr 3 0]]):=rfl
theorem jb0 {D:List Dd} (hD:DB D) {s:List Nd} {c:List Nat} {R:List Int} (hcl:c.length=s.length) {l:List Ty} (hl:l.length<=2 ^ 30) (hls:∀ t,t∈l->KOk D s c t):HC Tryd.prog 47 [.sl (Ty.avL l),.ptr 3 0] (YZ D s c R) 7 (.sl (il (l.map (kcl s c)))):=by
 have hw:=jmk (D:=D) (s:=s) (c:=c) (R:=R)
 have hwl:∀ id ob,YZ D s c R id=some ob->id<1000000/\ob.ids (· <1000000):=fun id ob h=>⟨by have:=hw.lt h;omega,jf _ (fun i hi=>by omega) (hw.1 id ob h).2⟩
 refine HC.intro hw (by simp[AV.clo]) Tryd.func47 rfl OF (by simp[Tryd.f47]) fun E Q hE hN hQ=>jg ?_
 have he:=Je 0 s
 repeat'(first|apply nx|refine zx ?_|rw[zw]|refine zk ?_|refine zp ?_|(apply zA;exact zb)|((first|refine zR hE @fun K Kp hK hKp hg=>?_|refine zT hE @fun K Kp hK hKp anc hanc hg=>?_|refine zF hE @fun K Kp hK hKp anc hanc hg=>?_|refine zg (fun hg=>?_) fun hg=>?_)<;>simp only[go_sem,jac,hg])|(refine zc (fun hc=>?_) (fun hc=>?_)<;>try exact zh hc))
 refine gz 3 1 (by rw[hE];decide) (by simp only[go_sem]) ?_
 dsimp only;simp only[Nat.reduceAdd]
 refine jB (X:=Nat) (fun i=>i<=l.length) (fun i=>jx [(1,.ptr 3 0),(3,.rw 7),(6,.sl (Ty.avL l)),(7,.i l.length),(8,.i (i:Nat))] [(0,.cells [.sl (ddl D),.rw 2,.mp 1]),(1,.map (esF 0 s)),(2,.row 6 (jN D s c)),(3,.cells [.ptr 0 0]),(4,.cells [.fn (.func 47) [] [.ptr 3 0]]),(5,.cells [.rw 6]),(6,.row 1 (il R)),(7,.row 1 (il ((l.map (kcl s c)).take i)))] 8) (fun i=>l.length - i) 0 (Nat.zero_le _) (fun i=>if i=7 then 5194304 else i) ?_ ?_
 ·refine jc (by simp[go_sem]) ?_ (by simp) (by rw[hN];exact fun id hid=>⟨by rw[if_neg (by omega)],by omega⟩)
  simp[go_sem,YZ,jp,jb,he.ren,show il []=[] from rfl]
  exact he.ids2 _
 intro i hi
 by_cases hlt:i<l.length
 ·obtain⟨t,ht⟩:=get?_of hlt
  have htk:=hls t (List.mem_of_getElem? ht)
  have u1:=JA hlt (by omega)
  have c1:=jcY hD hcl htk
  rw[Ty.av_eq] at c1
  have hF:Fits (((l.map (kcl s c)).take i).length+1) 8:=⟨by simp;omega,by simp;omega⟩
  repeat'(first|apply nx|refine zx ?_|rw[zw]|refine zk ?_|refine zp ?_|(apply zA;exact zb)|((first|refine zR hE @fun K Kp hK hKp hg=>?_|refine zT hE @fun K Kp hK hKp anc hanc hg=>?_|refine zF hE @fun K Kp hK hKp anc hanc hg=>?_|refine zg (fun hg=>?_) fun hg=>?_)<;>simp only[go_sem,ja hlt,ht,Ty.av_eq,u1,hg])|(refine zc (fun hc=>?_) (fun hc=>?_)<;>try exact zh hc))
  refine Hold.mk (HC.use c1 (fun i=>i) (by rw[jv]) (by simp[go_sem,AV.idsL,AV.ids]) (fun id ob h=>?_) (fun _ _ _ _ e=>e) ?_)
  ·rw[jw]
   revert id ob
   exact Q8 (by simp[jb]) (by simp[jb]) (by simp[jb])
  rintro hpn hold
  have b0:=hold 0 _ (by simp[jb];rfl)
  have b1:=hold 1 _ (by simp[jb];rfl)
  have b2:=hold 2 _ (by simp[jb];rfl)
  have b3:=hold 3 _ (by simp[jb];rfl)
  have b4:=hold 4 _ (by simp[jb];rfl)
  have b5:=hold 5 _ (by simp[jb];rfl)
  have b6:=hold 6 _ (by simp[jb];rfl)
  have b7:=hold 7 _ (by simp[jb];rfl)
  clear hold
  have es:(l.map (kcl s c)).take i++[kcl s c t]=(l.map (kcl s c)).take (i+1):=by
   rw[List.take_add_one];simp[ht]
  simp only[go_sem,b7]
  repeat'(first|apply nx|refine zx ?_|rw[zw]|refine zk ?_|refine zp ?_|(apply zA;exact zb)|((first|refine zR hE @fun K Kp hK hKp hg=>?_|refine zT hE @fun K Kp hK hKp anc hanc hg=>?_|refine zF hE @fun K Kp hK hKp anc hanc hg=>?_|refine zg (fun hg=>?_) fun hg=>?_)<;>simp only[go_sem,b7,u1,hg])|(refine zc (fun hc=>?_) (fun hc=>?_)<;>try exact zh hc))
  refine⟨i+1,by omega,by omega,fun i=>if i=7 then 10485768 else i,jc (by simp[go_sem,u1]) ?_ (by simp) (by rw[hN];exact fun id hid=>⟨by rw[if_neg (by omega)],by omega⟩)⟩
  simp only[List.mem_cons,List.not_mem_nil,or_false,forall_eq_or_imp,forall_eq]
  simp[go_sem,he.ren,b0,b1,b2,b3,b4,b5,b6,es]
  exact he.ids2 _
 ·obtain rfl:i=l.length:=by omega
  have e2:(l.map (kcl s c)).take l.length=l.map (kcl s c):=by rw[List.take_of_length_le];simp
  rw[e2]
  repeat'(first|apply nx|refine zx ?_|rw[zw]|refine zk ?_|refine zp ?_|(apply zA;exact zb)|((first|refine zR hE @fun K Kp hK hKp hg=>?_|refine zT hE @fun K Kp hK hKp anc hanc hg=>?_|refine zF hE @fun K Kp hK hKp anc hanc hg=>?_|refine zg (fun hg=>?_) fun hg=>?_)<;>simp only[go_sem,jE,hg])|(refine zc (fun hc=>?_) (fun hc=>?_)<;>try exact zh hc))
  refine Qv 3 7 (sz:=1) (xs:=il (l.map (kcl s c))) (by simp only[go_sem]) (by simp only[go_sem]) (qB _) ?_
  refine je (hQ _ (by simp only[go_sem];rfl) ?_).1
  intro id ob h
  revert id ob
  exact jM (p:=fun id ob=>jb _ _ _ _=some ob) (by simp[jb])
def fTx (k:Ty->Int) (f:Fx):ByteArray:=tx (txL [0,k f.r])++tx (txL [0])++tx (txL ((f.l.length:Int)::f.l.map k))
theorem uQ {D:List Dd} (hD:DB D) {s:List Nd} {c:List Nat} {R:List Int} (hcl:c.length=s.length) (hsl:s.length<=2 ^ 30) {f:Fx} (hl:f.l.length<=2 ^ 20) (hls:∀ t,t∈f.r::f.l->KOk D s c t) (h64:∀ t,t∈f.r::f.l-> -9223372036854775808<=kcl s c t/\kcl s c t<=9223372036854775807):HC Tryd.prog 48 [f.av,.ptr 3 0,.ptr 4 0,.ptr 5 0] (YZ D s c R) 7 (.str (fTx (kcl s c) f)):=by
 have hw:=jmk (D:=D) (s:=s) (c:=c) (R:=R)
 have he:=Je 0 s
 have c1:=jcY hD hcl (hls f.r (by simp))
 have c2:=jb0 hD (R:=R) hcl (l:=f.l) (by omega) (fun t ht=>hls t (List.mem_cons_of_mem _ ht))
 have c3:=GK [0,kcl s c f.r] (by simp) (by
  intro n hn
  simp only[List.mem_cons,List.not_mem_nil,or_false] at hn
  rcases hn with rfl|rfl
  ·omega
  ·exact h64 _ (by simp))
 have c4:=xX [] (by simp) (fun n hn=>by cases hn)
 have c5:=xX (f.l.map (kcl s c)) (by simp;omega) (by
  intro n hn
  obtain⟨t,ht,rfl⟩:=List.mem_map.1 hn
  exact h64 t (List.mem_cons_of_mem _ ht))
 have k0:=jac D s c R
 have k1:=jfj D s c R
 rw[List.length_map] at c5
 have g3:=ye (l:=[0,kcl s c f.r]) (by
  intro n hn
  simp only[List.mem_cons,List.not_mem_nil,or_false] at hn
  rcases hn with rfl|rfl
  ·omega
  ·exact h64 _ (by simp))
 have g4:=ye (l:=[0]) (by intro n hn;simp only[List.mem_cons,List.not_mem_nil,or_false] at hn;subst hn;omega)
 have g5:=ye (l:=(f.l.length:Int)::f.l.map (kcl s c)) (by
  intro n hn
  rcases List.mem_cons.1 hn with rfl|hn
  ·omega
  ·obtain⟨t,ht,rfl⟩:=List.mem_map.1 hn
   exact h64 t (List.mem_cons_of_mem _ ht))
 simp only[List.length_cons,List.length_nil,List.length_map] at g3 g4 g5
 simp only[List.length_nil,Int.ofNat_zero] at c4
 rw[Ty.av_eq] at c1
 rw[Fx.av_eq]
 refine HC.intro hw rfl Tryd.func48 rfl jli (by simp[Tryd.f48]) fun E Q hE hN hQ=>jg ?_
 repeat'(first|apply nx|refine zx ?_|rw[zw]|refine zk ?_|refine zp ?_|(apply zA;exact zb)|((first|refine zR hE @fun K Kp hK hKp hg=>?_|refine zg (fun hg=>?_) fun hg=>?_)<;>simp only[go_sem,k0,k1,hg])|(refine zc (fun hc=>?_) (fun hc=>?_)<;>try exact zh hc)|(refine je ?_;refine zt hQ ?_))
 refine zF hE @fun K Kp hK hKp anc hanc hg=>?_
 simp only[go_sem,k0,k1]
 repeat(first|rw[zw]|((with_reducible refine And.intro ?_ ?_);exact zb))
 refine gA (us:=[.ptr 0 0,.agg [.i f.r.kind,.i f.r.id,.sl (Ty.avL f.r.args)]]) (by simp[AV.snapL,AV.snap]) c1 ⟨by show 0<3;decide,by simp[AV.ids,AV.idsL,go_sem],trivial⟩ ?_ (by simp[AV.snapOkL,AV.snapOk,go_sem]) (.inl rfl) ?_
 ·exact jM (p:=fun id ob=>_/\id<3097152/\_) (by simp[YZ,jp,jb,AV.noRw])
 simp only[go_sem,k0,k1]
 repeat'(first|apply nx|refine zx ?_|rw[zw]|refine zk ?_|refine zp ?_|(apply zA;exact zb)|((first|refine zR hE @fun K Kp hK hKp hg=>?_|refine zT hE @fun K Kp hK hKp anc hanc hg=>?_|refine zF hE @fun K Kp hK hKp anc hanc hg=>?_|(apply zM;exact zu;(first|exact c3|exact c4|exact c5);exact zs;exact zl;intro hg)|refine zg (fun hg=>?_) fun hg=>?_)<;>simp only[go_sem,k0,k1,hg])|(refine zc (fun hc=>?_) (fun hc=>?_)<;>try exact zh hc))
 refine gA (us:=[.sl (Ty.avL f.l),.ptr 3 0]) (by simp[AV.snapL,AV.snap]) c2 ⟨by simp[AV.ids,go_sem],by show 3<7;decide,trivial⟩ ?_ (by simp[AV.snapOkL,AV.snapOk,go_sem]) (.inr rfl) ?_
 ·exact jM (p:=fun id ob=>_/\id<3097152/\_) (by simp[YZ,jp,jb,AV.noRw])
 simp only[go_sem,k0,k1]
 repeat'(first|apply nx|refine zx ?_|rw[zw]|refine zk ?_|refine zp ?_|(apply zA;exact zb)|((first|refine zR hE @fun K Kp hK hKp hg=>?_|refine zT hE @fun K Kp hK hKp anc hanc hg=>?_|refine zF hE @fun K Kp hK hKp anc hanc hg=>?_|(apply zM;exact zu;(first|exact c3|exact c4|exact c5);exact zs;exact zl;intro hg)|refine zg (fun hg=>?_) fun hg=>?_)<;>simp only[go_sem,k0,k1,hg])|(refine zc (fun hc=>?_) (fun hc=>?_)<;>try exact zh hc))
 refine jB (X:=Unit) (fun i=>True) (fun i=>⟨jL [(6,.str (fTx (kcl s c) f)),(31,.sl []),(32,AV.i 0),(33,AV.i 0)],YZ D s c R,1000000⟩) (fun i=>0) () trivial (fun i=>i) (JZ (by simp[go_sem,AV.ids,fTx]) (fun id ob h=>⟨?_,by have:=hw.lt h;omega,jf _ (fun i hi=>by omega) (hw.1 id ob h).2⟩) (by omega)) ?_
 ·have:=hw.lt h
  simp only[jb]
  repeat rw[if_neg (by omega)]
  exact h
 rintro _ _
 repeat'(first|apply nx|refine zx ?_|rw[zw]|refine zk ?_|refine zp ?_|(apply zA;exact zb)|((first|refine zR hE @fun K Kp hK hKp hg=>?_|refine zT hE @fun K Kp hK hKp anc hanc hg=>?_|refine zF hE @fun K Kp hK hKp anc hanc hg=>?_|refine zg (fun hg=>?_) fun hg=>?_)<;>simp only[go_sem,hg])|(refine zc (fun hc=>?_) (fun hc=>?_)<;>try exact zh hc))
 exact je (hQ _ (by simp only[go_sem];rfl) (fun id ob h=>h)).1
end Go.Proofs.YtfpcjabbcpgbjaaDoor

set_option maxHeartbeats 4000000
set_option maxRecDepth 100000
namespace Go.Proofs.YtfpcjabbcpgbjaaDoor
open Nat (reduceAdd reduceMul reduceEqDiff reduceLT reduceLeDiff reduceSub reduceDiv)
open Int (reduceBNe reduceLE reduceEq)
open Go.Am Go.Proofs Go.Hv Go.Gl
open Classical
attribute [local irreducible] AW jA CallB CallY
theorem jeX (a b:List Int) (ha:a.length<=2 ^ 40):PCall Tryd.prog 52 [.sl (il a),.sl (il b)] (.bool (decide (a=b))):=by
 refine pI Tryd.func52 jll fun E Q hE hN hQ=>?_
 by_cases hl:a.length=b.length
 ·have q0:((a.length:Int) !=(b.length:Int))=false:=by simp[hl]
  repeat'(first|apply nx|refine zx ?_|rw[zw]|refine zk ?_|refine zp ?_|(apply zA;exact zb)|((first|refine zR hE fun hg=>?_|refine zF hE fun hanc hg=>?_|refine zg (fun hg=>?_) fun hg=>?_)<;>simp only[go_sem,q0,hg])|(refine zc (fun hc=>?_) (fun hc=>?_)<;>try exact zh hc)|(refine je ?_;refine zt hQ ?_))
  refine jB (X:=Nat) (fun i=>i<=a.length/\decide (a=b)=decide (a.drop i=b.drop i)) (fun i=>jx [(0,.sl (il a)),(1,.sl (il b)),(12,.i a.length),(13,AV.i i)] [] 0) (fun i=>a.length - i) 0 ⟨Nat.zero_le _,rfl⟩ (fun i=>i) (by refine jc (by simp[go_sem]) (by simp[go_sem]) (by simp) (by simp[hN])) ?_
  rintro i ⟨hi,ht⟩
  by_cases hlt:i<a.length
  ·obtain⟨x,hx⟩:=get?_of hlt
   obtain⟨y,hy⟩:=get?_of (show i<b.length by omega)
   rw[jS hx,jS hy] at ht
   by_cases hxy:x=y
   ·have q1:(x !=y)=false:=by simp[hxy]
    repeat'(first|apply nx|refine zx ?_|rw[zw]|refine zk ?_|refine zp ?_|(apply zA;exact zb)|((first|refine zR hE fun hg=>?_|refine zF hE fun hanc hg=>?_|refine zg (fun hg=>?_) fun hg=>?_)<;>simp only[go_sem,ja hlt,hx,hy,q1,hg])|(refine zc (fun hc=>?_) (fun hc=>?_)<;>try exact zh hc)|(refine je ?_;refine zt hQ ?_))
    exact⟨i+1,⟨by omega,by rw[ht];simp[hxy]⟩,by omega,fun i=>i,by refine jc (by simp[go_sem]) (by simp[go_sem]) (by simp) (by simp[hN])⟩
   ·have q1:(x !=y)=true:=by simp[hxy]
    repeat'(first|apply nx|refine zx ?_|rw[zw]|refine zk ?_|refine zp ?_|(apply zA;exact zb)|((first|refine zR hE fun hg=>?_|refine zF hE fun hanc hg=>?_|refine zg (fun hg=>?_) fun hg=>?_)<;>simp only[go_sem,ja hlt,hx,hy,q1,hg])|(refine zc (fun hc=>?_) (fun hc=>?_)<;>try exact zh hc)|(refine je ?_;refine zt hQ ?_))
    simp[AV.snap,ht,hxy]
  ·obtain rfl:i=a.length:=by omega
   rw[List.drop_length,hl,List.drop_length] at ht
   repeat'(first|apply nx|refine zx ?_|rw[zw]|refine zk ?_|refine zp ?_|(apply zA;exact zb)|((first|refine zR hE fun hg=>?_|refine zF hE fun hanc hg=>?_|refine zg (fun hg=>?_) fun hg=>?_)<;>simp only[go_sem,jE,hg])|(refine zc (fun hc=>?_) (fun hc=>?_)<;>try exact zh hc)|(refine je ?_;refine zt hQ ?_))
   simp[AV.snap,ht]
 ·have q0:((a.length:Int) !=(b.length:Int))=true:=by simp;omega
  repeat'(first|apply nx|refine zx ?_|rw[zw]|refine zk ?_|refine zp ?_|(apply zA;exact zb)|((first|refine zR hE fun hg=>?_|refine zF hE fun hanc hg=>?_|refine zg (fun hg=>?_) fun hg=>?_)<;>simp only[go_sem,q0,hg])|(refine zc (fun hc=>?_) (fun hc=>?_)<;>try exact zh hc)|(refine je ?_;refine zt hQ ?_))
  have:a≠b:=by rintro rfl;exact hl rfl
  simp[AV.snap,this]
theorem AW_snpRow {P : Program} {E : En} {fr : Nat -> Option AV} {hp : Nat -> Option AObj} {nx : Nat} {c : Code} {Q : AEx -> St -> Prop} (X : Nat) {sz : Nat} {l l' : List AV} (hX : hp X = some (.row sz l)) (hok : ∀ x, x ∈ l -> x.snapOk fun _ => none) (hl : l.map (AV.snap fun _ => none) = l')
    (h:AW P E c Q ⟨fr,jb hp X (some (.row sz l')),nx⟩):AW P E c Q ⟨fr,hp,nx⟩:=by
  refine AW.frz (O':=⟨fr,jb hp X (some (.row sz l')),nx⟩) (fun _=>none) (fun i o h'=>by cases h') (fun t x' h'=>⟨x',h',.inl rfl⟩) (fun i o' h'=>?_) rfl h
  simp only[jb] at h'
  split at h'
  · rename_i e
    subst e
    cases h'
    refine⟨rfl,_,hX,?_⟩
    rw[<- hl]
    exact⟨rfl,List.length_map ..,fun i hi=> .inr ⟨hok _ (yn hi),getD_map hi⟩⟩
  · exact⟨rfl,o',h',SnpO.refl _⟩
theorem jbH (F:Nat->Option AObj) (l:List Ty):(Ty.avL l).map (AV.snap F)=Ty.avL l:=by
 rw[Ty.avL_eq,List.map_map]
 congr 1
 funext t
 simp[Ty.av_eq,AV.snap,AV.snapL]
theorem xz (F:Nat->Option AObj) (l:List Ty):∀ x,x∈Ty.avL l->x.snapOk F:=by
 intro x hx
 rw[Ty.avL_eq] at hx
 obtain⟨t,_,rfl⟩:=List.mem_map.1 hx
 simp[Ty.av_eq,AV.snapOk,AV.snapOkL]
def dts (n:Nat):List Ty:=(List.range n).map dtT
theorem ug (n:Nat):(dts n).length=n:=by simp[dts]
theorem jcd (n:Nat):Ty.avL (dts n)++[.agg [.i 2,.i (n:Nat),.sl []]]=Ty.avL (dts (n+1)):=by
 simp[dts,List.range_succ,Ty.avL_eq,dtT,Ty.av]
def fts (F:List Fx):List Ty:=F.flatMap fun f=>f.r::f.l
theorem jcD {F:List Fx} {i:Nat} {f:Fx} (h:F[i]? =some f):fts (F.take (i+1))=fts (F.take i)++(f.r::f.l):=by
 rw[List.take_add_one,h];simp[fts]
def rM:Nat->List Int
 |0=>[0,0,0]
 |_+1=>[0,1,0]
def esM (a b:ByteArray):Nat->List (AV×AV)
 |0=>[]
 |1=>[(.str a,.i 0)]
 |_+2=>[(.str a,.i 0),(.str b,.i 1)]
theorem jff {D : List Dd} (hD : DB D) (hR : DR D) (hdt : dtF D = true) (hpr : ∀ x, x ∈ D -> x.pr = 0) {f0 f1 f2 : Fx} (hFl : ∀ f, f ∈ [f0, f1, f2] -> f.l.length <= 2 ^ 20 /\ ∀ t, t ∈ f.r :: f.l -> plB D t 8 = true /\ t.sz <= 2 ^ 30)
    (hll0:(dts D.length++fts [f0,f1,f2]).length<=2 ^ 30) (hU:(uni D (dts D.length++fts [f0,f1,f2])).length<=2 ^ 30)
    (hk:∀ f n,(uni D (dts D.length++fts [f0,f1,f2])).length<f->yD D (jI D f (dts D.length++fts [f0,f1,f2])) (n+1)=yD D (jI D f (dts D.length++fts [f0,f1,f2])) n->∀ k,k=kcl (jI D f (dts D.length++fts [f0,f1,f2])) (j9 D (jI D f (dts D.length++fts [f0,f1,f2])) (n+2))->fTx k f2=fTx k f0/\fTx k f0≠fTx k f1):
    PCall Tryd.prog 23 [OQ D [f0,f1,f2]] (.sl (il [0,1,0])):=by
  have c1:=UL hD hdt (F:=[f0,f1,f2]) (by simp) hFl
  unfold OQ J4 at c1
  unfold OQ J4
  refine pI Tryd.func23 jk7 fun E Q hE hN hQ=>?_
  repeat'(first|apply nx|refine zx ?_|rw[zw]|refine zk ?_|refine zp ?_|(apply zA;exact zb)|((first|refine zR hE fun zq=>?_|refine zT hE fun hanc zq=>?_|refine zF hE fun hanc zq=>?_|(apply zM;exact zu;exact c1;exact zs;exact zl;intro zq)|refine zg (fun zq=>?_) fun zq=>?_)<;>simp only[go_sem,zq])|(refine zc (fun hc=>?_) (fun hc=>?_)<;>try exact zh hc))
  have hDl:=hD.l
  have hl0:=(hFl f0 (by simp)).1
  have hl1:=(hFl f1 (by simp)).1
  have hl2:=(hFl f2 (by simp)).1
  refine gz 3 3 (by rw[hE];decide) (by simp only[go_sem]) ?_
  dsimp only;simp only[Nat.reduceAdd]
  refine jB (X:=Nat) (fun i=>i<=D.length) (fun i=>jx [(1,.ptr 0 0),(3,.rw 1),(23,.sl (ddl D)),(24,.i D.length),(25,.i (i:Nat))] [(0,.cells (J4 D [f0,f1,f2])),(1,.row 3 (Ty.avL (dts i)))] 2) (fun i=>D.length - i) 0 (Nat.zero_le _) (fun i=>if i=1 then 10485760 else i) ?_ ?_
  · refine jc (by simp[go_sem]) ?_ (by simp) (by simp[hN])
    simp[go_sem,J4,show Ty.avL (dts 0)=[] from rfl]
  · intro i hi
    by_cases hlt:i<D.length
    · obtain⟨x,hx⟩:=get?_of hlt
      have hp:=hpr x (List.mem_of_getElem? hx)
      have u1:=JA hlt (by omega)
      have hF:Fits ((dts i).length+1) 40:=⟨by rw[ug];omega,by rw[ug];omega⟩
      repeat'(first|apply nx|refine zx ?_|rw[zw]|refine zk ?_|refine zp ?_|(apply zA;exact zb)|((fail_if_success refine j3 9 ?_);(first|refine zR hE fun zq=>?_|refine zT hE fun hanc zq=>?_|refine zF hE fun hanc zq=>?_|refine zg (fun zq=>?_) fun zq=>?_)<;>simp only[go_sem,ja hlt,hx,Dd.av_eq,hp,u1,zq])|(refine zc (fun hc=>?_) (fun hc=>?_)<;>try exact zh hc))
      refine AW_snpRow (sz:=3) (l:=Ty.avL (dts i)++[.agg [.i 2,.i (i:Nat),.nilsl]]) (l':=Ty.avL (dts (i+1))) 14680066 (by simp only[jb, ↓reduceIte,Nat.reduceEqDiff]) (fun y hy=>?_) ?_ ?_
      · rcases List.mem_append.1 hy with hy|hy
        · exact xz _ _ y hy
        · obtain rfl:=List.mem_singleton.1 hy
          simp[AV.snapOk,AV.snapOkL]
      · rw[<- jcd,List.map_append,jbH];simp[AV.snap,AV.snapL]
      repeat'(first|apply nx|refine zx ?_|rw[zw]|refine zk ?_|refine zp ?_|(apply zA;exact zb)|((first|refine zR hE fun zq=>?_|refine zT hE fun hanc zq=>?_|refine zF hE fun hanc zq=>?_|refine zg (fun zq=>?_) fun zq=>?_)<;>simp only[go_sem,ja hlt,u1,zq])|(refine zc (fun hc=>?_) (fun hc=>?_)<;>try exact zh hc))
      refine⟨i+1,by omega,by omega,fun i=>if i=1 then 14680066 else i,jc (by simp[go_sem]) ?_ (by simp) (by simp[hN])⟩
      simp[go_sem,J4]
    · obtain rfl:i=D.length:=by omega
      repeat'(first|apply nx|refine zx ?_|rw[zw]|refine zk ?_|refine zp ?_|(apply zA;exact zb)|((first|refine zR hE fun zq=>?_|refine zT hE fun hanc zq=>?_|refine zF hE fun hanc zq=>?_|refine zg (fun zq=>?_) fun zq=>?_)<;>simp only[go_sem,jE,J4,zq])|(refine zc (fun hc=>?_) (fun hc=>?_)<;>try exact zh hc))
      refine jB (X:=Nat) (fun i=>i<=3) (fun i=>jx [(1,.ptr 0 0),(3,.rw 1),(40,.sl (fxl [f0,f1,f2])),(41,.i 3),(42,.i (i:Nat))] [(0,.cells (J4 D [f0,f1,f2])),(1,.row 3 (Ty.avL (dts D.length++fts ([f0,f1,f2].take i))))] 2) (fun i=>3 - i) 0 (Nat.zero_le _) (fun i=>i) ?_ ?_
      · refine jc (by simp[go_sem]) ?_ (by simp) (by simp[hN])
        simp[go_sem,J4,fts]
      · intro i hi
        by_cases hlt:i<3
        · obtain⟨f,hf⟩:=get?_of (show i< [f0,f1,f2].length from hlt)
          have hfm:=hFl f (List.mem_of_getElem? hf)
          have u1:=JA hlt (by omega)
          have c2:=jas f (by omega)
          rw[Fx.av_eq] at c2
          have q:decide ((i:Int)<3)=true:=decide_eq_true (by omega)
          have hF:Fits ((dts D.length).length+(fts ([f0,f1,f2].take i)).length+(f.l.length+1)) 40:=by
            have hb:(fts ([f0,f1,f2].take i)).length<=2 ^ 24:=by
              rcases(by omega:i=0\/i=1\/i=2) with rfl|rfl|rfl<;>simp[fts]<;>omega
            rw[ug]
            exact⟨by omega,by omega⟩
          repeat'(first|apply nx|refine zx ?_|rw[zw]|refine zk ?_|refine zp ?_|(apply zA;exact zb)|((first|refine zR hE fun zq=>?_|refine zT hE fun hanc zq=>?_|refine zF hE fun hanc zq=>?_|(apply zM;exact zu;exact c2;exact zs;exact zl;intro zq)|refine zg (fun zq=>?_) fun zq=>?_)<;>simp only[go_sem,q,hf,Fx.av_eq,u1,zq])|(refine zc (fun hc=>?_) (fun hc=>?_)<;>try exact zh hc))
          refine⟨⟨szok_avL _,hF⟩,?_⟩
          repeat'(first|apply nx|refine zx ?_|rw[zw]|refine zk ?_|refine zp ?_|(apply zA;exact zb)|((first|refine zR hE fun zq=>?_|refine zT hE fun hanc zq=>?_|refine zF hE fun hanc zq=>?_|refine zg (fun zq=>?_) fun zq=>?_)<;>simp only[go_sem,u1,zq])|(refine zc (fun hc=>?_) (fun hc=>?_)<;>try exact zh hc))
          refine⟨i+1,by omega,by omega,fun i=>if i=1 then 8388610 else i,jc (by simp[go_sem]) ?_ (by simp) (by simp[hN])⟩
          have e:Ty.avL (dts D.length++fts ([f0,f1,f2].take i))++Ty.avL (f.r::f.l)=Ty.avL (dts D.length++fts ([f0,f1,f2].take (i+1))):=by
            rw[jcD hf];simp[Ty.avL_eq]
          generalize dts D.length++fts ([f0,f1,f2].take (i+1))=l2 at e ⊢
          simp[go_sem,J4,e]
        · obtain rfl:i=3:=by omega
          have q:decide (((3:Nat):Int)<3)=false:=by decide
          repeat'(first|apply nx|refine zx ?_|rw[zw]|refine zk ?_|refine zp ?_|(apply zA;exact zb)|((fail_if_success refine j3 15 ?_);(first|refine zR hE fun zq=>?_|refine zT hE fun hanc zq=>?_|refine zF hE fun hanc zq=>?_|refine zg (fun zq=>?_) fun zq=>?_)<;>simp only[go_sem,q,J4,zq])|(refine zc (fun hc=>?_) (fun hc=>?_)<;>try exact zh hc))
          refine Qv 3 1 (sz:=3) (xs:=Ty.avL (dts D.length++fts [f0,f1,f2])) (by simp only[go_sem]) (by simp only[go_sem]) (Ty.clo_avL _) ?_
          dsimp only
          repeat'(first|apply nx|refine zx ?_|rw[zw]|refine zk ?_|refine zp ?_|(apply zA;exact zb)|((first|refine zR hE fun zq=>?_|refine zT hE fun hanc zq=>?_|refine zF hE fun hanc zq=>?_|refine zg (fun zq=>?_) fun zq=>?_)<;>simp only[go_sem,q,J4,zq])|(refine zc (fun hc=>?_) (fun hc=>?_)<;>try exact zh hc))
          have hdtB:dtB D=true:=by simp only[dtF,Bool.and_eq_true] at hdt;exact hdt.2
          have hl:∀ t,t∈dts D.length++fts [f0,f1,f2]->Pl D t/\t.sz<=2 ^ 30:=by
            intro t ht
            rcases List.mem_append.1 ht with ht|ht
            · obtain⟨i,hi,rfl⟩:=List.mem_map.1 ht
              have hi:=List.mem_range.1 hi
              obtain⟨x,hx⟩:=get?_of hi
              refine⟨⟨8,?_⟩,by simp[dtT,Ty.sz,Ty.szL]⟩
              simp[plB,dtT,hx,hpr x (List.mem_of_getElem? hx)]
            · obtain⟨f,hf,hft⟩:=List.mem_flatMap.1 ht
              exact⟨⟨8,((hFl f hf).2 t hft).1⟩,((hFl f hf).2 t hft).2⟩
          obtain⟨f,hf⟩:∃ f,(uni D (dts D.length++fts [f0,f1,f2])).length<f:=⟨_,Nat.lt_succ_self _⟩
          refine Xc hD hR hdtB (fun t ht=>(hl t ht).1) (fun t ht=>(hl t ht).2) hll0 hU hf 4194306 rfl fun n hpn hn b0 b1 b2 hold=>?_
          simp only[Nat.reduceAdd] at b0 b1 b2
          have b3:=hold 0 (.cells (J4 D [f0,f1,f2])) (by simp[jb,J4])
          clear hold
          obtain⟨hG,hin,hsub⟩:=Y8 hdtB (fun t ht=>(hl t ht).1) hf
          have hsl:(jI D f (dts D.length++fts [f0,f1,f2])).length<=2 ^ 30:=Nat.le_trans (YY hG.nd hsub) hU
          have hcl:(j9 D (jI D f (dts D.length++fts [f0,f1,f2])) (n+2)).length=(jI D f (dts D.length++fts [f0,f1,f2])).length:=G3 D _ _
          have hTx:=hk f n hf hn _ rfl
          have hkb:∀ t,0<=kcl (jI D f (dts D.length++fts [f0,f1,f2])) (j9 D (jI D f (dts D.length++fts [f0,f1,f2])) (n+2)) t/\kcl (jI D f (dts D.length++fts [f0,f1,f2])) (j9 D (jI D f (dts D.length++fts [f0,f1,f2])) (n+2)) t<=2 ^ 30:=fun t=>by
            have:=xE D (jI D f (dts D.length++fts [f0,f1,f2])) (n+2) ((idx (jI D f (dts D.length++fts [f0,f1,f2])) t).getD 0)
            unfold kcl;omega
          have hok:∀ g,g∈ [f0,f1,f2]->∀ t,t∈g.r::g.l->KOk D (jI D f (dts D.length++fts [f0,f1,f2])) (j9 D (jI D f (dts D.length++fts [f0,f1,f2])) (n+2)) t:=fun g hg t ht=>by
            have hm:t∈dts D.length++fts [f0,f1,f2]:=List.mem_append_right _ (List.mem_flatMap.2 ⟨g,hg,ht⟩)
            obtain⟨i,hi⟩:=hin t hm
            obtain⟨m,e1,_⟩:=yp hi
            have l1:=(List.getElem?_eq_some_iff.1 e1).1
            obtain⟨k,hk⟩:=get?_of (show i<(j9 D (jI D f (dts D.length++fts [f0,f1,f2])) (n+2)).length by omega)
            exact⟨(hl t hm).1,(hl t hm).2,i,k,hi,hk⟩
          simp only[go_sem,Jg,b0,b1,b2,b3]
          repeat'(first|apply nx|refine zx ?_|rw[zw]|refine zk ?_|refine zp ?_|(apply zA;exact zb)|((first|refine zR hE fun zq=>?_|refine zT hE fun hanc zq=>?_|refine zF hE fun hanc zq=>?_|refine zg (fun zq=>?_) fun zq=>?_)<;>simp only[go_sem,b0,b1,b2,b3,J4,zq])|(refine zc (fun hc=>?_) (fun hc=>?_)<;>try exact zh hc))
          clear hn hin hsub hG hk hU hll0 hl hf
          generalize j9 D (jI D f (dts D.length++fts [f0,f1,f2])) (n+2)=C at*
          generalize jI D f (dts D.length++fts [f0,f1,f2])=s at*
          have he:=Je 0 s
          have hRn:=Jb D s C
          have g0:∀ R,HC Tryd.prog 48 [f0.av,.ptr 3 0,.ptr 4 0,.ptr 5 0] (YZ D s C R) 7 (.str (fTx (kcl s C) f0)):=fun R=>uQ hD hcl hsl hl0 (hok f0 (by simp)) fun t _=>by have:=hkb t;omega
          have g1:∀ R,HC Tryd.prog 48 [f1.av,.ptr 3 0,.ptr 4 0,.ptr 5 0] (YZ D s C R) 7 (.str (fTx (kcl s C) f1)):=fun R=>uQ hD hcl hsl hl1 (hok f1 (by simp)) fun t _=>by have:=hkb t;omega
          have g2:∀ R,HC Tryd.prog 48 [f2.av,.ptr 3 0,.ptr 4 0,.ptr 5 0] (YZ D s C R) 7 (.str (fTx (kcl s C) f2)):=fun R=>uQ hD hcl hsl hl2 (hok f2 (by simp)) fun t _=>by have:=hkb t;omega
          rw[hTx.1] at g2
          generalize fTx (kcl s C) f0=ta at*
          generalize fTx (kcl s C) f1=tb at*
          clear hkb hok
          have hne:=hTx.2
          refine jB (X:=Nat) (fun x=>x<=1) (fun x=>jx [(1,.ptr 7 0),(10,.ptr 5 0),(11,.fn (.func 48) [] [.ptr 3 0,.ptr 4 0,.ptr 5 0])] [(0,.cells [.sl (ddl D),.rw 2,.mp 1]),(1,.map (esF 0 s)),(2,.row 6 (jN D s C)),(3,.cells [.ptr 0 0]),(4,.cells [.fn (.func 47) [] [.ptr 3 0]]),(5,.cells [.rw 6]),(6,.row 1 (il (rM x))),(7,.cells (J4 D [f0,f1,f2]))] 8) (fun x=>1 - x) 0 (by decide) (fun i=>if i=0 then 4194306 else if i=1 then 4194307 else if i=2 then 4194308 else if i=3 then 5242882 else if i=4 then 8388610 else if i=5 then 14680066 else if i=6 then 13631490 else if i=7 then 0 else i) ?_ ?_
          · refine jc (by simp[go_sem]) ?_ (by simp) (by simp[hN])
            simp only[List.mem_cons,List.not_mem_nil,or_false,forall_eq_or_imp,forall_eq]
            simp[go_sem,he.ren,b0,b1,b2,b3,J4,rM]
            exact he.ids2 _
          intro x hx
          repeat'(first|apply nx|refine zx ?_|rw[zw]|refine zk ?_|refine zp ?_|(apply zA;exact zb)|((first|refine zR hE fun zq=>?_|refine zT hE fun hanc zq=>?_|refine zF hE fun hanc zq=>?_|refine zg (fun zq=>?_) fun zq=>?_)<;>simp only[go_sem,J4,zq])|(refine zc (fun hc=>?_) (fun hc=>?_)<;>try exact zh hc))
          refine jB (X:=Nat) (fun i=>i<=3) (fun i=>jx [(1,.ptr 7 0),(10,.ptr 5 0),(11,.fn (.func 48) [] [.ptr 3 0,.ptr 4 0,.ptr 5 0]),(12,.mp 8),(13,.rw 9),(67,.sl (fxl [f0,f1,f2])),(68,.i 3),(69,.i (i:Nat))] [(0,.cells [.sl (ddl D),.rw 2,.mp 1]),(1,.map (esF 0 s)),(2,.row 6 (jN D s C)),(3,.cells [.ptr 0 0]),(4,.cells [.fn (.func 47) [] [.ptr 3 0]]),(5,.cells [.rw 6]),(6,.row 1 (il (rM x))),(7,.cells (J4 D [f0,f1,f2])),(8,.map (esM ta tb i)),(9,.row 1 (il (rM (i - 1))))] 10) (fun i=>3 - i) 0 (by decide) (fun i=>if i=9 then 5242888 else i) ?_ ?_
          · refine jc (by simp[go_sem]) ?_ (by simp) (by rw[hN];exact fun id hid=>absurd hid (Nat.not_lt_zero _))
            simp only[List.mem_cons,List.not_mem_nil,or_false,forall_eq_or_imp,forall_eq]
            simp[go_sem,he.ren,J4,esM,rM]
            exact he.ids2 _
          intro i hi
          by_cases hlt:i<3
          · have u1:=JA hlt (by omega)
            rcases(by omega:i=0\/i=1\/i=2) with rfl|rfl|rfl
            · have g:=g0 (rM x)
              rw[Fx.av_eq] at g
              have q0:jT ta (esM ta tb 0)=some none:=by simp[jT,esM,putT]
              have q1:jT ta (putT ta (.i ((0:Nat):Int)) (esM ta tb 0) none)=some (some (.i 0)):=by simp[jT,esM,putT]
              have lr:(rM 0).length=3:=rfl
              have wr:(rM 0).set 0 0=rM 0:=rfl
              have gr:(rM 0)[0]? =some 0:=rfl
              repeat'(first|apply nx|refine zx ?_|rw[zw]|refine zk ?_|refine zp ?_|(apply zA;exact zb)|((first|refine zR hE fun zq=>?_|refine zT hE fun hanc zq=>?_|refine zF hE fun hanc zq=>?_|refine zg (fun zq=>?_) fun zq=>?_)<;>simp only[go_sem,Fx.av_eq,zq])|(refine zc (fun hc=>?_) (fun hc=>?_)<;>try exact zh hc))
              refine Hold.mk (HC.use g (fun i=>i) (by rw[jv]) (by simp[go_sem,AV.idsL,AV.ids]) (fun id ob h=>?_) (fun _ _ _ _ e=>e) ?_)
              · rw[jw]
                revert id ob
                exact jM (p:=fun id ob=>jb _ _ _ _=some ob) (by simp[jb])
              rintro hpn hold
              have d0:=hold 0 _ (by simp[jb];rfl)
              have d1:=hold 1 _ (by simp[jb];rfl)
              have d2:=hold 2 _ (by simp[jb];rfl)
              have d3:=hold 3 _ (by simp[jb];rfl)
              have d4:=hold 4 _ (by simp[jb];rfl)
              have d5:=hold 5 _ (by simp[jb];rfl)
              have d6:=hold 6 _ (by simp[jb];rfl)
              have d7:=hold 7 _ (by simp[jb];rfl)
              have d8:=hold 8 _ (by simp[jb];rfl)
              have d9:=hold 9 _ (by simp[jb];rfl)
              clear hold
              simp only[go_sem]
              repeat'(first|apply nx|refine zx ?_|rw[zw]|refine zk ?_|refine zp ?_|(apply zA;exact zb)|((first|refine zR hE fun zq=>?_|refine zT hE fun hanc zq=>?_|refine zF hE fun hanc zq=>?_|refine zg (fun zq=>?_) fun zq=>?_)<;>simp only[go_sem,d8,d9,q0,q1,lr,gr,zq])|(refine zc (fun hc=>?_) (fun hc=>?_)<;>try exact zh hc))
              have mp:putT ta (.i ((0:Nat):Int)) (esM ta tb 0) none=esM ta tb 1:=rfl
              rw[wr]
              refine⟨1,by omega,by omega,fun i=>i,jc (by simp[go_sem]) ?_ (by simp) (by rw[hN];exact fun id hid=>absurd hid (Nat.not_lt_zero _))⟩
              simp only[List.mem_cons,List.not_mem_nil,or_false,forall_eq_or_imp,forall_eq]
              have hes:EsClo (esM ta tb 1):=by intro q hq;simp only[esM,List.mem_cons,List.not_mem_nil,or_false] at hq;rcases hq with rfl<;>exact⟨rfl,rfl⟩
              rw[mp]
              simp[go_sem,he.ren,hes.ren,d0,d1,d2,d3,d4,d5,d6,d7]
              exact⟨he.ids2 _,⟨(js (Yw _ _)).symm,jt (Yw _ _)⟩,hes.ids2 _⟩
            · have g:=g1 (rM x)
              rw[Fx.av_eq] at g
              have q0:jT tb (esM ta tb 1)=some none:=by simp[jT,esM,putT,Ne.symm hne]
              have q1:jT tb (putT tb (.i ((1:Nat):Int)) (esM ta tb 1) none)=some (some (.i 1)):=by simp[jT,esM,putT,Ne.symm hne]
              have lr:(rM 0).length=3:=rfl
              have wr:(rM 0).set 1 1=rM 1:=rfl
              have gr:(rM 0)[1]? =some 0:=rfl
              repeat'(first|apply nx|refine zx ?_|rw[zw]|refine zk ?_|refine zp ?_|(apply zA;exact zb)|((first|refine zR hE fun zq=>?_|refine zT hE fun hanc zq=>?_|refine zF hE fun hanc zq=>?_|refine zg (fun zq=>?_) fun zq=>?_)<;>simp only[go_sem,Fx.av_eq,zq])|(refine zc (fun hc=>?_) (fun hc=>?_)<;>try exact zh hc))
              refine Hold.mk (HC.use g (fun i=>i) (by rw[jv]) (by simp[go_sem,AV.idsL,AV.ids]) (fun id ob h=>?_) (fun _ _ _ _ e=>e) ?_)
              · rw[jw]
                revert id ob
                exact jM (p:=fun id ob=>jb _ _ _ _=some ob) (by simp[jb])
              rintro hpn hold
              have d0:=hold 0 _ (by simp[jb];rfl)
              have d1:=hold 1 _ (by simp[jb];rfl)
              have d2:=hold 2 _ (by simp[jb];rfl)
              have d3:=hold 3 _ (by simp[jb];rfl)
              have d4:=hold 4 _ (by simp[jb];rfl)
              have d5:=hold 5 _ (by simp[jb];rfl)
              have d6:=hold 6 _ (by simp[jb];rfl)
              have d7:=hold 7 _ (by simp[jb];rfl)
              have d8:=hold 8 _ (by simp[jb];rfl)
              have d9:=hold 9 _ (by simp[jb];rfl)
              clear hold
              simp only[go_sem]
              repeat'(first|apply nx|refine zx ?_|rw[zw]|refine zk ?_|refine zp ?_|(apply zA;exact zb)|((first|refine zR hE fun zq=>?_|refine zT hE fun hanc zq=>?_|refine zF hE fun hanc zq=>?_|refine zg (fun zq=>?_) fun zq=>?_)<;>simp only[go_sem,d8,d9,q0,q1,lr,gr,zq])|(refine zc (fun hc=>?_) (fun hc=>?_)<;>try exact zh hc))
              have mp:putT tb (.i ((1:Nat):Int)) (esM ta tb 1) none=esM ta tb 2:=rfl
              rw[wr]
              refine⟨2,by omega,by omega,fun i=>i,jc (by simp[go_sem]) ?_ (by simp) (by rw[hN];exact fun id hid=>absurd hid (Nat.not_lt_zero _))⟩
              simp only[List.mem_cons,List.not_mem_nil,or_false,forall_eq_or_imp,forall_eq]
              have hes:EsClo (esM ta tb 2):=by intro q hq;simp only[esM,List.mem_cons,List.not_mem_nil,or_false] at hq;rcases hq with rfl|rfl<;>exact⟨rfl,rfl⟩
              rw[mp]
              simp[go_sem,he.ren,hes.ren,d0,d1,d2,d3,d4,d5,d6,d7]
              exact⟨he.ids2 _,⟨(js (Yw _ _)).symm,jt (Yw _ _)⟩,hes.ids2 _⟩
            · have g:=g2 (rM x)
              rw[Fx.av_eq] at g
              have q0:jT ta (esM ta tb 2)=some (some (.i 0)):=by simp[jT,esM]
              have q1:jT ta (esM ta tb 2)=some (some (.i 0)):=by simp[jT,esM]
              have lr:(rM 1).length=3:=rfl
              have wr:(rM 1).set 2 0=rM 2:=rfl
              have gr:(rM 1)[2]? =some 0:=rfl
              repeat'(first|apply nx|refine zx ?_|rw[zw]|refine zk ?_|refine zp ?_|(apply zA;exact zb)|((first|refine zR hE fun zq=>?_|refine zT hE fun hanc zq=>?_|refine zF hE fun hanc zq=>?_|refine zg (fun zq=>?_) fun zq=>?_)<;>simp only[go_sem,Fx.av_eq,zq])|(refine zc (fun hc=>?_) (fun hc=>?_)<;>try exact zh hc))
              refine Hold.mk (HC.use g (fun i=>i) (by rw[jv]) (by simp[go_sem,AV.idsL,AV.ids]) (fun id ob h=>?_) (fun _ _ _ _ e=>e) ?_)
              · rw[jw]
                revert id ob
                exact jM (p:=fun id ob=>jb _ _ _ _=some ob) (by simp[jb])
              rintro hpn hold
              have d0:=hold 0 _ (by simp[jb];rfl)
              have d1:=hold 1 _ (by simp[jb];rfl)
              have d2:=hold 2 _ (by simp[jb];rfl)
              have d3:=hold 3 _ (by simp[jb];rfl)
              have d4:=hold 4 _ (by simp[jb];rfl)
              have d5:=hold 5 _ (by simp[jb];rfl)
              have d6:=hold 6 _ (by simp[jb];rfl)
              have d7:=hold 7 _ (by simp[jb];rfl)
              have d8:=hold 8 _ (by simp[jb];rfl)
              have d9:=hold 9 _ (by simp[jb];rfl)
              clear hold
              simp only[go_sem]
              repeat'(first|apply nx|refine zx ?_|rw[zw]|refine zk ?_|refine zp ?_|(apply zA;exact zb)|((first|refine zR hE fun zq=>?_|refine zT hE fun hanc zq=>?_|refine zF hE fun hanc zq=>?_|refine zg (fun zq=>?_) fun zq=>?_)<;>simp only[go_sem,d8,d9,q0,q1,lr,gr,zq])|(refine zc (fun hc=>?_) (fun hc=>?_)<;>try exact zh hc))
              have mp:esM ta tb 2=esM ta tb 3:=rfl
              rw[wr]
              refine⟨3,by omega,by omega,fun i=>i,jc (by simp[go_sem]) ?_ (by simp) (by rw[hN];exact fun id hid=>absurd hid (Nat.not_lt_zero _))⟩
              simp only[List.mem_cons,List.not_mem_nil,or_false,forall_eq_or_imp,forall_eq]
              have hes:EsClo (esM ta tb 3):=by intro q hq;simp only[esM,List.mem_cons,List.not_mem_nil,or_false] at hq;rcases hq with rfl|rfl<;>exact⟨rfl,rfl⟩
              rw[mp] at d8
              simp[go_sem,he.ren,hes.ren,d0,d1,d2,d3,d4,d5,d6,d7,d8]
              exact⟨he.ids2 _,⟨(js (Yw _ _)).symm,jt (Yw _ _)⟩,hes.ids2 _⟩
          · obtain rfl:i=3:=by omega
            have q:decide (((3:Nat):Int)<3)=false:=by decide
            have c5:=jeX (rM 2) (rM x) (by simp[rM])
            rcases(by omega:x=0\/x=1) with rfl|rfl
            · rw[show decide (rM 2=rM 0)=false from rfl] at c5
              repeat'(first|apply nx|refine zx ?_|rw[zw]|refine zk ?_|refine zp ?_|(apply zA;exact zb)|((first|refine zR hE fun zq=>?_|refine zT hE fun hanc zq=>?_|refine zF hE fun hanc zq=>?_|(apply zM;exact zu;exact c5;exact zs;exact zl;intro zq)|refine zg (fun zq=>?_) fun zq=>?_)<;>simp only[go_sem,q,zq])|(refine zc (fun hc=>?_) (fun hc=>?_)<;>try exact zh hc))
              refine⟨1,by omega,by omega,fun i=>if i=6 then 9 else i,jc (by simp[go_sem]) ?_ (by simp) (by rw[hN];exact fun id hid=>absurd hid (Nat.not_lt_zero _))⟩
              simp only[List.mem_cons,List.not_mem_nil,or_false,forall_eq_or_imp,forall_eq]
              simp[go_sem,he.ren,J4,show rM 2=rM 1 from rfl]
              exact he.ids2 _
            · rw[show decide (rM 2=rM 1)=true from rfl] at c5
              repeat'(first|apply nx|refine zx ?_|rw[zw]|refine zk ?_|refine zp ?_|(apply zA;exact zb)|((first|refine zR hE fun zq=>?_|refine zF hE fun hanc zq=>?_|(apply zM;exact zu;exact c5;exact zs;exact zl;intro zq)|refine zg (fun zq=>?_) fun zq=>?_)<;>simp only[go_sem,q,zq])|(refine zc (fun hc=>?_) (fun hc=>?_)<;>try exact zh hc)|(refine je ?_;refine zt hQ ?_))
              simp[AV.snap,jb,rM]
end Go.Proofs.YtfpcjabbcpgbjaaDoor

set_option maxRecDepth 100000
namespace Go.Proofs.YtfpcjabbcpgbjaaDoor
open Go.Am Go.Proofs Go.Hv Go.Gl
theorem uo (k:Ty->Int) (f:Fx):fTx k f=tx (txL ([0,k f.r]++[0]++((f.l.length:Int)::f.l.map k))):=by
 rw[fTx,gW,gW,qq,qq]
theorem je0 {k:Ty->Int} {f g:Fx} (h:fTx k f=fTx k g):k f.r=k g.r/\f.l.map k=g.l.map k:=by
 rw[uo,uo] at h
 have:=Gq (uR h)
 simp only[List.cons_append,List.nil_append,List.cons.injEq] at this
 exact⟨this.2.1,this.2.2.2.2⟩
theorem X1 {D : List Dd} (hdt : dtB D = true) {l : List Ty} {f : Nat} (hl : ∀ t, t ∈ l -> Pl D t) (hf : (uni D l).length < f) {n : Nat} (hn : yD D (jI D f l) (n + 1) = yD D (jI D f l) n) {a b : Ty} (ha : a ∈ l) (hb : b ∈ l) :
    kcl (jI D f l) (j9 D (jI D f l) (n+2)) a=kcl (jI D f l) (j9 D (jI D f l) (n+2)) b↔bis D D a b:=by
  obtain⟨hG,hin,_⟩:=Y8 hdt hl hf
  obtain⟨i,hi⟩:=hin a ha
  obtain⟨j,hj⟩:=hin b hb
  rw[<- xF hdt hl hf hn (hl a ha) (hl b hb) hi hj]
  unfold kcl
  rw[hi,hj,Option.getD_some,Option.getD_some]
  omega
def Qr:Fx:=⟨intT,[dtT 0,intT]⟩
def oV:Fx:=⟨intT,[dtT 2,intT]⟩
def oW:Fx:=⟨intT,[dtT 1,intT]⟩
theorem jeE:DB exD:=by
 refine⟨by decide,fun x hx=>?_,fun x hx=>?_,fun x hx=>?_,fun x hx=>?_⟩<;>simp only[exD,List.mem_cons,List.not_mem_nil,or_false] at hx<;>rcases hx with rfl|rfl|rfl|rfl<;>decide
theorem jeH:DR exD:=by
 intro x hx
 simp only[exD,List.mem_cons,List.not_mem_nil,or_false] at hx
 rcases hx with rfl|rfl|rfl|rfl<;>decide
theorem jnC:DS exD:=by
 intro x hx
 simp only[exD,List.mem_cons,List.not_mem_nil,or_false] at hx
 rcases hx with rfl|rfl|rfl|rfl<;>decide
theorem jjR:bis exD exD (dtT 0) (dtT 1):=by
 have h:=jct
 simp only[smB,Bool.and_eq_true,decide_eq_true_eq] at h
 exact h.2.2.2
theorem jhP:¬ bis exD exD (dtT 0) (dtT 2):=fun g=>absurd (g 1).1 (by decide)
theorem jcu:PCall Tryd.prog 23 [OQ exD [Qr,oV,oW]] (.sl (il [0,1,0])):=by
 have hFl:∀ f,f∈ [Qr,oV,oW]->f.l.length<=2 ^ 20/\∀ t,t∈f.r::f.l->plB exD t 8=true/\t.sz<=2 ^ 30:=by
  intro f hf
  simp only[List.mem_cons,List.not_mem_nil,or_false] at hf
  rcases hf with rfl|rfl|rfl
  all_goals
   refine⟨by decide,fun t ht=>?_⟩
   simp only[Qr,oV,oW,List.mem_cons,List.not_mem_nil,or_false] at ht
   rcases ht with rfl|rfl|rfl<;>decide
 refine jff jeE jeH QY (fun x hx=>?_) hFl (by decide) (by decide) ?_
 ·simp only[exD,List.mem_cons,List.not_mem_nil,or_false] at hx
  rcases hx with rfl|rfl|rfl|rfl<;>rfl
 intro f n hf hn k hk
 have hl:∀ t,t∈dts exD.length++fts [Qr,oV,oW]->Pl exD t:=by
  intro t ht
  have ht:t=dtT 0\/t=dtT 1\/t=dtT 2\/t=dtT 3\/t=intT:=by
   simp[dts,fts,exD,Qr,oV,oW,List.range_succ] at ht
   rcases ht with rfl|rfl|rfl|rfl|rfl|rfl|rfl|rfl|rfl|rfl|rfl|rfl|rfl<;>simp
  rcases ht with rfl|rfl|rfl|rfl|rfl
  ·exact⟨8,um⟩
  ·exact⟨8,jcv⟩
  ·exact⟨8,jgJ⟩
  ·exact⟨8,xO⟩
  ·exact⟨8,jcw⟩
 have h01:=(X1 XU hl hf hn (a:=dtT 0) (b:=dtT 1) (by simp[fts,Qr]) (by simp[fts,oW])).2 jjR
 have h02:=mt (X1 XU hl hf hn (a:=dtT 0) (b:=dtT 2) (by simp[fts,Qr]) (by simp[fts,oV])).1 jhP
 rw[<- hk] at h01 h02
 refine⟨?_,fun h=>h02 ?_⟩
 ·rw[uo,uo];simp[Qr,oW,h01]
 ·have:=(je0 h).2
  simp only[Qr,oV,List.map_cons,List.cons.injEq] at this
  exact this.1
end Go.Proofs.YtfpcjabbcpgbjaaDoor

set_option maxHeartbeats 4000000
set_option maxRecDepth 100000
namespace Go.Proofs.YtfpcjabbcpgbjaaDoor
open Go.Am Go.Proofs Go.Hv
open Classical
attribute [local irreducible] AW jA CallB

theorem GZ (x:Cl) (l:List Cl):cl (x::l)=x.av::cl l:=rfl
theorem J9:bl []=[]:=rfl
theorem GU (x:Bool) (l:List Bool):bl (x::l)= .bool x::bl l:=rfl
theorem xC (l:List Cl) (hl:l.length<=2 ^ 20):ACall Tryd.prog 81 [.sl (cl l)] (fun _=>none) 0 0 (fun r hp'=>r= .rw 0/\hp'=jp [(0,.row 10 (cl l))]) (fun _ _=>False):=by
 refine ACall.of_bodyR Tryd.func81 jlz rfl (by simp[Tryd.f81]) fun E Q hE hN hQ hQp=>jg ?_
 have hsz:=jap l
 have hlen:(cl l).length=l.length:=jbS l
 cases l with
 |nil=>
  repeat(first|refine Qa ?_|refine uY ?_|refine GO ?_|refine jk ?_|refine jj ?_)
  refine zR hE @fun K Kp hK hKp hg=>?_
  simp only[go_sem,ub]
  refine hK.h _ ?_;clear hK hKp K Kp;try clear hanc anc
  repeat(first|refine jk ?_|refine jj ?_|refine jK ?_)
  repeat(first|refine Qa ?_|refine uY ?_|refine GO ?_|refine jk ?_|refine jj ?_)
  refine XB Tryd.underlying41 (by rw[hE];decide) (by rw[hE];decide) (by decide) (by simp only[go_sem,ub]) fun b=>?_
  cases b
  ·repeat'(first|apply nx|refine zx ?_|rw[zw]|refine zk ?_|refine zp ?_|(apply zA;exact zb)|((first|refine zR hE @fun K Kp hK hKp hg=>?_|refine zT hE @fun K Kp hK hKp anc hanc hg=>?_|refine zF hE @fun K Kp hK hKp anc hanc hg=>?_|refine zg (fun hg=>?_) fun hg=>?_)<;>simp only[go_sem,ub,hg])|(refine zc (fun hc=>?_) (fun hc=>?_)<;>try exact zh hc))
   refine je (hQ _ ⟨.rw 0,fun _=>3145728,_,1,Ju (by simp only[go_sem,J9]),(by simp[AV.ids,AV.idsL]),?_,rfl,rfl⟩).1
   show Ent _ _ _ (jx [] [(0,.row 10 (cl []))] 1)
   refine jc (by simp[go_sem,J9]) (by simp[go_sem,J9]) (by simp) (by simp[hN])
  ·repeat'(first|apply nx|refine zx ?_|rw[zw]|refine zk ?_|refine zp ?_|(apply zA;exact zb)|((first|refine zR hE @fun K Kp hK hKp hg=>?_|refine zT hE @fun K Kp hK hKp anc hanc hg=>?_|refine zF hE @fun K Kp hK hKp anc hanc hg=>?_|refine zg (fun hg=>?_) fun hg=>?_)<;>simp only[go_sem,ub,hg])|(refine zc (fun hc=>?_) (fun hc=>?_)<;>try exact zh hc))
   refine gz 2 10 (by rw[hE];decide) (by simp only[go_sem]) ?_
   refine je (hQ _ ⟨.rw 0,fun _=>2097152,_,1,Ju (by simp only[go_sem,J9]),(by simp[AV.ids,AV.idsL]),?_,rfl,rfl⟩).1
   show Ent _ _ _ (jx [] [(0,.row 10 (cl []))] 1)
   refine jc (by simp[go_sem,J9]) (by simp[go_sem,J9]) (by simp) (by simp[hN])
 |cons x l=>
  repeat'(first|apply nx|refine zx ?_|rw[zw]|refine zk ?_|refine zp ?_|(apply zA;exact zb)|((first|refine zR hE @fun K Kp hK hKp hg=>?_|refine zT hE @fun K Kp hK hKp anc hanc hg=>?_|refine zF hE @fun K Kp hK hKp anc hanc hg=>?_|refine zg (fun hg=>?_) fun hg=>?_)<;>simp only[go_sem,GZ,hg])|(refine zc (fun hc=>?_) (fun hc=>?_)<;>try exact zh hc))
  refine⟨⟨hsz,(by simp only[List.length_cons] at hl;simp only[Fits];omega)⟩,?_⟩
  repeat'(first|apply nx|refine zx ?_|rw[zw]|refine zk ?_|refine zp ?_|(apply zA;exact zb)|((first|refine zR hE @fun K Kp hK hKp hg=>?_|refine zT hE @fun K Kp hK hKp anc hanc hg=>?_|refine zF hE @fun K Kp hK hKp anc hanc hg=>?_|refine zg (fun hg=>?_) fun hg=>?_)<;>simp only[go_sem,GZ,hg])|(refine zc (fun hc=>?_) (fun hc=>?_)<;>try exact zh hc))
  refine je (hQ _ ⟨.rw 0,fun _=>5242880,_,1,Ju (by simp only[go_sem,GZ]),(by simp[AV.ids,AV.idsL]),?_,rfl,rfl⟩).1
  show Ent _ _ _ (jx [] [(0,.row 10 (cl (x::l)))] 1)
  refine jc (by simp[go_sem,GZ]) (by simp[go_sem,GZ]) (by simp) (by simp[hN])
theorem xD (l:List Bool) (hl:l.length<=2 ^ 20):ACall Tryd.prog 82 [.sl (bl l)] (fun _=>none) 0 0 (fun r hp'=>r= .rw 0/\hp'=jp [(0,.row 1 (bl l))]) (fun _ _=>False):=by
 refine ACall.of_bodyR Tryd.func82 jlA rfl (by simp[Tryd.f82]) fun E Q hE hN hQ hQp=>jg ?_
 have hsz:=jao l
 have hlen:(bl l).length=l.length:=jgq l
 cases l with
 |nil=>
  repeat(first|refine Qa ?_|refine uY ?_|refine GO ?_|refine jk ?_|refine jj ?_)
  refine zR hE @fun K Kp hK hKp hg=>?_
  simp only[go_sem,J9]
  refine hK.h _ ?_;clear hK hKp K Kp;try clear hanc anc
  repeat(first|refine jk ?_|refine jj ?_|refine jK ?_)
  repeat(first|refine Qa ?_|refine uY ?_|refine GO ?_|refine jk ?_|refine jj ?_)
  refine XB Tryd.underlying42 (by rw[hE];decide) (by rw[hE];decide) (by decide) (by simp only[go_sem,J9]) fun b=>?_
  cases b
  ·repeat'(first|apply nx|refine zx ?_|rw[zw]|refine zk ?_|refine zp ?_|(apply zA;exact zb)|((first|refine zR hE @fun K Kp hK hKp hg=>?_|refine zT hE @fun K Kp hK hKp anc hanc hg=>?_|refine zF hE @fun K Kp hK hKp anc hanc hg=>?_|refine zg (fun hg=>?_) fun hg=>?_)<;>simp only[go_sem,J9,hg])|(refine zc (fun hc=>?_) (fun hc=>?_)<;>try exact zh hc))
   refine je (hQ _ ⟨.rw 0,fun _=>3145728,_,1,Ju (by simp only[go_sem,J9]),(by simp[AV.ids,AV.idsL]),?_,rfl,rfl⟩).1
   show Ent _ _ _ (jx [] [(0,.row 1 (bl []))] 1)
   refine jc (by simp[go_sem,J9]) (by simp[go_sem,J9]) (by simp) (by simp[hN])
  ·repeat'(first|apply nx|refine zx ?_|rw[zw]|refine zk ?_|refine zp ?_|(apply zA;exact zb)|((first|refine zR hE @fun K Kp hK hKp hg=>?_|refine zT hE @fun K Kp hK hKp anc hanc hg=>?_|refine zF hE @fun K Kp hK hKp anc hanc hg=>?_|refine zg (fun hg=>?_) fun hg=>?_)<;>simp only[go_sem,J9,hg])|(refine zc (fun hc=>?_) (fun hc=>?_)<;>try exact zh hc))
   refine gz 2 1 (by rw[hE];decide) (by simp only[go_sem]) ?_
   refine je (hQ _ ⟨.rw 0,fun _=>2097152,_,1,Ju (by simp only[go_sem,J9]),(by simp[AV.ids,AV.idsL]),?_,rfl,rfl⟩).1
   show Ent _ _ _ (jx [] [(0,.row 1 (bl []))] 1)
   refine jc (by simp[go_sem,J9]) (by simp[go_sem,J9]) (by simp) (by simp[hN])
 |cons x l=>
  repeat'(first|apply nx|refine zx ?_|rw[zw]|refine zk ?_|refine zp ?_|(apply zA;exact zb)|((first|refine zR hE @fun K Kp hK hKp hg=>?_|refine zT hE @fun K Kp hK hKp anc hanc hg=>?_|refine zF hE @fun K Kp hK hKp anc hanc hg=>?_|refine zg (fun hg=>?_) fun hg=>?_)<;>simp only[go_sem,GU,hg])|(refine zc (fun hc=>?_) (fun hc=>?_)<;>try exact zh hc))
  refine⟨⟨hsz,(by simp only[List.length_cons] at hl;simp only[Fits];omega)⟩,?_⟩
  repeat'(first|apply nx|refine zx ?_|rw[zw]|refine zk ?_|refine zp ?_|(apply zA;exact zb)|((first|refine zR hE @fun K Kp hK hKp hg=>?_|refine zT hE @fun K Kp hK hKp anc hanc hg=>?_|refine zF hE @fun K Kp hK hKp anc hanc hg=>?_|refine zg (fun hg=>?_) fun hg=>?_)<;>simp only[go_sem,GU,hg])|(refine zc (fun hc=>?_) (fun hc=>?_)<;>try exact zh hc))
  refine je (hQ _ ⟨.rw 0,fun _=>5242880,_,1,Ju (by simp only[go_sem,GU]),(by simp[AV.ids,AV.idsL]),?_,rfl,rfl⟩).1
  show Ent _ _ _ (jx [] [(0,.row 1 (bl (x::l)))] 1)
  refine jc (by simp[go_sem,GU]) (by simp[go_sem,GU]) (by simp) (by simp[hN])
def jkt:Tr:= .alt 0 (.alt 1 (.alt 2 (.alt 3 (.alt 4 (.alt 5 (.alt 6 (.alt 7 .leaf .nil) .nil) .nil) .nil) .nil) (.alt 3 (.alt 2 (.alt 4 (.alt 5 (.alt 6 (.alt 7 .leaf .nil) .nil) .nil) .nil) (.alt 4 (.alt 2 (.alt 5 (.alt 6 (.alt 7 .leaf .nil) .nil) .nil) .nil) .nil)) .nil)) (.alt 3 (.alt 1 (.alt 2 (.alt 4 (.alt 5 (.alt 6 (.alt 7 .leaf .nil) .nil) .nil) .nil) (.alt 4 (.alt 2 (.alt 5 (.alt 6 (.alt 7 .leaf .nil) .nil) .nil) .nil) .nil)) (.alt 4 (.alt 1 (.alt 2 (.alt 5 (.alt 6 (.alt 7 .leaf .nil) .nil) .nil) .nil) .nil) .nil)) .nil)) (.alt 3 (.alt 0 (.alt 1 (.alt 2 (.alt 4 (.alt 5 (.alt 6 (.alt 7 .leaf .nil) .nil) .nil) .nil) (.alt 4 (.alt 2 (.alt 5 (.alt 6 (.alt 7 .leaf .nil) .nil) .nil) .nil) .nil)) (.alt 4 (.alt 1 (.alt 2 (.alt 5 (.alt 6 (.alt 7 .leaf .nil) .nil) .nil) .nil) .nil) .nil)) (.alt 4 (.alt 0 (.alt 1 (.alt 2 (.alt 5 (.alt 6 (.alt 7 .leaf .nil) .nil) .nil) .nil) .nil) .nil) .nil)) .nil)
theorem jbW (h:Hp) (hl:h.cells.length<=2 ^ 20) (ha:h.arenas.length<=2 ^ 20):ACall Tryd.prog 69 [h.av] (fun _=>none) 0 0 (fun r hp'=>r= .agg [.rw 0,.rw 1]/\hp'=jp [(0,.row 10 (cl h.cells)),(1,.row 1 (bl h.arenas))]) (fun _ _=>False):=by
 have c1:=xC h.cells hl
 have c2:=xD h.arenas ha
 rw[Hp.av_eq]
 refine ACall.of_bodyR Tryd.func69 jlr rfl (by simp[Tryd.f69]) fun E Q hE hN hQ hQp=>jg ?_
 repeat'(first|apply nx|refine zx ?_|rw[zw]|refine zk ?_|refine zp ?_|(apply zA;exact zb)|((first|refine zR hE @fun K Kp hK hKp hg=>?_|refine zg (fun hg=>?_) fun hg=>?_)<;>simp only[go_sem,hg])|(refine zc (fun hc=>?_) (fun hc=>?_)<;>try exact zh hc)|(refine je ?_;refine zt hQ ?_))
 refine jgi (jx [(2,.ptr 0 0)] [(0,.cells [.rw 1,.rw 2]),(1,.row 10 (cl h.cells)),(2,.row 1 (bl h.arenas))] 3) jkt mixed hE (fun O m he=>?_) fun Kp hKp=>?_
 ·refine jk ?_
  refine AW.ent m he ?_
  refine je (hQ _ ⟨.agg [.rw 0,.rw 1],fun i=>i+1,_,2,(by simp[Jy,rvA,Tryd.f69,go_sem];rfl),(by simp[AV.ids,AV.idsL]),?_,rfl,rfl⟩).1
  show Ent _ _ _ (jx [] [(0,.row 10 (cl h.cells)),(1,.row 1 (bl h.arenas))] 2)
  refine jc (by simp[go_sem]) (by simp[go_sem]) (by simp) (by simp[hN])
 ·unfold jkt
  repeat'(first|refine jcG rfl ?_|refine UC rfl ?_ ?_|simp only[go_sem]|refine Hold.mk (CallB.newRow c1 (by simp[AV.cloL,AV.clo]) (QP _) ?_)|refine Hold.mk (CallB.newRow c2 (by simp[AV.cloL,AV.clo]) (QK _) ?_))
  all_goals refine⟨fun i=>if i=0 then 1048576 else if i=1 then 4194304 else 7340032,?_⟩
  all_goals show Ent E.np _ _ (jx [(2,.ptr 0 0)] [(0,.cells [.rw 1,.rw 2]),(1,.row 10 (cl h.cells)),(2,.row 1 (bl h.arenas))] 3)
  all_goals refine jc (by simp[go_sem]) (by simp[go_sem]) (by simp) (by simp[hN])

@[go_sem] theorem _root_.Go.Hv.Cl.cs_take (c:Cl):List.take 10 c.cs=c.cs:=rfl
@[go_sem] theorem _root_.Go.Hv.Vl.cs_take (c:Vl):List.take 8 c.cs=c.cs:=rfl

theorem jc6:PCall Tryd.prog 26 [] (Hp.mk [] []).av:=by
 rw[Hp.av_eq]
 refine pI Tryd.func26 jk9 fun E Q hE hN hQ=>?_
 repeat'(first|apply nx|refine zx ?_|rw[zw]|refine zk ?_|refine zp ?_|(apply zA;exact zb)|((first|refine zR hE fun hg=>?_|refine zT hE fun hanc hg=>?_|refine zF hE fun hanc hg=>?_|refine zg (fun hg=>?_) fun hg=>?_)<;>simp only[go_sem,hg])|(refine zc (fun hc=>?_) (fun hc=>?_)<;>try exact zh hc))
 refine je (hQ _ ⟨.agg [.nilsl,.nilsl],(by simp[Jy,rvA,Tryd.f26,go_sem];rfl),(by simp[AV.snapOk,AV.snapOkL,go_sem]),(by rfl),(by first|rfl|simp[AV.clo,AV.cloL,go_sem])⟩).1
mutual
def yw:Vl->Int->Int
 | .mk _ _ _ _ f _ _ _,m=>gR f 1 m
def gR:List Vl->Int->Int->Int
 | [],n,_=>n
 |x::l,n,m=>if n<=m then gR l (n+yw x (m - n)) m else n
end
theorem jdO (v:Vl) (m:Int):yw v m=gR v.fs 1 m:=by cases v;rw[yw];rfl
mutual
theorem xa:∀ (v:Vl) (m:Int),1<=yw v m/\yw v m<=v.sz
 | .mk a b c d f e g h,m=>by
  rw[yw]
  have h0:=U9 f 1 m (by omega)
  have h1:(Vl.mk a b c d f e g h).sz=1+g.length+h.length+Vl.szL f:=Vl.sz_eq _
  omega
theorem U9:∀ (l:List Vl) (n m:Int),0<=n->n<=gR l n m/\gR l n m<=n+Vl.szL l
 | [],n,m,h=>by rw[gR,Vl.szL];omega
 |x::l,n,m,h=>by
  rw[gR,Vl.szL]
  have h1:=xa x (m - n)
  split
  ·have h2:=U9 l (n+yw x (m - n)) m (by omega)
   omega
  ·omega
end
theorem jbn:∀ (N:Nat) (v:Vl) (m:Int),v.sz<N->N<=2 ^ 40-> -2 ^ 50+N<=m->m<=60->PCall Tryd.prog 37 [.agg v.cs,.i m] (.i (yw v m)):=by
 intro N
 induction N with
 |zero=>intro v m h;omega
 |succ N ih=>
 intro v m hv hN hm1 hm2
 have hsz:=v.sz_eq
 have hlf:=Vl.len_le v.fs
 rw[jdO]
 unfold Vl.cs
 refine pI Tryd.func37 jlf fun E Q hE hN hQ=>?_
 repeat'(first|apply nx|refine zx ?_|rw[zw]|refine zk ?_|refine zp ?_|(apply zA;exact zb)|((first|refine zR hE fun hg=>?_|refine zF hE fun hanc hg=>?_|refine zg (fun hg=>?_) fun hg=>?_)<;>simp only[go_sem,hg])|(refine zc (fun hc=>?_) (fun hc=>?_)<;>try exact zh hc)|(refine je ?_;refine zt hQ ?_))
 refine jB (X:=Nat×Int) (fun x=>x.1<=v.fs.length/\gR (v.fs.drop x.1) x.2 m=gR v.fs 1 m/\1<=x.2/\x.2<=1+Vl.szL (v.fs.take x.1)) (fun x=>jx [(1,AV.i m),(2,.ptr 0 0),(5,AV.i x.2),(6,AV.i x.1)] [(0,.cells v.cs)] 1) (fun x=>v.fs.length - x.1) (0,1) ⟨Nat.zero_le _,by simp,by simp,by simp[Vl.szL]⟩ (fun i=>i) (by refine jc (by simp[go_sem,Vl.cs]) (by simp[go_sem,Vl.cs]) (by simp) (by simp[hN])) ?_
 rintro⟨i,n⟩ ⟨hi,ht,h1,h2⟩
 simp only at hi ht h1 h2
 have htk:Vl.szL (v.fs.take i)+Vl.szL (v.fs.drop i)=Vl.szL v.fs:=by
  rw[Vl.szL_eq,Vl.szL_eq,Vl.szL_eq, <- List.sum_append, <- List.map_append,List.take_append_drop]
 by_cases hlt:i<v.fs.length
 ·obtain⟨x,hx⟩:=get?_of hlt
  rw[jS hx,gR] at ht
  rw[jS hx,Vl.szL] at htk
  by_cases hle:n<=m
  ·rw[if_pos hle] at ht
   have hsx:=xa x (m - n)
   have hr:=ih x (m - n) (by omega) (by omega) (by omega) (by omega)
   repeat'(first|apply nx|refine zx ?_|rw[zw]|refine zk ?_|refine zp ?_|(apply zA;exact zb)|((first|refine zR hE fun hg=>?_|refine zF hE fun hanc hg=>?_|(apply zM;exact zu;exact hr;exact zs;exact zl;intro hg)|refine zg (fun hg=>?_) fun hg=>?_)<;>simp only[go_sem,ja hlt,hx,Vl.av_cs,Vl.cs,hle,hg])|(refine zc (fun hc=>?_) (fun hc=>?_)<;>try exact zh hc)|(refine je ?_;refine zt hQ ?_))
   refine⟨(i+1,n+yw x (m - n)),⟨by simp only;omega,by simp only;exact ht,by simp only;omega,?_⟩,by simp only;omega,fun i=>i,by refine jc (by simp[go_sem,Vl.cs]) (by simp[go_sem,Vl.cs]) (by simp) (by simp[hN])⟩
   simp only
   rw[List.take_add_one,hx]
   have e:Vl.szL (v.fs.take i++(some x).toList)=Vl.szL (v.fs.take i)+x.sz:=by
    rw[Vl.szL_eq,Vl.szL_eq];simp
   rw[e]
   omega
  ·rw[if_neg hle] at ht
   repeat'(first|apply nx|refine zx ?_|rw[zw]|refine zk ?_|refine zp ?_|(apply zA;exact zb)|((first|refine zR hE fun hg=>?_|refine zF hE fun hanc hg=>?_|refine zg (fun hg=>?_) fun hg=>?_)<;>simp only[go_sem,ja hlt,hle,Vl.cs,hg])|(refine zc (fun hc=>?_) (fun hc=>?_)<;>try exact zh hc)|(refine je ?_;refine zt hQ ?_))
   simp[AV.snap,ht]
 ·obtain rfl:i=v.fs.length:=by omega
  rw[List.drop_length,gR] at ht
  repeat'(first|apply nx|refine zx ?_|rw[zw]|refine zk ?_|refine zp ?_|(apply zA;exact zb)|((first|refine zR hE fun hg=>?_|refine zF hE fun hanc hg=>?_|refine zg (fun hg=>?_) fun hg=>?_)<;>simp only[go_sem,jE,Vl.cs,hg])|(refine zc (fun hc=>?_) (fun hc=>?_)<;>try exact zh hc)|(refine je ?_;refine zt hQ ?_))
  simp[AV.snap,ht]
theorem jdN (v:Vl) (h:v.sz<2 ^ 40):PCall Tryd.prog 37 [.agg v.cs,.i 60] (.i (yw v 60)):=jbn (2 ^ 40) v 60 h (Nat.le_refl _) (by omega) (by omega)
def xP (h:Hp) (v:Vl):Prop:=h.cells.length<=60/\h.arenas.length<=30/\yw v 60<=60/\∀ c,c∈h.cells->yw c.v 60<=60
theorem jcA (h:Hp) (v:Vl) (hv:v.sz<2 ^ 40) (hz:∀ c,c∈h.cells->c.v.sz<2 ^ 40) (hl:h.cells.length<=2 ^ 20):PCall Tryd.prog 14 [h.av,v.av] (.bool (decide (xP h v))):=by
 have h60:=jdN v hv
 rw[Hp.av_eq,Vl.av_eq]
 unfold Vl.cs at h60
 by_cases h1:h.cells.length<=60
 case neg=>
  have q1:decide ((60:Int)<(h.cells.length:Int))=true:=by simp;omega
  have hn:¬ xP h v:=fun hf=>h1 hf.1
  refine pI Tryd.func14 X0 fun E Q hE hN hQ=>?_
  repeat'(first|apply nx|refine zx ?_|rw[zw]|refine zk ?_|refine zp ?_|(apply zA;exact zb)|((first|refine zR hE fun hg=>?_|refine zF hE fun hanc hg=>?_|refine zg (fun hg=>?_) fun hg=>?_)<;>simp only[go_sem,q1,hg])|(refine zc (fun hc=>?_) (fun hc=>?_)<;>try exact zh hc)|(refine je ?_;refine zt hQ ?_))
  simp[AV.snap,hn]
 have q1:decide ((60:Int)<(h.cells.length:Int))=false:=by simp;omega
 by_cases h2:h.arenas.length<=30
 case neg=>
  have q2:decide ((30:Int)<(h.arenas.length:Int))=true:=by simp;omega
  have hn:¬ xP h v:=fun hf=>h2 hf.2.1
  refine pI Tryd.func14 X0 fun E Q hE hN hQ=>?_
  repeat'(first|apply nx|refine zx ?_|rw[zw]|refine zk ?_|refine zp ?_|(apply zA;exact zb)|((first|refine zR hE fun hg=>?_|refine zF hE fun hanc hg=>?_|refine zg (fun hg=>?_) fun hg=>?_)<;>simp only[go_sem,q1,q2,hg])|(refine zc (fun hc=>?_) (fun hc=>?_)<;>try exact zh hc)|(refine je ?_;refine zt hQ ?_))
  simp[AV.snap,hn]
 have q2:decide ((30:Int)<(h.arenas.length:Int))=false:=by simp;omega
 by_cases h3:yw v 60<=60
 case neg=>
  have q3:decide (60<yw v 60)=true:=by simp;omega
  have hn:¬ xP h v:=fun hf=>h3 hf.2.2.1
  refine pI Tryd.func14 X0 fun E Q hE hN hQ=>?_
  repeat'(first|apply nx|refine zx ?_|rw[zw]|refine zk ?_|refine zp ?_|(apply zA;exact zb)|((first|refine zR hE fun hg=>?_|refine zF hE fun hanc hg=>?_|(apply zM;exact zu;exact h60;exact zs;exact zl;intro hg)|refine zg (fun hg=>?_) fun hg=>?_)<;>simp only[go_sem,q1,q2,q3,hg])|(refine zc (fun hc=>?_) (fun hc=>?_)<;>try exact zh hc)|(refine je ?_;refine zt hQ ?_))
  all_goals simp[AV.snap,hn]
 have q3:decide (60<yw v 60)=false:=by simp;omega
 refine pI Tryd.func14 X0 fun E Q hE hN hQ=>?_
 repeat'(first|apply nx|refine zx ?_|rw[zw]|refine zk ?_|refine zp ?_|(apply zA;exact zb)|((first|refine zR hE fun hg=>?_|refine zF hE fun hanc hg=>?_|(apply zM;exact zu;exact h60;exact zs;exact zl;intro hg)|refine zg (fun hg=>?_) fun hg=>?_)<;>simp only[go_sem,q1,q2,q3,hg])|(refine zc (fun hc=>?_) (fun hc=>?_)<;>try exact zh hc)|(refine je ?_;refine zt hQ ?_))
 refine jB (X:=Nat) (fun i=>i<=h.cells.length/\∀ c,c∈h.cells.take i->yw c.v 60<=60) (fun i=>jx [(2,.ptr 0 0),(5,AV.i i)] [(0,.cells [.sl (cl h.cells),.sl (bl h.arenas)])] 2) (fun i=>h.cells.length - i) 0 ⟨Nat.zero_le _,by simp⟩ (fun i=>i) (by refine jc (by simp[go_sem]) (by simp[go_sem]) (by simp) (by simp[hN])) ?_
 rintro i ⟨hi,ht⟩
 by_cases hlt:i<h.cells.length
 ·obtain⟨x,hx⟩:=get?_of hlt
  have hc0:=jdN x.v (hz x (List.mem_of_getElem? hx))
  unfold Vl.cs at hc0
  by_cases hs:yw x.v 60<=60
  ·have q4:decide (60<yw x.v 60)=false:=by simp;omega
   repeat'(first|apply nx|refine zx ?_|rw[zw]|refine zk ?_|refine zp ?_|(apply zA;exact zb)|((first|refine zR hE fun hg=>?_|refine zF hE fun hanc hg=>?_|(apply zM;exact zu;exact hc0;exact zs;exact zl;intro hg)|refine zg (fun hg=>?_) fun hg=>?_)<;>simp only[go_sem,ja hlt,hx,Cl.av,Cl.cs_eq,q4,hg])|(refine zc (fun hc=>?_) (fun hc=>?_)<;>try exact zh hc)|(refine je ?_;refine zt hQ ?_))
   refine⟨i+1,⟨by omega,?_⟩,by omega,fun i=>i,by refine jc (by simp[go_sem]) (by simp[go_sem]) (by simp) (by simp[hN])⟩
   rw[List.take_add_one,hx]
   intro c hc
   rcases List.mem_append.1 hc with hc|hc
   ·exact ht c hc
   ·simp at hc;subst hc;exact hs
  ·have q4:decide (60<yw x.v 60)=true:=by simp;omega
   have hn:¬ xP h v:=fun hf=>hs (hf.2.2.2 x (List.mem_of_getElem? hx))
   repeat'(first|apply nx|refine zx ?_|rw[zw]|refine zk ?_|refine zp ?_|(apply zA;exact zb)|((first|refine zR hE fun hg=>?_|refine zF hE fun hanc hg=>?_|(apply zM;exact zu;exact hc0;exact zs;exact zl;intro hg)|refine zg (fun hg=>?_) fun hg=>?_)<;>simp only[go_sem,ja hlt,hx,Cl.av,Cl.cs_eq,q4,hg])|(refine zc (fun hc=>?_) (fun hc=>?_)<;>try exact zh hc)|(refine je ?_;refine zt hQ ?_))
   simp[AV.snap,hn]
 ·obtain rfl:i=h.cells.length:=by omega
  rw[List.take_length] at ht
  have hn:xP h v:=⟨h1,h2,h3,ht⟩
  repeat'(first|apply nx|refine zx ?_|rw[zw]|refine zk ?_|refine zp ?_|(apply zA;exact zb)|((first|refine zR hE fun hg=>?_|refine zF hE fun hanc hg=>?_|refine zg (fun hg=>?_) fun hg=>?_)<;>simp only[go_sem,jE,hg])|(refine zc (fun hc=>?_) (fun hc=>?_)<;>try exact zh hc)|(refine je ?_;refine zt hQ ?_))
  simp[AV.snap,hn]

def YO (A B:List AV) (D:Nat->Bool) (O:St):Prop:=
 O.nx=2097152/\O.fr 1=some (.ptr 0 0)/\O.fr 2=some (.ptr 1048576 0)/\O.hp 0=some (.cells [.sl A,.sl B])/\(D 9=false->O.hp 1048576=some (.cells [.nilsl,.nilsl]))/\
 (D 0=true->O.fr 3=some (.rw 2097152))/\(D 1=true->O.fr 4=some (.ptr 0 0))/\(D 2=true->O.fr 5=some (.sl A))/\(D 3=true->O.fr 6=some (.rw 5242880))/\(D 4=true->O.fr 7=some (.rw 6291456))/\
 (D 5=true->O.fr 8=some (.ptr 0 1))/\(D 6=true->O.fr 9=some (.sl B))/\(D 7=true->O.fr 10=some (.rw 9437184))/\(D 8=true->O.fr 11=some (.agg [.rw 5242880,.rw 9437184]))/\
 (D 0=true->D 3=false->O.hp 2097152=some (.row 10 []))/\(D 3=true->O.hp 5242880=some (.row 10 A))/\(D 4=true->D 7=false->O.hp 6291456=some (.row 1 []))/\(D 7=true->O.hp 9437184=some (.row 1 B))/\
 (D 9=true->O.hp 1048576=some (.cells [.rw 5242880,.rw 9437184]))
theorem jeC (h:Hp) (hl:h.cells.length<=2 ^ 20) (ha:h.arenas.length<=2 ^ 20):ACall Tryd.prog 16 [h.av] (fun _=>none) 0 0 (fun r hp'=>r= .agg [.rw 0,.rw 1]/\hp'=jp [(0,.row 10 (cl h.cells)),(1,.row 1 (bl h.arenas))]) (fun _ _=>False):=by
 have hsz:=jap h.cells
 have hsz2:=jao h.arenas
 rw[Hp.av_eq]
 refine ACall.of_bodyR Tryd.func16 jk2 rfl (by simp[Tryd.f16]) fun E Q hE hN hQ hQp=>jg ?_
 repeat'(first|apply nx|refine zx ?_|rw[zw]|refine zk ?_|refine zp ?_|(apply zA;exact zb)|((first|refine zR hE @fun K Kp hK hKp hg=>?_|refine zT hE @fun K Kp hK hKp anc hanc hg=>?_|refine zF hE @fun K Kp hK hKp anc hanc hg=>?_|refine zg (fun hg=>?_) fun hg=>?_)<;>simp only[go_sem,hg])|(refine zc (fun hc=>?_) (fun hc=>?_)<;>try exact zh hc))
 refine uZ (n:=10) (YO (cl h.cells) (bl h.arenas)) mixed hE ?_ ?_ (fun Kp hKp=>?_) ?_ rfl
 ·intro D D' O h
  have:=fun j=>(h j).symm
  unfold YO
  simp only[this]
  exact fun h=>h
 ·simp[YO,go_sem]
 ·refine⟨?_,?_,?_,?_,?_,?_,?_,?_,?_,?_,trivial⟩
  all_goals rintro D ⟨fr,hp,nx⟩ hD hr ⟨hn,f1,f2,h0,h1,d0,d1,d2,d3,d4,d5,d6,d7,d8,e0,e3,e4,e7,e9⟩
  all_goals simp[Region.binds] at hn f1 f2 h0 h1 d0 d1 d2 d3 d4 d5 d6 d7 d8 e0 e3 e4 e7 e9 hD hr
  all_goals subst hn
  all_goals try clear hQ hQp
  ·simp only[go_sem]
   (simp only[YO,upd,jb];simp[f1,f2,h0];simp_all)
  ·simp only[go_sem,f1]
   (simp only[YO,upd,jb];simp[f1,f2,h0];simp_all)
  ·simp only[go_sem,d1 hr,h0]
   (simp only[YO,upd,jb];simp[f1,f2,h0];simp_all)
  ·simp only[go_sem,d0 hr.1,d2 hr.2,e0 hr.1 hD]
   refine⟨⟨hsz,(by simp only[Fits];omega)⟩,?_⟩
   (simp only[YO,upd,jb];simp[f1,f2,h0];simp_all)
  ·simp only[go_sem]
   (simp only[YO,upd,jb];simp[f1,f2,h0];simp_all)
  ·simp only[go_sem,f1]
   (simp only[YO,upd,jb];simp[f1,f2,h0];simp_all)
  ·simp only[go_sem,d5 hr,h0]
   (simp only[YO,upd,jb];simp[f1,f2,h0];simp_all)
  ·simp only[go_sem,d4 hr.1,d6 hr.2.1,e4 hr.1 hD]
   refine⟨⟨hsz2,(by simp only[Fits];omega)⟩,?_⟩
   (simp only[YO,upd,jb];simp[f1,f2,h0];simp_all)
  ·simp only[go_sem,d3 hr.1,d7 hr.2]
   (simp only[YO,upd,jb];simp[f1,f2,h0];simp_all)
  ·simp only[go_sem,f2,d8 hr.1,h1 hD]
   (simp only[YO,upd,jb];simp[f1,f2,h0];simp_all)
 ·rintro⟨fr,hp,nx⟩ D hD ⟨hn,f1,f2,h0,h1,d0,d1,d2,d3,d4,d5,d6,d7,d8,e0,e3,e4,e7,e9⟩
  simp only at hn f1 f2 h0 h1 d0 d1 d2 d3 d4 d5 d6 d7 d8 e0 e3 e4 e7 e9
  have g3:=e3 (hD 3)
  have g7:=e7 (hD 7)
  have g9:=e9 (hD 9)
  refine jk ?_
  refine je (hQ _ ⟨.agg [.rw 0,.rw 1],fun i=>if i=0 then 5242880 else 9437184,_,2,(by simp[Jy,rvA,Tryd.f16,go_sem,f2,g9];rfl),(by simp[AV.ids,AV.idsL]),?_,rfl,rfl⟩).1
  show Ent _ _ _ (jx [] [(0,.row 10 (cl h.cells)),(1,.row 1 (bl h.arenas))] 2)
  refine jc (by simp[go_sem]) (by simp[go_sem,g3,g7]) (by simp) (by simp[hN])

def hp0:Hp:=⟨[],[]⟩
theorem app_set {l:List AV} {n:Nat} (h:l.length=n) (z x:AV):(l++[z]).set n x=l++[x]:=by subst h;simp



end Go.Proofs.YtfpcjabbcpgbjaaDoor

set_option maxHeartbeats 4000000
set_option maxRecDepth 100000
namespace Go.Proofs.YtfpcjabbcpgbjaaDoor
open Go.Am Go.Proofs Go.Hv
open Classical
attribute [local irreducible] AW jA CallB CallY
theorem UK (h:Hp):ACall Tryd.prog 43 [h.av] (fun _=>none) 0 0 (fun r hp'=>r= .fn (.func 68) [] [.ptr 0 0]/\hp'=jp [(0,.cells h.cs)]) (fun _ _=>False):=by
 rw[Hp.av_eq]
 refine ACall.of_bodyR Tryd.func43 jlh rfl (by simp[Tryd.f43]) fun E Q hE hN hQ hQp=>jg ?_
 repeat'(first|apply nx|refine zx ?_|rw[zw]|refine zk ?_|refine zp ?_|(apply zA;exact zb)|((first|refine zR hE @fun K Kp hK hKp hg=>?_|refine zT hE @fun K Kp hK hKp anc hanc hg=>?_|refine zF hE @fun K Kp hK hKp anc hanc hg=>?_|refine zg (fun hg=>?_) fun hg=>?_)<;>simp only[go_sem,hg])|(refine zc (fun hc=>?_) (fun hc=>?_)<;>try exact zh hc))
 refine je (hQ _ ⟨.fn (.func 68) [] [.ptr 0 0],fun i=>i,_,1,Ju (by simp only[go_sem,Hp.cs]),(by simp[AV.ids,AV.idsL]),?_,rfl,rfl⟩).1
 show Ent _ _ _ (jx [] [(0,.cells h.cs)] 1)
 refine jc (by simp[go_sem,Hp.cs]) (by simp[go_sem,Hp.cs]) (by simp) (by simp[hN])
theorem jc3 (h : Hp) (hl : h.cells.length <= 2 ^ 20) (l : Nat) {S : Type} (objs : S -> Nat -> Option AObj) (np b : Nat) (hb : b < np) (hn1 : np <= 1000000) (hbo : ∀ s, objs s b = some (.cells h.cs))
    (hob:∀ s id o,objs s id=some o->id<1000000/\o.ids (· <1000000)) (hnp:∀ s id,id<np->objs s id≠none) (Inv:Nat->S->Prop) (IP:AV->S->Prop) (hIP:∀ x s,IP x s->x.clo=true)
    (hround:∀ i c s,Inv i s->h.cells[i]? =some c->c.live=true->YCall Tryd.prog l [.i i,.agg c.cs] (objs s) 1000000 np (fun r hp'=>r= .bool true/\∃ s',Inv (i+1) s'/\hp'=objs s') (fun x hp'=>∃ s',IP x s'/\hp'=objs s'))
    (hdead:∀ i c s,Inv i s->h.cells[i]? =some c->c.live=false->Inv (i+1) s) (s:S) (h0:Inv 0 s):
    ACall Tryd.prog 68 [.fn (.yield l) [] [],.ptr b 0] (objs s) 1000000 np (fun r hp'=>r= .tup []/\∃ s',Inv h.cells.length s'/\hp'=objs s') (fun x hp'=>∃ s',IP x s'/\hp'=objs s'):=by
  have hb2:b<1000000:=by omega
  refine ACall.of_bodyR Tryd.func68 jlq rfl (by simp[Tryd.f68]) fun E Q hE hN hQ hQp=>jg ?_
  have hbs:=hbo s
  unfold Hp.cs at hbs
  repeat'(first|apply nx|refine zx ?_|rw[zw]|refine zk ?_|refine zp ?_|(apply zA;exact zb)|((first|refine zR hE @fun K Kp hK hKp hg=>?_|refine zT hE @fun K Kp hK hKp anc hanc hg=>?_|refine zF hE @fun K Kp hK hKp anc hanc hg=>?_|refine zg (fun hg=>?_) fun hg=>?_)<;>simp only[go_sem,hbs,hg])|(refine zc (fun hc=>?_) (fun hc=>?_)<;>try exact zh hc))
  refine jB (X:=Nat×S) (fun x=>x.1<=h.cells.length/\Inv x.1 x.2) (fun x=>⟨jL [(0,.fn (.yield l) [] []),(1,.ptr b 0),(6,.sl (cl h.cells)),(7,.i h.cells.length),(8,.i x.1)],objs x.2,1000000⟩) (fun x=>h.cells.length - x.1) (0,s) ⟨Nat.zero_le _,h0⟩ (fun i=>i) ?_ ?_
  · exact j6 (by simp[go_sem,hb2]) (fun id o ho=>⟨ho,hob s id o ho⟩) (by rw[hN];exact hn1)
  rintro⟨i,s⟩ ⟨hi,hinv⟩
  simp only at hi hinv
  by_cases hlt:i<h.cells.length
  · obtain⟨c,hcc⟩:=get?_of hlt
    cases hv:c.live
    · repeat'(first|apply nx|refine zx ?_|rw[zw]|refine zk ?_|refine zp ?_|(apply zA;exact zb)|((first|refine zR hE @fun K Kp hK hKp hg=>?_|refine zT hE @fun K Kp hK hKp anc hanc hg=>?_|refine zF hE @fun K Kp hK hKp anc hanc hg=>?_|refine zg (fun hg=>?_) fun hg=>?_)<;>simp only[go_sem,ja hlt,hcc,Cl.av,Cl.cs_eq,hv,hg])|(refine zc (fun hc=>?_) (fun hc=>?_)<;>try exact zh hc))
      refine⟨(i+1,s),⟨by simp only;omega,hdead i c s hinv hcc hv⟩,by simp only;omega,fun i=>i,j6 (by simp[go_sem,hb2]) (fun id o ho=>⟨?_,hob s id o ho⟩) (by rw[hN];exact hn1)⟩
      have:=(hob s id o ho).1
      simp only[jb]
      rw[if_neg (by omega)]
      first|exact ho|(rw[if_neg (by omega)];exact ho)
    · repeat'(first|apply nx|refine zx ?_|rw[zw]|refine zk ?_|refine zp ?_|(apply zA;exact zb)|((first|refine zR hE @fun K Kp hK hKp hg=>?_|refine zT hE @fun K Kp hK hKp anc hanc hg=>?_|refine zF hE @fun K Kp hK hKp anc hanc hg=>?_|refine zg (fun hg=>?_) fun hg=>?_)<;>simp only[go_sem,ja hlt,hcc,Cl.av,Cl.cs_eq,hv,hg])|(refine zc (fun hc=>?_) (fun hc=>?_)<;>try exact zh hc))
      have hc1:=hround i c s hinv hcc hv
      rw[Cl.cs_eq,hv] at hc1
      refine Hold.mk (CallY.use hc1 (fun i=>i) (by rw[jv]) (by simp[AV.ids,AV.idsL,go_sem]) (fun id o ho=>?_) (fun id id' o o' _ _ e=>e) (fun id hid=>⟨by omega,hnp s id hid⟩) ?_ ?_ ?_ ?_)
      · rw[jw]
        have:=hob s id o ho
        refine⟨?_,this⟩
        simp only[jb]
        rw[if_neg (by omega)]
        first|exact ho|(rw[if_neg (by omega)];exact ho)
      · rintro r hp' ⟨rfl,s',hi',rfl⟩
        refine⟨trivial,fun id o ho=>⟨by have:=(hob s' id o ho).1;omega,?_⟩⟩
        exact jf _ (fun j hj=>by omega) (hob s' id o ho).2
      · rintro x hp' ⟨s',hx,rfl⟩
        refine⟨j5 (hIP x s' hx),fun id o ho=>⟨by have:=(hob s' id o ho).1;omega,?_⟩⟩
        exact jf _ (fun j hj=>by omega) (hob s' id o ho).2
      · rintro r hp' fr' hpn ⟨rfl,s',hi',rfl⟩ hfr hobj _
        simp only[St.put,AV.ren,Jg] at hfr
        clear hQ hQp
        subst hfr
        simp only[go_sem]
        refine hK.h _ ?_
        repeat'(first|apply nx|refine zx ?_|rw[zw]|refine zk ?_|refine zp ?_|(apply zA;exact zb)|((first|refine zR hE @fun K Kp hK hKp hg=>?_|refine zT hE @fun K Kp hK hKp anc hanc hg=>?_|refine zF hE @fun K Kp hK hKp anc hanc hg=>?_|refine zg (fun hg=>?_) fun hg=>?_)<;>simp only[go_sem,hg])|(refine zc (fun hc=>?_) (fun hc=>?_)<;>try exact zh hc))
        have hbb:jn (fun i=>i) np (8340032+1048576*6) b=b:=jz hb
        refine⟨(i+1,s'),⟨by simp only;omega,hi'⟩,by simp only;omega,_,Jl (m:=jn (fun i=>i) np (8340032+1048576*6)) (by simp[go_sem,hb2,hbb]) (fun id o ho=>⟨hobj id o ho,hob s' id o ho⟩) (fun id id' o o' _ _ e=>jQ (by omega) e) (fun id hid=>?_)⟩
        rw[hN] at hid
        exact⟨jz hid,by omega⟩
      · rintro x hp' hpn ⟨s',hx,rfl⟩ hobj _
        refine hKp.h _ _ (hQp _ _ ⟨x,_,_,1000000,rfl,j5 (hIP x s' hx),?_,s',hx,rfl⟩)
        refine Jl (fr:=[]) (by simp) (fun id o ho=>⟨hobj id o ho,hob s' id o ho⟩) (fun id id' o o' _ _ e=>jQ (by omega) e) (fun id hid=>⟨jz hid,by omega⟩)
  · obtain rfl:i=h.cells.length:=by omega
    repeat'(first|apply nx|refine zx ?_|rw[zw]|refine zk ?_|refine zp ?_|(apply zA;exact zb)|((first|refine zR hE @fun K Kp hK hKp hg=>?_|refine zT hE @fun K Kp hK hKp anc hanc hg=>?_|refine zF hE @fun K Kp hK hKp anc hanc hg=>?_|refine zg (fun hg=>?_) fun hg=>?_)<;>simp only[go_sem,jE,hg])|(refine zc (fun hc=>?_) (fun hc=>?_)<;>try exact zh hc))
    refine jl ?_
    refine(hQ _ ⟨.tup [],fun i=>i,objs s,1000000,rfl,trivial,?_,rfl,s,hinv,rfl⟩).2
    exact j6 (fr:=[]) (by simp) (fun id o ho=>⟨ho,hob s id o ho⟩) hn1

theorem UT {p:Nat->Prop} {m m':Nat->Nat} (h:∀ i,p i->m i=m' i) {o:AObj} (ho:o.ids p):o.ren m=o.ren m':=by
 cases o with
 |cells l=>simp only[AObj.ren,Jd h (l:=l) ho]
 |row sz l=>simp only[AObj.ren,Jd h (l:=l) ho]
 |map es=>simp only[AObj.ren];congr 1;exact List.map_congr_left fun z hz=>by rw[yW h (ho z hz).1,yW h (ho z hz).2]
 |lp q l=>simp only[AObj.ren,Jd h (l:=l) ho]
def qw (E':En) (q:Lp) (N:Nat) (vals vs:List AV) (Q':AEx->St->Prop) (hp:Nat->Option AObj):Prop:=
 AW Tryd.prog E' q.assign (fun e O'=>match e with| .norm=>∃ fr',O'.hp N=some (.lp q fr')/\AW Tryd.prog E' q.body Q' ⟨O'.fr,jb O'.hp N (some (.lp { q with st:= .busy } fr')),O'.nx⟩|_=>False) ⟨gn q vals vs,jb hp N (some (.lp q vals)),1000000⟩
theorem XA {E : En} {Q : AEx -> St -> Prop} {g : Nat} {ps : Array Tmp} {assign body : Code} (hM : E.rd = none /\ E.mks = true /\ E.ex = true) {S : Type} (h : Hp) (hl : h.cells.length <= 2 ^ 20) (objs : S -> Nat -> Option AObj) (N B : Nat) (hB : B < N) (hN : N <= 900000) (hEN : E.np <= N)
    (hbo:∀ s,objs s B=some (.cells h.cs)) (hob:∀ s id o,objs s id=some o->(id<1000000/\id≠N)/\o.ids (fun j=>j<1000000/\j≠N)) (hnp:∀ s id,id<N->objs s id≠none)
    (fr:List (Nat×AV)) (hfr:∀ p,p∈fr->p.2.ids (· <N)) (hfr0:∀ p,p∈fr->jL fr p.1=some p.2) (hg:jL fr g=some (.fn (.func 68) [] [.ptr B 0])) (ts:List Nat) (vals:List AV) (hts:∀ i,i<vals.length->jL fr (ts.getD i 0)=some (vals.getD i default)) (hvals:AV.idsL (· <N) vals)
    (hps:ps.size=2) (hps2:∀ p,p∈ps.toList->p<E.nt) (Inv:Nat->S->Prop) (IP:AV->S->Prop) (hIP:∀ x s,IP x s->x.clo=true)
    (hround:∀ l fnn i c s E' Q',Inv i s->h.cells[i]? =some c->c.live=true->E'.nt=E.nt->E'.np=N+1->
      (∀ O s' m,Inv (i+1) s'->Ent (N+1) m O ⟨jL [],jb (objs s') N (some (.lp ⟨l,fnn,ps,assign,body,E.nt,ts,.busy,none⟩ vals)),1000000⟩->Q' .norm O)->
      (∀ x O s' m,IP x s'->Ent (N+1) m O ⟨jL [],jb (objs s') N (some (.lp ⟨l,fnn,ps,assign,body,E.nt,ts,.busy,none⟩ vals)),1000000⟩->Q' (.pan x) O)->
      qw E' ⟨l,fnn,ps,assign,body,E.nt,ts,.ready,none⟩ N vals [.i i,.agg c.cs] Q' (objs s))
    (hdead:∀ i c s,Inv i s->h.cells[i]? =some c->c.live=false->Inv (i+1) s) (s0:S) (h0:Inv 0 s0)
    (hfin:∀ O s' m,Inv h.cells.length s'->Ent E.np m O ⟨jL fr,objs s',1000000⟩->Q .norm O)
    (hpan:∀ x O s' m,IP x s'->Ent E.np m O ⟨jL [],objs s',1000000⟩->Q (.pan x) O):
    AW Tryd.prog E (.rangeFunc (.tmp g) ps assign body) Q ⟨jL fr,objs s0,1000000⟩:=by
  refine uW hM (gf:=68) (first:=[]) (cap:=[.ptr B 0]) hg ts vals hts fun l fnn hfnn=>?_
  have hvr:∀ m:Nat->Nat,(∀ j,j<N->m j=j)->AV.renL m vals=vals:=fun m hm=>by
    have:=Jd (m:=m) (m':=fun i=>i) hm hvals
    rw[this,jv]
  generalize hq:(⟨l,fnn,ps,assign,body,E.nt,ts,.ready,none⟩:Lp)=q at*
  let qb:Bool->Lp:=fun b=> { q with st:=if b then .busy else .ready }
  have hq0:qb false=q:=by subst hq;rfl
  let objs':S×Bool->Nat->Option AObj:=fun p=>jb (objs p.1) N (some (.lp (qb p.2) vals))
  have hat:∀ p,objs' p N=some (.lp (qb p.2) vals):=fun p=>by simp[objs',jb]
  have hoth:∀ p id,id≠N->objs' p id=objs p.1 id:=fun p id hid=>by simp[objs',jb,hid]
  have hvid:AV.idsL (· <1000000) vals:=Ja (fun i hi=>by omega) hvals
  have hob':∀ p id o,objs' p id=some o->id<1000000/\o.ids (· <1000000):=by
    intro p id o ho
    by_cases e:id=N
    · subst e;rw[hat] at ho;cases ho;exact⟨by omega,hvid⟩
    · rw[hoth p id e] at ho;have:=hob _ _ _ ho;exact⟨this.1.1,jf _ (fun j hj=>hj.1) this.2⟩
  have hrun:=jc3 h hl l objs' (N+1) B (by omega) (by omega) (fun p=>by rw[hoth p B (by omega)];exact hbo _) hob'
    (fun p id hid=>by
      by_cases e:id=N
      · subst e;rw[hat];simp
      · rw[hoth p id e];exact hnp _ _ (by omega))
    (fun i p=>Inv i p.1/\p.2=false) (fun x p=>IP x p.1/\p.2=true) (fun x p hx=>hIP x p.1 hx.1) ?_ (fun i c p hi hc hv=>⟨hdead i c p.1 hi.1 hc hv,hi.2⟩) (s0,false) ⟨h0,rfl⟩
  rotate_left
  · rintro i c ⟨s,b⟩ ⟨hinv,hb⟩ hcc hv
    simp only at hinv hb
    subst hb
    have hql:q.l=l:=by subst hq;rfl
    rw[<- hql]
    refine YCall.of_roundR (q:=q) (frv:=vals) N (by subst hq;exact hfnn) (by rw[hat,hq0]) (by omega) (by subst hq;rfl) (by subst hq;simp[hps]) (by subst hq;exact hps2) fun E' Q' k1 k2 k3 k4 k5=>?_
    have hg:=hround l fnn i c s E' Q' hinv hcc hv (by subst hq;exact k1) k2 ?_ ?_
    · rw[hq] at hg
      refine AW.mono (Q:=fun e O'=>match e with| .norm=>∃ fr',O'.hp N=some (.lp q fr')/\AW Tryd.prog E' q.body Q' ⟨O'.fr,jb O'.hp N (some (.lp { q with st:= .busy } fr')),O'.nx⟩|_=>False) ?_ ?_
      · have e:objs' (s,false)=jb (objs s) N (some (.lp q vals)):=by simp only[objs'];rw[hq0]
        rw[e]
        exact hg
      · intro e O hh
        cases e with
        |norm=>exact hh
        |_=>exact hh.elim
    · intro O s' m hi' he
      have hqb:(⟨l,fnn,ps,assign,body,E.nt,ts,.busy,none⟩:Lp)= { q with st:= .busy } :=by subst hq;rfl
      rw[hqb] at he
      obtain⟨_,e2,e3,e4⟩:=he
      have hmN:m N=N:=(e4 N (by omega)).1
      have hmv:AV.renL m vals=vals:=hvr m fun j hj=>(e4 j (by omega)).1
      have hN':jb (objs s') N (some (.lp { q with st:= .busy } vals)) N=some (.lp { q with st:= .busy } vals):=by simp[jb]
      have hON:=(e2 N _ hN').1
      rw[hmN] at hON
      simp only[AObj.ren,hmv] at hON
      refine k4 O vals hON ⟨m,objs' (s',false),1000000,⟨(fun t x hx=>by cases hx),?_,?_,?_⟩,rfl,(s',false),⟨hi',rfl⟩,rfl⟩
      · intro id o ho
        replace ho:objs' (s',false) id=some o:=ho
        refine⟨?_,hob' _ _ _ ho⟩
        show jb O.hp N (some (.lp { q with st:= .ready,pend:=none } vals)) (m id)=some (o.ren m)
        by_cases e:id=N
        · subst e
          rw[hat,hq0] at ho
          cases ho
          rw[hmN]
          simp only[jb,if_true,AObj.ren,hmv]
          subst hq;rfl
        · rw[hoth _ id e] at ho
          have hx:jb (objs s') N (some (.lp { q with st:= .busy } vals)) id=some o:=by simp only[jb,if_neg e];exact ho
          have hne:m id≠N:=fun hh=>e (e3 id N _ _ hx hN' (by rw[hh,hmN]))
          simp only[jb,if_neg hne]
          exact(e2 id o hx).1
      · intro id id' o o' h1 h2 hh
        have c1:∀ id o,objs' (s',false) id=some o->∃ o,jb (objs s') N (some (.lp { q with st:= .busy } vals)) id=some o:=by
          intro id o ho
          by_cases e:id=N
          · subst e;exact⟨_,hN'⟩
          · rw[hoth _ id e] at ho;exact⟨o,by simp only[jb,if_neg e];exact ho⟩
        replace h1:objs' (s',false) id=some o:=h1
        replace h2:objs' (s',false) id'=some o':=h2
        obtain⟨o1,g1⟩:=c1 id o h1
        obtain⟨o2,g2⟩:=c1 id' o' h2
        exact e3 id id' o1 o2 g1 g2 hh
      · exact fun id hid=>⟨(e4 id hid).1,by show id<1000000;omega⟩
    · intro x O s' m hx he
      have hqb:(⟨l,fnn,ps,assign,body,E.nt,ts,.busy,none⟩:Lp)= { q with st:= .busy } :=by subst hq;rfl
      rw[hqb] at he
      refine k5 x O ⟨x,m,_,1000000,(Jz (hIP x s' hx)).symm,j5 (hIP x s' hx),he,(s',true),⟨hx,rfl⟩,rfl⟩
  let m:Nat->Nat:=fun j=>if j=N then 1000000 else j
  have hmN:m N=1000000:=if_pos rfl
  have hmj:∀ j,j≠N->m j=j:=fun j hj=>if_neg hj
  have hmv:AV.renL m vals=vals:=hvr m fun j hj=>hmj j (by omega)
  have hM':∀ j,j<N+1->j≠N->jn m (N+1) (1000000+1+1048576*0) j=j:=fun j h1 h2=>by rw[jz h1,hmj j h2]
  have hent : ∀ (s' : S) (fr' : Nat -> Option AV) (hpn : Nat -> Option AObj) (n' : Nat) (fr2 : List (Nat × AV)), (∀ p, p ∈ fr2 -> p.2.ids (· < N)) -> (∀ p, p ∈ fr2 -> fr' p.1 = some p.2) ->
      (∀ j o,objs s' j=some o->hpn (jn m (N+1) (1000000+1+1048576*0) j)=some (o.ren (jn m (N+1) (1000000+1+1048576*0))))->Ent E.np (jn m (N+1) (1000000+1+1048576*0)) ⟨fr',jb hpn 1000000 none,n'⟩ ⟨jL fr2,objs s',1000000⟩:=by
    intro s' fr' hpn n' fr2 hid hfr' hob2
    have hlt:∀ id o,objs s' id=some o->jn m (N+1) (1000000+1+1048576*0) id≠1000000:=by
      intro id o ho
      have:=(hob _ _ _ ho).1
      by_cases e:id<N+1
      · rw[hM' id e this.2];omega
      · rw[Jq (by omega)];omega
    refine Jl (fun p hp=>⟨?_,Gf (fun i hi=>by omega) (hid p hp)⟩) (fun id o ho=>⟨?_,(hob _ _ _ ho).1.1,jf _ (fun j hj=>hj.1) (hob _ _ _ ho).2⟩) (fun id id' o o' h1 h2 hh=>?_) (fun id hid=>⟨hM' id (by omega) (by omega),by omega⟩)
    · rw[yW (m':=fun i=>i) (fun j hj=>hM' j (by omega) (by omega)) (hid p hp),JH]
      exact hfr' p hp
    · simp only[jb,if_neg (hlt id o ho)]
      exact hob2 id o ho
    · have g1:=(hob _ _ _ h1).1
      have g2:=(hob _ _ _ h2).1
      by_cases e1:id<N+1<;>by_cases e2:id'<N+1
      · rw[hM' id e1 g1.2,hM' id' e2 g2.2] at hh;exact hh
      · rw[hM' id e1 g1.2,Jq (by omega)] at hh;omega
      · rw[hM' id' e2 g2.2,Jq (by omega)] at hh;omega
      · rw[Jq (by omega),Jq (by omega)] at hh;omega
  show CallB Tryd.prog 68 [.fn (.yield l) [] [],.ptr B 0] ⟨jL fr,jb (objs s0) 1000000 (some (.lp _ vals)),1000000+1⟩ 0 none _ _
  refine CallB.use hrun m ?_ ?_ ?_ ?_ ?_ ?_ ?_ ?_ ?_
  · simp only[AV.renL,AV.ren,hmj B (by omega)]
  · simp only[AV.idsL,AV.ids];exact⟨⟨trivial,trivial⟩,by omega,trivial⟩
  · intro id o ho
    refine⟨?_,hob' _ _ _ ho⟩
    by_cases e:id=N
    · subst e
      rw[hat,hq0] at ho
      cases ho
      rw[hmN]
      simp only[jb,if_true,AObj.ren,hmv]
    · rw[hoth _ id e] at ho
      have g1:=hob _ _ _ ho
      rw[hmj id e,UT (m':=fun i=>i) (fun j hj=>hmj j hj.2) g1.2,jw]
      simp only[jb]
      rw[if_neg (by omega)]
      exact ho
  · intro id id' o o' h1 h2 hh
    have g1:=(hob' _ _ _ h1).1
    have g2:=(hob' _ _ _ h2).1
    by_cases e1:id=N<;>by_cases e2:id'=N
    · omega
    · rw[e1,hmN,hmj id' e2] at hh;omega
    · rw[e2,hmN,hmj id e1] at hh;omega
    · rw[hmj id e1,hmj id' e2] at hh;exact hh
  · intro id hid
    refine⟨by omega,?_⟩
    by_cases e:id=N
    · subst e;rw[hat];simp
    · rw[hoth _ id e];exact hnp _ _ (by omega)
  · rintro r hp' ⟨rfl,s',hi',rfl⟩
    exact⟨trivial,fun id o ho=>⟨by have:=(hob' _ _ _ ho).1;omega,jf _ (fun j hj=>by omega) (hob' _ _ _ ho).2⟩⟩
  · rintro r hp' ⟨s',hx,rfl⟩
    exact⟨j5 (hIP _ _ hx.1),fun id o ho=>⟨by have:=(hob' _ _ _ ho).1;omega,jf _ (fun j hj=>by omega) (hob' _ _ _ ho).2⟩⟩
  · rintro r hp' fr' hpn ⟨rfl,⟨s',b⟩,⟨hi',hb⟩,rfl⟩ hfr' hobj hold
    simp only at hi' hb
    subst hb
    have hN1:=hobj N _ (hat _)
    rw[jz (by omega),hmN] at hN1
    refine⟨.ready,none,AV.renL (jn m (N+1) (1000000+1+1048576*0)) vals,?_,by simp,?_⟩
    rotate_left
    · show Q .norm _
      refine hfin _ s' _ hi' (hent s' fr' hpn _ fr hfr (fun p hp=>?_) (fun j o ho=>hobj j o (by rw[hoth _ j (hob _ _ _ ho).1.2];exact ho)))
      rw[hfr']
      exact hfr0 p hp
    · show hpn 1000000=_
      rw[hN1]
      subst hq
      rfl
  · rintro x hp' hpn ⟨⟨s',b⟩,⟨hx,hb⟩,rfl⟩ hobj hold
    simp only at hx hb
    subst hb
    rw[Jz (hIP _ _ hx)]
    refine hpan x _ s' (jn m (N+1) (1000000+1+1048576*0)) hx ?_
    have:=hent s' (jL fr) hpn 0 [] (by simp) (by simp) (fun j o ho=>hobj j o (by rw[hoth _ j (hob _ _ _ ho).1.2];exact ho))
    refine⟨(fun t x hx=>by cases hx),fun id o ho=>⟨?_,(this.2.1 id o ho).2⟩,this.2.2.1,this.2.2.2⟩
    have g1:=(this.2.1 id o ho).1
    simp only[jb] at g1
    split at g1
    · cases g1
    · exact g1



def jW:AV:= .iface 132 (.agg [])
theorem Jt (b:Bool):A0 Tryd.prog 65 [.bool b] (fun r=>b=true/\r= .tup []) (fun x=>b=false/\x=jW):=by
 refine A0.intro Tryd.func65 rfl jf0 (by simp[Tryd.f65]) fun E Q hE hN hQ hQp=>jg ?_
 repeat'(first|apply nx|refine zx ?_|rw[zw]|refine zk ?_|refine zp ?_|(apply zA;exact zb)|((first|refine zR hE @fun K Kp hK hKp hg=>?_|refine zT hE @fun K Kp hK hKp anc hanc hg=>?_|refine zF hE @fun K Kp hK hKp anc hanc hg=>?_|refine zg (fun hg=>?_) fun hg=>?_)<;>simp only[go_sem,hg])|(refine zc (fun hc=>?_) (fun hc=>?_)<;>try exact zh hc))
 ·exact hQp _ _ ⟨by simpa using hc,rfl⟩ rfl
 ·refine jl ?_
  exact(hQ _ ⟨.tup [],rfl,⟨by simpa using hc,rfl⟩,rfl⟩).2
def mkE (l:List Nat):List (AV×AV):=l.map fun n:Nat=>(AV.i (n:Int),AV.bool true)
theorem X8 (l:List Nat) (n:Nat):mkE l++[(.i n,.bool true)]=mkE (l++[n]):=by simp[mkE]
theorem Gd (n:Nat):∀ l:List Nat,jY .i64 (n:Int) (mkE l)=some (if n∈l then some (.bool true) else none)
 | []=>by rw[mkE,List.map_nil,jY];simp
 |x::l=>by
  have ih:=Gd n l
  unfold mkE at ih ⊢
  rw[List.map_cons,AV.i,jY,if_pos rfl,ih]
  by_cases h:n=x
  ·subst h;simp
  ·have h2:¬ ((n:Int)=(x:Int)):=by omega
   rw[if_neg h2]
   simp[h]
abbrev Xw:AV:= .fn (.func 66) [] [.ptr 0 0,.ptr 1 0,.ptr 2 0,.ptr 3 0]
abbrev Ur:AV:= .fn (.func 64) [] [.ptr 0 0,.ptr 1 0,.ptr 2 0]
def JL (h:Hp) (o:Ow):Nat->Option AObj:=jp [(0,.cells [.mp 4,.mp 5,.rw 6]),(1,.cells [Xw]),(2,.cells h.cs),(3,.cells [Ur]),(4,.map (mkE o.cs)),(5,.map (mkE o.ags)),(6,.row 1 (il o.ids))]
theorem yG (h:Hp) (o:Ow):JL h o 0=some (.cells [.mp 4,.mp 5,.rw 6]):=rfl
theorem uy (h:Hp) (o:Ow):JL h o 1=some (.cells [Xw]):=rfl
theorem yr (h:Hp) (o:Ow):JL h o 2=some (.cells h.cs):=rfl
theorem x8 (h:Hp) (o:Ow):JL h o 3=some (.cells [Ur]):=rfl
theorem GG (h:Hp) (o:Ow):JL h o 4=some (.map (mkE o.cs)):=rfl
theorem gN (h:Hp) (o:Ow):JL h o 5=some (.map (mkE o.ags)):=rfl
theorem x9 (h:Hp) (o:Ow):JL h o 6=some (.row 1 (il o.ids)):=rfl
theorem jr {h:Hp} {o:Ow} {id:Nat} {ob:AObj} (ho:JL h o id=some ob):id<7/\ob.ids (· <7):=by
 simp only[JL,jp,jb] at ho
 repeat' split at ho
 all_goals first|(cases ho;done)|skip
 all_goals cases ho;subst_vars
 all_goals refine⟨by decide,?_⟩
 all_goals first|(simp[AObj.ids,AV.ids,AV.idsL,Hp.cs,go_sem];done)|(intro p hp;obtain⟨n,_,rfl⟩:=List.mem_map.1 hp;exact⟨trivial,trivial⟩)
theorem qh (h:Hp) (o:Ow) (id:Nat) (hid:id<7):JL h o id≠none:=by
 have:id=0\/id=1\/id=2\/id=3\/id=4\/id=5\/id=6:=by omega
 rcases this with rfl|rfl|rfl|rfl|rfl|rfl|rfl<;>simp[JL,jp,jb]
def Gz (h:Hp) (v:Vl) (r:Ow->Option Ow) (o:Ow):Prop:=
 ACall Tryd.prog 66 [.agg v.cs,.ptr 0 0,.ptr 1 0,.ptr 2 0,.ptr 3 0] (JL h o) 7 6 (fun x hp'=>x= .tup []/\∃ o',r o=some o'/\hp'=JL h o') (fun x hp'=>x=jW/\r o=none/\∃ o',hp'=JL h o')
def EntC (h:Hp) (n:Nat) (r:Ow->Option Ow) (o:Ow):Prop:=
 ACall Tryd.prog 64 [.i n,.ptr 0 0,.ptr 1 0,.ptr 2 0] (JL h o) 7 6 (fun x hp'=>x= .tup []/\∃ o',r o=some o'/\hp'=JL h o') (fun x hp'=>x=jW/\r o=none/\∃ o',hp'=JL h o')
theorem J2 {h:Hp} {o:Ow} {O:St} {np:Nat} (hnp:np<=7) (hs:∀ id ob,JL h o id=some ob->O.hp id=some ob):Ent np (fun i=>i) O ⟨fun _=>none,JL h o,7⟩:=
 j6 (fr:=[]) (by simp) (fun id ob ho=>⟨hs id ob ho,jr ho⟩) hnp
theorem XO (h:Hp) (k n:Nat) (o:Ow) (c:Cl) (hcc:h.cells[n]? =some c) (hv:n∉o.cs->Gz h c.v (jP h (jy h k) c.v) { o with cs:=o.cs++[n] }):EntC h n (fun o=>jy h (k+1) n o) o:=by
 refine ACall.of_bodyR Tryd.func64 jfZ rfl (by simp[Tryd.f64]) fun E Q hE hN hQ hQp=>jg ?_
 have hfe:=Gd n o.cs
 by_cases hn:n∈o.cs
 ·rw[if_pos hn] at hfe
  repeat'(first|apply nx|refine zx ?_|rw[zw]|refine zk ?_|refine zp ?_|(apply zA;exact zb)|((first|refine zR hE @fun K Kp hK hKp hg=>?_|refine zT hE @fun K Kp hK hKp anc hanc hg=>?_|refine zF hE @fun K Kp hK hKp anc hanc hg=>?_|refine zg (fun hg=>?_) fun hg=>?_)<;>simp only[go_sem,yG,GG,hfe,Yc,hg])|(refine zc (fun hc=>?_) (fun hc=>?_)<;>try exact zh hc))
  refine Hold.mk (CallB.of_A0 (Jt false) rfl (fun r hr=>absurd hr.1 (by decide)) (fun x hx=>?_))
  refine hKp.h _ _ (hQp _ _ ⟨x,fun i=>i,_,7,?_,?_,J2 (by decide) (fun id ob ho=>ho),hx.2,?_,o,rfl⟩)
  ·rw[JH]
  ·rw[hx.2];simp[jW,AV.ids,AV.idsL]
  ·simp only;rw[jy,if_pos hn]
 ·rw[if_neg hn] at hfe
  repeat'(first|apply nx|refine zx ?_|rw[zw]|refine zk ?_|refine zp ?_|(apply zA;exact zb)|((first|refine zR hE @fun K Kp hK hKp hg=>?_|refine zT hE @fun K Kp hK hKp anc hanc hg=>?_|refine zF hE @fun K Kp hK hKp anc hanc hg=>?_|refine zg (fun hg=>?_) fun hg=>?_)<;>simp only[go_sem,yG,GG,hfe,Yc,hg])|(refine zc (fun hc=>?_) (fun hc=>?_)<;>try exact zh hc))
  refine Hold.mk (CallB.of_A0 (Jt true) rfl (fun r hr=>?_) (fun x hx=>absurd hx.1 (by decide)))
  rw[hr.2]
  simp only[go_sem]
  refine hK.h _ ?_
  repeat'(first|apply nx|refine zx ?_|rw[zw]|refine zk ?_|refine zp ?_|(apply zA;exact zb)|((fail_if_success refine j3 2 ?_);(first|refine zR hE @fun K Kp hK hKp hg=>?_|refine zT hE @fun K Kp hK hKp anc hanc hg=>?_|refine zF hE @fun K Kp hK hKp anc hanc hg=>?_|refine zg (fun hg=>?_) fun hg=>?_)<;>simp only[go_sem,yG,GG,hfe,Ob,hg])|(refine zc (fun hc=>?_) (fun hc=>?_)<;>try exact zh hc))
  refine AW.ent (O':=⟨jL [(0,.i n),(1,.ptr 0 0),(2,.ptr 1 0),(3,.ptr 2 0)],JL h { o with cs:=o.cs++[n] },7⟩) (fun i=>i) (j6 (by simp[go_sem,AV.ids]) (fun id ob ho=>⟨?_,jr ho⟩) (by rw[hN];decide)) ?_
  ·by_cases e:id=4
   ·subst e
    rw[GG] at ho
    cases ho
    simp[jb,X8]
   ·simp only[jb,if_neg e]
    rw[<- ho]
    simp only[JL,jp,jb,if_neg e]
  ·repeat'(first|apply nx|refine zx ?_|rw[zw]|refine zk ?_|refine zp ?_|(apply zA;exact zb)|((first|refine zR hE @fun K Kp hK hKp hg=>?_|refine zT hE @fun K Kp hK hKp anc hanc hg=>?_|refine zF hE @fun K Kp hK hKp anc hanc hg=>?_|refine zg (fun hg=>?_) fun hg=>?_)<;>simp only[go_sem,uy,yr,Hp.cs,hcc,Cl.av,Cl.cs_eq,hg])|(refine zc (fun hc=>?_) (fun hc=>?_)<;>try exact zh hc))
   have hv1:=hv hn
   unfold Gz at hv1
   rw[show c.v.cs=[.i c.v.kind,.i c.v.id,.i c.v.var,.i c.v.n,.sl (Vl.avL c.v.fs),.bool c.v.excl,.sl (il c.v.path),.sl (il c.v.loans)] from rfl] at hv1
   refine Hold.mk (CallB.use hv1 (fun i=>i) (by rw[jv]) (by simp[AV.ids,AV.idsL,go_sem]) (fun id ob ho=>⟨by rw[jw];exact ho,jr ho⟩) (fun _ _ _ _ _ _ e=>e) (fun id hid=>⟨by omega,qh _ _ _ (by omega)⟩) ?_ ?_ ?_ ?_)
   ·rintro r hp' ⟨rfl,o',_,rfl⟩
    exact⟨trivial,fun id ob ho=>⟨by have:=(jr ho).1;omega,jf _ (fun j hj=>by omega) (jr ho).2⟩⟩
   ·rintro r hp' ⟨rfl,_,o',rfl⟩
    exact⟨by simp[jW,AV.ids,AV.idsL],fun id ob ho=>⟨by have:=(jr ho).1;omega,jf _ (fun j hj=>by omega) (jr ho).2⟩⟩
   ·rintro r hp' fr' hpn ⟨rfl,o',hr,rfl⟩ hfr hobj _
    simp only[go_sem]
    refine hK.h _ ?_
    clear hK hKp
    refine jl ?_
    refine(hQ _ ⟨.tup [],jn (fun i=>i) 6 (7+1048576*7),JL h o',7,rfl,trivial,?_,rfl,o',?_,rfl⟩).2
    ·exact Jl (fr:=[]) (by simp) (fun id ob ho=>⟨hobj id ob ho,jr ho⟩) (fun _ _ _ _ _ _ e=>jQ (by omega) e) (fun id hid=>⟨jz hid,by show id<7;omega⟩)
    ·simp only;rw[jy,if_neg hn,hcc];exact hr
   ·rintro x hp' hpn ⟨rfl,hr,o',rfl⟩ hobj _
    refine hKp.h _ _ (hQp _ _ ⟨jW,jn (fun i=>i) 6 (7+1048576*7),JL h o',7,rfl,by simp[jW,AV.ids,AV.idsL],?_,rfl,?_,o',rfl⟩)
    ·exact Jl (fr:=[]) (by simp) (fun id ob ho=>⟨hobj id ob ho,jr ho⟩) (fun _ _ _ _ _ _ e=>jQ (by omega) e) (fun id hid=>⟨jz hid,by show id<7;omega⟩)
    ·simp only;rw[jy,if_neg hn,hcc];exact hr

theorem Ji (m:Nat->Nat) (l:List Nat):(mkE l).map (fun p=>(p.1.ren m,p.2.ren m))=mkE l:=by
 unfold mkE
 rw[List.map_map]
 rfl
theorem jZ {p:Nat->Prop} {l:List Nat} {a b:AV} (h:(a,b)∈mkE l):a.ids p/\b.ids p:=by obtain⟨n,_,e⟩:=List.mem_map.1 h;cases e;exact⟨trivial,trivial⟩
theorem il_app (l:List Int) (x:Int):il l++[.i x]=il (l++[x]):=by simp[il]
theorem jbt (h:Hp) (en:Nat->Ow->Option Ow) (v:Vl) (o:Ow) (h2:v.kind≠2) (h3:v.kind≠3) (h5:v.kind≠5):Gz h v (jP h en v) o:=by
 have hr:jP h en v o=some o:=by
  cases v
  simp only[Vl.kind] at h2 h3 h5
  rw[jP,if_neg h2,if_neg h3,if_neg h5]
 unfold Gz
 rw[show v.cs=[.i v.kind,.i v.id,.i v.var,.i v.n,.sl (Vl.avL v.fs),.bool v.excl,.sl (il v.path),.sl (il v.loans)] from rfl]
 have q2:(v.kind==2)=false:=by simpa using h2
 have q3:(v.kind==3)=false:=by simpa using h3
 have q5:(v.kind==5)=false:=by simpa using h5
 refine ACall.of_bodyR Tryd.func66 YS rfl (by simp[Tryd.f66]) fun E Q hE hN hQ hQp=>jg ?_
 repeat'(first|apply nx|refine zx ?_|rw[zw]|refine zk ?_|refine zp ?_|(apply zA;exact zb)|((first|refine zR hE @fun K Kp hK hKp hg=>?_|refine zT hE @fun K Kp hK hKp anc hanc hg=>?_|refine zF hE @fun K Kp hK hKp anc hanc hg=>?_|refine zg (fun hg=>?_) fun hg=>?_)<;>simp only[go_sem,q2,q3,q5,hg])|(refine zc (fun hc=>?_) (fun hc=>?_)<;>try exact zh hc))
 refine jl ?_
 refine(hQ _ ⟨.tup [],fun i=>i,JL h o,7,rfl,trivial,J2 (by decide) (fun id ob ho=>?_),rfl,o,hr,rfl⟩).2
 have:=(jr ho).1
 simp only[jb]
 rw[if_neg (by omega)]
 exact ho
theorem jdW (h : Hp) (en : Nat -> Ow -> Option Ow) (v : Vl) (o : Ow) (hk : v.kind = 2) (hl : v.fs.length <= 2 ^ 30) (hid : o.ids.length <= 2 ^ 43) (P : Nat -> Ow -> Prop) (hP : P 0 { o with ids := o.ids ++ [v.id] })
    (hf:∀ i x o,v.fs[i]? =some x->P i o->Gz h x (jP h en x) o) (hs:∀ i x o o',v.fs[i]? =some x->P i o->jP h en x o=some o'->P (i+1) o'):Gz h v (jP h en v) o:=by
  have hr:jP h en v o=Jk h en v.fs { o with ids:=o.ids++[v.id] } :=by
    cases v
    simp only[Vl.kind] at hk
    rw[jP,if_pos hk];rfl
  unfold Gz
  rw[show v.cs=[.i v.kind,.i v.id,.i v.var,.i v.n,.sl (Vl.avL v.fs),.bool v.excl,.sl (il v.path),.sl (il v.loans)] from rfl]
  have q2:(v.kind==2)=true:=by simpa using hk
  refine ACall.of_bodyR Tryd.func66 YS rfl (by simp[Tryd.f66]) fun E Q hE hN hQ hQp=>jg ?_
  simp only[hr] at hQ hQp
  repeat'(first|apply nx|refine zx ?_|rw[zw]|refine zk ?_|refine zp ?_|(apply zA;exact zb)|((first|refine zR hE @fun K Kp hK hKp hg=>?_|refine zT hE @fun K Kp hK hKp anc hanc hg=>?_|refine zF hE @fun K Kp hK hKp anc hanc hg=>?_|refine zg (fun hg=>?_) fun hg=>?_)<;>simp only[go_sem,q2,yG,x9,hg])|(refine zc (fun hc=>?_) (fun hc=>?_)<;>try exact zh hc))
  refine jB (X:=Nat×Ow) (fun x=>x.1<=v.fs.length/\Jk h en v.fs { o with ids:=o.ids++[v.id] } =Jk h en (v.fs.drop x.1) x.2/\P x.1 x.2) (fun x=>⟨jL [(1,.ptr 0 0),(2,.ptr 1 0),(3,.ptr 2 0),(4,.ptr 3 0),(22,.sl (Vl.avL v.fs)),(23,.i v.fs.length),(24,.i x.1)],JL h x.2,7⟩) (fun x=>v.fs.length - x.1) (0,{ o with ids:=o.ids++[v.id] }) ⟨Nat.zero_le _,by simp,hP⟩ (fun i=>if i=6 then 10485767 else i) ?_ ?_
  · show Ent _ _ _ (jx [(1,.ptr 0 0),(2,.ptr 1 0),(3,.ptr 2 0),(4,.ptr 3 0),(22,.sl (Vl.avL v.fs)),(23,.i v.fs.length),(24,.i ((0:Nat):Int))] [(0,.cells [.mp 4,.mp 5,.rw 6]),(1,.cells [Xw]),(2,.cells h.cs),(3,.cells [Ur]),(4,.map (mkE o.cs)),(5,.map (mkE o.ags)),(6,.row 1 (il (o.ids++[v.id])))] 7)
    refine jc (by simp[go_sem,AV.ids]) (by simp[go_sem,AV.ids,AV.idsL,uy,yr,x8,GG,gN,Hp.cs,Ji,il_app];exact⟨fun _ _=>jZ,fun _ _=>jZ⟩) (by simp) (fun id hid=>?_)
    rw[hN] at hid
    exact⟨if_neg (by omega),by omega⟩
  rintro⟨i,o⟩ ⟨hi,ht,hPi⟩
  simp only at hi ht hPi
  by_cases hlt:i<v.fs.length
  · obtain⟨x,hx⟩:=get?_of hlt
    rw[jS hx,Jk] at ht
    have hv1:=hf i x o hx hPi
    unfold Gz at hv1
    rw[show x.cs=[.i x.kind,.i x.id,.i x.var,.i x.n,.sl (Vl.avL x.fs),.bool x.excl,.sl (il x.path),.sl (il x.loans)] from rfl] at hv1
    repeat'(first|apply nx|refine zx ?_|rw[zw]|refine zk ?_|refine zp ?_|(apply zA;exact zb)|((first|refine zR hE @fun K Kp hK hKp hg=>?_|refine zT hE @fun K Kp hK hKp anc hanc hg=>?_|refine zF hE @fun K Kp hK hKp anc hanc hg=>?_|refine zg (fun hg=>?_) fun hg=>?_)<;>simp only[go_sem,ja hlt,hx,Vl.av_eq,uy,hg])|(refine zc (fun hc=>?_) (fun hc=>?_)<;>try exact zh hc))
    refine Hold.mk (CallB.use hv1 (fun i=>i) (by rw[jv]) (by simp[AV.ids,AV.idsL,go_sem]) (fun id ob ho=>⟨?_,jr ho⟩) (fun _ _ _ _ _ _ e=>e) (fun id hid=>⟨by omega,qh _ _ _ (by omega)⟩) ?_ ?_ ?_ ?_)
    · rw[jw]
      have:=(jr ho).1
      simp only[jb]
      rw[if_neg (by omega)]
      first|exact ho|(rw[if_neg (by omega)];exact ho)
    · rintro r hp' ⟨rfl,o',_,rfl⟩
      exact⟨trivial,fun id ob ho=>⟨by have:=(jr ho).1;omega,jf _ (fun j hj=>by omega) (jr ho).2⟩⟩
    · rintro r hp' ⟨rfl,_,o',rfl⟩
      exact⟨by simp[jW,AV.ids,AV.idsL],fun id ob ho=>⟨by have:=(jr ho).1;omega,jf _ (fun j hj=>by omega) (jr ho).2⟩⟩
    · rintro r hp' fr' hpn ⟨rfl,o',hr1,rfl⟩ hfr hobj _
      simp only[St.put,AV.ren,Jg,AV.renL] at hfr
      clear hQ hQp
      subst hfr
      simp only[go_sem]
      refine hK.h _ ?_
      repeat'(first|apply nx|refine zx ?_|rw[zw]|refine zk ?_|refine zp ?_|(apply zA;exact zb)|((first|refine zR hE @fun K Kp hK hKp hg=>?_|refine zT hE @fun K Kp hK hKp anc hanc hg=>?_|refine zF hE @fun K Kp hK hKp anc hanc hg=>?_|refine zg (fun hg=>?_) fun hg=>?_)<;>simp only[go_sem,hg])|(refine zc (fun hc=>?_) (fun hc=>?_)<;>try exact zh hc))
      have hb:∀ i,i<6->jn (fun i=>i) 6 7340039 i=i:=fun i hi=>jz hi
      refine⟨(i+1,o'),⟨by simp only;omega,by simp only;rw[ht,hr1];rfl,hs i x o o' hx hPi hr1⟩,by simp only;omega,jn (fun i=>i) 6 7340039,Jl (m:=jn (fun i=>i) 6 7340039) (by simp[go_sem,AV.ids,AV.idsL];exact⟨(hb 0 (by decide)).symm,(hb 1 (by decide)).symm,(hb 2 (by decide)).symm,(hb 3 (by decide)).symm⟩) (fun id ob ho=>⟨hobj id ob ho,jr ho⟩) (fun _ _ _ _ _ _ e=>jQ (by omega) e) (fun id hid=>⟨jz (by omega),by omega⟩)⟩
    · rintro x' hp' hpn ⟨rfl,hr1,o',rfl⟩ hobj _
      refine hKp.h _ _ (hQp _ _ ⟨jW,_,JL h o',7,rfl,by simp[jW,AV.ids,AV.idsL],Jl (fr:=[]) (by simp) (fun id ob ho=>⟨hobj id ob ho,jr ho⟩) (fun _ _ _ _ _ _ e=>jQ (by omega) e) (fun id hid=>⟨jz hid,by show id<7;omega⟩),rfl,?_,o',rfl⟩)
      rw[ht,hr1];rfl
  · obtain rfl:i=v.fs.length:=by omega
    rw[List.drop_length,Jk] at ht
    repeat'(first|apply nx|refine zx ?_|rw[zw]|refine zk ?_|refine zp ?_|(apply zA;exact zb)|((first|refine zR hE @fun K Kp hK hKp hg=>?_|refine zT hE @fun K Kp hK hKp anc hanc hg=>?_|refine zF hE @fun K Kp hK hKp anc hanc hg=>?_|refine zg (fun hg=>?_) fun hg=>?_)<;>simp only[go_sem,jE,hg])|(refine zc (fun hc=>?_) (fun hc=>?_)<;>try exact zh hc))
    refine jl ?_
    refine(hQ _ ⟨.tup [],fun i=>i,JL h o,7,rfl,trivial,J2 (by decide) (fun id ob ho=>ho),rfl,o,ht,rfl⟩).2
end Go.Proofs.YtfpcjabbcpgbjaaDoor
