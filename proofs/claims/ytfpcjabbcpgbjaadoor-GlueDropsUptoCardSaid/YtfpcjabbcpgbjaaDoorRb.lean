/- A part of the proof: an abstract machine for the walks, and what the walked functions compute. -/
import Derived.Test.YtfpcjabbcpgbjaaDoorRa
import Derived.Test.YtfpcjabbcpgbjaaDoorMr
import Derived.Test.YtfpcjabbcpgbjaaDoorMt
import Derived.Test.YtfpcjabbcpgbjaaDoorMq
set_option linter.unusedVariables false
set_option linter.unusedSimpArgs false
set_option maxHeartbeats 4000000
set_option maxRecDepth 100000
namespace Go.Proofs.YtfpcjabbcpgbjaaDoor
open Go.Am Go.Proofs Go.Hv Go.Gl
open Classical
attribute [local irreducible] AW jA CallB
theorem UE (l:List Ty) (g:Nat) (cap:List AV) (hp:Nat->Option AObj) (np:Nat) (b:Ty->Bool) (hcap:AV.idsL (· <np) cap) (hw:WF hp np) (hl:l.length<=2 ^ 40) (hg:∀ x,x∈l->HC Tryd.prog g (x.av::cap) hp np (.bool (b x))):HC Tryd.prog 35 [.sl (Ty.avL l),.fn (.func g) [] cap] hp np (.i (yP b l 0)):=by
 have hwl:∀ id ob,hp id=some ob->id<1000000/\ob.ids (· <1000000):=fun id ob h=>by
  have:=hw.1 id ob h;have:=hw.2.2
  exact⟨by omega,jf _ (fun i hi=>by omega) (hw.1 id ob h).2⟩
 have hcap2:AV.idsL (· <1000000) cap:=Ja (fun i hi=>by have:=hw.2.2;omega) hcap
 have hnp2:np<=1000000:=by have:=hw.2.2;omega
 refine HC.intro hw rfl Tryd.func35 rfl jld (by simp[Tryd.f35]) fun E Q hE hN hQ=>jg ?_
 repeat'(first|apply nx|refine zx ?_|rw[zw]|refine zk ?_|refine zp ?_|(apply zA;exact zb)|((first|refine zR hE @fun K Kp hK hKp zq=>?_|refine zT hE @fun K Kp hK hKp anc hanc zq=>?_|refine zF hE @fun K Kp hK hKp anc hanc zq=>?_|refine zg (fun zq=>?_) fun zq=>?_)<;>simp only[go_sem,zq])|(refine zc (fun hc=>?_) (fun hc=>?_)<;>try exact zh hc))
 refine jB (X:=Nat) (fun i=>i<=l.length/\yP b l 0=yP b (l.drop i) i) (fun i=>⟨jL [(0,.sl (Ty.avL l)),(1,.fn (.func g) [] cap),(7,AV.i l.length),(8,AV.i i)],hp,1000000⟩) (fun i=>l.length - i) 0 ⟨Nat.zero_le _,rfl⟩ (fun i=>i) (JZ (by simp[go_sem,AV.ids,hcap2]) (fun id ob h=>⟨h,hwl id ob h⟩) (by omega)) ?_
 rintro i ⟨hi,ht⟩
 by_cases hlt:i<l.length
 ·obtain⟨x,hx⟩:=get?_of hlt
  rw[jS hx,yP] at ht
  have hgx:=hg x (List.mem_of_getElem? hx)
  rw[Ty.av_eq] at hgx
  repeat'(first|apply nx|refine zx ?_|rw[zw]|refine zk ?_|refine zp ?_|(apply zA;exact zb)|((first|refine zR hE @fun K Kp hK hKp zq=>?_|refine zT hE @fun K Kp hK hKp anc hanc zq=>?_|refine zF hE @fun K Kp hK hKp anc hanc zq=>?_|refine zg (fun zq=>?_) fun zq=>?_)<;>simp only[go_sem,ja hlt,hx,Ty.av_eq,zq])|(refine zc (fun hc=>?_) (fun hc=>?_)<;>try exact zh hc))
  refine Hold.mk (HC.use hgx (fun i=>i) (by rw[jv]) (by refine⟨?_,hcap⟩;simp[go_sem,AV.ids,AV.idsL]) (fun id ob h=>by rw[jw];exact h) (fun _ _ _ _ e=>e) ?_)
  rintro hpn hold
  simp only[go_sem]
  refine hK.h _ ?_;clear hK hKp K Kp;try clear hanc anc
  repeat(first|refine jk ?_|refine jj ?_|refine jK ?_)
  refine AW.ent (fun i=>i) (O':=⟨jL [(0,.sl (Ty.avL l)),(1,.fn (.func g) [] cap),(5,AV.i i),(7,AV.i l.length),(8,AV.i i),(16,.bool (b x))],hp,1000000⟩) (JZ (by simp[go_sem,AV.ids,hcap2]) (fun id ob h=>⟨hold id ob h,hwl id ob h⟩) (by omega)) ?_
  cases hbx:b x
  ·rw[hbx] at ht
   repeat'(first|apply nx|refine zx ?_|rw[zw]|refine zk ?_|refine zp ?_|(apply zA;exact zb)|((first|refine zR hE @fun K Kp hK hKp zq=>?_|refine zT hE @fun K Kp hK hKp anc hanc zq=>?_|refine zF hE @fun K Kp hK hKp anc hanc zq=>?_|refine zg (fun zq=>?_) fun zq=>?_)<;>simp only[go_sem,zq])|(refine zc (fun hc=>?_) (fun hc=>?_)<;>try exact zh hc))
   exact⟨i+1,⟨by omega,by simpa using ht⟩,by omega,fun i=>i,JZ (by simp[go_sem,AV.ids,hcap2]) (fun id ob h=>⟨h,hwl id ob h⟩) (by omega)⟩
  ·rw[hbx,if_pos rfl] at ht
   rw[ht] at hQ
   repeat'(first|apply nx|refine zx ?_|rw[zw]|refine zk ?_|refine zp ?_|(apply zA;exact zb)|((first|refine zR hE @fun K Kp hK hKp zq=>?_|refine zT hE @fun K Kp hK hKp anc hanc zq=>?_|refine zF hE @fun K Kp hK hKp anc hanc zq=>?_|refine zg (fun zq=>?_) fun zq=>?_)<;>simp only[go_sem,zq])|(refine zc (fun hc=>?_) (fun hc=>?_)<;>try exact zh hc))
   exact je (hQ _ (by simp only[go_sem];rfl) (fun id ob h=>h)).1
 ·obtain rfl:i=l.length:=by omega
  rw[List.drop_length,yP] at ht
  rw[ht] at hQ
  repeat'(first|apply nx|refine zx ?_|rw[zw]|refine zk ?_|refine zp ?_|(apply zA;exact zb)|((first|refine zR hE @fun K Kp hK hKp zq=>?_|refine zT hE @fun K Kp hK hKp anc hanc zq=>?_|refine zF hE @fun K Kp hK hKp anc hanc zq=>?_|refine zg (fun zq=>?_) fun zq=>?_)<;>simp only[go_sem,jE,zq])|(refine zc (fun hc=>?_) (fun hc=>?_)<;>try exact zh hc))
  exact je (hQ _ (by simp only[go_sem];rfl) (fun id ob h=>h)).1
theorem Un (l:List Ty) (g:Nat) (cap:List AV) (hp:Nat->Option AObj) (np:Nat) (b:Ty->Bool) (hcap:AV.idsL (· <np) cap) (hw:WF hp np) (hl:l.length<=2 ^ 40) (hg:∀ x,x∈l->HC Tryd.prog g (x.av::cap) hp np (.bool (b x))):HC Tryd.prog 60 [.sl (Ty.avL l),.fn (.func g) [] cap] hp np (.bool (l.any b)):=by
 have hx:=UE l g cap hp np b hcap hw hl hg
 refine HC.intro hw rfl Tryd.func60 rfl jf1 (by simp[Tryd.f60]) fun E Q hE hN hQ=>jg ?_
 repeat'(first|apply nx|refine zx ?_|rw[zw]|refine zk ?_|refine zp ?_|(apply zA;exact zb)|((first|refine zR hE @fun K Kp hK hKp zq=>?_|refine zT hE @fun K Kp hK hKp anc hanc zq=>?_|refine zF hE @fun K Kp hK hKp anc hanc zq=>?_|refine zg (fun zq=>?_) fun zq=>?_)<;>simp only[go_sem,zq])|(refine zc (fun hc=>?_) (fun hc=>?_)<;>try exact zh hc))
 refine Hold.mk (HC.use hx (fun i=>i) (by rw[jv]) (by simp[go_sem,AV.idsL,AV.ids,hcap]) (fun id ob h=>by rw[jw];exact h) (fun _ _ _ _ e=>e) ?_)
 rintro hpn hold
 have q:decide (yP b l 0>=0)=l.any b:=QB b l 0
 simp only[go_sem,q]
 refine hK.h _ ?_;clear hK hKp K Kp;try clear hanc anc
 repeat(first|refine jk ?_|refine jj ?_|refine jK ?_)
 repeat'(first|apply nx|refine zx ?_|rw[zw]|refine zk ?_|refine zp ?_|(apply zA;exact zb)|((first|refine zR hE @fun K Kp hK hKp zq=>?_|refine zT hE @fun K Kp hK hKp anc hanc zq=>?_|refine zF hE @fun K Kp hK hKp anc hanc zq=>?_|refine zg (fun zq=>?_) fun zq=>?_)<;>simp only[go_sem,q,zq])|(refine zc (fun hc=>?_) (fun hc=>?_)<;>try exact zh hc))
 exact je (hQ _ (by simp only[go_sem];rfl) hold).1
theorem jcL (l:List Dd) (g:Nat) (cap:List AV) (hp:Nat->Option AObj) (np:Nat) (b:Dd->Bool) (hcap:AV.idsL (· <np) cap) (hw:WF hp np) (hl:l.length<=2 ^ 40) (hg:∀ x,x∈l->HC Tryd.prog g (x.av::cap) hp np (.bool (b x))):HC Tryd.prog 76 [.sl (ddl l),.fn (.func g) [] cap] hp np (.i (yP b l 0)):=by
 have hwl:∀ id ob,hp id=some ob->id<1000000/\ob.ids (· <1000000):=fun id ob h=>by
  have:=hw.1 id ob h;have:=hw.2.2
  exact⟨by omega,jf _ (fun i hi=>by omega) (hw.1 id ob h).2⟩
 have hcap2:AV.idsL (· <1000000) cap:=Ja (fun i hi=>by have:=hw.2.2;omega) hcap
 have hnp2:np<=1000000:=by have:=hw.2.2;omega
 refine HC.intro hw rfl Tryd.func76 rfl jlw (by simp[Tryd.f76]) fun E Q hE hN hQ=>jg ?_
 repeat'(first|apply nx|refine zx ?_|rw[zw]|refine zk ?_|refine zp ?_|(apply zA;exact zb)|((first|refine zR hE @fun K Kp hK hKp zq=>?_|refine zT hE @fun K Kp hK hKp anc hanc zq=>?_|refine zF hE @fun K Kp hK hKp anc hanc zq=>?_|refine zg (fun zq=>?_) fun zq=>?_)<;>simp only[go_sem,zq])|(refine zc (fun hc=>?_) (fun hc=>?_)<;>try exact zh hc))
 refine jB (X:=Nat) (fun i=>i<=l.length/\yP b l 0=yP b (l.drop i) i) (fun i=>⟨jL [(0,.sl (ddl l)),(1,.fn (.func g) [] cap),(7,AV.i l.length),(8,AV.i i)],hp,1000000⟩) (fun i=>l.length - i) 0 ⟨Nat.zero_le _,rfl⟩ (fun i=>i) (JZ (by simp[go_sem,AV.ids,hcap2]) (fun id ob h=>⟨h,hwl id ob h⟩) (by omega)) ?_
 rintro i ⟨hi,ht⟩
 by_cases hlt:i<l.length
 ·obtain⟨x,hx⟩:=get?_of hlt
  rw[jS hx,yP] at ht
  have hgx:=hg x (List.mem_of_getElem? hx)
  rw[Dd.av_eq] at hgx
  repeat'(first|apply nx|refine zx ?_|rw[zw]|refine zk ?_|refine zp ?_|(apply zA;exact zb)|((first|refine zR hE @fun K Kp hK hKp zq=>?_|refine zT hE @fun K Kp hK hKp anc hanc zq=>?_|refine zF hE @fun K Kp hK hKp anc hanc zq=>?_|refine zg (fun zq=>?_) fun zq=>?_)<;>simp only[go_sem,ja hlt,hx,Dd.av_eq,zq])|(refine zc (fun hc=>?_) (fun hc=>?_)<;>try exact zh hc))
  refine Hold.mk (HC.use hgx (fun i=>i) (by rw[jv]) (by refine⟨?_,hcap⟩;simp[go_sem,AV.ids,AV.idsL]) (fun id ob h=>by rw[jw];exact h) (fun _ _ _ _ e=>e) ?_)
  rintro hpn hold
  simp only[go_sem]
  refine hK.h _ ?_;clear hK hKp K Kp;try clear hanc anc
  repeat(first|refine jk ?_|refine jj ?_|refine jK ?_)
  refine AW.ent (fun i=>i) (O':=⟨jL [(0,.sl (ddl l)),(1,.fn (.func g) [] cap),(5,AV.i i),(7,AV.i l.length),(8,AV.i i),(16,.bool (b x))],hp,1000000⟩) (JZ (by simp[go_sem,AV.ids,hcap2]) (fun id ob h=>⟨hold id ob h,hwl id ob h⟩) (by omega)) ?_
  cases hbx:b x
  ·rw[hbx] at ht
   repeat'(first|apply nx|refine zx ?_|rw[zw]|refine zk ?_|refine zp ?_|(apply zA;exact zb)|((first|refine zR hE @fun K Kp hK hKp zq=>?_|refine zT hE @fun K Kp hK hKp anc hanc zq=>?_|refine zF hE @fun K Kp hK hKp anc hanc zq=>?_|refine zg (fun zq=>?_) fun zq=>?_)<;>simp only[go_sem,zq])|(refine zc (fun hc=>?_) (fun hc=>?_)<;>try exact zh hc))
   exact⟨i+1,⟨by omega,by simpa using ht⟩,by omega,fun i=>i,JZ (by simp[go_sem,AV.ids,hcap2]) (fun id ob h=>⟨h,hwl id ob h⟩) (by omega)⟩
  ·rw[hbx,if_pos rfl] at ht
   rw[ht] at hQ
   repeat'(first|apply nx|refine zx ?_|rw[zw]|refine zk ?_|refine zp ?_|(apply zA;exact zb)|((first|refine zR hE @fun K Kp hK hKp zq=>?_|refine zT hE @fun K Kp hK hKp anc hanc zq=>?_|refine zF hE @fun K Kp hK hKp anc hanc zq=>?_|refine zg (fun zq=>?_) fun zq=>?_)<;>simp only[go_sem,zq])|(refine zc (fun hc=>?_) (fun hc=>?_)<;>try exact zh hc))
   exact je (hQ _ (by simp only[go_sem];rfl) (fun id ob h=>h)).1
 ·obtain rfl:i=l.length:=by omega
  rw[List.drop_length,yP] at ht
  rw[ht] at hQ
  repeat'(first|apply nx|refine zx ?_|rw[zw]|refine zk ?_|refine zp ?_|(apply zA;exact zb)|((first|refine zR hE @fun K Kp hK hKp zq=>?_|refine zT hE @fun K Kp hK hKp anc hanc zq=>?_|refine zF hE @fun K Kp hK hKp anc hanc zq=>?_|refine zg (fun zq=>?_) fun zq=>?_)<;>simp only[go_sem,jE,zq])|(refine zc (fun hc=>?_) (fun hc=>?_)<;>try exact zh hc))
  exact je (hQ _ (by simp only[go_sem];rfl) (fun id ob h=>h)).1
theorem jb2 (l:List Dd) (g:Nat) (cap:List AV) (hp:Nat->Option AObj) (np:Nat) (b:Dd->Bool) (hcap:AV.idsL (· <np) cap) (hw:WF hp np) (hl:l.length<=2 ^ 40) (hg:∀ x,x∈l->HC Tryd.prog g (x.av::cap) hp np (.bool (b x))):HC Tryd.prog 56 [.sl (ddl l),.fn (.func g) [] cap] hp np (.bool (l.any b)):=by
 have hx:=jcL l g cap hp np b hcap hw hl hg
 refine HC.intro hw rfl Tryd.func56 rfl jcT (by simp[Tryd.f56]) fun E Q hE hN hQ=>jg ?_
 repeat'(first|apply nx|refine zx ?_|rw[zw]|refine zk ?_|refine zp ?_|(apply zA;exact zb)|((first|refine zR hE @fun K Kp hK hKp zq=>?_|refine zT hE @fun K Kp hK hKp anc hanc zq=>?_|refine zF hE @fun K Kp hK hKp anc hanc zq=>?_|refine zg (fun zq=>?_) fun zq=>?_)<;>simp only[go_sem,zq])|(refine zc (fun hc=>?_) (fun hc=>?_)<;>try exact zh hc))
 refine Hold.mk (HC.use hx (fun i=>i) (by rw[jv]) (by simp[go_sem,AV.idsL,AV.ids,hcap]) (fun id ob h=>by rw[jw];exact h) (fun _ _ _ _ e=>e) ?_)
 rintro hpn hold
 have q:decide (yP b l 0>=0)=l.any b:=QB b l 0
 simp only[go_sem,q]
 refine hK.h _ ?_;clear hK hKp K Kp;try clear hanc anc
 repeat(first|refine jk ?_|refine jj ?_|refine jK ?_)
 repeat'(first|apply nx|refine zx ?_|rw[zw]|refine zk ?_|refine zp ?_|(apply zA;exact zb)|((first|refine zR hE @fun K Kp hK hKp zq=>?_|refine zT hE @fun K Kp hK hKp anc hanc zq=>?_|refine zF hE @fun K Kp hK hKp anc hanc zq=>?_|refine zg (fun zq=>?_) fun zq=>?_)<;>simp only[go_sem,q,zq])|(refine zc (fun hc=>?_) (fun hc=>?_)<;>try exact zh hc))
 exact je (hQ _ (by simp only[go_sem];rfl) hold).1
theorem jcM (l:List Dv) (g:Nat) (cap:List AV) (hp:Nat->Option AObj) (np:Nat) (b:Dv->Bool) (hcap:AV.idsL (· <np) cap) (hw:WF hp np) (hl:l.length<=2 ^ 40) (hg:∀ x,x∈l->HC Tryd.prog g (x.av::cap) hp np (.bool (b x))):HC Tryd.prog 77 [.sl (dvl l),.fn (.func g) [] cap] hp np (.i (yP b l 0)):=by
 have hwl:∀ id ob,hp id=some ob->id<1000000/\ob.ids (· <1000000):=fun id ob h=>by
  have:=hw.1 id ob h;have:=hw.2.2
  exact⟨by omega,jf _ (fun i hi=>by omega) (hw.1 id ob h).2⟩
 have hcap2:AV.idsL (· <1000000) cap:=Ja (fun i hi=>by have:=hw.2.2;omega) hcap
 have hnp2:np<=1000000:=by have:=hw.2.2;omega
 refine HC.intro hw rfl Tryd.func77 rfl jlx (by simp[Tryd.f77]) fun E Q hE hN hQ=>jg ?_
 repeat'(first|apply nx|refine zx ?_|rw[zw]|refine zk ?_|refine zp ?_|(apply zA;exact zb)|((first|refine zR hE @fun K Kp hK hKp zq=>?_|refine zT hE @fun K Kp hK hKp anc hanc zq=>?_|refine zF hE @fun K Kp hK hKp anc hanc zq=>?_|refine zg (fun zq=>?_) fun zq=>?_)<;>simp only[go_sem,zq])|(refine zc (fun hc=>?_) (fun hc=>?_)<;>try exact zh hc))
 refine jB (X:=Nat) (fun i=>i<=l.length/\yP b l 0=yP b (l.drop i) i) (fun i=>⟨jL [(0,.sl (dvl l)),(1,.fn (.func g) [] cap),(7,AV.i l.length),(8,AV.i i)],hp,1000000⟩) (fun i=>l.length - i) 0 ⟨Nat.zero_le _,rfl⟩ (fun i=>i) (JZ (by simp[go_sem,AV.ids,hcap2]) (fun id ob h=>⟨h,hwl id ob h⟩) (by omega)) ?_
 rintro i ⟨hi,ht⟩
 by_cases hlt:i<l.length
 ·obtain⟨x,hx⟩:=get?_of hlt
  rw[jS hx,yP] at ht
  have hgx:=hg x (List.mem_of_getElem? hx)
  rw[Dv.av_eq] at hgx
  repeat'(first|apply nx|refine zx ?_|rw[zw]|refine zk ?_|refine zp ?_|(apply zA;exact zb)|((first|refine zR hE @fun K Kp hK hKp zq=>?_|refine zT hE @fun K Kp hK hKp anc hanc zq=>?_|refine zF hE @fun K Kp hK hKp anc hanc zq=>?_|refine zg (fun zq=>?_) fun zq=>?_)<;>simp only[go_sem,ja hlt,hx,Dv.av_eq,zq])|(refine zc (fun hc=>?_) (fun hc=>?_)<;>try exact zh hc))
  refine Hold.mk (HC.use hgx (fun i=>i) (by rw[jv]) (by refine⟨?_,hcap⟩;simp[go_sem,AV.ids,AV.idsL]) (fun id ob h=>by rw[jw];exact h) (fun _ _ _ _ e=>e) ?_)
  rintro hpn hold
  simp only[go_sem]
  refine hK.h _ ?_;clear hK hKp K Kp;try clear hanc anc
  repeat(first|refine jk ?_|refine jj ?_|refine jK ?_)
  refine AW.ent (fun i=>i) (O':=⟨jL [(0,.sl (dvl l)),(1,.fn (.func g) [] cap),(5,AV.i i),(7,AV.i l.length),(8,AV.i i),(16,.bool (b x))],hp,1000000⟩) (JZ (by simp[go_sem,AV.ids,hcap2]) (fun id ob h=>⟨hold id ob h,hwl id ob h⟩) (by omega)) ?_
  cases hbx:b x
  ·rw[hbx] at ht
   repeat'(first|apply nx|refine zx ?_|rw[zw]|refine zk ?_|refine zp ?_|(apply zA;exact zb)|((first|refine zR hE @fun K Kp hK hKp zq=>?_|refine zT hE @fun K Kp hK hKp anc hanc zq=>?_|refine zF hE @fun K Kp hK hKp anc hanc zq=>?_|refine zg (fun zq=>?_) fun zq=>?_)<;>simp only[go_sem,zq])|(refine zc (fun hc=>?_) (fun hc=>?_)<;>try exact zh hc))
   exact⟨i+1,⟨by omega,by simpa using ht⟩,by omega,fun i=>i,JZ (by simp[go_sem,AV.ids,hcap2]) (fun id ob h=>⟨h,hwl id ob h⟩) (by omega)⟩
  ·rw[hbx,if_pos rfl] at ht
   rw[ht] at hQ
   repeat'(first|apply nx|refine zx ?_|rw[zw]|refine zk ?_|refine zp ?_|(apply zA;exact zb)|((first|refine zR hE @fun K Kp hK hKp zq=>?_|refine zT hE @fun K Kp hK hKp anc hanc zq=>?_|refine zF hE @fun K Kp hK hKp anc hanc zq=>?_|refine zg (fun zq=>?_) fun zq=>?_)<;>simp only[go_sem,zq])|(refine zc (fun hc=>?_) (fun hc=>?_)<;>try exact zh hc))
   exact je (hQ _ (by simp only[go_sem];rfl) (fun id ob h=>h)).1
 ·obtain rfl:i=l.length:=by omega
  rw[List.drop_length,yP] at ht
  rw[ht] at hQ
  repeat'(first|apply nx|refine zx ?_|rw[zw]|refine zk ?_|refine zp ?_|(apply zA;exact zb)|((first|refine zR hE @fun K Kp hK hKp zq=>?_|refine zT hE @fun K Kp hK hKp anc hanc zq=>?_|refine zF hE @fun K Kp hK hKp anc hanc zq=>?_|refine zg (fun zq=>?_) fun zq=>?_)<;>simp only[go_sem,jE,zq])|(refine zc (fun hc=>?_) (fun hc=>?_)<;>try exact zh hc))
  exact je (hQ _ (by simp only[go_sem];rfl) (fun id ob h=>h)).1
theorem jb3 (l:List Dv) (g:Nat) (cap:List AV) (hp:Nat->Option AObj) (np:Nat) (b:Dv->Bool) (hcap:AV.idsL (· <np) cap) (hw:WF hp np) (hl:l.length<=2 ^ 40) (hg:∀ x,x∈l->HC Tryd.prog g (x.av::cap) hp np (.bool (b x))):HC Tryd.prog 58 [.sl (dvl l),.fn (.func g) [] cap] hp np (.bool (l.any b)):=by
 have hx:=jcM l g cap hp np b hcap hw hl hg
 refine HC.intro hw rfl Tryd.func58 rfl jf0 (by simp[Tryd.f58]) fun E Q hE hN hQ=>jg ?_
 repeat'(first|apply nx|refine zx ?_|rw[zw]|refine zk ?_|refine zp ?_|(apply zA;exact zb)|((first|refine zR hE @fun K Kp hK hKp zq=>?_|refine zT hE @fun K Kp hK hKp anc hanc zq=>?_|refine zF hE @fun K Kp hK hKp anc hanc zq=>?_|refine zg (fun zq=>?_) fun zq=>?_)<;>simp only[go_sem,zq])|(refine zc (fun hc=>?_) (fun hc=>?_)<;>try exact zh hc))
 refine Hold.mk (HC.use hx (fun i=>i) (by rw[jv]) (by simp[go_sem,AV.idsL,AV.ids,hcap]) (fun id ob h=>by rw[jw];exact h) (fun _ _ _ _ e=>e) ?_)
 rintro hpn hold
 have q:decide (yP b l 0>=0)=l.any b:=QB b l 0
 simp only[go_sem,q]
 refine hK.h _ ?_;clear hK hKp K Kp;try clear hanc anc
 repeat(first|refine jk ?_|refine jj ?_|refine jK ?_)
 repeat'(first|apply nx|refine zx ?_|rw[zw]|refine zk ?_|refine zp ?_|(apply zA;exact zb)|((first|refine zR hE @fun K Kp hK hKp zq=>?_|refine zT hE @fun K Kp hK hKp anc hanc zq=>?_|refine zF hE @fun K Kp hK hKp anc hanc zq=>?_|refine zg (fun zq=>?_) fun zq=>?_)<;>simp only[go_sem,q,zq])|(refine zc (fun hc=>?_) (fun hc=>?_)<;>try exact zh hc))
 exact je (hQ _ (by simp only[go_sem];rfl) hold).1
structure DB (D:List Dd):Prop where
 l:D.length<=2 ^ 30
 v:∀ x,x∈D->x.vs.length<=2 ^ 30
 f:∀ x,x∈D->∀ v,v∈x.vs->v.fs.length<=2 ^ 30
 s:∀ x,x∈D->∀ v,v∈x.vs->∀ t,t∈v.fs->t.sz<=2 ^ 30
 n:∀ x,x∈D->(x.vs.flatMap Dv.fs).length<=2 ^ 30
def gw (D:List Dd):Nat->Option AObj:=jp [(0,.cells [.sl (ddl D)]),(1,.cells [.fn (.func 55) [] [.ptr 0 0]])]
theorem jab (D:List Dd):gw D 0=some (.cells [.sl (ddl D)]):=rfl
theorem jfi (D:List Dd):gw D 1=some (.cells [.fn (.func 55) [] [.ptr 0 0]]):=rfl
theorem jfF (D:List Dd):WF (gw D) 2:=by
 refine⟨fun id ob h=>?_,fun id hid=>?_,by decide⟩
 ·simp only[gw,jp,jb] at h
  split at h
  ·rename_i e;cases h;subst e;exact⟨by decide,by simp[AObj.ids,AV.ids,AV.idsL,go_sem]⟩
  ·split at h
   ·rename_i e;cases h;subst e;exact⟨by decide,by simp[AObj.ids,AV.ids,AV.idsL,go_sem]⟩
   ·cases h
 ·have:id=0\/id=1:=by omega
  rcases this with rfl|rfl<;>simp[gw,jp,jb]
theorem jgo {D:List Dd} (hD:DB D) (x:Ty) (hx:x.sz<=2 ^ 30):HC Tryd.prog 55 [x.av,.ptr 0 0] (gw D) 2 (.bool (!plB D x 8)):=by
 have hw:=jfF D
 have c0:=Gj (2 ^ 30) x D 8 hx (by have:=hD.l;omega) (by decide) (by decide)
 rw[Ty.av_eq] at c0 ⊢
 refine HC.intro hw rfl Tryd.func55 rfl jlo (by simp[Tryd.f55]) fun E Q hE hN hQ=>jg ?_
 repeat'(first|apply nx|refine zx ?_|rw[zw]|refine zk ?_|refine zp ?_|(apply zA;exact zb)|((first|refine zR hE @fun K Kp hK hKp hg=>?_|refine zT hE @fun K Kp hK hKp anc hanc hg=>?_|refine zF hE @fun K Kp hK hKp anc hanc hg=>?_|(apply zM;exact zu;exact c0;exact zs;exact zl;intro hg)|refine zg (fun hg=>?_) fun hg=>?_)<;>simp only[go_sem,jab,hg])|(refine zc (fun hc=>?_) (fun hc=>?_)<;>try exact zh hc))
 exact je (hQ _ (by simp only[go_sem];rfl) (fun id ob h=>by have:=hw.lt h;simp only[jb];rw[if_neg (by omega)];exact h)).1
theorem jeq {D:List Dd} (hD:DB D) (v:Dv) (hv:v.fs.length<=2 ^ 30) (hs:∀ t,t∈v.fs->t.sz<=2 ^ 30):HC Tryd.prog 59 [v.av,.ptr 1 0] (gw D) 2 (.bool (v.fs.any fun f=>!plB D f 8)):=by
 have hw:=jfF D
 have c0:=Un v.fs 55 [.ptr 0 0] (gw D) 2 (fun f=>!plB D f 8) (by simp[AV.idsL,AV.ids]) hw (by omega) (fun x hx=>jgo hD x (hs x hx))
 rw[Dv.av_eq]
 refine HC.intro hw rfl Tryd.func59 rfl YS (by simp[Tryd.f59]) fun E Q hE hN hQ=>jg ?_
 repeat'(first|apply nx|refine zx ?_|rw[zw]|refine zk ?_|refine zp ?_|(apply zA;exact zb)|((first|refine zR hE @fun K Kp hK hKp hg=>?_|refine zT hE @fun K Kp hK hKp anc hanc hg=>?_|refine zF hE @fun K Kp hK hKp anc hanc hg=>?_|refine zg (fun hg=>?_) fun hg=>?_)<;>simp only[go_sem,jab,jfi,hg])|(refine zc (fun hc=>?_) (fun hc=>?_)<;>try exact zh hc))
 refine Hold.mk (HC.use c0 (fun i=>i) (by rw[jv]) (by simp[go_sem,AV.idsL,AV.ids]) (fun id ob h=>by rw[jw];have:=hw.lt h;simp only[jb];rw[if_neg (by omega)];exact h) (fun _ _ _ _ e=>e) ?_)
 rintro hpn hold
 simp only[go_sem]
 refine hK.h _ ?_;clear hK hKp K Kp;try clear hanc anc
 repeat(first|refine jk ?_|refine jj ?_|refine jK ?_)
 repeat'(first|apply nx|refine zx ?_|rw[zw]|refine zk ?_|refine zp ?_|(apply zA;exact zb)|((first|refine zR hE @fun K Kp hK hKp hg=>?_|refine zT hE @fun K Kp hK hKp anc hanc hg=>?_|refine zF hE @fun K Kp hK hKp anc hanc hg=>?_|refine zg (fun hg=>?_) fun hg=>?_)<;>simp only[go_sem,hg])|(refine zc (fun hc=>?_) (fun hc=>?_)<;>try exact zh hc))
 exact je (hQ _ (by simp only[go_sem];rfl) (fun id ob h=>hold id ob (by have:=hw.lt h;simp only[jb];rw[if_neg (by omega)];exact h))).1
theorem jep {D:List Dd} (hD:DB D) (x:Dd) (hx:x∈D):HC Tryd.prog 57 [x.av,.ptr 1 0] (gw D) 2 (.bool (x.vs.any fun v=>v.fs.any fun f=>!plB D f 8)):=by
 have hw:=jfF D
 have c0:=jb3 x.vs 59 [.ptr 1 0] (gw D) 2 (fun v=>v.fs.any fun f=>!plB D f 8) (by simp[AV.idsL,AV.ids]) hw (by have:=hD.v x hx;omega) (fun v hv=>jeq hD v (hD.f x hx v hv) (hD.s x hx v hv))
 rw[Dd.av_eq]
 refine HC.intro hw rfl Tryd.func57 rfl jfZ (by simp[Tryd.f57]) fun E Q hE hN hQ=>jg ?_
 repeat'(first|apply nx|refine zx ?_|rw[zw]|refine zk ?_|refine zp ?_|(apply zA;exact zb)|((first|refine zR hE @fun K Kp hK hKp hg=>?_|refine zT hE @fun K Kp hK hKp anc hanc hg=>?_|refine zF hE @fun K Kp hK hKp anc hanc hg=>?_|refine zg (fun hg=>?_) fun hg=>?_)<;>simp only[go_sem,hg])|(refine zc (fun hc=>?_) (fun hc=>?_)<;>try exact zh hc))
 refine Hold.mk (HC.use c0 (fun i=>i) (by rw[jv]) (by simp[go_sem,AV.idsL,AV.ids]) (fun id ob h=>by rw[jw];have:=hw.lt h;simp only[jb];rw[if_neg (by omega)];exact h) (fun _ _ _ _ e=>e) ?_)
 rintro hpn hold
 simp only[go_sem]
 refine hK.h _ ?_;clear hK hKp K Kp;try clear hanc anc
 repeat(first|refine jk ?_|refine jj ?_|refine jK ?_)
 repeat'(first|apply nx|refine zx ?_|rw[zw]|refine zk ?_|refine zp ?_|(apply zA;exact zb)|((first|refine zR hE @fun K Kp hK hKp hg=>?_|refine zT hE @fun K Kp hK hKp anc hanc hg=>?_|refine zF hE @fun K Kp hK hKp anc hanc hg=>?_|refine zg (fun hg=>?_) fun hg=>?_)<;>simp only[go_sem,hg])|(refine zc (fun hc=>?_) (fun hc=>?_)<;>try exact zh hc))
 exact je (hQ _ (by simp only[go_sem];rfl) (fun id ob h=>hold id ob (by have:=hw.lt h;simp only[jb];rw[if_neg (by omega)];exact h))).1
theorem jgA (D:List Dd):(!D.any fun x=>x.vs.any fun v=>v.fs.any fun f=>!plB D f 8)=dtB D:=by
 unfold dtB
 rw[<- O6]
 congr 2
 funext x
 rw[<- O6,Bool.not_not]
 congr 1
 funext v
 rw[<- O6,Bool.not_not]
theorem uc {D:List Dd} (hD:DB D):PCall Tryd.prog 30 [.sl (ddl D)] (.bool (decide (D.length<=200)&&dtB D)):=by
 have hw:=jfF D
 have c0:=jb2 D 57 [.ptr 1 0] (gw D) 2 (fun x=>x.vs.any fun v=>v.fs.any fun f=>!plB D f 8) (by simp[AV.idsL,AV.ids]) hw (by have:=hD.l;omega) (fun x hx=>jep hD x hx)
 have e:=jgA D
 by_cases hl:D.length<=200
 case neg=>
  have q:decide ((D.length:Int)<=200)=false:=decide_eq_false (by omega)
  rw[decide_eq_false hl]
  refine pI Tryd.func30 jfV fun E Q hE hN hQ=>?_
  repeat'(first|apply nx|refine zx ?_|rw[zw]|refine zk ?_|refine zp ?_|(apply zA;exact zb)|((first|refine zR hE @fun K Kp hK hKp hg=>?_|refine zF hE @fun K Kp hK hKp anc hanc hg=>?_|refine zg (fun hg=>?_) fun hg=>?_)<;>simp only[go_sem,q,hg])|(refine zc (fun hc=>?_) (fun hc=>?_)<;>try exact zh hc)|(refine je ?_;refine zt hQ ?_))
  simp[AV.snap]
 have q:decide ((D.length:Int)<=200)=true:=decide_eq_true (by omega)
 rw[decide_eq_true hl, <- e]
 refine pI Tryd.func30 jfV fun E Q hE hN hQ=>?_
 repeat'(first|apply nx|refine zx ?_|rw[zw]|refine zk ?_|refine zp ?_|(apply zA;exact zb)|((first|refine zR hE @fun K Kp hK hKp hg=>?_|refine zT hE @fun K Kp hK hKp anc hanc hg=>?_|refine zF hE @fun K Kp hK hKp anc hanc hg=>?_|refine zg (fun hg=>?_) fun hg=>?_)<;>simp only[go_sem,q,hg])|(refine zc (fun hc=>?_) (fun hc=>?_)<;>try exact zh hc))
 refine Hold.mk (HC.use c0 (fun i=>if i=1 then 3145728 else i) (by simp[AV.renL,AV.ren,go_sem]) (by simp[go_sem,AV.idsL,AV.ids]) (fun id ob h=>?_) (fun a b ha hb e=>by split at e<;>split at e<;>omega) ?_)
 ·simp only[gw,jp,jb] at h
  split at h
  ·rename_i e;cases h;subst e;simp[jb,AObj.ren,AV.renL,AV.ren,go_sem]
  ·split at h
   ·rename_i e;cases h;subst e;simp[jb,AObj.ren,AV.renL,AV.ren,go_sem]
   ·cases h
 rintro hpn hold
 simp only[go_sem]
 repeat'(first|apply nx|refine zx ?_|rw[zw]|refine zk ?_|refine zp ?_|(apply zA;exact zb)|((first|refine zR hE @fun K Kp hK hKp hg=>?_|refine zF hE @fun K Kp hK hKp anc hanc hg=>?_|refine zg (fun hg=>?_) fun hg=>?_)<;>simp only[go_sem,hg])|(refine zc (fun hc=>?_) (fun hc=>?_)<;>try exact zh hc)|(refine je ?_;refine zt hQ ?_))
 simp[AV.snap]
theorem jcP (a b:List Int) (ha:a.length<=2 ^ 40):PCall Tryd.prog 11 [.sl (il a),.sl (il b)] (.bool (decide (a=b))):=by
 refine pI Tryd.func11 jkZ fun E Q hE hN hQ=>?_
 by_cases hl:a.length=b.length
 ·have q0:((a.length:Int) !=(b.length:Int))=false:=by simp[hl]
  repeat'(first|apply nx|refine zx ?_|rw[zw]|refine zk ?_|refine zp ?_|(apply zA;exact zb)|((first|refine zR hE @fun K Kp hK hKp hg=>?_|refine zF hE @fun K Kp hK hKp anc hanc hg=>?_|refine zg (fun hg=>?_) fun hg=>?_)<;>simp only[go_sem,q0,hg])|(refine zc (fun hc=>?_) (fun hc=>?_)<;>try exact zh hc)|(refine je ?_;refine zt hQ ?_))
  refine jB (X:=Nat) (fun i=>i<=a.length/\decide (a=b)=decide (a.drop i=b.drop i)) (fun i=>jx [(0,.sl (il a)),(1,.sl (il b)),(5,AV.i i)] [] 0) (fun i=>a.length - i) 0 ⟨Nat.zero_le _,rfl⟩ (fun i=>i) (by refine jc (by simp[go_sem]) (by simp[go_sem]) (by simp) (by simp[hN])) ?_
  rintro i ⟨hi,ht⟩
  by_cases hlt:i<a.length
  ·obtain⟨x,hx⟩:=get?_of hlt
   obtain⟨y,hy⟩:=get?_of (show i<b.length by omega)
   rw[jS hx,jS hy] at ht
   by_cases hxy:x=y
   ·have q1:(x !=y)=false:=by simp[hxy]
    repeat'(first|apply nx|refine zx ?_|rw[zw]|refine zk ?_|refine zp ?_|(apply zA;exact zb)|((first|refine zR hE @fun K Kp hK hKp hg=>?_|refine zF hE @fun K Kp hK hKp anc hanc hg=>?_|refine zg (fun hg=>?_) fun hg=>?_)<;>simp only[go_sem,ja hlt,hx,hy,q1,hg])|(refine zc (fun hc=>?_) (fun hc=>?_)<;>try exact zh hc)|(refine je ?_;refine zt hQ ?_))
    exact⟨i+1,⟨by omega,by rw[ht];simp[hxy]⟩,by omega,fun i=>i,by refine jc (by simp[go_sem]) (by simp[go_sem]) (by simp) (by simp[hN])⟩
   ·have q1:(x !=y)=true:=by simp[hxy]
    repeat'(first|apply nx|refine zx ?_|rw[zw]|refine zk ?_|refine zp ?_|(apply zA;exact zb)|((first|refine zR hE @fun K Kp hK hKp hg=>?_|refine zF hE @fun K Kp hK hKp anc hanc hg=>?_|refine zg (fun hg=>?_) fun hg=>?_)<;>simp only[go_sem,ja hlt,hx,hy,q1,hg])|(refine zc (fun hc=>?_) (fun hc=>?_)<;>try exact zh hc)|(refine je ?_;refine zt hQ ?_))
    simp[AV.snap,ht,hxy]
  ·obtain rfl:i=a.length:=by omega
   rw[List.drop_length,hl,List.drop_length] at ht
   repeat'(first|apply nx|refine zx ?_|rw[zw]|refine zk ?_|refine zp ?_|(apply zA;exact zb)|((first|refine zR hE @fun K Kp hK hKp hg=>?_|refine zF hE @fun K Kp hK hKp anc hanc hg=>?_|refine zg (fun hg=>?_) fun hg=>?_)<;>simp only[go_sem,jE,hg])|(refine zc (fun hc=>?_) (fun hc=>?_)<;>try exact zh hc)|(refine je ?_;refine zt hQ ?_))
   simp[AV.snap,ht]
 ·have q0:((a.length:Int) !=(b.length:Int))=true:=by simp;omega
  repeat'(first|apply nx|refine zx ?_|rw[zw]|refine zk ?_|refine zp ?_|(apply zA;exact zb)|((first|refine zR hE @fun K Kp hK hKp hg=>?_|refine zF hE @fun K Kp hK hKp anc hanc hg=>?_|refine zg (fun hg=>?_) fun hg=>?_)<;>simp only[go_sem,q0,hg])|(refine zc (fun hc=>?_) (fun hc=>?_)<;>try exact zh hc)|(refine je ?_;refine zt hQ ?_))
  have:a≠b:=by rintro rfl;exact hl rfl
  simp[AV.snap,this]

theorem i64_in (n:Int): -9223372036854775808<=IntKind.i64.wrap n/\IntKind.i64.wrap n<=9223372036854775807:=by
 rw[IntKind.wrap_i64];omega
def I64 (l:List Int):Prop:=∀ n,n∈l-> -9223372036854775808<=n/\n<=9223372036854775807
theorem jdT {l:List Int} {i:Nat} {n:Int} (h:l[i]? =some n):txL (l.take (i+1))=txL (l.take i)++(Lib.itoa n++[32]):=by
 rw[List.take_add_one,h,qq];simp[txL]
theorem jhI (n:Int) (h0: -9223372036854775808<=n) (h1:n<=9223372036854775807):PCall Tryd.prog 74 [.i n] (.str (tx (Lib.itoa n))):=ja8 n h0 h1
theorem uS (b:UInt8):(⟨#[b]⟩:ByteArray)=tx [b]:=rfl
theorem ye {l:List Int} (h:I64 l):(txL l).length<=22*l.length:=by
 induction l with
 |nil=>simp[txL]
 |cons n l ih=>
  have h1:=h n (by simp)
  have h2:=Lib.itoa_length_le n h1.1 h1.2
  have h3:=ih (fun x hx=>h x (by simp[hx]))
  rw[gV]
  simp only[List.length_append,List.length_cons]
  omega
theorem I64.take {l:List Int} (h:I64 l) (i:Nat):I64 (l.take i):=fun n hn=>h n (List.mem_of_mem_take hn)
theorem GK (l:List Int) (hl:l.length<=2 ^ 40) (h64:I64 l):PCall Tryd.prog 49 [.sl (il l)] (.str (tx (txL l))):=by
 refine pI Tryd.func49 jlj fun E Q hE hN hQ=>?_
 repeat'(first|apply nx|refine zx ?_|rw[zw]|refine zk ?_|refine zp ?_|(apply zA;exact zb)|((first|refine zR hE fun hg=>?_|refine zT hE fun hanc hg=>?_|refine zF hE fun hanc hg=>?_|refine zg (fun hg=>?_) fun hg=>?_)<;>simp only[go_sem,hg])|(refine zc (fun hc=>?_) (fun hc=>?_)<;>try exact zh hc))
 refine jB (X:=Nat) (fun i=>i<=l.length) (fun i=>jx [(3,.str (tx (txL (l.take i)))),(6,.sl (il l)),(7,.i l.length),(8,.i (i:Nat))] [] 0) (fun i=>l.length - i) 0 (Nat.zero_le _) (fun i=>i) ?_ ?_
 ·refine jc (by simp[go_sem,txL,tx]) (by simp[go_sem]) (by simp) (by simp[hN])
 intro i hi
 by_cases hlt:i<l.length
 ·obtain⟨n,hn⟩:=get?_of hlt
  have h1:=h64 n (List.mem_of_getElem? hn)
  have c0:=jhI n h1.1 h1.2
  have hln:=Lib.itoa_length_le n h1.1 h1.2
  have htl:=ye (h64.take i)
  have hti:(l.take i).length=i:=by rw[List.length_take];omega
  have hst:=jdT hn
  have u1:IntKind.i64.wrap ((i:Int)+1)=((i+1:Nat):Int):=by rw[wrap64 (by omega) (by omega)];omega
  repeat'(first|apply nx|refine zx ?_|rw[zw]|refine zk ?_|refine zp ?_|(apply zA;exact zb)|((first|refine zR hE fun hg=>?_|refine zT hE fun hanc hg=>?_|refine zF hE fun hanc hg=>?_|(apply zM;exact zu;exact c0;exact zs;exact zl;intro hg)|refine zg (fun hg=>?_) fun hg=>?_)<;>simp only[go_sem,ja hlt,hn,u1,uS,gW,hg])|(refine zc (fun hc=>?_) (fun hc=>?_)<;>try exact zh hc))
  refine⟨i+1,hlt,by omega,fun i=>i,?_⟩
  refine jc (by simp[go_sem,hst]) (by simp[go_sem]) (by simp) (by simp[hN])
 ·obtain rfl:i=l.length:=by omega
  rw[List.take_length]
  repeat'(first|apply nx|refine zx ?_|rw[zw]|refine zk ?_|refine zp ?_|(apply zA;exact zb)|((first|refine zR hE fun hg=>?_|refine zF hE fun hanc hg=>?_|refine zg (fun hg=>?_) fun hg=>?_)<;>simp only[go_sem,jE,hg])|(refine zc (fun hc=>?_) (fun hc=>?_)<;>try exact zh hc)|(refine je ?_;refine zt hQ ?_))
  simp[AV.snap]
@[go_sem] theorem jmq (n:Int) (l:List Int):j8 (AV.i n::il l)=True:=eq_true (qB (n::l))
theorem xX (l:List Int) (hl:l.length<=2 ^ 39) (h64:I64 l):PCall Tryd.prog 50 [.sl (il l)] (.str (tx (txL ((l.length:Int)::l)))):=by
 have c0:PCall Tryd.prog 49 [.sl (.i (l.length:Int)::il l)] (.str (tx (txL ((l.length:Int)::l)))):=GK ((l.length:Int)::l) (by simp;omega) (fun n hn=>by rcases List.mem_cons.1 hn with rfl|hn;omega;exact h64 n hn)
 have z1:SzOk (il l) 1=True:=eq_true fun x hx=>by obtain⟨p,_,rfl⟩:=List.mem_map.1 hx;rfl
 refine pI Tryd.func50 jlk fun E Q hE hN hQ=>?_
 repeat'(first|apply nx|refine zx ?_|rw[zw]|refine zk ?_|refine zp ?_|(apply zA;exact zb)|((first|refine zR hE fun hg=>?_|refine zF hE fun hanc hg=>?_|(apply zM;exact zu;exact c0;exact zs;exact zl;intro hg)|refine zg (fun hg=>?_) fun hg=>?_)<;>simp only[go_sem,z1,hg])|(refine zc (fun hc=>?_) (fun hc=>?_)<;>try exact zh hc)|(refine je ?_;refine zt hQ ?_))
 simp[AV.snap]
theorem yL {D:List Dd} {t:Ty} (h:Pl D t):1<=t.kind/\t.kind<=8:=by
 obtain⟨d,h⟩:=h
 cases t with
 |mk k i l=>
  simp only[Ty.kind]
  rw[plB] at h
  split at h
  ·cases h
  ·split at h
   ·omega
   ·split at h
    ·omega
    ·split at h
     ·omega
     ·cases h
theorem jf8 {D:List Dd} {t:Ty} (h:Pl D t) (hk:t.kind=2):0<=t.id/\t.id<(D.length:Int):=by
 obtain⟨x,h1,h2,_⟩:=yK h hk
 have:=(List.getElem?_eq_some_iff.1 h1).1
 omega
theorem X4 {D:List Dd} (hD:D.length<=2 ^ 30):∀ (N:Nat) (t:Ty),t.sz<=N->Pl D t->(kyT (ky t)).length<=24+t.sz
 |0,t,hs,_=>by rw[Ty.sz_eq] at hs;omega
 |N+1,t,hs,ht=>by
  have hsz:=Ty.sz_eq t
  by_cases h2:t.kind=2
  ·have hi:=jf8 ht h2
   have:=ye (l:=[t.id]) (fun n hn=>by simp at hn;subst hn;omega)
   rw[Gg h2,kyT]
   simp only[List.length_cons,List.length_nil] at this ⊢
   omega
  ·by_cases h3:t.kind=3
   ·obtain⟨a,e,ha⟩:=JS ht h3
    rw[e] at hsz
    simp only[Ty.szL] at hsz
    have ih:=X4 hD N a (by omega) ha
    rw[GD h3 e,kyT]
    simp only[List.length_cons]
    omega
   ·have hk:=yL ht
    have:=ye (l:=[t.kind]) (fun n hn=>by simp at hn;subst hn;omega)
    rw[YT h2 h3,kyT]
    simp only[List.length_cons,List.length_nil] at this ⊢
    omega
theorem X2 {D:List Dd} (hD:D.length<=2 ^ 30):∀ (N:Nat) (t:Ty),t.sz<=N->N<=2 ^ 40->Pl D t->PCall Tryd.prog 34 [t.av] (.str (tx (kyT (ky t))))
 |0,t,hs,_,_=>by rw[Ty.sz_eq] at hs;omega
 |N+1,t,hs,hN2,ht=>by
  have hsz:=Ty.sz_eq t
  have hk:=yL ht
  by_cases h2:t.kind=2
  ·have hi:=jf8 ht h2
   have h64:I64 [t.id]:=fun n hn=>by simp at hn;subst hn;omega
   have hln:=ye h64
   have c0:PCall Tryd.prog 49 [.sl [.i t.id]] (.str (tx (txL [t.id]))):=GK [t.id] (by simp) h64
   rw[Gg h2,kyT,Ty.av_eq]
   simp only[List.length_cons,List.length_nil] at hln
   have q2:(t.kind==2)=true:=by simp[h2]
   refine pI Tryd.func34 jcS fun E Q hE hN hQ=>?_
   repeat'(first|apply nx|refine zx ?_|rw[zw]|refine zk ?_|refine zp ?_|(apply zA;exact zb)|((first|refine zR hE fun hg=>?_|refine zF hE fun hanc hg=>?_|(apply zM;exact zu;exact c0;exact zs;exact zl;intro hg)|refine zg (fun hg=>?_) fun hg=>?_)<;>simp only[go_sem,q2,uS,gW,hg])|(refine zc (fun hc=>?_) (fun hc=>?_)<;>try exact zh hc)|(refine je ?_;refine zt hQ ?_))
   all_goals simp[AV.snap]
  ·have q2:(t.kind==2)=false:=by simp[h2]
   by_cases h3:t.kind=3
   ·obtain⟨a,e,ha⟩:=JS ht h3
    rw[e] at hsz
    simp only[Ty.szL] at hsz
    have ih:=X2 hD N a (by omega) (by omega) ha
    have hln:=X4 hD N a (by omega) ha
    rw[GD h3 e,kyT]
    rw[Ty.av_eq] at ih
    have q3:(t.kind==3)=true:=by simp[h3]
    have g0:Ty.avL [a]=[.agg [.i a.kind,.i a.id,.sl (Ty.avL a.args)]]:=by rw[Ty.avL,Ty.avL,Ty.av_eq]
    rw[Ty.av_eq,e,g0]
    refine pI Tryd.func34 jcS fun E Q hE hN hQ=>?_
    repeat'(first|apply nx|refine zx ?_|rw[zw]|refine zk ?_|refine zp ?_|(apply zA;exact zb)|((first|refine zR hE fun hg=>?_|refine zF hE fun hanc hg=>?_|(apply zM;exact zu;exact ih;exact zs;exact zl;intro hg)|refine zg (fun hg=>?_) fun hg=>?_)<;>simp only[go_sem,q2,q3,uS,gW,hg])|(refine zc (fun hc=>?_) (fun hc=>?_)<;>try exact zh hc)|(refine je ?_;refine zt hQ ?_))
    all_goals simp[AV.snap]
   ·have h64:I64 [t.kind]:=fun n hn=>by simp at hn;subst hn;omega
    have hln:=ye h64
    have c0:PCall Tryd.prog 49 [.sl [.i t.kind]] (.str (tx (txL [t.kind]))):=GK [t.kind] (by simp) h64
    have q3:(t.kind==3)=false:=by simp[h3]
    rw[YT h2 h3,kyT,Ty.av_eq]
    simp only[List.length_cons,List.length_nil] at hln
    refine pI Tryd.func34 jcS fun E Q hE hN hQ=>?_
    repeat'(first|apply nx|refine zx ?_|rw[zw]|refine zk ?_|refine zp ?_|(apply zA;exact zb)|((first|refine zR hE fun hg=>?_|refine zF hE fun hanc hg=>?_|(apply zM;exact zu;exact c0;exact zs;exact zl;intro hg)|refine zg (fun hg=>?_) fun hg=>?_)<;>simp only[go_sem,q2,q3,uS,gW,hg])|(refine zc (fun hc=>?_) (fun hc=>?_)<;>try exact zh hc)|(refine je ?_;refine zt hQ ?_))
    all_goals simp[AV.snap]
end Go.Proofs.YtfpcjabbcpgbjaaDoor

set_option maxHeartbeats 4000000
set_option maxRecDepth 100000
namespace Go.Gl
mutual
def ptT:Ty->Int->Int
 | .mk _ _ a,n=>ptL a (n - 1)
def ptL:List Ty->Int->Int
 | [],n=>n
 |t::l,n=>if 0<n then ptL l (ptT t n) else n
end
mutual
theorem jds:∀ (t:Ty) (n:Int),ptT t n<=n
 | .mk k i a,n=>by rw[ptT];have:=jdq a (n - 1);omega
theorem jdq:∀ (l:List Ty) (n:Int),ptL l n<=n
 | [],n=>by rw[ptL];exact Int.le_refl _
 |t::l,n=>by
  rw[ptL]
  split
  ·have h1:=jdq l (ptT t n);have h2:=jds t n;omega
  ·exact Int.le_refl _
end
mutual
theorem jdr:∀ (t:Ty) (n:Int),n - t.sz<=ptT t n
 | .mk k i a,n=>by rw[ptT,Ty.sz];have:=jdp a (n - 1);omega
theorem jdp:∀ (l:List Ty) (n:Int),n - Ty.szL l<=ptL l n
 | [],n=>by rw[ptL,Ty.szL];omega
 |t::l,n=>by
  rw[ptL,Ty.szL]
  split
  ·have h1:=jdp l (ptT t n);have h2:=jdr t n;omega
  ·omega
end
def Qs (D:List Dd) (l:List Ty):Prop:=D.length<=12/\l.length<=20/\(∀ t,t∈l->0<ptT t 10)/\∀ x,x∈D->x.vs.length<=6/\∀ v,v∈x.vs->v.fs.length<=6/\∀ f,f∈v.fs->0<ptT f 10
end Go.Gl
namespace Go.Proofs.YtfpcjabbcpgbjaaDoor
open Go.Am Go.Proofs Go.Hv Go.Gl
open Classical
attribute [local irreducible] AW jA CallB
theorem uG:∀ (N:Nat) (t:Ty) (n:Int),t.sz<=N->N<=2 ^ 40-> -(2 ^ 50)+(t.sz:Int)<=n->n<=2 ^ 50->PCall Tryd.prog 54 [t.av,.i n] (.i (ptT t n))
 |0,t,n,hs,_,_,_=>by rw[Ty.sz_eq] at hs;omega
 |N+1,.mk k i a,n,hs,hN2,hn1,hn2=>by
  rw[Ty.sz] at hs hn1
  rw[Ty.av_eq,ptT]
  simp only[Ty.kind,Ty.id,Ty.args]
  have u0:IntKind.i64.wrap (n - 1)=n - 1:=by rw[wrap64 (by omega) (by omega)]
  refine pI Tryd.func54 jln fun E Q hE hN hQ=>?_
  repeat'(first|apply nx|refine zx ?_|rw[zw]|refine zk ?_|refine zp ?_|(apply zA;exact zb)|((first|refine zR hE fun hg=>?_|refine zT hE fun hanc hg=>?_|refine zF hE fun hanc hg=>?_|refine zg (fun hg=>?_) fun hg=>?_)<;>simp only[go_sem,u0,hg])|(refine zc (fun hc=>?_) (fun hc=>?_)<;>try exact zh hc))
  refine jB (X:=Nat×Int) (fun x=>x.1<=a.length/\ptL a (n - 1)=ptL (a.drop x.1) x.2/\ -(2 ^ 50)+(Ty.szL (a.drop x.1):Int)<=x.2/\x.2<=2 ^ 50) (fun x=>jx [(1,.i x.2),(2,.ptr 0 0),(5,.i (x.1:Nat))] [(0,.cells [.i k,.i i,.sl (Ty.avL a)])] 1) (fun x=>a.length - x.1) (0,n - 1) ⟨Nat.zero_le _,rfl,by simp only[List.drop_zero];omega,by simp only;omega⟩ (fun i=>i) ?_ ?_
  ·refine jc (by simp[go_sem]) (by simp[go_sem]) (by simp) (by simp[hN])
  rintro⟨j,m⟩ ⟨hj,he,hm1,hm2⟩
  simp only at hj he hm1 hm2
  have u1:j<a.length->IntKind.i64.wrap ((j:Int)+1)=((j+1:Nat):Int):=fun h=>by
   have:=Ty.len_le a
   rw[wrap64 (by omega) (by omega)];omega
  by_cases hlt:j<a.length
  ·obtain⟨t,ht⟩:=get?_of hlt
   rw[jS ht,ptL] at he
   rw[jS ht,Ty.szL] at hm1
   have hts:=Ty.sz_mem (List.mem_of_getElem? ht)
   have u2:=u1 hlt
   by_cases hm:0<m
   ·rw[if_pos hm] at he
    have ih:=uG N t m (by omega) (by omega) (by omega) hm2
    rw[Ty.av_eq] at ih
    have q:decide (0<m)=true:=decide_eq_true hm
    have h1:=jds t m
    have h2:=jdr t m
    repeat'(first|apply nx|refine zx ?_|rw[zw]|refine zk ?_|refine zp ?_|(apply zA;exact zb)|((first|refine zR hE fun hg=>?_|refine zT hE fun hanc hg=>?_|refine zF hE fun hanc hg=>?_|(apply zM;exact zu;exact ih;exact zs;exact zl;intro hg)|refine zg (fun hg=>?_) fun hg=>?_)<;>simp only[go_sem,ja hlt,ht,Ty.av_eq,q,u2,hg])|(refine zc (fun hc=>?_) (fun hc=>?_)<;>try exact zh hc))
    refine⟨(j+1,ptT t m),⟨hlt,he,by simp only;omega,by simp only;omega⟩,by simp only;omega,fun i=>i,?_⟩
    refine jc (by simp[go_sem]) (by simp[go_sem]) (by simp) (by simp[hN])
   ·rw[if_neg hm] at he
    have q:decide (0<m)=false:=decide_eq_false hm
    rw[he] at hQ
    repeat'(first|apply nx|refine zx ?_|rw[zw]|refine zk ?_|refine zp ?_|(apply zA;exact zb)|((first|refine zR hE fun hg=>?_|refine zF hE fun hanc hg=>?_|refine zg (fun hg=>?_) fun hg=>?_)<;>simp only[go_sem,ja hlt,ht,q,hg])|(refine zc (fun hc=>?_) (fun hc=>?_)<;>try exact zh hc)|(refine je ?_;refine zt hQ ?_))
    simp[AV.snap]
  ·obtain rfl:j=a.length:=by omega
   rw[List.drop_length,ptL] at he
   rw[he] at hQ
   repeat'(first|apply nx|refine zx ?_|rw[zw]|refine zk ?_|refine zp ?_|(apply zA;exact zb)|((first|refine zR hE fun hg=>?_|refine zF hE fun hanc hg=>?_|refine zg (fun hg=>?_) fun hg=>?_)<;>simp only[go_sem,jE,hg])|(refine zc (fun hc=>?_) (fun hc=>?_)<;>try exact zh hc)|(refine je ?_;refine zt hQ ?_))
   simp[AV.snap]
theorem yX {α:Type} {P:α->Prop} {l:List α} {i:Nat} {x:α} (h:∀ y,y∈l.take i->P y) (hx:l[i]? =some x) (hp:P x):∀ y,y∈l.take (i+1)->P y:=by
 intro y hy
 rw[List.take_add_one,hx] at hy
 rcases List.mem_append.1 hy with hy|hy
 ·exact h y hy
 ·simp at hy;subst hy;exact hp
theorem JA {i n:Nat} (h:i<n) (hn:n<=2 ^ 40):IntKind.i64.wrap ((i:Int)+1)=((i+1:Nat):Int):=by rw[wrap64 (by omega) (by omega)];omega
theorem jdy {D:List Dd} (hD:DB D):PCall Tryd.prog 29 [.sl (ddl D)] (.bool (dtB D&&decide (D.length<=200))):=by
 have hl:=hD.l
 have hno:∀ (i j k:Nat) x v f,D[i]? =some x->x.vs[j]? =some v->v.fs[k]? =some f->plB D f 8=false->dtB D=false:=by
  intro i j k x v f hx hv hf h
  cases hd:dtB D
  ·rfl
  ·have h1:=List.all_eq_true.1 hd x (List.mem_of_getElem? hx)
   have h2:=List.all_eq_true.1 h1 v (List.mem_of_getElem? hv)
   have h3:=List.all_eq_true.1 h2 f (List.mem_of_getElem? hf)
   rw[h] at h3;cases h3
 refine pI Tryd.func29 jla fun E Q hE hN hQ=>?_
 repeat'(first|apply nx|refine zx ?_|rw[zw]|refine zk ?_|refine zp ?_|(apply zA;exact zb)|((first|refine zR hE fun hg=>?_|refine zT hE fun hanc hg=>?_|refine zF hE fun hanc hg=>?_|refine zg (fun hg=>?_) fun hg=>?_)<;>simp only[go_sem,hg])|(refine zc (fun hc=>?_) (fun hc=>?_)<;>try exact zh hc))
 refine jB (X:=Nat) (fun i=>i<=D.length/\∀ x,x∈D.take i->(x.vs.all fun v=>v.fs.all fun f=>plB D f 8)=true) (fun i=>jx [(0,.sl (ddl D)),(3,.i (i:Nat))] [] 0) (fun i=>D.length - i) 0 ⟨Nat.zero_le _,by simp⟩ (fun i=>i) ?_ ?_
 ·refine jc (by simp[go_sem]) (by simp[go_sem]) (by simp) (by simp[hN])
 rintro i ⟨hi,hok⟩
 by_cases hlt:i<D.length
 case neg=>
  obtain rfl:i=D.length:=by omega
  rw[List.take_length] at hok
  have e:dtB D=true:=List.all_eq_true.2 hok
  rw[e] at hQ
  repeat'(first|apply nx|refine zx ?_|rw[zw]|refine zk ?_|refine zp ?_|(apply zA;exact zb)|((first|refine zR hE fun hg=>?_|refine zF hE fun hanc hg=>?_|refine zg (fun hg=>?_) fun hg=>?_)<;>simp only[go_sem,jE,hg])|(refine zc (fun hc=>?_) (fun hc=>?_)<;>try exact zh hc)|(refine je ?_;refine zt hQ ?_))
  simp[AV.snap];omega
 obtain⟨x,hx⟩:=get?_of hlt
 have hvl:=hD.v x (List.mem_of_getElem? hx)
 have u1:=JA hlt (by omega)
 repeat'(first|apply nx|refine zx ?_|rw[zw]|refine zk ?_|refine zp ?_|(apply zA;exact zb)|((first|refine zR hE fun hg=>?_|refine zT hE fun hanc hg=>?_|refine zF hE fun hanc hg=>?_|refine zg (fun hg=>?_) fun hg=>?_)<;>simp only[go_sem,ja hlt,hg])|(refine zc (fun hc=>?_) (fun hc=>?_)<;>try exact zh hc))
 refine jB (X:=Nat) (fun j=>j<=x.vs.length/\∀ v,v∈x.vs.take j->(v.fs.all fun f=>plB D f 8)=true) (fun j=>jx [(0,.sl (ddl D)),(3,.i (i:Nat)),(4,.i (j:Nat))] [] 0) (fun j=>x.vs.length - j) 0 ⟨Nat.zero_le _,by simp⟩ (fun i=>i) ?_ ?_
 ·refine jc (by simp[go_sem]) (by simp[go_sem]) (by simp) (by simp[hN])
 rintro j ⟨hj,hok2⟩
 by_cases hjt:j<x.vs.length
 case neg=>
  obtain rfl:j=x.vs.length:=by omega
  rw[List.take_length] at hok2
  repeat'(first|apply nx|refine zx ?_|rw[zw]|refine zk ?_|refine zp ?_|(apply zA;exact zb)|((first|refine zR hE fun hg=>?_|refine zT hE fun hanc hg=>?_|refine zF hE fun hanc hg=>?_|refine zg (fun hg=>?_) fun hg=>?_)<;>simp only[go_sem,ja hlt,hx,Dd.av_eq,jE,u1,hg])|(refine zc (fun hc=>?_) (fun hc=>?_)<;>try exact zh hc))
  refine⟨i+1,⟨hlt,yX hok hx (List.all_eq_true.2 hok2)⟩,by omega,fun i=>i,?_⟩
  refine jc (by simp[go_sem]) (by simp[go_sem]) (by simp) (by simp[hN])
 obtain⟨v,hv⟩:=get?_of hjt
 have hfl:=hD.f x (List.mem_of_getElem? hx) v (List.mem_of_getElem? hv)
 have u2:=JA hjt (by omega)
 repeat'(first|apply nx|refine zx ?_|rw[zw]|refine zk ?_|refine zp ?_|(apply zA;exact zb)|((first|refine zR hE fun hg=>?_|refine zT hE fun hanc hg=>?_|refine zF hE fun hanc hg=>?_|refine zg (fun hg=>?_) fun hg=>?_)<;>simp only[go_sem,ja hlt,hx,Dd.av_eq,ja hjt,hg])|(refine zc (fun hc=>?_) (fun hc=>?_)<;>try exact zh hc))
 refine jB (X:=Nat) (fun k=>k<=v.fs.length/\∀ f,f∈v.fs.take k->plB D f 8=true) (fun k=>jx [(0,.sl (ddl D)),(3,.i (i:Nat)),(4,.i (j:Nat)),(5,.i (k:Nat))] [] 0) (fun k=>v.fs.length - k) 0 ⟨Nat.zero_le _,by simp⟩ (fun i=>i) ?_ ?_
 ·refine jc (by simp[go_sem]) (by simp[go_sem]) (by simp) (by simp[hN])
 rintro k ⟨hk,hok3⟩
 by_cases hkt:k<v.fs.length
 case neg=>
  obtain rfl:k=v.fs.length:=by omega
  rw[List.take_length] at hok3
  repeat'(first|apply nx|refine zx ?_|rw[zw]|refine zk ?_|refine zp ?_|(apply zA;exact zb)|((first|refine zR hE fun hg=>?_|refine zT hE fun hanc hg=>?_|refine zF hE fun hanc hg=>?_|refine zg (fun hg=>?_) fun hg=>?_)<;>simp only[go_sem,ja hlt,hx,Dd.av_eq,ja hjt,hv,Dv.av_eq,jE,u2,hg])|(refine zc (fun hc=>?_) (fun hc=>?_)<;>try exact zh hc))
  refine⟨j+1,⟨hjt,yX hok2 hv (List.all_eq_true.2 hok3)⟩,by omega,fun i=>i,?_⟩
  refine jc (by simp[go_sem]) (by simp[go_sem]) (by simp) (by simp[hN])
 obtain⟨f,hf⟩:=get?_of hkt
 have hfs:=hD.s x (List.mem_of_getElem? hx) v (List.mem_of_getElem? hv) f (List.mem_of_getElem? hf)
 have u3:=JA hkt (by omega)
 have c0:=oC (2 ^ 30) f D 8 hfs (by omega) (by decide) (by decide)
 rw[Ty.av_eq] at c0
 cases hp:plB D f 8
 ·rw[hp] at c0
  rw[hno i j k x v f hx hv hf hp] at hQ
  repeat'(first|apply nx|refine zx ?_|rw[zw]|refine zk ?_|refine zp ?_|(apply zA;exact zb)|((first|refine zR hE fun hg=>?_|refine zF hE fun hanc hg=>?_|(apply zM;exact zu;exact c0;exact zs;exact zl;intro hg)|refine zg (fun hg=>?_) fun hg=>?_)<;>simp only[go_sem,ja hlt,hx,Dd.av_eq,ja hjt,hv,Dv.av_eq,ja hkt,hf,Ty.av_eq,hg])|(refine zc (fun hc=>?_) (fun hc=>?_)<;>try exact zh hc)|(refine je ?_;refine zt hQ ?_))
  simp[AV.snap]
 ·rw[hp] at c0
  repeat'(first|apply nx|refine zx ?_|rw[zw]|refine zk ?_|refine zp ?_|(apply zA;exact zb)|((first|refine zR hE fun hg=>?_|refine zT hE fun hanc hg=>?_|refine zF hE fun hanc hg=>?_|(apply zM;exact zu;exact c0;exact zs;exact zl;intro hg)|refine zg (fun hg=>?_) fun hg=>?_)<;>simp only[go_sem,ja hlt,hx,Dd.av_eq,ja hjt,hv,Dv.av_eq,ja hkt,hf,Ty.av_eq,u3,hg])|(refine zc (fun hc=>?_) (fun hc=>?_)<;>try exact zh hc))
  refine⟨k+1,⟨hkt,yX hok3 hf hp⟩,by omega,fun i=>i,?_⟩
  refine jc (by simp[go_sem]) (by simp[go_sem]) (by simp) (by simp[hN])
theorem jgP {D:List Dd} {l:List Ty} (hD:DB D) (hl:l.length<=2 ^ 30) (hls:∀ t,t∈l->t.sz<=2 ^ 30):PCall Tryd.prog 28 [.sl (ddl D),.sl (Ty.avL l)] (.bool (decide (Qs D l))):=by
 have hDl:=hD.l
 by_cases h1:D.length<=12
 case neg=>
  have hn:¬ Qs D l:=fun h=>h1 h.1
  have q1:decide ((12:Int)<(D.length:Int))=true:=decide_eq_true (by omega)
  rw[decide_eq_false hn]
  refine pI Tryd.func28 jcR fun E Q hE hN hQ=>?_
  repeat'(first|apply nx|refine zx ?_|rw[zw]|refine zk ?_|refine zp ?_|(apply zA;exact zb)|((first|refine zR hE fun hg=>?_|refine zF hE fun hanc hg=>?_|refine zg (fun hg=>?_) fun hg=>?_)<;>simp only[go_sem,q1,hg])|(refine zc (fun hc=>?_) (fun hc=>?_)<;>try exact zh hc)|(refine je ?_;refine zt hQ ?_))
  simp[AV.snap]
 have q1:decide ((12:Int)<(D.length:Int))=false:=decide_eq_false (by omega)
 by_cases h2:l.length<=20
 case neg=>
  have hn:¬ Qs D l:=fun h=>h2 h.2.1
  have q2:decide ((20:Int)<(l.length:Int))=true:=decide_eq_true (by omega)
  rw[decide_eq_false hn]
  refine pI Tryd.func28 jcR fun E Q hE hN hQ=>?_
  repeat'(first|apply nx|refine zx ?_|rw[zw]|refine zk ?_|refine zp ?_|(apply zA;exact zb)|((first|refine zR hE fun hg=>?_|refine zF hE fun hanc hg=>?_|refine zg (fun hg=>?_) fun hg=>?_)<;>simp only[go_sem,q1,q2,hg])|(refine zc (fun hc=>?_) (fun hc=>?_)<;>try exact zh hc)|(refine je ?_;refine zt hQ ?_))
  simp[AV.snap]
 have q2:decide ((20:Int)<(l.length:Int))=false:=decide_eq_false (by omega)
 refine pI Tryd.func28 jcR fun E Q hE hN hQ=>?_
 repeat'(first|apply nx|refine zx ?_|rw[zw]|refine zk ?_|refine zp ?_|(apply zA;exact zb)|((first|refine zR hE fun hg=>?_|refine zT hE fun hanc hg=>?_|refine zF hE fun hanc hg=>?_|refine zg (fun hg=>?_) fun hg=>?_)<;>simp only[go_sem,q1,q2,hg])|(refine zc (fun hc=>?_) (fun hc=>?_)<;>try exact zh hc))
 refine jB (X:=Nat) (fun i=>i<=l.length/\∀ t,t∈l.take i->0<ptT t 10) (fun i=>jx [(0,.sl (ddl D)),(1,.sl (Ty.avL l)),(5,.i (i:Nat))] [] 0) (fun i=>l.length - i) 0 ⟨Nat.zero_le _,by simp⟩ (fun i=>i) ?_ ?_
 ·refine jc (by simp[go_sem]) (by simp[go_sem]) (by simp) (by simp[hN])
 rintro i ⟨hi,hok⟩
 by_cases hlt:i<l.length
 ·obtain⟨t,ht⟩:=get?_of hlt
  have hts:=hls t (List.mem_of_getElem? ht)
  have c0:=uG (2 ^ 30) t 10 hts (by decide) (by omega) (by decide)
  rw[Ty.av_eq] at c0
  have u1:=JA hlt (by omega)
  by_cases hp:0<ptT t 10
  ·have q3:decide (ptT t 10<=0)=false:=decide_eq_false (by omega)
   repeat'(first|apply nx|refine zx ?_|rw[zw]|refine zk ?_|refine zp ?_|(apply zA;exact zb)|((first|refine zR hE fun hg=>?_|refine zT hE fun hanc hg=>?_|refine zF hE fun hanc hg=>?_|(apply zM;exact zu;exact c0;exact zs;exact zl;intro hg)|refine zg (fun hg=>?_) fun hg=>?_)<;>simp only[go_sem,ja hlt,ht,Ty.av_eq,q3,u1,hg])|(refine zc (fun hc=>?_) (fun hc=>?_)<;>try exact zh hc))
   refine⟨i+1,⟨hlt,yX hok ht hp⟩,by omega,fun i=>i,?_⟩
   refine jc (by simp[go_sem]) (by simp[go_sem]) (by simp) (by simp[hN])
  ·have q3:decide (ptT t 10<=0)=true:=decide_eq_true (by omega)
   have hn:¬ Qs D l:=fun h=>hp (h.2.2.1 t (List.mem_of_getElem? ht))
   rw[decide_eq_false hn] at hQ
   repeat'(first|apply nx|refine zx ?_|rw[zw]|refine zk ?_|refine zp ?_|(apply zA;exact zb)|((first|refine zR hE fun hg=>?_|refine zF hE fun hanc hg=>?_|(apply zM;exact zu;exact c0;exact zs;exact zl;intro hg)|refine zg (fun hg=>?_) fun hg=>?_)<;>simp only[go_sem,ja hlt,ht,Ty.av_eq,q3,hg])|(refine zc (fun hc=>?_) (fun hc=>?_)<;>try exact zh hc)|(refine je ?_;refine zt hQ ?_))
   simp[AV.snap]
 obtain rfl:i=l.length:=by omega
 rw[List.take_length] at hok
 repeat'(first|apply nx|refine zx ?_|rw[zw]|refine zk ?_|refine zp ?_|(apply zA;exact zb)|((first|refine zR hE fun hg=>?_|refine zT hE fun hanc hg=>?_|refine zF hE fun hanc hg=>?_|refine zg (fun hg=>?_) fun hg=>?_)<;>simp only[go_sem,jE,hg])|(refine zc (fun hc=>?_) (fun hc=>?_)<;>try exact zh hc))
 refine jB (X:=Nat) (fun i=>i<=D.length/\∀ x,x∈D.take i->x.vs.length<=6/\∀ v,v∈x.vs->v.fs.length<=6/\∀ f,f∈v.fs->0<ptT f 10) (fun i=>jx [(0,.sl (ddl D)),(6,.i (i:Nat))] [] 0) (fun i=>D.length - i) 0 ⟨Nat.zero_le _,by simp⟩ (fun i=>i) ?_ ?_
 ·refine jc (by simp[go_sem]) (by simp[go_sem]) (by simp) (by simp[hN])
 rintro i ⟨hi,hokD⟩
 by_cases hlt:i<D.length
 case neg=>
  obtain rfl:i=D.length:=by omega
  rw[List.take_length] at hokD
  rw[decide_eq_true (show Qs D l from⟨h1,h2,hok,hokD⟩)] at hQ
  repeat'(first|apply nx|refine zx ?_|rw[zw]|refine zk ?_|refine zp ?_|(apply zA;exact zb)|((first|refine zR hE fun hg=>?_|refine zF hE fun hanc hg=>?_|refine zg (fun hg=>?_) fun hg=>?_)<;>simp only[go_sem,jE,hg])|(refine zc (fun hc=>?_) (fun hc=>?_)<;>try exact zh hc)|(refine je ?_;refine zt hQ ?_))
  simp[AV.snap]
 obtain⟨x,hx⟩:=get?_of hlt
 have hvl:=hD.v x (List.mem_of_getElem? hx)
 have u1:=JA hlt (by omega)
 by_cases h3:x.vs.length<=6
 case neg=>
  have q3:decide ((6:Int)<(x.vs.length:Int))=true:=decide_eq_true (by omega)
  have hn:¬ Qs D l:=fun h=>h3 (h.2.2.2 x (List.mem_of_getElem? hx)).1
  rw[decide_eq_false hn] at hQ
  repeat'(first|apply nx|refine zx ?_|rw[zw]|refine zk ?_|refine zp ?_|(apply zA;exact zb)|((first|refine zR hE fun hg=>?_|refine zF hE fun hanc hg=>?_|refine zg (fun hg=>?_) fun hg=>?_)<;>simp only[go_sem,ja hlt,hx,Dd.av_eq,q3,hg])|(refine zc (fun hc=>?_) (fun hc=>?_)<;>try exact zh hc)|(refine je ?_;refine zt hQ ?_))
  simp[AV.snap]
 have q3:decide ((6:Int)<(x.vs.length:Int))=false:=decide_eq_false (by omega)
 repeat'(first|apply nx|refine zx ?_|rw[zw]|refine zk ?_|refine zp ?_|(apply zA;exact zb)|((first|refine zR hE fun hg=>?_|refine zT hE fun hanc hg=>?_|refine zF hE fun hanc hg=>?_|refine zg (fun hg=>?_) fun hg=>?_)<;>simp only[go_sem,ja hlt,hx,Dd.av_eq,q3,hg])|(refine zc (fun hc=>?_) (fun hc=>?_)<;>try exact zh hc))
 refine jB (X:=Nat) (fun j=>j<=x.vs.length/\∀ v,v∈x.vs.take j->v.fs.length<=6/\∀ f,f∈v.fs->0<ptT f 10) (fun j=>jx [(0,.sl (ddl D)),(6,.i (i:Nat)),(7,.i (j:Nat))] [] 0) (fun j=>x.vs.length - j) 0 ⟨Nat.zero_le _,by simp⟩ (fun i=>i) ?_ ?_
 ·refine jc (by simp[go_sem]) (by simp[go_sem]) (by simp) (by simp[hN])
 rintro j ⟨hj,hokV⟩
 by_cases hjt:j<x.vs.length
 case neg=>
  obtain rfl:j=x.vs.length:=by omega
  rw[List.take_length] at hokV
  repeat'(first|apply nx|refine zx ?_|rw[zw]|refine zk ?_|refine zp ?_|(apply zA;exact zb)|((first|refine zR hE fun hg=>?_|refine zT hE fun hanc hg=>?_|refine zF hE fun hanc hg=>?_|refine zg (fun hg=>?_) fun hg=>?_)<;>simp only[go_sem,ja hlt,hx,Dd.av_eq,jE,u1,hg])|(refine zc (fun hc=>?_) (fun hc=>?_)<;>try exact zh hc))
  refine⟨i+1,⟨hlt,yX hokD hx ⟨h3,hokV⟩⟩,by omega,fun i=>i,?_⟩
  refine jc (by simp[go_sem]) (by simp[go_sem]) (by simp) (by simp[hN])
 obtain⟨v,hv⟩:=get?_of hjt
 have hfl:=hD.f x (List.mem_of_getElem? hx) v (List.mem_of_getElem? hv)
 have u2:=JA hjt (by omega)
 by_cases h4:v.fs.length<=6
 case neg=>
  have q4:decide ((6:Int)<(v.fs.length:Int))=true:=decide_eq_true (by omega)
  have hn:¬ Qs D l:=fun h=>h4 ((h.2.2.2 x (List.mem_of_getElem? hx)).2 v (List.mem_of_getElem? hv)).1
  rw[decide_eq_false hn] at hQ
  repeat'(first|apply nx|refine zx ?_|rw[zw]|refine zk ?_|refine zp ?_|(apply zA;exact zb)|((first|refine zR hE fun hg=>?_|refine zF hE fun hanc hg=>?_|refine zg (fun hg=>?_) fun hg=>?_)<;>simp only[go_sem,ja hlt,hx,Dd.av_eq,ja hjt,hv,Dv.av_eq,q4,hg])|(refine zc (fun hc=>?_) (fun hc=>?_)<;>try exact zh hc)|(refine je ?_;refine zt hQ ?_))
  simp[AV.snap]
 have q4:decide ((6:Int)<(v.fs.length:Int))=false:=decide_eq_false (by omega)
 repeat'(first|apply nx|refine zx ?_|rw[zw]|refine zk ?_|refine zp ?_|(apply zA;exact zb)|((first|refine zR hE fun hg=>?_|refine zT hE fun hanc hg=>?_|refine zF hE fun hanc hg=>?_|refine zg (fun hg=>?_) fun hg=>?_)<;>simp only[go_sem,ja hlt,hx,Dd.av_eq,ja hjt,hv,Dv.av_eq,q4,hg])|(refine zc (fun hc=>?_) (fun hc=>?_)<;>try exact zh hc))
 refine jB (X:=Nat) (fun k=>k<=v.fs.length/\∀ f,f∈v.fs.take k->0<ptT f 10) (fun k=>jx [(0,.sl (ddl D)),(6,.i (i:Nat)),(7,.i (j:Nat)),(8,.i (k:Nat))] [] 0) (fun k=>v.fs.length - k) 0 ⟨Nat.zero_le _,by simp⟩ (fun i=>i) ?_ ?_
 ·refine jc (by simp[go_sem]) (by simp[go_sem]) (by simp) (by simp[hN])
 rintro k ⟨hk,hokF⟩
 by_cases hkt:k<v.fs.length
 case neg=>
  obtain rfl:k=v.fs.length:=by omega
  rw[List.take_length] at hokF
  repeat'(first|apply nx|refine zx ?_|rw[zw]|refine zk ?_|refine zp ?_|(apply zA;exact zb)|((first|refine zR hE fun hg=>?_|refine zT hE fun hanc hg=>?_|refine zF hE fun hanc hg=>?_|refine zg (fun hg=>?_) fun hg=>?_)<;>simp only[go_sem,ja hlt,hx,Dd.av_eq,ja hjt,hv,Dv.av_eq,jE,u2,hg])|(refine zc (fun hc=>?_) (fun hc=>?_)<;>try exact zh hc))
  refine⟨j+1,⟨hjt,yX hokV hv ⟨h4,hokF⟩⟩,by omega,fun i=>i,?_⟩
  refine jc (by simp[go_sem]) (by simp[go_sem]) (by simp) (by simp[hN])
 obtain⟨f,hff⟩:=get?_of hkt
 have hfs:=hD.s x (List.mem_of_getElem? hx) v (List.mem_of_getElem? hv) f (List.mem_of_getElem? hff)
 have u3:=JA hkt (by omega)
 have c0:=uG (2 ^ 30) f 10 hfs (by decide) (by omega) (by decide)
 rw[Ty.av_eq] at c0
 by_cases hp:0<ptT f 10
 ·have q5:decide (ptT f 10<=0)=false:=decide_eq_false (by omega)
  repeat'(first|apply nx|refine zx ?_|rw[zw]|refine zk ?_|refine zp ?_|(apply zA;exact zb)|((first|refine zR hE fun hg=>?_|refine zT hE fun hanc hg=>?_|refine zF hE fun hanc hg=>?_|(apply zM;exact zu;exact c0;exact zs;exact zl;intro hg)|refine zg (fun hg=>?_) fun hg=>?_)<;>simp only[go_sem,ja hlt,hx,Dd.av_eq,ja hjt,hv,Dv.av_eq,ja hkt,hff,Ty.av_eq,q5,u3,hg])|(refine zc (fun hc=>?_) (fun hc=>?_)<;>try exact zh hc))
  refine⟨k+1,⟨hkt,yX hokF hff hp⟩,by omega,fun i=>i,?_⟩
  refine jc (by simp[go_sem]) (by simp[go_sem]) (by simp) (by simp[hN])
 ·have q5:decide (ptT f 10<=0)=true:=decide_eq_true (by omega)
  have hn:¬ Qs D l:=fun h=>hp (((h.2.2.2 x (List.mem_of_getElem? hx)).2 v (List.mem_of_getElem? hv)).2 f (List.mem_of_getElem? hff))
  rw[decide_eq_false hn] at hQ
  repeat'(first|apply nx|refine zx ?_|rw[zw]|refine zk ?_|refine zp ?_|(apply zA;exact zb)|((first|refine zR hE fun hg=>?_|refine zF hE fun hanc hg=>?_|(apply zM;exact zu;exact c0;exact zs;exact zl;intro hg)|refine zg (fun hg=>?_) fun hg=>?_)<;>simp only[go_sem,ja hlt,hx,Dd.av_eq,ja hjt,hv,Dv.av_eq,ja hkt,hff,Ty.av_eq,q5,hg])|(refine zc (fun hc=>?_) (fun hc=>?_)<;>try exact zh hc)|(refine je ?_;refine zt hQ ?_))
  simp[AV.snap]
def qO (D:List Dd) (l:List Ty):Prop:=(∀ t,t∈l->plB D t 8=true)/\Qs D l/\dtB D=true/\D.length<=200
theorem jdn {D:List Dd} {l:List Ty} (hD:DB D) (hl:l.length<=2 ^ 30) (hls:∀ t,t∈l->t.sz<=2 ^ 30):PCall Tryd.prog 8 [.sl (ddl D),.sl (Ty.avL l)] (.bool (decide (qO D l))):=by
 have hDl:=hD.l
 have c1:=jgP hD hl hls
 have c2:=jdy hD
 refine pI Tryd.func8 jof fun E Q hE hN hQ=>?_
 repeat'(first|apply nx|refine zx ?_|rw[zw]|refine zk ?_|refine zp ?_|(apply zA;exact zb)|((first|refine zR hE fun hg=>?_|refine zT hE fun hanc hg=>?_|refine zF hE fun hanc hg=>?_|refine zg (fun hg=>?_) fun hg=>?_)<;>simp only[go_sem,hg])|(refine zc (fun hc=>?_) (fun hc=>?_)<;>try exact zh hc))
 refine jB (X:=Nat) (fun i=>i<=l.length/\∀ t,t∈l.take i->plB D t 8=true) (fun i=>jx [(0,.sl (ddl D)),(1,.sl (Ty.avL l)),(5,.i (i:Nat))] [] 0) (fun i=>l.length - i) 0 ⟨Nat.zero_le _,by simp⟩ (fun i=>i) ?_ ?_
 ·refine jc (by simp[go_sem]) (by simp[go_sem]) (by simp) (by simp[hN])
 rintro i ⟨hi,hok⟩
 by_cases hlt:i<l.length
 ·obtain⟨t,ht⟩:=get?_of hlt
  have hts:=hls t (List.mem_of_getElem? ht)
  have c0:=oC (2 ^ 30) t D 8 hts (by omega) (by decide) (by decide)
  rw[Ty.av_eq] at c0
  have u1:=JA hlt (by omega)
  cases hp:plB D t 8
  ·rw[hp] at c0
   have hn:¬ qO D l:=fun h=>by have:=h.1 t (List.mem_of_getElem? ht);rw[hp] at this;cases this
   rw[decide_eq_false hn] at hQ
   repeat'(first|apply nx|refine zx ?_|rw[zw]|refine zk ?_|refine zp ?_|(apply zA;exact zb)|((first|refine zR hE fun hg=>?_|refine zF hE fun hanc hg=>?_|(apply zM;exact zu;exact c0;exact zs;exact zl;intro hg)|refine zg (fun hg=>?_) fun hg=>?_)<;>simp only[go_sem,ja hlt,ht,Ty.av_eq,hg])|(refine zc (fun hc=>?_) (fun hc=>?_)<;>try exact zh hc)|(refine je ?_;refine zt hQ ?_))
   simp[AV.snap]
  ·rw[hp] at c0
   repeat'(first|apply nx|refine zx ?_|rw[zw]|refine zk ?_|refine zp ?_|(apply zA;exact zb)|((first|refine zR hE fun hg=>?_|refine zT hE fun hanc hg=>?_|refine zF hE fun hanc hg=>?_|(apply zM;exact zu;exact c0;exact zs;exact zl;intro hg)|refine zg (fun hg=>?_) fun hg=>?_)<;>simp only[go_sem,ja hlt,ht,Ty.av_eq,u1,hg])|(refine zc (fun hc=>?_) (fun hc=>?_)<;>try exact zh hc))
   refine⟨i+1,⟨hlt,yX hok ht hp⟩,by omega,fun i=>i,?_⟩
   refine jc (by simp[go_sem]) (by simp[go_sem]) (by simp) (by simp[hN])
 obtain rfl:i=l.length:=by omega
 rw[List.take_length] at hok
 have e:decide (qO D l)=(decide (Qs D l)&&(dtB D&&decide (D.length<=200))):=by
  by_cases hA:Qs D l/\dtB D=true/\D.length<=200
  ·rw[decide_eq_true (show qO D l from⟨hok,hA⟩),decide_eq_true hA.1,hA.2.1,decide_eq_true hA.2.2];rfl
  ·rw[decide_eq_false (show ¬ qO D l from fun h=>hA h.2)]
   refine(Bool.eq_false_iff.2 fun hh=>hA ?_).symm
   simp only[Bool.and_eq_true,decide_eq_true_eq] at hh
   exact hh
 rw[e] at hQ
 generalize (dtB D&&decide (D.length<=200))=b2 at*
 generalize decide (Qs D l)=b1 at*
 cases b1
 ·repeat'(first|apply nx|refine zx ?_|rw[zw]|refine zk ?_|refine zp ?_|(apply zA;exact zb)|((first|refine zR hE fun hg=>?_|refine zF hE fun hanc hg=>?_|(apply zM;exact zu;(first|exact c1|exact c2);exact zs;exact zl;intro hg)|refine zg (fun hg=>?_) fun hg=>?_)<;>simp only[go_sem,jE,hg])|(refine zc (fun hc=>?_) (fun hc=>?_)<;>try exact zh hc)|(refine je ?_;refine zt hQ ?_))
  simp[AV.snap]
 ·repeat'(first|apply nx|refine zx ?_|rw[zw]|refine zk ?_|refine zp ?_|(apply zA;exact zb)|((first|refine zR hE fun hg=>?_|refine zF hE fun hanc hg=>?_|(apply zM;exact zu;(first|exact c1|exact c2);exact zs;exact zl;intro hg)|refine zg (fun hg=>?_) fun hg=>?_)<;>simp only[go_sem,jE,hg])|(refine zc (fun hc=>?_) (fun hc=>?_)<;>try exact zh hc)|(refine je ?_;refine zt hQ ?_))
  simp[AV.snap]
end Go.Proofs.YtfpcjabbcpgbjaaDoor

namespace Go.Am
def MapS (es:List (AV×AV)) (F:ByteArray->Option AV):Prop:=∀ n,jT n es=some (F n)
theorem MapS.nil:MapS [] fun _=>none:=fun n=>by rw[jT]
theorem Ou {n m:ByteArray} {x:AV} :∀ {es:List (AV×AV)},jT n es=some none->jT m (es++[(.str n,x)])=if m=n then some (some x) else jT m es
 | [],_=>by
  rw[List.nil_append,jT,jT]
  by_cases hm:m=n
  ·rw[if_pos hm,if_pos hm]
  ·rw[if_neg hm,if_neg hm,jT]
 |(y,z)::es,h=>by
  cases y<;>simp only[jT] at h<;>try(cases h;done)
  rename_i n'
  simp only[List.cons_append,jT]
  split at h
  ·cases h
  ·rename_i hn
   rw[Ou h]
   by_cases hm:m=n'
   ·rw[if_pos hm,if_pos hm,if_neg (fun e=>hn (e.symm.trans hm))]
   ·rw[if_neg hm,if_neg hm]
theorem Ov {n m:ByteArray} {x:AV} :∀ {es:List (AV×AV)} {y:AV},jT n es=some (some y)->jT m (qV n x es)=if m=n then some (some x) else jT m es
 | [],_,h=>by cases h
 |(z,v)::es,y,h=>by
  cases z<;>simp only[jT] at h<;>try(cases h;done)
  rename_i n'
  simp only[qV]
  split at h
  ·rename_i hn
   subst hn
   rw[if_pos rfl]
   simp only[jT]
   by_cases hm:m=n<;>simp[hm]
  ·rename_i hn
   rw[if_neg hn]
   simp only[jT]
   rw[Ov h]
   by_cases hm:m=n'
   ·rw[if_pos hm,if_pos hm,if_neg (fun e=>hn (e.symm.trans hm))]
   ·rw[if_neg hm,if_neg hm]
theorem MapS.put {es:List (AV×AV)} {F:ByteArray->Option AV} (h:MapS es F) (n:ByteArray) (x:AV):MapS (putT n x es (F n)) fun m=>if m=n then some x else F m:=by
 intro m
 have hn:=h n
 cases hF:F n with
 |none=>
  rw[hF] at hn
  rw[putT,Ou hn,h m]
  by_cases hm:m=n<;>simp[hm]
 |some y=>
  rw[hF] at hn
  rw[putT,Ov hn,h m]
  by_cases hm:m=n<;>simp[hm]
theorem EsClo.putT {es:List (AV×AV)} (h:EsClo es) (n:ByteArray) {x:AV} (hx:x.clo=true) (r:Option AV):EsClo (putT n x es r):=by
 cases r with
 |none=>
  intro p hp
  rcases List.mem_append.1 hp with hp|hp
  ·exact h p hp
  ·rw[List.mem_singleton.1 hp];exact⟨rfl,hx⟩
 |some y=>
  show EsClo (qV n x es)
  clear y
  induction es with
  |nil=>exact h
  |cons q es ih=>
   have h1:=h q (by simp)
   have h2:=ih fun p hp=>h p (List.mem_cons_of_mem _ hp)
   obtain⟨z,v⟩:=q
   intro p hp
   unfold qV at hp
   split at hp
   ·cases hp
   ·rename_i heq
    cases heq
    split at hp
    ·rcases List.mem_cons.1 hp with rfl|hp
     ·exact⟨rfl,hx⟩
     ·exact h p (List.mem_cons_of_mem _ hp)
    ·rcases List.mem_cons.1 hp with rfl|hp
     ·exact h1
     ·exact h2 p hp
   ·rename_i heq
    cases heq
    rcases List.mem_cons.1 hp with rfl|hp
    ·exact h1
    ·exact h2 p hp
def EsZ (es:List (AV×AV)):Prop:=∀ p,p∈es->p.1.zf=true/\p.2.zf=true
theorem EsZ.nil:EsZ []:=fun _ h=>(by cases h)
theorem EsZ.putT {es:List (AV×AV)} (h:EsZ es) (n:ByteArray) {x:AV} (hx:x.zf=true) (r:Option AV):EsZ (putT n x es r):=by
 cases r with
 |none=>
  intro p hp
  rcases List.mem_append.1 hp with hp|hp
  ·exact h p hp
  ·rw[List.mem_singleton.1 hp];exact⟨rfl,hx⟩
 |some y=>
  show EsZ (qV n x es)
  clear y
  induction es with
  |nil=>exact h
  |cons q es ih=>
   have h1:=h q (by simp)
   have h2:=ih fun p hp=>h p (List.mem_cons_of_mem _ hp)
   obtain⟨z,v⟩:=q
   intro p hp
   unfold qV at hp
   split at hp
   ·cases hp
   ·rename_i heq
    cases heq
    split at hp
    ·rcases List.mem_cons.1 hp with rfl|hp
     ·exact⟨rfl,hx⟩
     ·exact h p (List.mem_cons_of_mem _ hp)
    ·rcases List.mem_cons.1 hp with rfl|hp
     ·exact h1
     ·exact h2 p hp
   ·rename_i heq
    cases heq
    rcases List.mem_cons.1 hp with rfl|hp
    ·exact h1
    ·exact h2 p hp
theorem EsClo.ids {es:List (AV×AV)} (h:EsClo es) (p:Nat->Prop):∀ q,q∈es->q.1.ids p/\q.2.ids p:=fun q hq=>⟨j5 (h q hq).1,j5 (h q hq).2⟩
theorem EsClo.ids2 {es:List (AV×AV)} (h:EsClo es) (p:Nat->Prop):∀ a b,(a,b)∈es->a.ids p/\b.ids p:=fun a b hq=>h.ids p (a,b) hq
end Go.Am
namespace Go.Am
open Go
variable {P:Program}
def MCallR {X:Type} (P:Program) (f:FuncId) (vs:List AV) (ob:X->Nat->Option AObj) (n np:Nat) (x:X) (r:AV) (G:X->Prop):Prop:=
 r.clo=true/\ACall P f vs (ob x) n np (fun r' hp'=>r'=r/\∃ x',hp'=ob x'/\G x') (fun _ _=>False)
theorem MCallR.useG {X : Type} {ob : X -> Nat -> Option AObj} {n np : Nat} (F : Fam ob n) (hnp : np <= n) (hn : n <= np + 1048576) {f : FuncId} {vs : List AV} {x : X} {r : AV} {G : X -> Prop} (hA : MCallR P f vs ob n np x r G)
    {fr:Nat->Option AV} {hp0:Nat->Option AObj} {n0 k:Nat} {d:Option Nat} {K:St->Prop} {Kp:AV->St->Prop} (hvs:AV.idsL (· <n) vs) (hob:∀ id o,ob x id=some o->hp0 id=some o)
    (hK:∀ x' hpn,G x'->(∀ j o,ob x' j=some o->hpn (jn (fun i=>i) np (n0+1048576*k) j)=some (o.ren (jn (fun i=>i) np (n0+1048576*k))))->(∀ id o,n<=id->hp0 id=some o->hpn id=some o)->K ⟨Jg fr d r,hpn,n0⟩):
    CallB P f vs ⟨fr,hp0,n0⟩ k d K Kp:=by
  obtain⟨hrc,hA⟩:=hA
  refine CallB.use hA (fun i=>i) (by rw[jv]) hvs (fun id o ho=>⟨by rw[jw];exact hob id o ho,F.lt x id o ho⟩) (fun _ _ _ _ _ _ e=>e) (fun id hid=>⟨by omega,F.all x id (by omega)⟩) ?_ (fun _ _ h=>h.elim) ?_ (fun _ _ _ h=>h.elim)
  · rintro r' hp' ⟨rfl,x',rfl,_⟩
    exact⟨j5 hrc,fun id o ho=>⟨by have:=(F.lt x' id o ho).1;omega,jf _ (fun j hj=>by omega) (F.lt x' id o ho).2⟩⟩
  · rintro r' hp' fr' hpn ⟨rfl,x',rfl,hG⟩ hfr hobj hold
    rw[Jz hrc] at hfr
    have e:fr'=Jg fr d r':=by subst hfr;cases d<;>rfl
    subst e
    refine hK x' hpn hG hobj (fun id o hid ho=>hold id o ho fun j hj e=>?_)
    obtain⟨o',ho'⟩:=Option.ne_none_iff_exists'.1 hj
    have:=(F.lt x j o' ho').1
    omega
theorem MCallR.intro {X : Type} {ob : X -> Nat -> Option AObj} {n np : Nat} {f : FuncId} {fn : Func} {c : Code} {vs : List AV} {x : X} {r : AV} {G : X -> Prop} (hrc : r.clo = true) (hf : P.funcs[f]? = some fn) (hfn : jJ P f = true) (hb : fn.body = some c) (hn : vs.length <= fn.ntmps)
    (h:∀ (E:En) (Q:AEx->St->Prop),E.nt=fn.ntmps->E.np=np->(E.rd=none/\E.mks=true/\E.ex=true)->(∀ O,Jy P fn.results.toList O=some r->(∃ m nc x',Ent np m O ⟨fun _=>none,ob x',nc⟩/\G x')->Q .ret O/\Q .norm O)->AW P E c Q ⟨JV 0 vs,ob x,n⟩):MCallR P f vs ob n np x r G:=
  ⟨hrc,ACall.of_bodyRM hf hfn hb hn fun E Q hE hN hM hQ hQp=>h E Q hE hN hM fun O h1 ⟨m,nc,x',h2,h3⟩=>hQ O ⟨r,m,_,nc,by rw[Jz hrc];exact h1,j5 hrc,h2,rfl,x',rfl,h3⟩⟩
end Go.Am

set_option maxHeartbeats 4000000
set_option maxRecDepth 100000
namespace Go.Gl
open Go Go.Am Go.Hv
def ndv (D:List Dd) (n:Nd) (c:Nat):AV:= .agg [.i n.t.kind,.i n.t.id,.sl (Ty.avL n.t.args),.str (tx (txL (lab D n.t))),.sl (il (nI n.ch)),.i (c:Nat)]
def jN (D:List Dd) (s:List Nd) (c:List Nat):List AV:=List.zipWith (ndv D) s c
def zeros (s:List Nd):List Nat:=List.replicate s.length 0
def esF:Nat->List Nd->List (AV×AV)
 |_,[]=>[]
 |k,n::s=>(.str (tx (kyT (ky n.t))),.i (k:Nat))::esF (k+1) s
theorem XP:∀ (k:Nat) (s:List Nd) (n:Nd),esF k (s++[n])=esF k s++[(.str (tx (kyT (ky n.t))),.i ((k+s.length:Nat):Int))]
 |k,[],n=>by simp[esF]
 |k,m::s,n=>by
  rw[List.cons_append,esF,esF,XP (k+1) s n,List.length_cons,show k+1+s.length=k+(s.length+1) by omega];rfl
theorem G7 (t:Ty):∀ (k:Nat) (s:List Nd),jT (tx (kyT (ky t))) (esF k s)=some ((idx s t).map fun i=>AV.i ((k+i:Nat):Int))
 |k,[]=>by simp[esF,jT,idx]
 |k,n::s=>by
  rw[esF,jT]
  by_cases h:ky n.t=ky t
  ·rw[if_pos (by rw[h])]
   simp[idx,List.findIdx?_cons,h]
  ·rw[if_neg (fun e=>h (X3 (uR e)).symm),G7 t (k+1) s]
   have hb:(ky n.t==ky t)=false:=by simpa using h
   simp only[idx,List.findIdx?_cons,hb,Bool.false_eq_true,if_false,Option.map_map]
   congr 2
   funext i
   simp only[Function.comp]
   congr 2
   omega
theorem Je:∀ (k:Nat) (s:List Nd),EsClo (esF k s)
 |_,[]=>EsClo.nil
 |k,n::s=>by
  intro p hp
  rw[esF] at hp
  rcases List.mem_cons.1 hp with rfl|hp
  ·exact⟨rfl,rfl⟩
  ·exact Je (k+1) s p hp
theorem Uv:∀ (k:Nat) (s s':List Nd),kys s=kys s'->esF k s=esF k s'
 |_,[],[],_=>rfl
 |_,[],_::_,h=>by cases h
 |_,_::_,[],h=>by cases h
 |k,n::s,m::s',h=>by
  simp only[kys,List.map_cons,List.cons.injEq] at h
  rw[esF,esF,h.1,Uv (k+1) s s' h.2]
@[go_sem] theorem yq (D:List Dd) (s:List Nd) (c:List Nat) (h:c.length=s.length):(jN D s c).length=s.length:=by simp[jN,h]
theorem yU {D:List Dd} {s:List Nd} {c:List Nat} {i:Nat} {n:Nd} {k:Nat} (hn:s[i]? =some n) (hk:c[i]? =some k):(jN D s c)[i]? =some (ndv D n k):=by
 simp[jN,List.getElem?_zipWith,hn,hk]
theorem Jb (D:List Dd):∀ (s:List Nd) (c:List Nat),AV.cloL (jN D s c)=true:=fun s c=>gC _ fun x hx=>by
 obtain⟨i,hi⟩:=List.getElem?_of_mem hx
 simp only[jN,List.getElem?_zipWith] at hi
 split at hi
 ·cases hi;rfl
 ·cases hi
@[go_sem] theorem jlP (D:List Dd) (m:Nat->Nat) (s:List Nd) (c:List Nat):AV.renL m (jN D s c)=jN D s c:=js (Jb D s c)
@[go_sem] theorem jlO (D:List Dd) (p:Nat->Prop) (s:List Nd) (c:List Nat):AV.idsL p (jN D s c)=True:=eq_true (jt (Jb D s c))
def qL (D:List Dd) (es:List (AV×AV)) (R:List AV):Nat->Option AObj:=jp [(0,.cells [.sl (ddl D),.rw 2,.mp 1]),(1,.map es),(2,.row 6 R)]
def objP (D:List Dd) (s:List Nd):Nat->Option AObj:=qL D (esF 0 s) (jN D s (zeros s))
theorem YK (D:List Dd) (es:List (AV×AV)) (R:List AV):qL D es R 0=some (.cells [.sl (ddl D),.rw 2,.mp 1]):=rfl
theorem gM (D:List Dd) (es:List (AV×AV)) (R:List AV):qL D es R 1=some (.map es):=rfl
theorem GE (D:List Dd) (es:List (AV×AV)) (R:List AV):qL D es R 2=some (.row 6 R):=rfl
theorem wfG {D:List Dd} {es:List (AV×AV)} {R:List AV} (he:EsClo es) (hR:AV.cloL R=true):WF (qL D es R) 3:=by
 refine⟨fun id ob h=>?_,fun id hid=>?_,by decide⟩
 ·exact jM (p:=fun id ob=>id<3/\ob.ids (· <3)) (by
   intro q hq
   simp only[List.mem_cons,List.not_mem_nil,or_false] at hq
   rcases hq with rfl|rfl|rfl
   ·exact⟨by show 0<3;decide,by simp[AObj.ids,AV.ids,AV.idsL,go_sem]⟩
   ·exact⟨by show 1<3;decide,he.ids _⟩
   ·exact⟨by show 2<3;decide,jt hR⟩) id ob h
 ·rcases(by omega:id=0\/id=1\/id=2) with rfl|rfl|rfl<;>simp[qL,jp,jb]
theorem Q8 {D:List Dd} {es:List (AV×AV)} {R:List AV} {hp:Nat->Option AObj} (h0:hp 0=some (.cells [.sl (ddl D),.rw 2,.mp 1])) (h1:hp 1=some (.map es)) (h2:hp 2=some (.row 6 R)):∀ id ob,qL D es R id=some ob->hp id=some ob:=
 jM (p:=fun id ob=>hp id=some ob) (by
  intro q hq
  simp only[List.mem_cons,List.not_mem_nil,or_false] at hq
  rcases hq with rfl|rfl|rfl
  ·exact h0
  ·exact h1
  ·exact h2)
theorem Uw (D:List Dd):Fam (objP D) 3:=⟨fun x id o ho=>(wfG (Je 0 x) (Jb D x _)).1 id o ho,fun x id hid=>(wfG (Je 0 x) (Jb D x _)).2.1 id hid⟩
end Go.Gl
namespace Go.Proofs.YtfpcjabbcpgbjaaDoor
open Go.Am Go.Proofs Go.Hv Go.Gl
open Classical
attribute [local irreducible] AW jA CallB
def DR (D:List Dd):Prop:=∀ x,x∈D-> -9223372036854775808<=x.dr/\x.dr<=9223372036854775807
theorem jc1 {D:List Dd} (hD:DB D) (hR:DR D) {es:List (AV×AV)} {R:List AV} (he:EsClo es) (hRc:AV.cloL R=true) (t:Ty) (ht:Pl D t):HC Tryd.prog 78 [.ptr 0 0,t.av] (qL D es R) 3 (.str (tx (txL (lab D t)))):=by
 have hw:=wfG (D:=D) he hRc
 have hk:=yL ht
 have hDl:=hD.l
 rw[Ty.av_eq]
 by_cases h2:t.kind=2
 ·obtain⟨x,hx,h0,_⟩:=yK ht h2
  obtain⟨n,hn⟩:∃ n:Nat,t.id=n:=⟨t.id.toNat,by omega⟩
  rw[hn,Int.toNat_natCast] at hx
  have hxm:=List.mem_of_getElem? hx
  have hvl:=hD.v x hxm
  have hdr:=hR x hxm
  have hnl:=(List.getElem?_eq_some_iff.1 hx).1
  have hv:vsO D t=some x:=by unfold vsO;rw[if_pos h2,hn,Int.toNat_natCast,hx]
  rw[yT hv,h2,hn]
  have hw1:=wfG (D:=D) he hRc
  have hRr:∀ m,AV.renL m R=R:=fun m=>js hRc
  have hRi:∀ p,AV.idsL p R:=fun p=>jt hRc
  have q:((2:Int) !=2)=false:=rfl
  have h64:I64 (x.vs.map fun v=>(v.fs.length:Int)):=fun m hm=>by
   obtain⟨v,hv2,rfl⟩:=List.mem_map.1 hm
   have:=hD.f x hxm v hv2
   omega
  have c1:PCall Tryd.prog 49 [.sl [.i 2,.i x.dr]] (.str (tx (txL [2,x.dr]))):=GK [2,x.dr] (by simp) (fun m hm=>by simp at hm;rcases hm with rfl|rfl;omega;exact hdr)
  have c2:=xX (x.vs.map fun v=>(v.fs.length:Int)) (by simp;omega) h64
  have hl1:=ye (l:=[2,x.dr]) (fun m hm=>by simp at hm;rcases hm with rfl|rfl;omega;exact hdr)
  have hl2:=ye (l:=(((x.vs.map fun v=>(v.fs.length:Int)).length:Nat):Int)::(x.vs.map fun v=>(v.fs.length:Int))) (fun m hm=>by rcases List.mem_cons.1 hm with rfl|hm;simp;omega;exact h64 m hm)
  have e0:txL ([2,x.dr,(x.vs.length:Int)]++x.vs.map fun v=>(v.fs.length:Int))=txL [2,x.dr]++txL ((((x.vs.map fun v=>(v.fs.length:Int)).length:Nat):Int)::(x.vs.map fun v=>(v.fs.length:Int))):=by
   rw[<- qq];simp
  rw[e0]
  simp only[List.length_cons,List.length_nil,List.length_map] at hl1 hl2
  refine HC.intro hw rfl Tryd.func78 rfl jf2 (by simp[Tryd.f78]) fun E Q hE hN hQ=>jg ?_
  repeat'(first|apply nx|refine zx ?_|rw[zw]|refine zk ?_|refine zp ?_|(apply zA;exact zb)|((fail_if_success refine j3 4 ?_);(first|refine zR hE fun hg=>?_|refine zT hE fun hanc hg=>?_|refine zF hE fun hanc hg=>?_|refine zg (fun hg=>?_) fun hg=>?_)<;>simp only[go_sem,YK,q,hg])|(refine zc (fun hc=>?_) (fun hc=>?_)<;>try exact zh hc))
  refine gz 5 1 (by rw[hE];decide) (by simp only[go_sem]) ?_
  dsimp only
  simp only[Nat.reduceAdd]
  repeat'(first|apply nx|refine zx ?_|rw[zw]|refine zk ?_|refine zp ?_|(apply zA;exact zb)|((first|refine zR hE fun hg=>?_|refine zT hE fun hanc hg=>?_|refine zF hE fun hanc hg=>?_|refine zg (fun hg=>?_) fun hg=>?_)<;>simp only[go_sem,YK,ja hnl,hx,Dd.av_eq,hg])|(refine zc (fun hc=>?_) (fun hc=>?_)<;>try exact zh hc))
  refine jB (X:=Nat) (fun j=>j<=x.vs.length) (fun j=>jx [(0,.ptr 0 0),(3,.ptr 3 0),(5,.rw 4),(23,.sl (dvl x.vs)),(24,.i x.vs.length),(25,.i (j:Nat))] [(0,.cells [.sl (ddl D),.rw 2,.mp 1]),(1,.map es),(2,.row 6 R),(3,.cells [.i 2,.i (n:Nat),.sl (Ty.avL t.args)]),(4,.row 1 (il ((x.vs.take j).map fun v=>(v.fs.length:Int))))] 5) (fun j=>x.vs.length - j) 0 (Nat.zero_le _) (fun i=>if i=3 then 1000000 else if i=4 then 7291456 else i) ?_ ?_
  ·refine jc (by simp[go_sem]) ?_ (by simp) (by rw[hN];exact fun id hid=>⟨by rw[if_neg (by omega),if_neg (by omega)],by omega⟩)
   simp[go_sem,YK,gM,GE,he.ren,hRr,hRi]
   exact he.ids2 _
  intro j hj
  by_cases hjt:j<x.vs.length
  ·obtain⟨v,hv2⟩:=get?_of hjt
   have u1:=JA hjt (by omega)
   have hst:il ((x.vs.take (j+1)).map fun v=>(v.fs.length:Int))=il ((x.vs.take j).map fun v=>(v.fs.length:Int))++[.i (v.fs.length:Int)]:=by
    rw[List.take_add_one,hv2];simp[il]
   have htl:((x.vs.take j).map fun v=>(v.fs.length:Int)).length=j:=by simp;omega
   repeat'(first|apply nx|refine zx ?_|rw[zw]|refine zk ?_|refine zp ?_|(apply zA;exact zb)|((first|refine zR hE fun hg=>?_|refine zT hE fun hanc hg=>?_|refine zF hE fun hanc hg=>?_|refine zg (fun hg=>?_) fun hg=>?_)<;>simp only[go_sem,ja hjt,hv2,Dv.av_eq,u1,htl,hg])|(refine zc (fun hc=>?_) (fun hc=>?_)<;>try exact zh hc))
   refine⟨j+1,hjt,by omega,fun i=>if i=4 then 10485765 else i,?_⟩
   refine jc (by simp[go_sem]) ?_ (by simp) (by rw[hN];exact fun id hid=>⟨by rw[if_neg (by omega)],by omega⟩)
   simp[go_sem,he.ren,hRr,hRi,hst.symm]
   refine⟨he.ids2 _,?_⟩
   rw[List.take_add_one]
   simp[hv2]
  obtain rfl:j=x.vs.length:=by omega
  rw[List.take_length]
  have hpx:=hnl
  repeat'(first|apply nx|refine zx ?_|rw[zw]|refine zk ?_|refine zp ?_|(apply zA;exact zb)|((first|refine zR hE fun hg=>?_|refine zT hE fun hanc hg=>?_|refine zF hE fun hanc hg=>?_|(apply zM;exact zu;(first|exact c1|exact c2);exact zs;exact zl;intro hg)|refine zg (fun hg=>?_) fun hg=>?_)<;>simp only[go_sem,jE,ja hnl,hx,Dd.av_eq,gW,List.length_append,hg])|(refine zc (fun hc=>?_) (fun hc=>?_)<;>try exact zh hc))
  exact je (hQ _ (by simp only[go_sem];rfl) (Q8 (by simp[go_sem]) (by simp[go_sem]) (by simp[go_sem]))).1
 ·rw[JO h2]
  have h64:I64 [t.kind]:=fun n hn=>by simp at hn;subst hn;omega
  have c0:PCall Tryd.prog 49 [.sl [.i t.kind]] (.str (tx (txL [t.kind]))):=GK [t.kind] (by simp) h64
  have q:(t.kind !=2)=true:=by simp[h2]
  refine HC.intro hw rfl Tryd.func78 rfl jf2 (by simp[Tryd.f78]) fun E Q hE hN hQ=>jg ?_
  repeat'(first|apply nx|refine zx ?_|rw[zw]|refine zk ?_|refine zp ?_|(apply zA;exact zb)|((first|refine zR hE fun hg=>?_|refine zT hE fun hanc hg=>?_|refine zF hE fun hanc hg=>?_|(apply zM;exact zu;exact c0;exact zs;exact zl;intro hg)|refine zg (fun hg=>?_) fun hg=>?_)<;>simp only[go_sem,q,hg])|(refine zc (fun hc=>?_) (fun hc=>?_)<;>try exact zh hc))
  exact je (hQ _ (by simp only[go_sem];rfl) (Q8 (by simp[jb,YK]) (by simp[jb,gM]) (by simp[jb,GE]))).1
end Go.Proofs.YtfpcjabbcpgbjaaDoor

set_option maxHeartbeats 4000000
set_option maxRecDepth 100000
namespace Go.Proofs.YtfpcjabbcpgbjaaDoor
open Go.Am Go.Proofs Go.Hv Go.Gl
open Classical
attribute [local irreducible] AW jA CallB CallY
def Qt (D:List Dd) (t:Ty):List (List AV):=(kids D t).map fun c=>[c.av]
theorem flat_get {l:List Dv} {j k:Nat} {v:Dv} {f:Ty} (hv:l[j]? =some v) (hf:v.fs[k]? =some f):(l.flatMap Dv.fs)[((l.take j).flatMap Dv.fs).length+k]? =some f:=by
 have e:l=l.take j++v::l.drop (j+1):=by
  have h1:=(List.getElem?_eq_some_iff.1 hv)
  obtain⟨h2,h3⟩:=h1
  rw[<- h3, <- List.drop_eq_getElem_cons h2,List.take_append_drop]
 have e2:l.flatMap Dv.fs=(l.take j).flatMap Dv.fs++(v.fs++(l.drop (j+1)).flatMap Dv.fs):=by
  conv=>lhs;rw[e]
  rw[List.flatMap_append,List.flatMap_cons]
 rw[e2,List.getElem?_append_right (by omega),Nat.add_sub_cancel_left,List.getElem?_append_left (List.getElem?_eq_some_iff.1 hf).1]
 exact hf
theorem ja1 {l:List Dv} {j:Nat} {v:Dv} (hv:l[j]? =some v):((l.take (j+1)).flatMap Dv.fs).length=((l.take j).flatMap Dv.fs).length+v.fs.length:=by
 rw[List.take_add_one,hv,List.flatMap_append];simp
theorem ja9 {D:List Dd} (hD:DB D) {t:Ty} (ht:Pl D t):IterC Tryd.prog 84 [.ptr 5 0,.ptr 6 0] [(5,.cells t.cs),(6,.cells [.ptr 0 0]),(0,.cells [.sl (ddl D),.rw 10,.mp 1])] (Qt D t):=by
 intro ln S objs np hn1 hcaps hL hob hnp Inv Fin IP hIP hround s h0
 simp only[AV.idsL,AV.ids] at hcaps
 obtain⟨ha1,hb1,_⟩:=hcaps
 have hca:∀ s,objs s 5=some (.cells [.i t.kind,.i t.id,.sl (Ty.avL t.args)]):=fun s=>hL s (5,.cells t.cs) (by simp)
 have hcb:∀ s,objs s 6=some (.cells [.ptr 0 0]):=fun s=>hL s (6,.cells [.ptr 0 0]) (by simp)
 have hcc:∀ s,objs s 0=some (.cells [.sl (ddl D),.rw 10,.mp 1]):=fun s=>hL s (0,.cells [.sl (ddl D),.rw 10,.mp 1]) (by simp)
 have ga:=hca s
 have gb:=hcb s
 have gc:=hcc s
 have hDl:=hD.l
 by_cases h2:t.kind=2
 ·obtain⟨x,hx,hi0,_⟩:=yK ht h2
  obtain⟨n,hn⟩:∃ n:Nat,t.id=n:=⟨t.id.toNat,by omega⟩
  rw[hn,Int.toNat_natCast] at hx
  have hxm:=List.mem_of_getElem? hx
  have hvl:=hD.v x hxm
  have hnl:=(List.getElem?_eq_some_iff.1 hx).1
  have hk:kids D t=x.vs.flatMap Dv.fs:=by
   have hv:vsO D t=some x:=by unfold vsO;rw[if_pos h2,hn,Int.toNat_natCast,hx]
   unfold kids;rw[hv]
  have hyl:(Qt D t).length=(x.vs.flatMap Dv.fs).length:=by rw[Qt,List.length_map,hk]
  have q2:(t.kind !=2)=false:=by simp[h2]
  have q3:(t.kind==3)=false:=by simp[h2]
  rw[hn] at ga
  refine ACall.of_bodyR Tryd.func84 jcV rfl (by simp[Tryd.f84]) fun E Q hE hN hQ hQp=>jg ?_
  repeat'(first|apply nx|refine zx ?_|rw[zw]|refine zk ?_|refine zp ?_|(apply zA;exact zb)|((first|refine zR hE @fun K Kp hK hKp hg=>?_|refine zT hE @fun K Kp hK hKp anc hanc hg=>?_|refine zF hE @fun K Kp hK hKp anc hanc hg=>?_|refine zg (fun hg=>?_) fun hg=>?_)<;>simp only[go_sem,ga,gb,gc,q2,q3,ja hnl,hx,Dd.av_eq,hg])|(refine zc (fun hc=>?_) (fun hc=>?_)<;>try exact zh hc))
  refine jB (X:=Nat×S) (fun z=>z.1<=x.vs.length/\Inv ((x.vs.take z.1).flatMap Dv.fs).length z.2) (fun z=>⟨jL [(0,.fn (.yield ln) [] []),(28,.sl (dvl x.vs)),(29,.i x.vs.length),(30,.i (z.1:Nat))],objs z.2,1000000⟩) (fun z=>x.vs.length - z.1) (0,s) ⟨Nat.zero_le _,by simpa using h0⟩ (fun i=>i) ?_ ?_
  ·exact j6 (by simp[go_sem]) (fun id o ho=>⟨ho,hob s id o ho⟩) (by rw[hN];exact hn1)
  rintro⟨j,s⟩ ⟨hj,hinv⟩
  simp only at hj hinv
  by_cases hjt:j<x.vs.length
  case neg=>
   obtain rfl:j=x.vs.length:=by omega
   rw[List.take_length] at hinv
   repeat'(first|apply nx|refine zx ?_|rw[zw]|refine zk ?_|refine zp ?_|(apply zA;exact zb)|((first|refine zR hE @fun K Kp hK hKp hg=>?_|refine zT hE @fun K Kp hK hKp anc hanc hg=>?_|refine zF hE @fun K Kp hK hKp anc hanc hg=>?_|refine zg (fun hg=>?_) fun hg=>?_)<;>simp only[go_sem,jE,hg])|(refine zc (fun hc=>?_) (fun hc=>?_)<;>try exact zh hc))
   refine jl ?_
   refine(hQ _ ⟨.tup [],fun i=>i,objs s,1000000,rfl,trivial,?_,rfl,s,.inl (by rw[hyl];exact hinv),rfl⟩).2
   exact j6 (fr:=[]) (by simp) (fun id o ho=>⟨ho,hob s id o ho⟩) hn1
  obtain⟨v,hv⟩:=get?_of hjt
  have hfl:=hD.f x hxm v (List.mem_of_getElem? hv)
  have u1:=JA hjt (by omega)
  repeat'(first|apply nx|refine zx ?_|rw[zw]|refine zk ?_|refine zp ?_|(apply zA;exact zb)|((first|refine zR hE @fun K Kp hK hKp hg=>?_|refine zT hE @fun K Kp hK hKp anc hanc hg=>?_|refine zF hE @fun K Kp hK hKp anc hanc hg=>?_|refine zg (fun hg=>?_) fun hg=>?_)<;>simp only[go_sem,ja hjt,hv,Dv.av_eq,hg])|(refine zc (fun hc=>?_) (fun hc=>?_)<;>try exact zh hc))
  refine jB (X:=Nat×S) (fun z=>z.1<=v.fs.length/\Inv (((x.vs.take j).flatMap Dv.fs).length+z.1) z.2) (fun z=>⟨jL [(0,.fn (.yield ln) [] []),(28,.sl (dvl x.vs)),(29,.i x.vs.length),(30,.i (j:Nat)),(35,.sl (Ty.avL v.fs)),(36,.i v.fs.length),(37,.i (z.1:Nat))],objs z.2,1000000⟩) (fun z=>v.fs.length - z.1) (0,s) ⟨Nat.zero_le _,by simpa using hinv⟩ (fun i=>i) ?_ ?_
  ·refine j6 (by simp[go_sem]) (fun id o ho=>⟨?_,hob s id o ho⟩) (by rw[hN];exact hn1)
   have:=(hob s id o ho).1
   simp only[jb]
   rw[if_neg (by omega),if_neg (by omega)]
   exact ho
  rintro⟨k,s⟩ ⟨hk2,hinv⟩
  simp only at hk2 hinv
  by_cases hkt:k<v.fs.length
  case neg=>
   obtain rfl:k=v.fs.length:=by omega
   repeat'(first|apply nx|refine zx ?_|rw[zw]|refine zk ?_|refine zp ?_|(apply zA;exact zb)|((first|refine zR hE @fun K Kp hK hKp hg=>?_|refine zT hE @fun K Kp hK hKp anc hanc hg=>?_|refine zF hE @fun K Kp hK hKp anc hanc hg=>?_|refine zg (fun hg=>?_) fun hg=>?_)<;>simp only[go_sem,jE,u1,hg])|(refine zc (fun hc=>?_) (fun hc=>?_)<;>try exact zh hc))
   refine⟨(j+1,s),⟨hjt,by simp only;rw[ja1 hv];exact hinv⟩,by simp only;omega,fun i=>i,?_⟩
   exact j6 (by simp[go_sem]) (fun id o ho=>⟨ho,hob s id o ho⟩) (by rw[hN];exact hn1)
  obtain⟨f,hff⟩:=get?_of hkt
  have u2:=JA hkt (by omega)
  have hy:(Qt D t)[((x.vs.take j).flatMap Dv.fs).length+k]? =some [f.av]:=by rw[Qt,hk,List.getElem?_map,flat_get hv hff];rfl
  have hro:=hround _ _ s hinv hy
  rw[Ty.av_eq] at hro
  repeat'(first|apply nx|refine zx ?_|rw[zw]|refine zk ?_|refine zp ?_|(apply zA;exact zb)|((first|refine zR hE @fun K Kp hK hKp hg=>?_|refine zT hE @fun K Kp hK hKp anc hanc hg=>?_|refine zF hE @fun K Kp hK hKp anc hanc hg=>?_|refine zg (fun hg=>?_) fun hg=>?_)<;>simp only[go_sem,ja hkt,hff,Ty.av_eq,hg])|(refine zc (fun hc=>?_) (fun hc=>?_)<;>try exact zh hc))
  refine Hold.mk (CallY.use hro (fun i=>i) (by rw[jv]) (by simp[AV.ids,AV.idsL,go_sem]) (fun id o ho=>⟨by rw[jw];have:=(hob s id o ho).1;simp only[jb];rw[if_neg (by omega),if_neg (by omega)];exact ho,hob s id o ho⟩) (fun id id' o o' _ _ e=>e) (fun id hid=>⟨by omega,hnp s id hid⟩) ?_ ?_ ?_ ?_)
  ·rintro r hp' ⟨s',hr,rfl⟩
   refine⟨by rcases hr with ⟨rfl,_⟩|⟨rfl,_⟩<;>trivial,fun id o ho=>⟨by have:=(hob s' id o ho).1;omega,?_⟩⟩
   exact jf _ (fun j hj=>by omega) (hob s' id o ho).2
  ·rintro r hp' ⟨s',hr,rfl⟩
   refine⟨j5 (hIP _ s' hr),fun id o ho=>⟨by have:=(hob s' id o ho).1;omega,?_⟩⟩
   exact jf _ (fun j hj=>by omega) (hob s' id o ho).2
  ·rintro r hp' fr' hpn2 ⟨s',hr,rfl⟩ hfr hobj hold2
   simp only[St.put,Jg] at hfr
   clear hQp
   subst hfr
   have hback:∀ fr0 nx0,Ent np (jn (fun i=>i) np (6242880+1048576*2)) ⟨fr0,hpn2,nx0⟩ ⟨jL [],objs s',1000000⟩:=fun fr0 nx0=>
    Jl (fr:=[]) (by simp) (fun id o ho=>⟨hobj id o ho,hob s' id o ho⟩) (fun id id' o o' _ _ e=>jQ (by omega) e) (fun id hid=>⟨jz hid,by omega⟩)
   rcases hr with ⟨rfl,hi'⟩|⟨rfl,hf'⟩
   ·simp only[go_sem]
    refine hK.h _ ?_
    clear hK hKp K Kp
    repeat'(first|apply nx|refine zx ?_|rw[zw]|refine zk ?_|refine zp ?_|(apply zA;exact zb)|((first|refine zR hE @fun K Kp hK hKp hg=>?_|refine zT hE @fun K Kp hK hKp anc hanc hg=>?_|refine zF hE @fun K Kp hK hKp anc hanc hg=>?_|refine zg (fun hg=>?_) fun hg=>?_)<;>simp only[go_sem,u2,hg])|(refine zc (fun hc=>?_) (fun hc=>?_)<;>try exact zh hc))
    refine⟨(k+1,s'),⟨hkt,by simp only;rw[<- Nat.add_assoc];exact hi'⟩,by simp only;omega,jn (fun i=>i) np (6242880+1048576*2),?_⟩
    rw[hN]
    exact Jl (by simp[go_sem]) (fun id o ho=>⟨hobj id o ho,hob s' id o ho⟩) (fun id id' o o' _ _ e=>jQ (by omega) e) (fun id hid=>⟨jz hid,by omega⟩)
   ·simp only[go_sem]
    refine hK.h _ ?_
    clear hK hKp K Kp
    repeat'(first|apply nx|refine zx ?_|rw[zw]|refine zk ?_|refine zp ?_|(apply zA;exact zb)|((first|refine zR hE @fun K Kp hK hKp hg=>?_|refine zT hE @fun K Kp hK hKp anc hanc hg=>?_|refine zF hE @fun K Kp hK hKp anc hanc hg=>?_|refine zg (fun hg=>?_) fun hg=>?_)<;>simp only[go_sem,hg])|(refine zc (fun hc=>?_) (fun hc=>?_)<;>try exact zh hc))
    exact je (hQ _ ⟨.tup [],_,objs s',1000000,rfl,trivial,hback _ _,rfl,s',.inr hf',rfl⟩).1
  ·rintro x hp' hpn2 ⟨s',hx,rfl⟩ hobj _
   refine hKp.h _ _ (hQp _ _ ⟨x,_,_,1000000,rfl,j5 (hIP x s' hx),?_,s',hx,rfl⟩)
   refine Jl (fr:=[]) (by simp) (fun id o ho=>⟨hobj id o ho,hob s' id o ho⟩) (fun id id' o o' _ _ e=>jQ (by omega) e) (fun id hid=>⟨jz hid,by omega⟩)
 ·by_cases h3:t.kind=3
  ·obtain⟨f,e,hf⟩:=JS ht h3
   have hk:Qt D t=[[f.av]]:=by rw[Qt,JB h3 e];rfl
   have hro:=hround 0 [f.av] s h0 (by rw[hk];rfl)
   have q2:(t.kind !=2)=true:=by simp[h2]
   have q3:(t.kind==3)=true:=by simp[h3]
   have g0:Ty.avL [f]=[.agg [.i f.kind,.i f.id,.sl (Ty.avL f.args)]]:=by rw[Ty.avL,Ty.avL,Ty.av_eq]
   rw[Ty.av_eq] at hro
   rw[e,g0] at hca ga
   refine ACall.of_bodyR Tryd.func84 jcV rfl (by simp[Tryd.f84]) fun E Q hE hN hQ hQp=>jg ?_
   repeat'(first|apply nx|refine zx ?_|rw[zw]|refine zk ?_|refine zp ?_|(apply zA;exact zb)|((first|refine zR hE @fun K Kp hK hKp hg=>?_|refine zT hE @fun K Kp hK hKp anc hanc hg=>?_|refine zF hE @fun K Kp hK hKp anc hanc hg=>?_|refine zg (fun hg=>?_) fun hg=>?_)<;>simp only[go_sem,ga,gb,gc,q2,q3,hg])|(refine zc (fun hc=>?_) (fun hc=>?_)<;>try exact zh hc))
   refine Hold.mk (CallY.use hro (fun i=>i) (by rw[jv]) (by simp[AV.ids,AV.idsL,go_sem]) (fun id o ho=>⟨by rw[jw];exact ho,hob s id o ho⟩) (fun id id' o o' _ _ e=>e) (fun id hid=>⟨by omega,hnp s id hid⟩) ?_ ?_ ?_ ?_)
   ·rintro r hp' ⟨s',hr,rfl⟩
    refine⟨by rcases hr with ⟨rfl,_⟩|⟨rfl,_⟩<;>trivial,fun id o ho=>⟨by have:=(hob s' id o ho).1;omega,?_⟩⟩
    exact jf _ (fun j hj=>by omega) (hob s' id o ho).2
   ·rintro r hp' ⟨s',hr,rfl⟩
    refine⟨j5 (hIP _ s' hr),fun id o ho=>⟨by have:=(hob s' id o ho).1;omega,?_⟩⟩
    exact jf _ (fun j hj=>by omega) (hob s' id o ho).2
   ·rintro r hp' fr' hpn2 ⟨s',hr,rfl⟩ hfr hobj hold2
    simp only[St.put,Jg] at hfr
    clear hQp
    subst hfr
    have hback:∀ fr0 nx0,Ent np (jn (fun i=>i) np (4145728+1048576*5)) ⟨fr0,hpn2,nx0⟩ ⟨jL [],objs s',1000000⟩:=fun fr0 nx0=>
     Jl (fr:=[]) (by simp) (fun id o ho=>⟨hobj id o ho,hob s' id o ho⟩) (fun id id' o o' _ _ e=>jQ (by omega) e) (fun id hid=>⟨jz hid,by omega⟩)
    have hba:jn (fun i=>i) np (4145728+1048576*5) 5=5:=jz ha1
    have ga':=hobj 5 _ (hca s')
    rw[hba,AObj.ren] at ga'
    simp only[AV.renL,AV.ren,Ty.avL_ren] at ga'
    rcases hr with ⟨rfl,hi'⟩|⟨rfl,hf'⟩
    ·simp only[go_sem]
     refine hK.h _ ?_
     clear hK hKp K Kp
     repeat'(first|apply nx|refine zx ?_|rw[zw]|refine zk ?_|refine zp ?_|(apply zA;exact zb)|((first|refine zR hE @fun K Kp hK hKp hg=>?_|refine zT hE @fun K Kp hK hKp anc hanc hg=>?_|refine zF hE @fun K Kp hK hKp anc hanc hg=>?_|refine zg (fun hg=>?_) fun hg=>?_)<;>simp only[go_sem,ga',q2,hg])|(refine zc (fun hc=>?_) (fun hc=>?_)<;>try exact zh hc))
     exact je (hQ _ ⟨.tup [],_,objs s',1000000,rfl,trivial,hback _ _,rfl,s',.inl (by rw[hk];exact hi'),rfl⟩).1
    ·simp only[go_sem]
     refine hK.h _ ?_
     clear hK hKp K Kp
     repeat'(first|apply nx|refine zx ?_|rw[zw]|refine zk ?_|refine zp ?_|(apply zA;exact zb)|((first|refine zR hE @fun K Kp hK hKp hg=>?_|refine zT hE @fun K Kp hK hKp anc hanc hg=>?_|refine zF hE @fun K Kp hK hKp anc hanc hg=>?_|refine zg (fun hg=>?_) fun hg=>?_)<;>simp only[go_sem,ga',q2,hg])|(refine zc (fun hc=>?_) (fun hc=>?_)<;>try exact zh hc))
     exact je (hQ _ ⟨.tup [],_,objs s',1000000,rfl,trivial,hback _ _,rfl,s',.inr hf',rfl⟩).1
   ·rintro x hp' hpn2 ⟨s',hx,rfl⟩ hobj _
    refine hKp.h _ _ (hQp _ _ ⟨x,_,_,1000000,rfl,j5 (hIP x s' hx),?_,s',hx,rfl⟩)
    refine Jl (fr:=[]) (by simp) (fun id o ho=>⟨hobj id o ho,hob s' id o ho⟩) (fun id id' o o' _ _ e=>jQ (by omega) e) (fun id hid=>⟨jz hid,by omega⟩)
  ·have hk:Qt D t=[]:=by rw[Qt,Jv h2 h3];rfl
   have q2:(t.kind !=2)=true:=by simp[h2]
   have q3:(t.kind==3)=false:=by simp[h3]
   refine ACall.of_bodyR Tryd.func84 jcV rfl (by simp[Tryd.f84]) fun E Q hE hN hQ hQp=>jg ?_
   repeat'(first|apply nx|refine zx ?_|rw[zw]|refine zk ?_|refine zp ?_|(apply zA;exact zb)|((first|refine zR hE @fun K Kp hK hKp hg=>?_|refine zT hE @fun K Kp hK hKp anc hanc hg=>?_|refine zF hE @fun K Kp hK hKp anc hanc hg=>?_|refine zg (fun hg=>?_) fun hg=>?_)<;>simp only[go_sem,ga,gb,gc,q2,q3,hg])|(refine zc (fun hc=>?_) (fun hc=>?_)<;>try exact zh hc))
   refine je (hQ _ ⟨.tup [],fun i=>i,objs s,1000000,rfl,trivial,?_,rfl,s,.inl (by rw[hk];exact h0),rfl⟩).1
   exact j6 (fr:=[]) (by simp) (fun id o ho=>⟨ho,hob s id o ho⟩) hn1

theorem jfb {D:List Dd} (hD:DB D) {t c:Ty} (ht:Pl D t) (hs:t.sz<=2 ^ 30) (hc:c∈kids D t):c.sz<=2 ^ 30:=by
 by_cases h2:t.kind=2
 ·obtain⟨x,hx⟩:=yy ht h2
  unfold kids at hc
  rw[hx] at hc
  obtain⟨v,hv,hf⟩:=List.mem_flatMap.1 hc
  exact hD.s x (List.mem_of_getElem? (Yz hx).2) v hv c hf
 ·by_cases h3:t.kind=3
  ·obtain⟨a,e,ha⟩:=JS ht h3
   rw[JB h3 e] at hc
   simp at hc
   subst hc
   have:=Ty.sz_eq t
   rw[e] at this
   simp only[Ty.szL] at this
   omega
  ·rw[Jv h2 h3] at hc;cases hc
theorem Q9 {D:List Dd} (hD:DB D) {t:Ty} (ht:Pl D t):(kids D t).length<=2 ^ 30:=by
 by_cases h2:t.kind=2
 ·obtain⟨x,hx⟩:=yy ht h2
  unfold kids
  rw[hx]
  exact hD.n x (List.mem_of_getElem? (Yz hx).2)
 ·by_cases h3:t.kind=3
  ·obtain⟨a,e,ha⟩:=JS ht h3
   rw[JB h3 e];simp
  ·rw[Jv h2 h3];simp
theorem YY {U:List Ky} {s:List Nd} (hn:(kys s).Nodup) (hs:∀ k,k∈kys s->k∈U):s.length<=U.length:=by
 have:=qn hn hs
 simpa [kys] using this
theorem jc7 (D:List Dd) (s:List Nd) (n:Nd):jN D s (zeros s)++[ndv D n 0]=jN D (s++[n]) (zeros (s++[n])):=by
 unfold jN zeros
 rw[List.length_append,List.length_singleton,List.replicate_succ',List.zipWith_append (by simp)]
 rfl
theorem yH (s:List Nd):(zeros s).length=s.length:=List.length_replicate ..
theorem jfv {F:Nat->Option AObj} {x x':AV} (h:Snp F x x') (l:List AV) (i:Nat) (hi:i<(l++[x]).length):Snp F ((l++[x]).getD i default) ((l++[x']).getD i default):=by
 simp only[List.length_append,List.length_singleton] at hi
 rcases Nat.lt_or_ge i l.length with hl|hl
 ·simp only[List.getD_eq_getElem?_getD,List.getElem?_append_left hl];exact .inl rfl
 ·obtain rfl:i=l.length:=by omega
  simp only[List.getD_eq_getElem?_getD]
  simpa using h
theorem jeg {E : En} {fr : Nat -> Option AV} {hp : Nat -> Option AObj} {nx : Nat} (X : Nat) {D : List Dd} {s : List Nd} {t : Ty} (hX : hp X = some (.row 6 (jN D s (zeros s) ++ [.agg [.i t.kind, .i t.id, .sl (Ty.avL t.args), .str (tx (txL (lab D t))), .nilsl, .i 0]]))) :
    Wk E ⟨fr,hp,nx⟩ ⟨fr,jb hp X (some (.row 6 (jN D (s++[⟨t,[]⟩]) (zeros (s++[⟨t,[]⟩]))))),nx⟩:=by
  rw[<- jc7]
  refine Wk.snpRow X _ hX (by simp) (fun i hi=>jfv (.inr ⟨?_,?_⟩) _ _ hi)
  · simp[AV.snapOk,AV.snapOkL]
  · rfl
theorem UQ {D : List Dd} {f : FuncId} {vs : List AV} {r : AV} {s s2 : List Nd} (hA : MCallR Tryd.prog f vs (objP D) 3 2 s r (fun s' => s' = s2)) (hvs : AV.idsL (· < 2) vs) {fr : Nat -> Option AV} {hp0 : Nat -> Option AObj} {n0 k : Nat} {d : Option Nat} {K : St -> Prop} {Kp : AV -> St -> Prop} (Y B : Nat) (hY : 2 <= Y) (hB : n0 + 1048576 * k = B)
    (h0:hp0 0=some (.cells [.sl (ddl D),.rw Y,.mp 1])) (h1:hp0 1=some (.map (esF 0 s))) (h2:hp0 Y=some (.row 6 (jN D s (zeros s))))
    (hK:∀ hpn,hpn 0=some (.cells [.sl (ddl D),.rw B,.mp 1])->hpn 1=some (.map (esF 0 s2))->hpn B=some (.row 6 (jN D s2 (zeros s2)))->(∀ id o,id≠0->id≠1->id≠Y->hp0 id=some o->hpn id=some o)->K ⟨Jg fr d r,hpn,n0⟩):
    CallB Tryd.prog f vs ⟨fr,hp0,n0⟩ k d K Kp:=by
  subst hB
  obtain⟨hrc,hA⟩:=hA
  have hes:=fun x=>(Je 0 x).ren
  refine CallB.use hA (fun i=>if i=2 then Y else i) ?_ (Ja (fun i hi=>by omega) hvs) (fun id o ho=>?_) (fun id id' o o' ho ho' h=>?_) (fun id hid=>⟨by omega,(Uw D).all s id (by omega)⟩) ?_ (fun _ _ h=>h.elim) ?_ (fun _ _ _ h=>h.elim)
  · rw[Jd (m':=fun i=>i) (fun i hi=>if_neg (by omega)) hvs,jv]
  · refine⟨?_,(Uw D).lt s id o ho⟩
    revert id o
    exact jM (p:=fun id o=>hp0 (if id=2 then Y else id)=some (o.ren fun i=>if i=2 then Y else i)) (by simp[h0,h1,h2,AObj.ren,AV.renL,AV.ren,go_sem,hes])
  · have a:=((Uw D).lt s id o ho).1
    have b:=((Uw D).lt s id' o' ho').1
    split at h<;>split at h<;>omega
  · rintro r' hp' ⟨rfl,x',rfl,rfl⟩
    exact⟨j5 hrc,fun id o ho=>⟨by have:=((Uw D).lt x' id o ho).1;omega,jf _ (fun j hj=>by omega) ((Uw D).lt x' id o ho).2⟩⟩
  · rintro r' hp' fr' hpn ⟨rfl,x',rfl,rfl⟩ hfr hobj hold
    rw[Jz hrc] at hfr
    have hfr2:fr'=Jg fr d r':=by subst hfr;cases d<;>rfl
    subst hfr2
    have b0:jn (fun i=>if i=2 then Y else i) 2 (n0+1048576*k) 0=0:=by rw[jz (by omega)];simp
    have b1:jn (fun i=>if i=2 then Y else i) 2 (n0+1048576*k) 1=1:=by rw[jz (by omega)];simp
    have b2:jn (fun i=>if i=2 then Y else i) 2 (n0+1048576*k) 2=n0+1048576*k:=by rw[Jq (by omega)];omega
    have g0:=hobj 0 _ rfl
    have g1:=hobj 1 _ rfl
    have g2:=hobj 2 _ rfl
    rw[b0] at g0
    rw[b1] at g1
    rw[b2] at g2
    have hr2:∀ m,AV.renL m (jN D x' (zeros x'))=jN D x' (zeros x'):=fun m=>js (Jb D x' (zeros x'))
    simp only[AObj.ren,AV.renL,AV.ren,b1,b2,jeG,hes,hr2] at g0 g1 g2
    refine hK hpn g0 g1 g2 fun id o i0 i1 iY ho=>hold id o ho fun j hj e=>?_
    have:j<3:=by
      cases hj2:objP D s j with
      |none=>exact absurd hj2 hj
      |some o=>exact((Uw D).lt _ j o hj2).1
    split at e<;>omega
def joo (D:List Dd) (es:List (AV×AV)) (R:List AV) (t:Ty):Nat->Option AObj:=jp [(0,.cells [.sl (ddl D),.rw 2,.mp 1]),(1,.map es),(2,.row 6 R),(3,.cells [.i t.kind,.i t.id,.sl (Ty.avL t.args)]),(4,.cells [.ptr 0 0])]
theorem jcZ {D:List Dd} {es:List (AV×AV)} {R:List AV} (he:EsClo es) (hR:AV.cloL R=true) (t:Ty):ACall Tryd.prog 79 [.ptr 0 0,.agg [.i t.kind,.i t.id,.sl (Ty.avL t.args)]] (qL D es R) 3 3 (fun r hp'=>r= .fn (.func 84) [] [.ptr 3 0,.ptr 4 0]/\hp'=joo D es R t) (fun _ _=>False):=by
 have hRr:∀ m,AV.renL m R=R:=fun m=>js hR
 have hRi:∀ p,AV.idsL p R:=fun p=>jt hR
 refine ACall.of_bodyR Tryd.func79 jly rfl (by simp[Tryd.f79]) fun E Q hE hN hQ hQp=>jg ?_
 repeat'(first|apply nx|refine zx ?_|rw[zw]|refine zk ?_|refine zp ?_|(apply zA;exact zb)|((first|refine zR hE @fun K Kp hK hKp hg=>?_|refine zT hE @fun K Kp hK hKp anc hanc hg=>?_|refine zF hE @fun K Kp hK hKp anc hanc hg=>?_|refine zg (fun hg=>?_) fun hg=>?_)<;>simp only[go_sem,hg])|(refine zc (fun hc=>?_) (fun hc=>?_)<;>try exact zh hc))
 refine je (hQ _ ⟨.fn (.func 84) [] [.ptr 3 0,.ptr 4 0],fun i=>if i=3 then 1048579 else if i=4 then 3 else i,_,5,Ju (by simp only[go_sem]),(by simp[AV.ids,AV.idsL]),?_,rfl,rfl⟩).1
 show Ent _ _ _ (jx [] [(0,.cells [.sl (ddl D),.rw 2,.mp 1]),(1,.map es),(2,.row 6 R),(3,.cells [.i t.kind,.i t.id,.sl (Ty.avL t.args)]),(4,.cells [.ptr 0 0])] 5)
 refine jc (by simp[go_sem]) ?_ (by simp) (fun id hid=>⟨by rw[if_neg (by omega),if_neg (by omega)],by omega⟩)
 simp[go_sem,YK,gM,GE,hRr,hRi,he.ren]
 exact he.ids2 _
def oX (D:List Dd) (t:Ty) (z:List Nd×List Nat):Nat->Option AObj:=jp [(0,.cells [.sl (ddl D),.rw 10,.mp 1]),(1,.map (esF 0 z.1)),(2,.cells [.ptr 0 0]),(3,.cells [.i t.kind,.i t.id,.sl (Ty.avL t.args)]),(4,.cells [.rw 9]),(5,.cells [.i t.kind,.i t.id,.sl (Ty.avL t.args)]),(6,.cells [.ptr 0 0]),(9,.row 1 (il (nI z.2))),(10,.row 6 (jN D z.1 (zeros z.1)))]
theorem jcq {np : Nat} {fr : Nat -> Option AV} {hp : Nat -> Option AObj} {nx N : Nat} {m : Nat -> Nat} {o : AObj} {L : List (Nat × AObj)} (hm : ∀ a b, a < 1000000 -> b < 1000000 -> m a = m b -> a = b) (hm0 : ∀ a, a < np -> m a = a) (hL : ∀ p, p ∈ L -> hp (m p.1) = some (p.2.ren m) /\ p.1 < 1000000 /\ p.2.ids (· < 1000000)) (hN : hp (m N) = some (o.ren m)) (hN2 : N < 1000000) (ho : o.ids (· < 1000000)) (hnp : np <= 1000000) :
    Ent np m ⟨fr,hp,nx⟩ ⟨jL [],jb (jp L) N (some o),1000000⟩:=by
  have key:∀ id ob,jb (jp L) N (some o) id=some ob->hp (m id)=some (ob.ren m)/\id<1000000/\ob.ids (· <1000000):=by
    intro id ob h
    simp only[jb] at h
    split at h
    · rename_i e
      cases h
      rw[e]
      exact⟨hN,hN2,ho⟩
    · exact jM (p:=fun id ob=>hp (m id)=some (ob.ren m)/\id<1000000/\ob.ids (· <1000000)) hL id ob h
  exact Jl (by simp) key (fun a b oa ob ha hb h=>hm a b (key a oa ha).2.1 (key b ob hb).2.1 h) (fun id hid=>⟨hm0 id hid,by omega⟩)
theorem jaa (D:List Dd) (t:Ty) (z:List Nd×List Nat) (fr:List (Nat×AV)):(⟨jL fr,oX D t z,1000000⟩:St)=jx fr [(0,.cells [.sl (ddl D),.rw 10,.mp 1]),(1,.map (esF 0 z.1)),(2,.cells [.ptr 0 0]),(3,.cells [.i t.kind,.i t.id,.sl (Ty.avL t.args)]),(4,.cells [.rw 9]),(5,.cells [.i t.kind,.i t.id,.sl (Ty.avL t.args)]),(6,.cells [.ptr 0 0]),(9,.row 1 (il (nI z.2))),(10,.row 6 (jN D z.1 (zeros z.1)))] 1000000:=rfl
theorem jnO {D : List Dd} {t : Ty} {s0 : List Nd} {n : Int} {fr : Nat -> Option AV} {hpn : Nat -> Option AObj} {nx : Nat} (f2 : fr 2 = some (.ptr 3 0)) (f7 : fr 7 = some (.i n)) (f8 : fr 8 = some (.ptr 5 0)) (f50 : fr 50 = some (.fn (.func 84) [] [.ptr 3145733 0, .ptr 3145734 0]))
    (b0:hpn 0=some (.cells [.sl (ddl D),.rw 2,.mp 1])) (b1:hpn 1=some (.map (esF 0 s0))) (b2:hpn 2=some (.row 6 (jN D s0 (zeros s0)))) (b3:hpn 3145733=some (.cells [.i t.kind,.i t.id,.sl (Ty.avL t.args)])) (b4:hpn 3145734=some (.cells [.ptr 0 0])) (b5:hpn 3=some (.cells [.ptr 0 0])) (b6:hpn 4=some (.cells [.i t.kind,.i t.id,.sl (Ty.avL t.args)])) (b7:hpn 5=some (.cells [.rw 4194309])) (b8:hpn 4194309=some (.row 1 [])):
    Ent 2 (fun i=>if i=2 then 3 else if i=3 then 4 else if i=4 then 5 else if i=5 then 3145733 else if i=6 then 3145734 else if i=9 then 4194309 else if i=10 then 2 else i) ⟨fr,hpn,nx⟩ ⟨jL [(2,.ptr 2 0),(7,.i n),(8,.ptr 4 0),(50,.fn (.func 84) [] [.ptr 5 0,.ptr 6 0])],oX D t (s0,[]),1000000⟩:=by
  have he:=Je 0 s0
  have hr:∀ m,AV.renL m (jN D s0 (zeros s0))=jN D s0 (zeros s0):=fun m=>js (Jb D s0 (zeros s0))
  have hi:∀ p,AV.idsL p (jN D s0 (zeros s0)):=fun p=>jt (Jb D s0 (zeros s0))
  rw[jaa]
  refine jc (by simp[f2,f7,f8,f50,go_sem]) ?_ (by simp) (fun id hid=>⟨by repeat rw[if_neg (by omega)],by omega⟩)
  simp[go_sem,b0,b1,b2,b3,b4,b5,b6,b7,b8,hr,hi,he.ren,nI]
  exact he.ids2 _
theorem Oe (add:Ty->List Nd->List Nd×Nat) (c:Ty):∀ (l:List Ty) (s:List Nd),YI add (l++[c]) s=((add c (YI add l s).1).1,(YI add l s).2++[(add c (YI add l s).1).2])
 | [],s=>by simp[YI]
 |d::l,s=>by rw[List.cons_append,YI,Oe add c l,YI];rfl
def IAd (D:List Dd) (t c:Ty) (s1 s2:List Nd) (l:List Nat) (j:Nat) (lp:AObj) (Dn:Nat->Bool) (O:St):Prop:=
 O.nx=3097152/\(O.fr 2=some (.ptr 2 0)/\O.fr 8=some (.ptr 4 0)/\O.fr 9=some (.ptr 1000000 0))/\
 (O.hp 2=some (.cells [.ptr 0 0])/\O.hp 3=some (.cells [.i t.kind,.i t.id,.sl (Ty.avL t.args)])/\O.hp 5=some (.cells [.i t.kind,.i t.id,.sl (Ty.avL t.args)])/\O.hp 6=some (.cells [.ptr 0 0])/\O.hp 7=some lp/\O.hp 1000000=some (.cells [.i c.kind,.i c.id,.sl (Ty.avL c.args)]))/\
 (Dn 3=false->O.hp 0=some (.cells [.sl (ddl D),.rw 10,.mp 1])/\O.hp 1=some (.map (esF 0 s1))/\O.hp 10=some (.row 6 (jN D s1 (zeros s1))))/\
 (Dn 3=true->O.hp 0=some (.cells [.sl (ddl D),.rw 6242880,.mp 1])/\O.hp 1=some (.map (esF 0 s2))/\O.hp 6242880=some (.row 6 (jN D s2 (zeros s2)))/\O.fr 55=some (.i (j:Nat)))/\
 (Dn 0=true->O.fr 52=some (.rw 9))/\(Dn 1=true->O.fr 53=some (.ptr 0 0))/\(Dn 2=true->O.fr 54=some (.agg [.i c.kind,.i c.id,.sl (Ty.avL c.args)]))/\
 (Dn 4=true->O.fr 56=some (.rw 7291456)/\O.hp 7291456=some (.row 1 [.i (j:Nat)]))/\
 (Dn 5=false->O.hp 9=some (.row 1 (il (nI l))))/\(Dn 5=true->O.fr 57=some (.rw 8340032)/\O.hp 8340032=some (.row 1 (il (nI l++[(j:Int)]))))/\
 (Dn 6=false->O.hp 4=some (.cells [.rw 9]))/\(Dn 6=true->O.hp 4=some (.cells [.rw 8340032]))/\
 (Dn 6=true->Dn 5=true)/\(Dn 5=true->Dn 0=true/\Dn 4=true)/\(Dn 4=true->Dn 3=true)/\(Dn 3=true->Dn 1=true/\Dn 2=true)
def rfB:Code->Option (Code×Code)
 | .seq a b=>match rfB a with|some c=>some c|none=>rfB b
 | .block _ a=>rfB a
 | .loop a=>rfB a
 | .cond _ a b=>match rfB a with|some c=>some c|none=>rfB b
 | .rangeFunc _ _ a b=>some (a,b)
 |_=>none
theorem jaC {D : List Dd} {t c : Ty} {s1 s2 : List Nd} {l1 : List Nat} {j2 ll fnn N0 : Nat} {E' : En} {Q' : AEx -> St -> Prop} {ag bd : Code} (hbd : Tryd.f61.body.bind rfB = some (ag, bd)) (hN0 : N0 = Tryd.f61.ntmps) (hE : E'.nt = Tryd.f61.ntmps)
    (ih:MCallR Tryd.prog 61 [.ptr 0 0,.agg [.i c.kind,.i c.id,.sl (Ty.avL c.args)]] (objP D) 3 2 s1 (.i (j2:Nat)) (fun s'=>s'=s2)) (hnl:(nI l1).length<=2 ^ 30)
    (hnorm:∀ O m,Ent 8 m O ⟨jL [],jb (oX D t (s2,l1++[j2])) 7 (some (.lp ⟨ll,fnn, #[51],ag,bd,N0,[2,8],.busy,none⟩ [.ptr 2 0,.ptr 4 0])),1000000⟩->Q' .norm O):
    xr Tryd.prog E' ⟨ll,fnn, #[51],ag,bd,N0,[2,8],.ready,none⟩ 7 [.ptr 2 0,.ptr 4 0] [.agg [.i c.kind,.i c.id,.sl (Ty.avL c.args)]] Q' (oX D t (s1,l1)):=by
  have hb2:Tryd.f61.body.bind rfB=some (_,_):=rfl
  rw[hb2] at hbd
  cases hbd
  have hf2:=Je 0 s2
  have hr2:∀ m,AV.renL m (jN D s2 (zeros s2))=jN D s2 (zeros s2):=fun m=>js (Jb D s2 (zeros s2))
  unfold xr
  refine jg ?_
  simp only[gn,List.zip_cons_cons,List.zip_nil_left,List.zip_nil_right,List.foldl_cons,List.foldl_nil]
  repeat'(first|apply nx|refine zx ?_|rw[zw]|refine zk ?_|refine zp ?_|(apply zA;exact zb)|((first|refine zR hE @fun K Kp hK hKp hg=>?_|refine zT hE @fun K Kp hK hKp anc hanc hg=>?_|refine zF hE @fun K Kp hK hKp anc hanc hg=>?_|refine zg (fun hg=>?_) fun hg=>?_)<;>simp only[go_sem,hg])|(refine zc (fun hc=>?_) (fun hc=>?_)<;>try exact zh hc))
  refine jl ?_
  generalize hlp:AObj.lp { l:=ll,fn:=fnn,ps:= #[51],assign:=_,body:=_,nt:=N0,ts:=[2,8],st:=LoopState.busy,pend:=none } [.ptr 2 0,.ptr 4 0]=lp at hnorm ⊢
  refine⟨[.ptr 2 0,.ptr 4 0],by simp[jb],jg ?_⟩
  show AW Tryd.prog E' _ _ ⟨_,_,3097152⟩
  repeat apply nx
  dsimp only
  have hlr:∀ m,(∀ i,i<8->m i=i)->lp.ren m=lp:=fun m hm=>by rw[<- hlp,AObj.ren];simp[AV.renL,AV.ren,hm]
  have hli:lp.ids (· <1000000):=by rw[<- hlp];simp[AObj.ids,AV.idsL,AV.ids]
  refine uZ (n:=7) (IAd D t c s1 s2 l1 j2 lp) mixed hE ?_ ?_ (fun Kp hKp=>?_) ?_ rfl
  · intro D D' O h
    have:=fun j=>(h j).symm
    unfold IAd
    simp only[this]
    exact fun h=>h
  · simp[IAd,go_sem,oX,jp,jb]
    exact hlp
  · refine⟨?_,?_,?_,?_,?_,?_,?_,trivial⟩
    all_goals rintro Dn ⟨fr,hp,n1⟩ hDn hr ⟨hn,hfx,hhx,h3n,h3y,d0,d1,d2,d4,d5n,d5,d6n,d6,o6,o5,o4,o3⟩
    all_goals simp[Region.binds] at hn hfx hhx h3n h3y d0 d1 d2 d4 d5n d5 d6n d6 o6 o5 o4 o3 hDn hr
    all_goals obtain⟨f2,f8,f9⟩:=hfx
    all_goals obtain⟨g2,g3,g5,g6,g7,gc⟩:=hhx
    all_goals subst hn
    all_goals clear hlp
    · have n5:Dn 5=false:=by cases h:Dn 5;rfl;have:=(o5 h).1;simp_all
      have n6:Dn 6=false:=by cases h:Dn 6;rfl;have:=o6 h;simp_all
      simp only[go_sem,f8,d6n n6]
      (simp only[IAd,upd,jb];simp[f2,f8,f9,g2,g3,g5,g6,g7,gc];simp_all)
    · simp only[go_sem,f2,g2]
      (simp only[IAd,upd,jb];simp[f2,f8,f9,g2,g3,g5,g6,g7,gc];simp_all)
    · simp only[go_sem,f9,gc]
      (simp only[IAd,upd,jb];simp[f2,f8,f9,g2,g3,g5,g6,g7,gc];simp_all)
    · obtain⟨y0,y1,y2⟩:=h3n hDn
      simp only[go_sem,d1 hr.1,d2 hr.2]
      have n4:Dn 4=false:=by cases h:Dn 4;rfl;have:=o4 h;simp_all
      have n5:Dn 5=false:=by cases h:Dn 5;rfl;have:=(o5 h).2;simp_all
      have n6:Dn 6=false:=by cases h:Dn 6;rfl;have:=o6 h;simp_all
      refine Hold.mk (UQ ih (by simp[AV.ids,AV.idsL,go_sem]) 10 6242880 (by decide) rfl y0 y1 y2 fun hpn b0 b1 b2 hold=>?_)
      have k2:=hold 2 _ (by decide) (by decide) (by decide) g2
      have k3:=hold 3 _ (by decide) (by decide) (by decide) g3
      have k5:=hold 5 _ (by decide) (by decide) (by decide) g5
      have k6:=hold 6 _ (by decide) (by decide) (by decide) g6
      have k7:=hold 7 _ (by decide) (by decide) (by decide) g7
      have kc:=hold 1000000 _ (by decide) (by decide) (by decide) gc
      have k9:=hold 9 _ (by decide) (by decide) (by decide) (d5n n5)
      have k4:=hold 4 _ (by decide) (by decide) (by decide) (d6n n6)
      clear hold ih g2 g3 g5 g6 g7 gc d5n d6n y0 y1 y2 h3n h3y hnorm
      simp only[go_sem,Jg]
      (simp only[IAd,upd,jb];simp[f2,f8,f9,k2,k3,k5,k6,k7,kc,b0,b1,b2,k4,k9];simp_all)
    · simp only[go_sem,(h3y hr).2.2.2]
      (simp only[IAd,upd,jb];simp[f2,f8,f9,g2,g3,g5,g6,g7,gc];simp_all)
    · obtain⟨e1,e2⟩:=d4 hr.2.1
      have n6:Dn 6=false:=by cases h:Dn 6;rfl;have:=o6 h;simp_all
      simp only[go_sem,d0 hr.1,e1,e2,d5n hDn]
      refine⟨by simp only[Fits];omega,?_⟩
      (simp only[IAd,upd,jb];simp[f2,f8,f9,g2,g3,g5,g6,g7,gc];simp_all)
    · simp only[go_sem,f8,(d5 hr.1).1,d6n hDn]
      (simp only[IAd,upd,jb];simp[f2,f8,f9,g2,g3,g5,g6,g7,gc];simp_all)
  · rintro⟨fr,hp,n1⟩ Dn hDn ⟨hn,⟨f2,f8,f9⟩,⟨g2,g3,g5,g6,g7,gc⟩,h3n,h3y,d0,d1,d2,d4,d5n,d5,d6n,d6,_⟩
    obtain⟨y0,y1,y2,_⟩:=h3y (hDn 3)
    have y5:=d6 (hDn 6)
    have y9:=(d5 (hDn 5)).2
    simp only at y0 y1 y2 y5 y9 g2 g3 g5 g6 g7
    refine jj ?_
    refine jl ?_
    refine hnorm _ (fun i=>if i=10 then 6242880 else if i=9 then 8340032 else i) ?_
    have hr2i:∀ p,AV.idsL p (jN D s2 (zeros s2)):=fun p=>jt (Jb D s2 (zeros s2))
    dsimp only
    refine jcq (fun a b ha hb h=>by(repeat' split at h)<;>omega) (fun a ha=>by show(if a=10 then 6242880 else if a=9 then 8340032 else a)=a;rw[if_neg (by omega),if_neg (by omega)]) ?_ (by rw[hlr _ (fun i hi=>by rw[if_neg (by omega),if_neg (by omega)])];exact g7) (by decide) hli (by decide)
    have hnn:nI (l1++[j2])=nI l1++[(j2:Int)]:=by simp[nI]
    simp[y0,y1,y2,y5,y9,g2,g3,g5,g6,AObj.ren,AV.renL,AV.ren,AObj.ids,AV.ids,AV.idsL,go_sem,hf2.ren,hr2,hr2i,hnn]
    exact hf2.ids2 _

def rfC:Code->Option Code
 | .seq a b=>match rfB a with|some _=>(match rfC a with|some c=>some (.seq c b)|none=>some b)|none=>rfC b
 | .block _ a=>rfC a
 | .loop a=>rfC a
 | .cond _ a b=>match rfC a with|some c=>some c|none=>rfC b
 |_=>none
theorem jc8 {D:List Dd} {s:List Nd} {i:Nat} {n n':Nd} (h:s[i]? =some n):(jN D s (zeros s)).set i (ndv D n' 0)=jN D (s.set i n') (zeros (s.set i n')):=by
 have hi:=(List.getElem?_eq_some_iff.1 h).1
 apply List.ext_getElem?
 intro j
 have e1:zeros (s.set i n')=zeros s:=by simp[zeros]
 rw[e1,List.getElem?_set]
 by_cases hj:i=j
 ·subst hj
  have hl:i<(jN D s (zeros s)).length:=by rw[yq D s _ (yH s)];exact hi
  rw[if_pos rfl,if_pos hl]
  simp[jN,List.getElem?_zipWith,hi,zeros]
 ·rw[if_neg hj]
  simp[jN,List.getElem?_zipWith,hj]
theorem jfc {s:List Nd} {i:Nat} {n n':Nd} (h:s[i]? =some n) (ht:n'.t=n.t):kys s=kys (s.set i n'):=by
 have hi:=(List.getElem?_eq_some_iff.1 h).1
 apply List.ext_getElem?
 intro j
 simp only[kys,List.getElem?_map,List.getElem?_set]
 by_cases hj:i=j
 ·subst hj
  rw[if_pos rfl,if_pos hi,h]
  simp[ht]
 ·rw[if_neg hj]
theorem jeh {D : List Dd} {t : Ty} {s : List Nd} {z : List Nd × List Nat} {E : En} {Q : AEx -> St -> Prop} {cd : Code} (hcd : Tryd.f61.body.bind rfC = some cd) (hE : E.nt = Tryd.f61.ntmps) (hN : E.np = 2) (hz : z.1[s.length]? = some ⟨t, []⟩) (hzl : z.1.length <= 2 ^ 40)
    (hQ:∀ O,Jy Tryd.prog Tryd.f61.results.toList O=some (.i (s.length:Nat))->(∃ m nc,Ent 2 m O ⟨fun _=>none,objP D (z.1.set s.length ⟨t,z.2⟩),nc⟩)->Q .ret O):
    AW Tryd.prog E cd (Kq Tryd.prog E [] Q) ⟨jL [(2,.ptr 2 0),(7,.i (s.length:Int)),(8,.ptr 4 0),(50,.fn (.func 84) [] [.ptr 5 0,.ptr 6 0])],oX D t z,1000000⟩:=by
  have hb2:Tryd.f61.body.bind rfC=some _:=rfl
  rw[hb2] at hcd
  cases hcd
  have hsl:=(List.getElem?_eq_some_iff.1 hz).1
  have hl:s.length<(jN D z.1 (zeros z.1)).length:=by rw[yq D z.1 _ (yH _)];exact hsl
  have hg:(jN D z.1 (zeros z.1))[s.length]? =some (.agg [.i t.kind,.i t.id,.sl (Ty.avL t.args),.str (tx (txL (lab D t))),.sl [],.i 0]):=by
    rw[yU hz (k:=0) (by simp[zeros,hsl])];rfl
  have hst:=jc8 (D:=D) (n':=⟨t,z.2⟩) hz
  simp only[ndv] at hst
  rw[show((0:Nat):Int)=0 from rfl] at hst
  rw[jaa]
  refine JE 4 0 9 (sz:=1) (xs:=il (nI z.2)) (by simp[go_sem];rfl) rfl (by simp[go_sem]) (by decide) (qB _) ?_
  repeat'(first|apply nx|refine zx ?_|rw[zw]|refine zk ?_|refine zp ?_|(apply zA;exact zb)|((first|refine zR hE fun zq=>?_|refine zT hE fun hanc zq=>?_|refine zF hE fun hanc zq=>?_|refine zg (fun zq=>?_) fun zq=>?_)<;>simp only[go_sem,ja hl,hg,zq])|(refine zc (fun hc=>?_) (fun hc=>?_)<;>try exact zh hc))
  rw[hst]
  have hen:esF 0 z.1=esF 0 (z.1.set s.length ⟨t,z.2⟩):=Uv 0 _ _ (jfc hz rfl)
  rw[hen]
  have hzn:zeros (z.1.set s.length ⟨t,z.2⟩)=zeros (z.1.set s.length ⟨t,z.2⟩):=rfl
  generalize z.1.set s.length ⟨t,z.2⟩=s' at*
  have he:=Je 0 s'
  have hRc:=Jb D s' (zeros s')
  have hRr:∀ m,AV.renL m (jN D s' (zeros s'))=jN D s' (zeros s'):=fun m=>js hRc
  have hRi:∀ p,AV.idsL p (jN D s' (zeros s')):=fun p=>jt hRc
  refine je (hQ _ (by simp only[go_sem];rfl) ⟨fun i=>if i=2 then 10 else i,3,?_⟩)
  refine jc (fr:=[]) (by simp) ?_ (by simp) (fun id hid=>⟨by rw[if_neg (by omega)],by omega⟩)
  simp[go_sem,jb,hRr,hRi,he.ren]
  exact he.ids2 _
end Go.Proofs.YtfpcjabbcpgbjaaDoor
