/- A part of the proof: an abstract machine for the walks, and what the walked functions compute. -/
import Derived.Test.YtffmphmiicnaeaaDoorRb
import Derived.Test.YtffmphmiicnaeaaDoorMq
set_option linter.unusedVariables false
set_option linter.unusedSimpArgs false
set_option maxHeartbeats 4000000
set_option maxRecDepth 100000
namespace Go.Lf
open Go Go.Am
theorem stl_snap (F:Nat→Option AObj) (l:List St):(stl l).map (AV.snap F)=stl l:=by
 rw[stl_eq,List.map_map]
 congr 1
 funext t
 cases t
 simp[St.av,AV.snap,AV.snapL]
theorem stl_snapOk (F:Nat→Option AObj) (l:List St):∀ x,x∈stl l→x.snapOk F:=by
 intro x hx
 rw[stl_eq] at hx
 obtain⟨t,_,rfl⟩:=List.mem_map.1 hx
 cases t
 simp[St.av,AV.snapOk,AV.snapOkL]
theorem AW_frzRow {P : Program} {E : En} {fr : Nat → Option AV} {hp : Nat → Option AObj} {nx : Nat} {c : Code} {Q : AEx → Am.St → Prop} (X id : Nat) {sz sz' : Nat} {l l' xs : List AV} (hX : hp X = some (.row sz' l)) (hid : hp id = some (.row sz xs)) (hne : X ≠ id) (hc : CloRow xs)
    (hok:∀ F,F id=some (.row sz xs)→∀ x,x∈l→x.snapOk F) (hl:∀ F,F id=some (.row sz xs)→l.map (AV.snap F)=l')
    (h:AW P E c Q ⟨fr,updo (updo hp id none) X (some (.row sz' l')),nx⟩):AW P E c Q ⟨fr,hp,nx⟩:=by
  refine AW.frz (σ':=⟨fr,updo (updo hp id none) X (some (.row sz' l')),nx⟩) (fun i=>if i=id then some (.row sz xs) else none) (fun i o h'=>?_) (fun t x' h'=>⟨x',h',.inl rfl⟩) (fun i o' h'=>?_) rfl h
  · split at h'
    · rename_i e;subst e;cases h';exact hid
    · cases h'
  · simp only[updo] at h'
    split at h'
    · rename_i e
      subst e
      cases h'
      refine⟨if_neg hne,_,hX,?_⟩
      have e1:=hl (fun i=>if i=id then some (.row sz xs) else none) (if_pos rfl)
      have e2:=hok (fun i=>if i=id then some (.row sz xs) else none) (if_pos rfl)
      rw[← e1]
      exact⟨rfl,List.length_map ..,fun i hi=> .inr ⟨e2 _ (getD_mem hi),getD_map hi⟩⟩
    · split at h'
      · cases h'
      · rename_i e
        exact⟨if_neg e,o',h',SnpO.refl _⟩
end Go.Lf
namespace Go.Proofs.YtffmphmiicnaeaaDoor
open Go.Am Go.Proofs Go.Lf
open Classical
attribute [local irreducible] AW CallP CallB
end Go.Proofs.YtffmphmiicnaeaaDoor

set_option maxHeartbeats 4000000
set_option maxRecDepth 100000
namespace Go.Proofs.YtffmphmiicnaeaaDoor
open Nat (reduceAdd reduceMul reduceEqDiff reduceLT reduceLeDiff reduceSub reduceDiv)
open Int (reduceBNe reduceLE reduceEq)
open Go.Am Go.Proofs Go.Lf
open Classical
attribute [local irreducible] AW CallP CallB
theorem lend_c (v:Vs) (off:Int) (hl:v.cs.length≤2 ^ 30) (hn:v.nm.size≤2 ^ 40) (hc:∀ c,c∈v.cs→c.nm.size≤2 ^ 40):PCall Tryd.prog 48 [.agg [.str v.li,.sl (adl v.cs)],.str v.nm,.i off] (.tup [.sl (stl (v.cs.flatMap (lendS v off))),.sl (nml (v.cs.map (lendN v)))]):=by
 obtain⟨vn,li,cs⟩:=v
 simp only at hl hn hc ⊢
 have hbd:∀ k,((cs.take k).flatMap (lendS ⟨vn,li,cs⟩ off)).length≤k:=fun k=>by
  have:=lendS_len ⟨vn,li,cs⟩ off (cs.take k)
  have h2:=List.length_take_le k cs
  omega
 refine PCall.intro Tryd.func48 rfl isf48 (by simp[Tryd.f48]) (by simp[AV.cloL,AV.clo]) fun E Q hE hN hQ=>K_start ?_
 repeat'(first|apply nx|refine zx ?_|rw[zw]|((first|refine hK _ ?_|refine hKp _ _ ?_);clear hK hKp K Kp;try clear hanc anc)|((with_reducible refine And.intro ?_ ?_);exact zb)|((fail_if_success refine K_stop 2 ?_);(first|refine zr hE fun K Kp hK hKp=>?_|refine zd true mixed hE fun K Kp hK hKp anc hanc=>?_|refine zd false mixed hE fun K Kp hK hKp anc hanc=>?_);simp only[go_sem])|(refine zg (fun hg=>?_) (fun hg=>?_)<;>simp only[go_sem,hg])|(refine zc (fun hc=>?_) (fun hc=>?_)<;>try exact zh hc))
 refine AW_nil 6 17 (by rw[hE];decide) (by simp only[go_sem]) ?_
 refine AW_nil 7 1 (by rw[hE];decide) (by simp only[go_sem]) ?_
 repeat'(first|apply nx|refine zx ?_|rw[zw]|((first|refine hK _ ?_|refine hKp _ _ ?_);clear hK hKp K Kp;try clear hanc anc)|((with_reducible refine And.intro ?_ ?_);exact zb)|((first|refine zr hE fun K Kp hK hKp=>?_|refine zd true mixed hE fun K Kp hK hKp anc hanc=>?_|refine zd false mixed hE fun K Kp hK hKp anc hanc=>?_);simp only[go_sem])|(refine zg (fun hg=>?_) (fun hg=>?_)<;>simp only[go_sem,hg])|(refine zc (fun hc=>?_) (fun hc=>?_)<;>try exact zh hc))
 refine K_loop (X:=Nat) (fun i=>i≤cs.length) (fun i=>mkSt [(1,.str vn),(2,.i off),(6,.rw 1),(7,.rw 2),(13,.sl (adl cs)),(14,.i cs.length),(15,.i (i:Nat))] [(1,.row 17 (stl ((cs.take i).flatMap (lendS ⟨vn,li,cs⟩ off)))),(2,.row 1 (nml ((cs.take i).map (lendN ⟨vn,li,cs⟩))))] 3) (fun i=>cs.length - i) 0 (Nat.zero_le _) (fun i=>if i=1 then 7340032 else if i=2 then 7340033 else i) ?_ ?_
 ·refine ent_mk (by simp[go_sem]) (by simp[go_sem]) (by simp) (by simp[hN])
 rintro i hi
 by_cases hlt:i<cs.length
 case neg=>
  obtain rfl:i=cs.length:=by omega
  rw[List.take_length]
  repeat'(first|apply nx|refine zx ?_|rw[zw]|((first|refine hK _ ?_|refine hKp _ _ ?_);clear hK hKp K Kp;try clear hanc anc)|((with_reducible refine And.intro ?_ ?_);exact zb)|((first|refine zr hE fun K Kp hK hKp=>?_|refine zd true mixed hE fun K Kp hK hKp anc hanc=>?_|refine zd false mixed hE fun K Kp hK hKp anc hanc=>?_);simp only[go_sem,ge_dec])|(refine zg (fun hg=>?_) (fun hg=>?_)<;>simp only[go_sem,ge_dec,hg])|(refine zc (fun hc=>?_) (fun hc=>?_)<;>try exact zh hc))
  refine K_ret (hQ _ ⟨.tup [.rw 1,.rw 2],(by simp[resA,rvA,Tryd.f48,go_sem]),?_,?_,rfl⟩).1
  ·simp[AV.snapOk,AV.snapOkL,updo,go_sem]
  ·simp[AV.snap,AV.snapL,updo]
 obtain⟨c,hx⟩:=get?_of hlt
 have u1:=inc_u hlt (by omega)
 have hcn:=hc c (List.mem_of_getElem? hx)
 have hb1:=hbd i
 have hl1:=List.length_take_le i cs
 have hs0:(#[46]:Array UInt8).size=1:=rfl
 have ht:(cs.take (i+1))=cs.take i++[c]:=by rw[List.take_add_one,hx];rfl
 by_cases h1:c.cp=1∨c.cp=2
 ·have e1:lendS ⟨vn,li,cs⟩ off c=[.mk 1 (vn++dot++c.nm) [] [] ⟨if c.cp=2 then 8 else 7,⟨#[]⟩,⟨#[]⟩,⟨#[]⟩,[c.nm],0,[],off⟩ [] [] [] [] off]:=by rw[lendS,if_pos h1]
  have e2:lendN ⟨vn,li,cs⟩ c=vn++dot++c.nm:=by rw[lendN,if_pos h1]
  have en:nml ((cs.take i).map (lendN ⟨vn,li,cs⟩))++[.str (vn++⟨#[46]⟩++c.nm)]=nml ((cs.take (i+1)).map (lendN ⟨vn,li,cs⟩)):=by rw[ht,List.map_append,nml_app];simp[nml,e2,dot]
  rcases h1 with h1|h1
  ·repeat'(first|apply nx|refine zx ?_|rw[zw]|((first|refine hK _ ?_|refine hKp _ _ ?_);clear hK hKp K Kp;try clear hanc anc)|((with_reducible refine And.intro ?_ ?_);exact zb)|((fail_if_success refine K_stop 13 ?_);(first|refine zr hE fun K Kp hK hKp=>?_|refine zd true mixed hE fun K Kp hK hKp anc hanc=>?_|refine zd false mixed hE fun K Kp hK hKp anc hanc=>?_);simp only[go_sem,lt_dec hlt,hx,u1,Ad.av,h1])|(refine zg (fun hg=>?_) (fun hg=>?_)<;>simp only[go_sem,lt_dec hlt,hx,u1,Ad.av,h1,hg])|(refine zc (fun hc=>?_) (fun hc=>?_)<;>try exact zh hc))
   refine AW_frzRow 38797315 23068675 (sz:=1) (sz':=17) (xs:=[.str c.nm]) (l':=stl ((cs.take (i+1)).flatMap (lendS ⟨vn,li,cs⟩ off))) (by simp only[updo, ↓reduceIte,Nat.reduceEqDiff];rfl) (by simp only[updo, ↓reduceIte,Nat.reduceEqDiff]) (by decide) (by simp[CloRow,AV.cells,AV.clo]) (fun F hF x hx=>?_) (fun F hF=>?_) ?_
   ·rcases List.mem_append.1 hx with hx|hx
    ·exact stl_snapOk F _ x hx
    ·simp only[List.mem_cons,List.not_mem_nil,or_false] at hx
     subst hx
     simp[AV.snapOk,AV.snapOkL,hF,CloRow,AV.cells,AV.clo]
   ·rw[List.map_append,stl_snap,ht,List.flatMap_append,stl_app]
    simp[e1,stl,St.av,AV.snap,AV.snapL,hF,h1,nml,dot,txl_nil,stl_nil,arl_nil,fdl_nil]
   repeat'(first|apply nx|refine zx ?_|rw[zw]|((first|refine hK _ ?_|refine hKp _ _ ?_);clear hK hKp K Kp;try clear hanc anc)|((with_reducible refine And.intro ?_ ?_);exact zb)|((first|refine zr hE fun K Kp hK hKp=>?_|refine zd true mixed hE fun K Kp hK hKp anc hanc=>?_|refine zd false mixed hE fun K Kp hK hKp anc hanc=>?_);simp only[go_sem,u1])|(refine zg (fun hg=>?_) (fun hg=>?_)<;>simp only[go_sem,u1,hg])|(refine zc (fun hc=>?_) (fun hc=>?_)<;>try exact zh hc))
   refine⟨i+1,hlt,by omega,fun i=>if i=1 then 38797315 else if i=2 then 17825795 else i,?_⟩
   refine ent_mk (by simp[go_sem]) ?_ (by simp) (by simp[hN])
   simp[go_sem,updo,en, -List.map_take, -List.map_append]
  ·repeat'(first|apply nx|refine zx ?_|rw[zw]|((first|refine hK _ ?_|refine hKp _ _ ?_);clear hK hKp K Kp;try clear hanc anc)|((with_reducible refine And.intro ?_ ?_);exact zb)|((fail_if_success refine K_stop 13 ?_);(first|refine zr hE fun K Kp hK hKp=>?_|refine zd true mixed hE fun K Kp hK hKp anc hanc=>?_|refine zd false mixed hE fun K Kp hK hKp anc hanc=>?_);simp only[go_sem,lt_dec hlt,hx,u1,Ad.av,h1])|(refine zg (fun hg=>?_) (fun hg=>?_)<;>simp only[go_sem,lt_dec hlt,hx,u1,Ad.av,h1,hg])|(refine zc (fun hc=>?_) (fun hc=>?_)<;>try exact zh hc))
   refine AW_frzRow 41943043 26214403 (sz:=1) (sz':=17) (xs:=[.str c.nm]) (l':=stl ((cs.take (i+1)).flatMap (lendS ⟨vn,li,cs⟩ off))) (by simp only[updo, ↓reduceIte,Nat.reduceEqDiff];rfl) (by simp only[updo, ↓reduceIte,Nat.reduceEqDiff]) (by decide) (by simp[CloRow,AV.cells,AV.clo]) (fun F hF x hx=>?_) (fun F hF=>?_) ?_
   ·rcases List.mem_append.1 hx with hx|hx
    ·exact stl_snapOk F _ x hx
    ·simp only[List.mem_cons,List.not_mem_nil,or_false] at hx
     subst hx
     simp[AV.snapOk,AV.snapOkL,hF,CloRow,AV.cells,AV.clo]
   ·rw[List.map_append,stl_snap,ht,List.flatMap_append,stl_app]
    simp[e1,stl,St.av,AV.snap,AV.snapL,hF,h1,nml,dot,txl_nil,stl_nil,arl_nil,fdl_nil]
   repeat'(first|apply nx|refine zx ?_|rw[zw]|((first|refine hK _ ?_|refine hKp _ _ ?_);clear hK hKp K Kp;try clear hanc anc)|((with_reducible refine And.intro ?_ ?_);exact zb)|((first|refine zr hE fun K Kp hK hKp=>?_|refine zd true mixed hE fun K Kp hK hKp anc hanc=>?_|refine zd false mixed hE fun K Kp hK hKp anc hanc=>?_);simp only[go_sem,u1])|(refine zg (fun hg=>?_) (fun hg=>?_)<;>simp only[go_sem,u1,hg])|(refine zc (fun hc=>?_) (fun hc=>?_)<;>try exact zh hc))
   refine⟨i+1,hlt,by omega,fun i=>if i=1 then 41943043 else if i=2 then 20971523 else i,?_⟩
   refine ent_mk (by simp[go_sem]) ?_ (by simp) (by simp[hN])
   simp[go_sem,updo,en, -List.map_take, -List.map_append]
 ·have e1:lendS ⟨vn,li,cs⟩ off c=[]:=by rw[lendS,if_neg h1]
  have e2:lendN ⟨vn,li,cs⟩ c=c.nm:=by rw[lendN,if_neg h1]
  have en:nml ((cs.take i).map (lendN ⟨vn,li,cs⟩))++[.str c.nm]=nml ((cs.take (i+1)).map (lendN ⟨vn,li,cs⟩)):=by rw[ht,List.map_append,nml_app];simp[nml,e2]
  have es:stl ((cs.take (i+1)).flatMap (lendS ⟨vn,li,cs⟩ off))=stl ((cs.take i).flatMap (lendS ⟨vn,li,cs⟩ off)):=by rw[ht,List.flatMap_append,stl_app];simp[e1,stl_nil]
  have q1:(c.cp==1)=false:=by simp;omega
  have q2:(c.cp==2)=false:=by simp;omega
  repeat'(first|apply nx|refine zx ?_|rw[zw]|((first|refine hK _ ?_|refine hKp _ _ ?_);clear hK hKp K Kp;try clear hanc anc)|((with_reducible refine And.intro ?_ ?_);exact zb)|((first|refine zr hE fun K Kp hK hKp=>?_|refine zd true mixed hE fun K Kp hK hKp anc hanc=>?_|refine zd false mixed hE fun K Kp hK hKp anc hanc=>?_);simp only[go_sem,lt_dec hlt,hx,u1,Ad.av,q1,q2])|(refine zg (fun hg=>?_) (fun hg=>?_)<;>simp only[go_sem,lt_dec hlt,hx,u1,Ad.av,q1,q2,hg])|(refine zc (fun hc=>?_) (fun hc=>?_)<;>try exact zh hc))
  refine⟨i+1,hlt,by omega,fun i=>if i=2 then 16777219 else i,?_⟩
  refine ent_mk (by simp[go_sem]) ?_ (by simp) (by simp[hN])
  simp[go_sem,updo,en,es, -List.map_take, -List.map_append]

end Go.Proofs.YtffmphmiicnaeaaDoor

set_option maxHeartbeats 4000000
set_option maxRecDepth 100000
namespace Go.Lf
open Go Go.Am
def esB (l:List Nm):List (AV×AV):=l.map fun n=>(AV.str n,AV.bool true)
theorem esB_find (n:Nm):∀ l:List Nm,findS n (esB l)=some (if inN n l=true then some (.bool true) else none)
 | []=>by rw[esB,List.map_nil,findS];rfl
 |x::l=>by
  have ih:=esB_find n l
  rw[esB] at ih
  rw[esB,List.map_cons,findS,ih]
  by_cases h:n=x
  ·subst h;simp[inN]
  ·have h2:x≠n:=fun e=>h e.symm
   rw[if_neg h,inN,inN,List.any_cons,decide_eq_false h2,Bool.false_or]
theorem esB_snoc (l:List Nm) (n:Nm):esB l++[(.str n,.bool true)]=esB (l++[n]):=by simp[esB]
theorem esB_upd (n:Nm):∀ l:List Nm,updS n (.bool true) (esB l)=esB l
 | []=>rfl
 |x::l=>by
  have ih:=esB_upd n l
  rw[esB] at ih
  rw[esB,List.map_cons,updS]
  by_cases h:n=x
  ·subst h;rw[if_pos rfl]
  ·rw[if_neg h,ih]
theorem esB_clo (l:List Nm):EsClo (esB l):=fun p hp=>by
 obtain⟨n,_,rfl⟩:=List.mem_map.1 hp
 exact⟨rfl,rfl⟩
theorem inN_rev (n:Nm) (l:List Nm):inN n l.reverse=inN n l:=by simp[inN]
def failL (e p:Int):AV:= .iface 72 (.agg [.i e,.i p])
end Go.Lf
namespace Go.Proofs.YtffmphmiicnaeaaDoor
open Go.Am Go.Proofs Go.Lf
open Classical
attribute [local irreducible] AW CallP CallB
theorem check_c (nm:Nm) (ps:List Nm) (bs:List Bd) (cs ag:List Ad) (res:Tx) (b:List Lf.St) (off:Int) (hc:cs.length≤2 ^ 30) (ha:ag.length≤2 ^ 30):A0 Tryd.prog 61 [(Lf.Fd.mk nm ps bs cs ag res b off).av] (fun r=>chk (cs++ag) off=none∧r= .tup []) (fun x=>∃ e p,chk (cs++ag) off=some (e,p)∧x=failL e p):=by
 have c0:=concatA_c cs ag hc ha
 rw[Fd.av]
 generalize hall:cs++ag=all at c0 ⊢
 have hlen:all.length=cs.length+ag.length:=by rw[← hall,List.length_append]
 refine A0.intro Tryd.func61 rfl isf61 (by simp[Tryd.f61]) fun E Q hE hN hQ hQp=>K_start ?_
 repeat'(first|apply nx|refine zx ?_|rw[zw]|((first|refine hK _ ?_|refine hKp _ _ ?_);clear hK hKp K Kp;try clear hanc anc)|((with_reducible refine And.intro ?_ ?_);exact zb)|((first|refine zr hE fun K Kp hK hKp=>?_|refine zd true mixed hE fun K Kp hK hKp anc hanc=>?_|refine zd false mixed hE fun K Kp hK hKp anc hanc=>?_);simp only[go_sem])|(refine zg (fun hg=>?_) (fun hg=>?_)<;>simp only[go_sem,hg])|(refine zc (fun hc=>?_) (fun hc=>?_)<;>try exact zh hc))
 refine Hold.mk (CallB.dpure [7340032] 4 c0 (by simp only[go_sem,List.mem_cons,List.not_mem_nil,or_false]) (by simp[go_sem]) (fun _=>rfl) (fun _=>⟨trivial,trivial⟩) rfl ?_)
 simp only[go_sem]
 repeat'(first|apply nx|refine zx ?_|rw[zw]|((first|refine hK _ ?_|refine hKp _ _ ?_);clear hK hKp K Kp;try clear hanc anc)|((with_reducible refine And.intro ?_ ?_);exact zb)|((first|refine zr hE fun K Kp hK hKp=>?_|refine zd true mixed hE fun K Kp hK hKp anc hanc=>?_|refine zd false mixed hE fun K Kp hK hKp anc hanc=>?_);simp only[go_sem])|(refine zg (fun hg=>?_) (fun hg=>?_)<;>simp only[go_sem,hg])|(refine zc (fun hc=>?_) (fun hc=>?_)<;>try exact zh hc))
 refine K_loop (X:=Nat) (fun i=>i≤all.length∧twice [] all=twice ((all.take i).map Ad.nm).reverse (all.drop i)) (fun i=>mkSt [(1,.ptr 0 0),(2,.mp 1),(11,.sl (adl all)),(12,.i all.length),(13,.i (i:Nat))] [(0,.cells [.str nm,.sl (nml ps),.sl (bdl bs),.sl (adl cs),.sl (adl ag),.str res.n,.sl (Tx.avL res.a),.i res.o,.sl (stl b),.i off]),(1,.map (esB ((all.take i).map Ad.nm)))] 2) (fun i=>all.length - i) 0 ⟨Nat.zero_le _,rfl⟩ (fun i=>if i=1 then 1048576 else i) ?_ ?_
 ·refine ent_mk (by simp[go_sem]) (by simp[go_sem,esB]) (by simp) (by simp[hN])
 rintro i ⟨hi,he⟩
 by_cases hlt:i<all.length
 case neg=>
  obtain rfl:i=all.length:=by omega
  rw[List.drop_length,twice] at he
  by_cases h8:8<all.length
  ·have q:decide ((cs.length:Int)+(ag.length:Int)>8)=true:=decide_eq_true (by omega)
   have u:IntKind.i64.wrap ((cs.length:Int)+(ag.length:Int))=(cs.length:Int)+(ag.length:Int):=by rw[wrap64 (by omega) (by omega)]
   repeat'(first|apply nx|refine zx ?_|rw[zw]|((first|refine hK _ ?_|refine hKp _ _ ?_);clear hK hKp K Kp;try clear hanc anc)|((with_reducible refine And.intro ?_ ?_);exact zb)|((first|refine zr hE fun K Kp hK hKp=>?_|refine zd true mixed hE fun K Kp hK hKp anc hanc=>?_|refine zd false mixed hE fun K Kp hK hKp anc hanc=>?_);simp only[go_sem,ge_dec,q,u])|(refine zg (fun hg=>?_) (fun hg=>?_)<;>simp only[go_sem,ge_dec,q,u,hg])|(refine zc (fun hc=>?_) (fun hc=>?_)<;>try exact zh hc))
   exact hQp _ _ ⟨2,off,by rw[chk,he];simp only;rw[if_pos h8],rfl⟩ rfl
  ·have q:decide ((cs.length:Int)+(ag.length:Int)>8)=false:=decide_eq_false (by omega)
   have u:IntKind.i64.wrap ((cs.length:Int)+(ag.length:Int))=(cs.length:Int)+(ag.length:Int):=by rw[wrap64 (by omega) (by omega)]
   repeat'(first|apply nx|refine zx ?_|rw[zw]|((first|refine hK _ ?_|refine hKp _ _ ?_);clear hK hKp K Kp;try clear hanc anc)|((with_reducible refine And.intro ?_ ?_);exact zb)|((first|refine zr hE fun K Kp hK hKp=>?_|refine zd true mixed hE fun K Kp hK hKp anc hanc=>?_|refine zd false mixed hE fun K Kp hK hKp anc hanc=>?_);simp only[go_sem,ge_dec,q,u])|(refine zg (fun hg=>?_) (fun hg=>?_)<;>simp only[go_sem,ge_dec,q,u,hg])|(refine zc (fun hc=>?_) (fun hc=>?_)<;>try exact zh hc))
   refine Kq_norm_nil ?_
   exact(hQ _ ⟨.tup [],rfl,⟨by rw[chk,he];simp only;rw[if_neg h8],rfl⟩,rfl⟩).2
 obtain⟨a,hx⟩:=get?_of hlt
 have u1:=inc_u hlt (by omega)
 have hf:=esB_find a.nm ((all.take i).map Ad.nm)
 rw[drop_of hx,twice,inN_rev] at he
 have ht:(all.take (i+1)).map Ad.nm=(all.take i).map Ad.nm++[a.nm]:=by rw[List.take_add_one,hx];simp
 by_cases hin:inN a.nm ((all.take i).map Ad.nm)=true
 ·rw[if_pos hin] at he hf
  repeat'(first|apply nx|refine zx ?_|rw[zw]|((first|refine hK _ ?_|refine hKp _ _ ?_);clear hK hKp K Kp;try clear hanc anc)|((with_reducible refine And.intro ?_ ?_);exact zb)|((first|refine zr hE fun K Kp hK hKp=>?_|refine zd true mixed hE fun K Kp hK hKp anc hanc=>?_|refine zd false mixed hE fun K Kp hK hKp anc hanc=>?_);simp only[go_sem,lt_dec hlt,hx,Ad.av,hf,lkRes])|(refine zg (fun hg=>?_) (fun hg=>?_)<;>simp only[go_sem,lt_dec hlt,hx,Ad.av,hf,lkRes,hg])|(refine zc (fun hc=>?_) (fun hc=>?_)<;>try exact zh hc))
  exact hQp _ _ ⟨7,a.off,by rw[chk,he],rfl⟩ rfl
 ·rw[if_neg hin] at he hf
  repeat'(first|apply nx|refine zx ?_|rw[zw]|((first|refine hK _ ?_|refine hKp _ _ ?_);clear hK hKp K Kp;try clear hanc anc)|((with_reducible refine And.intro ?_ ?_);exact zb)|((first|refine zr hE fun K Kp hK hKp=>?_|refine zd true mixed hE fun K Kp hK hKp anc hanc=>?_|refine zd false mixed hE fun K Kp hK hKp anc hanc=>?_);simp only[go_sem,lt_dec hlt,hx,Ad.av,hf,u1,lkRes,putT])|(refine zg (fun hg=>?_) (fun hg=>?_)<;>simp only[go_sem,lt_dec hlt,hx,Ad.av,hf,u1,lkRes,putT,hg])|(refine zc (fun hc=>?_) (fun hc=>?_)<;>try exact zh hc))
  refine⟨i+1,⟨hlt,?_⟩,by omega,fun i=>i,?_⟩
  ·rw[he,ht,List.reverse_append];rfl
  refine ent_mk (by simp[go_sem]) ?_ (by simp) (by simp[hN])
  have hr:=fun m=>(esB_clo ((all.take i).map Ad.nm++[a.nm])).ren (m:=m)
  simp[go_sem,esB_snoc,ht, -List.map_take,hr]
  exact(esB_clo _).ids2 _
end Go.Proofs.YtffmphmiicnaeaaDoor

set_option maxHeartbeats 4000000
set_option maxRecDepth 100000
namespace Go.Lf
open Go Go.Am
def visAV (v:Vs):AV:= .agg [.str v.li,.sl (adl v.cs)]
structure VM (es:List (AV×AV)) (now:List Vs):Prop where
 f:∀ n,findS n es=some ((find now n).map visAV)
 c:EsClo es
theorem VM.nil:VM [] []:=⟨fun n=>by rw[findS];rfl,fun p hp=>by cases hp⟩
theorem find_snoc (now:List Vs) (v:Vs) (n:Nm):find (now++[v]) n=if v.nm=n then some v else find now n:=by
 unfold find
 rw[List.reverse_append]
 simp only[List.reverse_cons,List.reverse_nil,List.nil_append,List.singleton_append,List.find?_cons]
 by_cases h:v.nm=n
 ·rw[if_pos h];simp[h]
 ·rw[if_neg h];simp[h]
theorem VM.put {es:List (AV×AV)} {now:List Vs} (h:VM es now) (v:Vs):VM (putT v.nm (visAV v) es ((find now v.nm).map visAV)) (now++[v]):=by
 refine⟨fun n=>?_,h.c.putT v.nm (by rfl) _⟩
 have h1:=MapS.put (F:=fun n=>(find now n).map visAV) h.f v.nm (visAV v) n
 rw[h1,find_snoc]
 simp only
 by_cases hn:n=v.nm
 ·subst hn;rw[if_pos rfl,if_pos rfl];rfl
 ·rw[if_neg hn,if_neg (fun e=>hn e.symm)]
def objL (nm:Nm) (ps:List Nm) (bs:List Bd) (om:List (Nat×AObj)) (x:Ls):Nat→Option AObj:=mkHp ([(0,.cells [.str nm,.sl (nml ps),.sl (bdl bs),.i x.cnt,.rw 2]),(2,.row 10 (fdl x.out))]++om)
end Go.Lf
namespace Go.Proofs.YtffmphmiicnaeaaDoor
open Go.Am Go.Proofs Go.Lf
open Classical
attribute [local irreducible] AW CallP CallB
def LC (f:FuncId) (vs:List AV) (ob:Ls→Nat→Option AObj) (n np:Nat) (x:Ls) (r:AV) (y:Ls):Prop:=
 r.clo=true∧ACall Tryd.prog f vs (ob x) n np (fun r' hp'=>y.err=0∧r'=r∧hp'=ob y) (fun v hp'=>y.err≠0∧v=failL y.err y.pos∧hp'=fun _=>none)
theorem LC.intro {f : FuncId} {fn : Func} {c : Code} {vs : List AV} {ob : Ls → Nat → Option AObj} {n np : Nat} {x y : Ls} {r : AV} (hrc : r.clo = true) (hf : Tryd.prog.funcs[f]? = some fn) (hfn : isFn Tryd.prog f = true) (hb : fn.body = some c) (hn : vs.length ≤ fn.ntmps)
    (h:∀ (E:En) (Q:AEx→Am.St→Prop),E.nt=fn.ntmps→E.np=np→(y.err=0→∀ σ m nc,resA Tryd.prog fn.results.toList σ=some r→Ent np m σ ⟨fun _=>none,ob y,nc⟩→Q .ret σ∧Q .norm σ)→(y.err≠0→∀ σ,Q (.pan (failL y.err y.pos)) σ)→AW Tryd.prog E c Q ⟨mkPar 0 vs,ob x,n⟩):LC f vs ob n np x r y:=by
  refine⟨hrc,ACall.of_bodyR hf hfn hb hn fun E Q hE hN hQ hQp=>h E Q hE hN (fun he σ m nc h1 h2=>?_) (fun he σ=>?_)⟩
  · exact hQ σ ⟨r,m,_,nc,by rw[clo_ren hrc];exact h1,clo_ids hrc,h2,he,rfl,rfl⟩
  · refine hQp _ σ ⟨failL y.err y.pos,fun i=>i,fun _=>none,np,by rw[ren_id],by simp[failL,AV.ids,AV.idsL],ent_idG (fr:=[]) (by simp) (fun id ob ho=>by cases ho) (Nat.le_refl _),he,rfl,rfl⟩
theorem objL_lt {nm:Nm} {ps:List Nm} {bs:List Bd} {om:List (Nat×AObj)} (hom:om=[]∨∃ es,EsClo es∧om=[(1,.map es)]) (x:Ls) (id:Nat) (o:AObj) (h:objL nm ps bs om x id=some o):id<3∧o.ids (· <3):=by
 refine mkHp_allP (p:=fun id o=>id<3∧o.ids (· <3)) (fun q hq=>?_) id o h
 rcases hom with rfl|⟨es,he,rfl⟩
 ·simp only[List.append_nil,List.mem_cons,List.not_mem_nil,or_false] at hq
  rcases hq with rfl|rfl
  ·exact⟨by show 0<3;decide,by simp[AObj.ids,AV.ids,AV.idsL,go_sem]⟩
  ·exact⟨by show 2<3;decide,by simp[AObj.ids,go_sem]⟩
 ·simp only[List.cons_append,List.nil_append,List.mem_cons,List.not_mem_nil,or_false] at hq
  rcases hq with rfl|rfl|rfl
  ·exact⟨by show 0<3;decide,by simp[AObj.ids,AV.ids,AV.idsL,go_sem]⟩
  ·exact⟨by show 2<3;decide,by simp[AObj.ids,go_sem]⟩
  ·exact⟨by show 1<3;decide,by simp only[AObj.ids];exact he.ids _⟩
theorem LC.use1 {nm : Nm} {ps : List Nm} {bs : List Bd} {f : FuncId} {vs us : List AV} {x y : Ls} {r : AV} (hA : LC f vs (objL nm ps bs []) 3 1 x r y) (X Y B : Nat) (hXY : X ≠ Y) (hvs : AV.idsL (· < 1) vs) (hus : us = AV.renL (fun i => if i = 2 then Y else X) vs)
    {fr:Nat→Option AV} {hp0:Nat→Option AObj} {n0 k:Nat} {d:Option Nat} {K:Am.St→Prop} {Kp:AV→Am.St→Prop} (hB:n0+1048576*k+1=B)
    (h0:hp0 X=some (.cells [.str nm,.sl (nml ps),.sl (bdl bs),.i x.cnt,.rw Y])) (h2:hp0 Y=some (.row 10 (fdl x.out)))
    (hK:y.err=0→∀ hpn,hpn X=some (.cells [.str nm,.sl (nml ps),.sl (bdl bs),.i y.cnt,.rw B])→hpn B=some (.row 10 (fdl y.out))→(∀ id o,id≠X→id≠Y→hp0 id=some o→hpn id=some o)→K ⟨putf fr d r,hpn,n0⟩)
    (hKp:y.err≠0→∀ hpn,(∀ id o,id≠X→id≠Y→hp0 id=some o→hpn id=some o)→Kp (failL y.err y.pos) ⟨fr,hpn,n0⟩):
    CallB Tryd.prog f us ⟨fr,hp0,n0⟩ k d K Kp:=by
  subst hB
  obtain⟨hrc,hA⟩:=hA
  have hl:=objL_lt (nm:=nm) (ps:=ps) (bs:=bs) (om:=[]) (.inl rfl)
  refine CallB.use hA (fun i=>if i=2 then Y else X) hus (idsL_imp (fun i hi=>by omega) hvs) (fun id o ho=>?_) (fun id id' o o' ho ho' h=>?_) (fun id hid=>⟨by omega,?_⟩) ?_ ?_ ?_ ?_
  · refine⟨?_,hl x id o ho⟩
    revert id o
    exact mkHp_allP (p:=fun id o=>hp0 (if id=2 then Y else X)=some (o.ren fun i=>if i=2 then Y else X)) (by simp[h0,h2,AObj.ren,AV.renL,AV.ren,go_sem])
  · have q : ∀ id o, objL nm ps bs [] x id = some o → id = 0 ∨ id = 2 := fun id o h => by
      refine mkHp_allP (p:=fun id _=>id=0∨id=2) (fun q hq=>?_) id o h
      simp only[List.append_nil,List.mem_cons,List.not_mem_nil,or_false] at hq
      rcases hq with rfl|rfl<;>simp
    have a:=q _ _ ho
    have b:=q _ _ ho'
    rcases a with rfl|rfl<;>rcases b with rfl|rfl<;>simp at h<;>first|rfl|(exact absurd h hXY)|(exact absurd h.symm hXY)
  · obtain rfl:id=0:=by omega
    simp[objL,mkHp,updo]
  · rintro r' hp' ⟨_,rfl,rfl⟩
    exact⟨clo_ids hrc,fun id o ho=>⟨by have:=(hl y id o ho).1;omega,objids_mono _ (fun j hj=>by omega) (hl y id o ho).2⟩⟩
  · rintro r' hp' ⟨_,rfl,rfl⟩
    exact⟨by simp[failL,AV.ids,AV.idsL],fun id o ho=>by cases ho⟩
  · rintro r' hp' fr' hpn ⟨he,rfl,rfl⟩ hfr hobj hold
    rw[clo_ren hrc] at hfr
    have e:fr'=putf fr d r':=by subst hfr;cases d<;>rfl
    subst e
    have b0:backM (fun i=>if i=2 then Y else X) 1 (n0+1048576*k) 0=X:=by rw[backM_lt (by omega)];simp
    have b2:backM (fun i=>if i=2 then Y else X) 1 (n0+1048576*k) 2=n0+1048576*k+1:=by rw[backM_ge (by omega)]
    have g0:=hobj 0 _ rfl
    have g2:=hobj 2 _ rfl
    rw[b0] at g0
    rw[b2] at g2
    simp only[AObj.ren,AV.renL,AV.ren,b2,nml_ren,bdl_ren,fdl_ren] at g0 g2
    refine hK he hpn g0 g2 fun id o i0 iY ho=>hold id o ho fun j hj e=>?_
    split at e
    · exact iY e.symm
    · exact i0 e.symm
  · rintro v hp' hpn ⟨he,rfl,rfl⟩ hobj hold
    rw[show(failL y.err y.pos).ren (backM (fun i=>if i=2 then Y else X) 1 (n0+1048576*k))=failL y.err y.pos from clo_ren rfl]
    refine hKp he hpn fun id o i0 iY ho=>hold id o ho fun j hj e=>?_
    split at e
    · exact iY e.symm
    · exact i0 e.symm
theorem LC.use2 {nm : Nm} {ps : List Nm} {bs : List Bd} {es : List (AV × AV)} (hes : EsClo es) {f : FuncId} {vs us : List AV} {x y : Ls} {r : AV} (hA : LC f vs (objL nm ps bs [(1, .map es)]) 3 2 x r y) (M Y B : Nat) (hM : 2 ≤ M) (hY : 2 ≤ Y) (hMY : M ≠ Y) (hvs : AV.idsL (· < 2) vs) (hus : us = AV.renL (fun i => if i = 2 then Y else if i = 1 then M else 0) vs)
    {fr:Nat→Option AV} {hp0:Nat→Option AObj} {n0 k:Nat} {d:Option Nat} {K:Am.St→Prop} {Kp:AV→Am.St→Prop} (hB:n0+1048576*k=B)
    (h0:hp0 0=some (.cells [.str nm,.sl (nml ps),.sl (bdl bs),.i x.cnt,.rw Y])) (h1:hp0 M=some (.map es)) (h2:hp0 Y=some (.row 10 (fdl x.out)))
    (hK:y.err=0→∀ hpn,hpn 0=some (.cells [.str nm,.sl (nml ps),.sl (bdl bs),.i y.cnt,.rw B])→hpn M=some (.map es)→hpn B=some (.row 10 (fdl y.out))→(∀ id o,id≠0→id≠M→id≠Y→hp0 id=some o→hpn id=some o)→K ⟨putf fr d r,hpn,n0⟩)
    (hKp:y.err≠0→∀ hpn,Kp (failL y.err y.pos) ⟨fr,hpn,n0⟩):
    CallB Tryd.prog f us ⟨fr,hp0,n0⟩ k d K Kp:=by
  subst hB
  obtain⟨hrc,hA⟩:=hA
  have hl:=objL_lt (nm:=nm) (ps:=ps) (bs:=bs) (om:=[(1,.map es)]) (.inr ⟨es,hes,rfl⟩)
  have her:=fun m=>hes.ren (m:=m)
  refine CallB.use hA (fun i=>if i=2 then Y else if i=1 then M else 0) hus (idsL_imp (fun i hi=>by omega) hvs) (fun id o ho=>?_) (fun id id' o o' ho ho' h=>?_) (fun id hid=>⟨by omega,?_⟩) ?_ ?_ ?_ ?_
  · refine⟨?_,hl x id o ho⟩
    revert id o
    exact mkHp_allP (p:=fun id o=>hp0 (if id=2 then Y else if id=1 then M else 0)=some (o.ren fun i=>if i=2 then Y else if i=1 then M else 0)) (by simp[h0,h1,h2,AObj.ren,AV.renL,AV.ren,go_sem,her])
  · have a:=(hl x id o ho).1
    have b:=(hl x id' o' ho').1
    rcases(by omega:id=0∨id=1∨id=2) with rfl|rfl|rfl<;>rcases(by omega:id'=0∨id'=1∨id'=2) with rfl|rfl|rfl<;>simp at h<;>omega
  · rcases(by omega:id=0∨id=1) with rfl|rfl<;>simp[objL,mkHp,updo]
  · rintro r' hp' ⟨_,rfl,rfl⟩
    exact⟨clo_ids hrc,fun id o ho=>⟨by have:=(hl y id o ho).1;omega,objids_mono _ (fun j hj=>by omega) (hl y id o ho).2⟩⟩
  · rintro r' hp' ⟨_,rfl,rfl⟩
    exact⟨by simp[failL,AV.ids,AV.idsL],fun id o ho=>by cases ho⟩
  · rintro r' hp' fr' hpn ⟨he,rfl,rfl⟩ hfr hobj hold
    rw[clo_ren hrc] at hfr
    have e:fr'=putf fr d r':=by subst hfr;cases d<;>rfl
    subst e
    have b0:backM (fun i=>if i=2 then Y else if i=1 then M else 0) 2 (n0+1048576*k) 0=0:=by rw[backM_lt (by omega)];simp
    have b1:backM (fun i=>if i=2 then Y else if i=1 then M else 0) 2 (n0+1048576*k) 1=M:=by rw[backM_lt (by omega)];simp
    have b2:backM (fun i=>if i=2 then Y else if i=1 then M else 0) 2 (n0+1048576*k) 2=n0+1048576*k:=by rw[backM_ge (by omega)];rfl
    have g0:=hobj 0 _ rfl
    have g1:=hobj 1 _ rfl
    have g2:=hobj 2 _ rfl
    rw[b0] at g0
    rw[b1] at g1
    rw[b2] at g2
    simp only[AObj.ren,AV.renL,AV.ren,b2,nml_ren,bdl_ren,fdl_ren,her] at g0 g1 g2
    refine hK he hpn g0 g1 g2 fun id o i0 iM iY ho=>hold id o ho fun j hj e=>?_
    split at e
    · exact iY e.symm
    · split at e
      · exact iM e.symm
      · exact i0 e.symm
  · rintro v hp' hpn ⟨he,rfl,rfl⟩ hobj hold
    rw[show(failL y.err y.pos).ren (backM (fun i=>if i=2 then Y else if i=1 then M else 0) 2 (n0+1048576*k))=failL y.err y.pos from clo_ren rfl]
    exact hKp he hpn
end Go.Proofs.YtffmphmiicnaeaaDoor

namespace Go.Lf
open Go Go.Am
mutual
def St.wt:St→Nat
 | .mk k nm ns ty ex th el ar fn off=>wtL th+wtL el+wtA ar+wtF fn
def wtL:List St→Nat
 | []=>0
 |s::l=>s.wt+wtL l
def Ar.wt:Ar→Nat
 | .mk v ns b off=>wtL b
def wtA:List Ar→Nat
 | []=>0
 |s::l=>s.wt+wtA l
def Fd.wt:Fd→Nat
 | .mk nm ps bs cs ag res b off=>nm.size+64+(cs.map fun c=>c.nm.size).sum+wtL b
def wtF:List Fd→Nat
 | []=>0
 |s::l=>s.wt+wtF l
end
def NV (now:List Vs):Prop:=∀ v,v∈now→v.cs.length≤1024∧v.nm.size≤2 ^ 40∧∀ c,c∈v.cs→c.nm.size≤2 ^ 40
theorem NV.vb {now:List Vs} (h:NV now):VB 1024 now:=fun v hv=>(h v hv).1
theorem NV.snoc {now:List Vs} (h:NV now) {v:Vs} (hv:v.cs.length≤1024∧v.nm.size≤2 ^ 40∧∀ c,c∈v.cs→c.nm.size≤2 ^ 40):NV (now++[v]):=fun w hw=>by
 rcases List.mem_append.1 hw with hw|hw
 ·exact h w hw
 ·rw[List.mem_singleton.1 hw];exact hv
structure Ok (x:Ls) (n:Nat):Prop where
 e:x.err=0
 p:x.pos=0
 c:x.cnt+n≤2 ^ 20
 o:x.out.length+n≤2 ^ 20
variable {dec:Nat→Nm}
theorem Ok.mono {x:Ls} {n m:Nat} (h:Ok x n) (hm:m≤n):Ok x m:=⟨h.e,h.p,by have:=h.c;omega,by have:=h.o;omega⟩
theorem Ok.grow {x y:Ls} {n m:Nat} (h:Ok x n) (g:Grow y x m) (hm:m≤n) (he:y.err=0) (hp:y.pos=0):Ok y (n - m):=⟨he,hp,by have:=h.c;have:=g.1;omega,by have:=h.o;have:=g.2;omega⟩
def NoE (y x:Ls):Prop:=y.err=0→x.err=0→x.pos=0→y.pos=0
theorem fail_noE (x:Ls) {e:Int} (he:e≠0) (p:Int):NoE (x.fail e p) x:=fun h1 h2 _=>by
 unfold Ls.fail at h1
 rw[if_pos h2] at h1
 exact absurd h1 he
theorem failO_noE (x:Ls) (l:List Ad) (off:Int):NoE (x.failO (chk l off)) x:=by
 cases hc:chk l off with
 |none=>exact fun _ _ h=>h
 |some q=>
  unfold chk at hc
  split at hc
  ·cases hc;exact fail_noE x (show(7:Int)≠0 by decide) _
  ·split at hc
   ·cases hc;exact fail_noE x (show(2:Int)≠0 by decide) _
   ·cases hc
mutual
theorem blk_noE (nm:Nm) (ps:List Nm) (bs:List Bd):∀ (l:List St) (now:List Vs) (x:Ls),NoE (blk dec nm ps bs now l x).2 x
 | [],now,x=>by rw[blk];exact fun _ _ h=>h
 |s::l,now,x=>by
  rw[blk]
  intro h1 h2 h3
  have k:=keep_ok (blk_keep nm ps bs l (now++(stm dec nm ps bs now s x).1) (stm dec nm ps bs now s x).2.2) h1
  exact blk_noE nm ps bs l _ _ h1 k (stm_noE nm ps bs s now x k h2 h3)
theorem stm_noE (nm:Nm) (ps:List Nm) (bs:List Bd):∀ (s:St) (now:List Vs) (x:Ls),NoE (stm dec nm ps bs now s x).2.2 x
 | .mk k n ns ty ex th el ar fn off,now,x=>by
  rw[stm]
  split
  ·split
   ·exact locs_noE nm ps bs fn x
   ·exact fail_noE x (by decide) _
  ·split
   ·intro h1 h2 h3
    have k2:=keep_ok (arms_keep nm ps bs ar now (blk dec nm ps bs now el (blk dec nm ps bs now th x).2).2) h1
    have k1:=keep_ok (blk_keep nm ps bs el now (blk dec nm ps bs now th x).2) k2
    exact arms_noE nm ps bs ar now _ h1 k2 (blk_noE nm ps bs el now _ k2 k1 (blk_noE nm ps bs th now x k1 h2 h3))
   ·exact fail_noE x (by decide) _
theorem arms_noE (nm:Nm) (ps:List Nm) (bs:List Bd):∀ (l:List Ar) (now:List Vs) (x:Ls),NoE (arms dec nm ps bs now l x).2 x
 | [],now,x=>by rw[arms];exact fun _ _ h=>h
 |s::l,now,x=>by
  rw[arms]
  intro h1 h2 h3
  have k:=keep_ok (arms_keep nm ps bs l now (arm dec nm ps bs now s x).2) h1
  exact arms_noE nm ps bs l now _ h1 k (arm_noE nm ps bs s now x k h2 h3)
theorem arm_noE (nm:Nm) (ps:List Nm) (bs:List Bd):∀ (s:Ar) (now:List Vs) (x:Ls),NoE (arm dec nm ps bs now s x).2 x
 | .mk v ns b off,now,x=>by rw[arm];exact blk_noE nm ps bs b now x
theorem locs_noE (nm:Nm) (ps:List Nm) (bs:List Bd):∀ (l:List Fd) (x:Ls),NoE (locs dec nm ps bs l x).2 x
 | [],x=>by rw[locs];exact fun _ _ h=>h
 |f::l,x=>by rw[locs];exact loc_noE nm ps bs f x
theorem loc_noE (nm:Nm) (ps:List Nm) (bs:List Bd):∀ (f:Fd) (x:Ls),NoE (loc dec nm ps bs f x).2 x
 | .mk n ps0 bs0 cs ag res b off,x=>by
  rw[loc]
  intro h1 h2 h3
  have k:=keep_ok (blk_keep (nm++dot++dec x.cnt++dot++n) (ps.filter fun p=>inN p (Fd.nms (.mk n ps0 bs0 cs ag res b off))) (bs.filter fun b'=>inN b'.p (ps.filter fun p=>inN p (Fd.nms (.mk n ps0 bs0 cs ag res b off)))) b [] ⟨0,[],(x.failO (chk (cs++ag) off)).err,(x.failO (chk (cs++ag) off)).pos⟩) h1
  exact blk_noE _ _ _ b [] _ h1 k (failO_noE x _ off k h2 h3)
end
end Go.Lf

set_option maxHeartbeats 4000000
set_option maxRecDepth 100000
namespace Go.Proofs.YtffmphmiicnaeaaDoor
open Go.Am Go.Proofs Go.Lf
open Classical
attribute [local irreducible] AW CallP CallB
def dec (n:Nat):Nm:=⟨(Lib.itoa n).toArray⟩
theorem clone_use {es : List (AV × AV)} (hes : EsClo es) {fr : Nat → Option AV} {hp0 : Nat → Option AObj} {n0 k : Nat} {d : Option Nat} {K : Am.St → Prop} {Kp : AV → Am.St → Prop} (B : Nat) (hB : n0 + 1048576 * k = B) (h1 : hp0 1 = some (.map es))
    (hK:∀ hpn,hpn 1=some (.map es)→hpn B=some (.map es)→(∀ id o,id≠1→hp0 id=some o→hpn id=some o)→K ⟨putf fr d (.mp B),hpn,n0⟩):CallB Tryd.prog 45 [.mp 1] ⟨fr,hp0,n0⟩ k d K Kp:=by
  subst hB
  have her:=fun m=>hes.ren (m:=m)
  have hid:=fun p=>hes.ids2 p
  have two:∀ id o,mkHp [(0,AObj.map es)] id=some o→id=0∧o= .map es:=by
    intro id o h
    simp only[mkHp,updo] at h
    split at h
    · rename_i e;cases h;exact⟨e,rfl⟩
    · cases h
  refine CallB.use (clone_c es) (fun _=>1) (by simp[AV.renL,AV.ren]) (by simp[AV.idsL,AV.ids]) (fun id o ho=>?_) (fun id id' o o' ho ho' _=>?_) (fun id hid=>⟨hid,?_⟩) ?_ (fun _ _ h=>h.elim) ?_ (fun _ _ _ h=>h.elim)
  · obtain⟨rfl,rfl⟩:=two id o ho
    exact⟨by simp only[AObj.ren,her];exact h1,by decide,by simp only[AObj.ids];exact hes.ids _⟩
  · rw[(two id o ho).1,(two id' o' ho').1]
  · obtain rfl:id=0:=by omega
    simp[mkHp,updo]
  · rintro r hp' ⟨rfl,rfl⟩
    refine⟨by simp[AV.ids],mkHp_allP (p:=fun id o=>id<1+1048576∧o.ids (· <1+1048576)) ?_⟩
    simp only[List.mem_cons,List.not_mem_nil,or_false]
    rintro q (rfl|rfl)
    · exact⟨by show 0<_;decide,by simp only[AObj.ids];exact hes.ids _⟩
    · exact⟨by show 1<_;decide,by simp only[AObj.ids];exact hes.ids _⟩
  · rintro r hp' fr' hpn ⟨rfl,rfl⟩ hfr hobj hold
    have b0:backM (fun _=>1) 1 (n0+1048576*k) 0=1:=by rw[backM_lt (by omega)]
    have b1:backM (fun _=>1) 1 (n0+1048576*k) 1=n0+1048576*k:=by rw[backM_ge (by omega)];rfl
    have g0:=hobj 0 _ rfl
    have g1:=hobj 1 _ rfl
    rw[b0] at g0
    rw[b1] at g1
    simp only[AObj.ren,her] at g0 g1
    have e:fr'=putf fr d (.mp (n0+1048576*k)):=by subst hfr;simp only[AV.ren,b1];cases d<;>rfl
    subst e
    exact hK hpn g0 g1 fun id o h1 ho=>hold id o ho fun j hj e=>h1 e.symm
def sq1:Code→Code| .seq x _=>x|c=>c
def sq2:Code→Code| .seq _ y=>y|c=>c
def blkC:Code→Code| .block _ c=>c|c=>c
def lpC:Code→Code| .loop c=>c|c=>c
noncomputable def b25:Code:=Tryd.f25.body.getD .skip
noncomputable def rd25:Code:=lpC (blkC (sq2 (sq1 (sq2 (sq2 (sq2 (sq2 b25)))))))
noncomputable def fin25:Code:=sq2 (sq2 (sq2 (sq2 (sq2 b25))))
noncomputable def st25:Code:=blkC (sq1 (sq2 (sq2 rd25)))
noncomputable def r34:Code:=sq2 (sq2 (sq2 rd25))
noncomputable def rest15:Code:=sq2 (sq2 (sq2 (sq2 (sq2 (sq2 st25)))))
noncomputable def rest21:Code:=sq2 rest15
def cd1:Code→Code| .cond _ x _=>x|c=>c
noncomputable def r32:Code:=sq2 (sq2 (cd1 (sq2 (sq2 (cd1 (sq2 (sq1 (sq2 (sq2 (sq2 rest21))))))))))
noncomputable def r33:Code:=sq2 (sq2 (sq2 (sq2 rest21)))
structure Lone (o:AObj):Prop where
 r:∀ m,o.ren m=o
 i:∀ p,o.ids p
abbrev mk25 (nm:Nm) (ps:List Nm) (bs:List Bd) (o1:AObj) (l:List Lf.St) (i:Nat) (es:List (AV×AV)) (S:List Lf.St) (y:Ls):Am.St:=
 mkSt [(0,.ptr 0 0),(7,.mp 10),(8,.rw 11),(24,.sl (stl l)),(25,.i l.length),(26,.i (i:Nat))] [(0,.cells [.str nm,.sl (nml ps),.sl (bdl bs),.i y.cnt,.rw 2]),(1,o1),(2,.row 10 (fdl y.out)),(10,.map es),(11,.row 17 (stl S))] 12
variable {nm:Nm} {ps:List Nm} {bs:List Bd} {o1:AObj} {l:List Lf.St} {i:Nat} {es:List (AV×AV)} {S:List Lf.St} {y:Ls} {E:En} {Q:AEx→Am.St→Prop} {J:Am.St→Prop} {fs:List Fm}
theorem rd_bad (hE : E.nt = Tryd.f25.ntmps) {k : Int} {n : Nm} {ns : List Nm} {ty : List Tx} {ex : Ex} {th el : List Lf.St} {ar : List Ar} {fn : List Lf.Fd} {off : Int} (hx : l[i]? = some (.mk k n ns ty ex th el ar fn off)) (hlt : i < l.length) (hs : stSz l ≤ 1000)
    (hb:k=13∧¬ (fn.length=1∧th.length+el.length+ar.length=0)∨k≠13∧fn.length≠0) (hp:∀ σ,Q (.pan (failL 1 off)) σ):AW Tryd.prog E rd25 (Kq Tryd.prog E (.lp J::fs) Q) (mk25 nm ps bs o1 l i es S y):=by
  simp only[rd25,b25,Tryd.f25,Option.getD,sq1,sq2,blkC,lpC]
  have hm:=st_mem_le (List.mem_of_getElem? hx)
  rw[St.sz] at hm
  have h1:=st_len_le th
  have h2:=st_len_le el
  have h3:=ar_len_le ar
  have h4:=fd_len_le fn
  rcases hb with ⟨hk,hb⟩|⟨hk,hb⟩
  · subst hk
    by_cases hf:fn.length=1
    · have q1:((fn.length:Int) !=1)=false:=by simp[hf]
      have u1:IntKind.i64.wrap ((th.length:Int)+(el.length:Int))=(th.length:Int)+(el.length:Int):=by rw[wrap64 (by omega) (by omega)]
      have u2:IntKind.i64.wrap ((th.length:Int)+(el.length:Int)+(ar.length:Int))=(th.length:Int)+(el.length:Int)+(ar.length:Int):=by rw[wrap64 (by omega) (by omega)]
      have q2:decide ((th.length:Int)+(el.length:Int)+(ar.length:Int)>0)=true:=decide_eq_true (by omega)
      repeat'(first|apply nx|refine zx ?_|rw[zw]|((first|refine hK _ ?_|refine hKp _ _ ?_);clear hK hKp K Kp;try clear hanc anc)|((with_reducible refine And.intro ?_ ?_);exact zb)|((first|refine zr hE fun K Kp hK hKp=>?_|refine zd true mixed hE fun K Kp hK hKp anc hanc=>?_|refine zd false mixed hE fun K Kp hK hKp anc hanc=>?_);simp only[go_sem,lt_dec hlt,hx,St.av,q1,q2,u1,u2])|(refine zg (fun hg=>?_) (fun hg=>?_)<;>simp only[go_sem,lt_dec hlt,hx,St.av,q1,q2,u1,u2,hg])|(refine zc (fun hc=>?_) (fun hc=>?_)<;>try exact zh hc))
      exact hp _
    · have q1:((fn.length:Int) !=1)=true:=bne_iff_ne.2 (by omega)
      repeat'(first|apply nx|refine zx ?_|rw[zw]|((first|refine hK _ ?_|refine hKp _ _ ?_);clear hK hKp K Kp;try clear hanc anc)|((with_reducible refine And.intro ?_ ?_);exact zb)|((first|refine zr hE fun K Kp hK hKp=>?_|refine zd true mixed hE fun K Kp hK hKp anc hanc=>?_|refine zd false mixed hE fun K Kp hK hKp anc hanc=>?_);simp only[go_sem,lt_dec hlt,hx,St.av,q1])|(refine zg (fun hg=>?_) (fun hg=>?_)<;>simp only[go_sem,lt_dec hlt,hx,St.av,q1,hg])|(refine zc (fun hc=>?_) (fun hc=>?_)<;>try exact zh hc))
      exact hp _
  · have q1:((fn.length:Int) !=0)=true:=bne_iff_ne.2 (by omega)
    have q0:(k==13)=false:=by simp[hk]
    repeat'(first|apply nx|refine zx ?_|rw[zw]|((first|refine hK _ ?_|refine hKp _ _ ?_);clear hK hKp K Kp;try clear hanc anc)|((with_reducible refine And.intro ?_ ?_);exact zb)|((first|refine zr hE fun K Kp hK hKp=>?_|refine zd true mixed hE fun K Kp hK hKp anc hanc=>?_|refine zd false mixed hE fun K Kp hK hKp anc hanc=>?_);simp only[go_sem,lt_dec hlt,hx,St.av,q0,q1])|(refine zg (fun hg=>?_) (fun hg=>?_)<;>simp only[go_sem,lt_dec hlt,hx,St.av,q0,q1,hg])|(refine zc (fun hc=>?_) (fun hc=>?_)<;>try exact zh hc))
    exact hp _
theorem bx_use {L : List AV} {es : List (AV × AV)} (hes : EsClo es) {x y : Ls} {r : AV} (hA : LC 25 [.ptr 0 0, .sl L, .mp 1] (objL nm ps bs [(1, .map es)]) 3 2 x r y) (hL : ∀ m, AV.renL m L = L) (hLi : ∀ p, AV.idsL p L) (Y B : Nat) (hY : 2 ≤ Y) (hY10 : 10 ≠ Y) {fr : Nat → Option AV} {hp0 : Nat → Option AObj} {n0 k : Nat} {d : Option Nat} {K : Am.St → Prop} {Kp : AV → Am.St → Prop} (hB : n0 + 1048576 * k = B)
    (h0:hp0 0=some (.cells [.str nm,.sl (nml ps),.sl (bdl bs),.i x.cnt,.rw Y])) (h1:hp0 10=some (.map es)) (h2:hp0 Y=some (.row 10 (fdl x.out))) (hKp:y.err≠0→∀ σ,Kp (failL y.err y.pos) σ)
    (hK:y.err=0→∀ hpn,hpn 0=some (.cells [.str nm,.sl (nml ps),.sl (bdl bs),.i y.cnt,.rw B])→hpn B=some (.row 10 (fdl y.out))→(∀ id o,id≠0→id≠Y→hp0 id=some o→hpn id=some o)→K ⟨putf fr d r,hpn,n0⟩):
    CallB Tryd.prog 25 [.ptr 0 0,.sl L,.mp 10] ⟨fr,hp0,n0⟩ k d K Kp:=
  LC.use2 hes hA 10 Y B (by decide) hY hY10 (by simp[AV.idsL,AV.ids]) (by simp[AV.renL,AV.ren]) hB h0 h1 h2 (fun he hpn g0 g1 g2 hold=>hK he hpn g0 g2 fun id o i0 iY ho=>by
    by_cases e:id=10
    · subst e;rw[h1] at ho;cases ho;exact g1
    · exact hold id o i0 e iY ho) (fun he hpn=>hKp he _)
theorem lx_use {A : AV} (hAc : A.clo = true) {x y : Ls} {r : AV} (hA : LC 46 [.ptr 0 0, A] (objL nm ps bs []) 3 1 x r y) (Y B : Nat) (hY : 0 ≠ Y) {fr : Nat → Option AV} {hp0 : Nat → Option AObj} {n0 k : Nat} {d : Option Nat} {K : Am.St → Prop} {Kp : AV → Am.St → Prop} (hB : n0 + 1048576 * k + 1 = B)
    (h0:hp0 0=some (.cells [.str nm,.sl (nml ps),.sl (bdl bs),.i x.cnt,.rw Y])) (h2:hp0 Y=some (.row 10 (fdl x.out))) (hKp:y.err≠0→∀ σ,Kp (failL y.err y.pos) σ)
    (hK:y.err=0→∀ hpn,hpn 0=some (.cells [.str nm,.sl (nml ps),.sl (bdl bs),.i y.cnt,.rw B])→hpn B=some (.row 10 (fdl y.out))→(∀ id o,id≠0→id≠Y→hp0 id=some o→hpn id=some o)→K ⟨putf fr d r,hpn,n0⟩):
    CallB Tryd.prog 46 [.ptr 0 0,A] ⟨fr,hp0,n0⟩ k d K Kp:=
  LC.use1 hA 0 Y B hY ⟨by simp[AV.ids],clo_ids hAc,trivial⟩ (by simp[AV.renL,AV.ren,clo_ren hAc]) hB h0 h2 hK (fun he hpn _=>hKp he _)
end Go.Proofs.YtffmphmiicnaeaaDoor

set_option maxHeartbeats 4000000
set_option maxRecDepth 100000
namespace Go.Proofs.YtffmphmiicnaeaaDoor
open Go.Am Go.Proofs Go.Lf
open Classical
attribute [local irreducible] AW CallP CallB
variable {nm:Nm} {ps:List Nm} {bs:List Bd} {o1:AObj} {l:List Lf.St} {i:Nat} {es:List (AV×AV)} {S:List Lf.St} {y:Ls} {E:En} {Q:AEx→Am.St→Prop} {J:Am.St→Prop} {fs:List Fm}
def ILoc (nm:Nm) (ps:List Nm) (bs:List Bd) (o1:AObj) (l:List Lf.St) (i:Nat) (es:List (AV×AV)) (S:List Lf.St) (y y2:Ls) (n:Nm) (ns:List Nm) (ty:List Tx) (ex:Ex) (off:Int) (fn:Nm) (p0:List Nm) (b0:List Bd) (c0 a0:List Ad) (r0:Tx) (bd:List Lf.St) (of0:Int) (v:Vs) (F:Option AV) (D:Nat→Bool) (σ:Go.Am.St):Prop:=
 σ.nx=13∧σ.fr 0=some (.ptr 0 0)∧σ.fr 7=some (.mp 10)∧σ.fr 8=some (.rw 11)∧σ.fr 10=some (.ptr 12 0)∧σ.fr 24=some (.sl (stl l))∧σ.fr 25=some (.i l.length)∧σ.fr 26=some (.i (i:Nat))∧(D 11=false→σ.hp 0=some (.cells [.str nm,.sl (nml ps),.sl (bdl bs),.i y.cnt,.rw 2]))∧σ.hp 1=some (o1)∧(D 11=false→σ.hp 2=some (.row 10 (fdl y.out)))∧(D 12=false→σ.hp 10=some (.map es))∧σ.hp 11=some (.row 17 (stl S))∧σ.hp 12=some (.cells [.i 13,.str n,.sl (nml ns),.sl (Tx.avL ty),.i ex.k,.str ex.op,.str ex.nm,.str ex.vr,.sl (nml ex.ns),.i ex.num,.sl (Tx.avL ex.ty),.i ex.off,.sl [],.sl [],.sl [],.sl [.agg [.str fn,.sl (nml p0),.sl (bdl b0),.sl (adl c0),.sl (adl a0),.str r0.n,.sl (Tx.avL r0.a),.i r0.o,.sl (stl bd),.i of0]],.i off])∧(D 0=true→σ.fr 63=some (.mp 10))∧(D 1=true→σ.fr 64=some (.ptr 12 15))∧(D 2=true→σ.fr 65=some (.sl [.agg [.str fn,.sl (nml p0),.sl (bdl b0),.sl (adl c0),.sl (adl a0),.str r0.n,.sl (Tx.avL r0.a),.i r0.o,.sl (stl bd),.i of0]]))∧(D 3=true→σ.fr 66=some (.eptr (.agg [.str fn,.sl (nml p0),.sl (bdl b0),.sl (adl c0),.sl (adl a0),.str r0.n,.sl (Tx.avL r0.a),.i r0.o,.sl (stl bd),.i of0]) 0))∧(D 4=true→σ.fr 67=some (.eptr (.agg [.str fn,.sl (nml p0),.sl (bdl b0),.sl (adl c0),.sl (adl a0),.str r0.n,.sl (Tx.avL r0.a),.i r0.o,.sl (stl bd),.i of0]) 0))∧(D 5=true→σ.fr 68=some (.str fn))∧(D 6=true→σ.fr 69=some (.ptr 0 0))∧(D 7=true→σ.fr 70=some (.ptr 12 15))∧(D 8=true→σ.fr 71=some (.sl [.agg [.str fn,.sl (nml p0),.sl (bdl b0),.sl (adl c0),.sl (adl a0),.str r0.n,.sl (Tx.avL r0.a),.i r0.o,.sl (stl bd),.i of0]]))∧(D 9=true→σ.fr 72=some (.eptr (.agg [.str fn,.sl (nml p0),.sl (bdl b0),.sl (adl c0),.sl (adl a0),.str r0.n,.sl (Tx.avL r0.a),.i r0.o,.sl (stl bd),.i of0]) 0))∧(D 10=true→σ.fr 73=some (.agg [.str fn,.sl (nml p0),.sl (bdl b0),.sl (adl c0),.sl (adl a0),.str r0.n,.sl (Tx.avL r0.a),.i r0.o,.sl (stl bd),.i of0]))∧(D 11=true→σ.fr 74=some (visAV v))∧(D 11=true→σ.hp 0=some (.cells [.str nm,.sl (nml ps),.sl (bdl bs),.i y2.cnt,.rw 11534350]))∧(D 11=true→σ.hp 11534350=some (.row 10 (fdl y2.out)))∧(D 12=true→σ.hp 10=some (.map (putT fn (visAV v) es F)))∧(D 11=true→y2.err=0)
theorem rd_loc (hE : E.nt = Tryd.f25.ntmps) (hnp : E.np ≤ 2) (ho1 : Lone o1) {n : Nm} {ns : List Nm} {ty : List Tx} {ex : Ex} {th el : List Lf.St} {ar : List Ar} {off : Int} {fn : Nm} {p0 : List Nm} {b0 : List Bd} {c0 a0 : List Ad} {r0 : Tx} {bd : List Lf.St} {of0 : Int}
    (hx:l[i]? =some (.mk 13 n ns ty ex th el ar [.mk fn p0 b0 c0 a0 r0 bd of0] off)) (hlt:i<l.length) (hs:stSz l≤1000) (h0:th.length+el.length+ar.length=0) (hes:EsClo es) {v:Vs} {y2:Ls} {F:Option AV} (hF:findS fn es=some F)
    (hA:LC 46 [.ptr 0 0,.agg [.str fn,.sl (nml p0),.sl (bdl b0),.sl (adl c0),.sl (adl a0),.str r0.n,.sl (Tx.avL r0.a),.i r0.o,.sl (stl bd),.i of0]] (objL nm ps bs []) 3 1 y (visAV v) y2)
    (hpan:y2.err≠0→∀ σ,Q (.pan (failL y2.err y2.pos)) σ) (hJ:y2.err=0→∀ σ,(∃ m,Ent E.np m σ (mk25 nm ps bs o1 l (i+1) (putT fn (visAV v) es F) S y2))→J σ):AW Tryd.prog E rd25 (Kq Tryd.prog E (.lp J::fs) Q) (mk25 nm ps bs o1 l i es S y):=by
  simp only[rd25,b25,Tryd.f25,Option.getD,sq1,sq2,blkC,lpC]
  have e1:th=[]:=List.length_eq_zero_iff.1 (by omega)
  have e2:el=[]:=List.length_eq_zero_iff.1 (by omega)
  have e3:ar=[]:=List.length_eq_zero_iff.1 (by omega)
  subst e1 e2 e3
  have hln:=st_len_le l
  have u0:=inc_u hlt (by omega)
  have uz:IntKind.i64.wrap ((0:Int)+0)=0:=by rw[wrap64 (by omega) (by omega)];rfl
  have qz:decide ((0:Int)>0)=false:=by decide
  have hfd:fdl [Lf.Fd.mk fn p0 b0 c0 a0 r0 bd of0]=[.agg [.str fn,.sl (nml p0),.sl (bdl b0),.sl (adl c0),.sl (adl a0),.str r0.n,.sl (Tx.avL r0.a),.i r0.o,.sl (stl bd),.i of0]]:=by rw[fdl,fdl,Fd.av]
  repeat'(first|apply nx|refine zx ?_|rw[zw]|((first|refine hK _ ?_|refine hKp _ _ ?_);clear hK hKp K Kp;try clear hanc anc)|((with_reducible refine And.intro ?_ ?_);exact zb)|((fail_if_success refine K_stop 14 ?_);(first|refine zr hE fun K Kp hK hKp=>?_|refine zd true mixed hE fun K Kp hK hKp anc hanc=>?_|refine zd false mixed hE fun K Kp hK hKp anc hanc=>?_);simp only[go_sem,lt_dec hlt,hx,St.av,hfd,List.length_cons,List.length_nil,Int.natCast_zero,Int.natCast_one,Nat.zero_add,uz,qz,stl_nil,arl_nil])|(refine zg (fun hg=>?_) (fun hg=>?_)<;>simp only[go_sem,lt_dec hlt,hx,St.av,hfd,List.length_cons,List.length_nil,Int.natCast_zero,Int.natCast_one,Nat.zero_add,uz,qz,stl_nil,arl_nil,hg])|(refine zc (fun hc=>?_) (fun hc=>?_)<;>try exact zh hc))
  have her:=fun m=>hes.ren (m:=m)
  have hor:=ho1.r
  have hoi:=ho1.i
  refine AW.ent (σ':=mkSt [(0,.ptr 0 0),(7,.mp 10),(8,.rw 11),(10,.ptr 12 0),(24,.sl (stl l)),(25,.i l.length),(26,.i (i:Nat))] [(0,.cells [.str nm,.sl (nml ps),.sl (bdl bs),.i y.cnt,.rw 2]),(1,o1),(2,.row 10 (fdl y.out)),(10,.map es),(11,.row 17 (stl S)),(12,.cells [.i 13,.str n,.sl (nml ns),.sl (Tx.avL ty),.i ex.k,.str ex.op,.str ex.nm,.str ex.vr,.sl (nml ex.ns),.i ex.num,.sl (Tx.avL ex.ty),.i ex.off,.sl [],.sl [],.sl [],.sl [.agg [.str fn,.sl (nml p0),.sl (bdl b0),.sl (adl c0),.sl (adl a0),.str r0.n,.sl (Tx.avL r0.a),.i r0.o,.sl (stl bd),.i of0]],.i off])] 13) (fun i=>if i=12 then 3145740 else i) ?_ ?_
  · refine ent_mk (by simp[go_sem]) ?_ (by simp) (fun id hid=>⟨by rw[if_neg (by omega)],by omega⟩)
    simp only[List.forall_mem_cons,hor,hoi]
    simp[go_sem,her]
    exact hes.ids2 _
  clear her hor hoi
  repeat(first|apply w1|apply w2)
  refine K_inv (n:=13) (ILoc nm ps bs o1 l i es S y y2 n ns ty ex off fn p0 b0 c0 a0 r0 bd of0 v F) mixed hE ?_ ?_ (fun Kp hKp=>?_) ?_ rfl
  · intro D D' σ h
    have:=fun j=>(h j).symm
    unfold ILoc
    simp only[this]
    exact fun h=>h
  · simp[ILoc,go_sem,hF]
  · refine⟨?_,?_,?_,?_,?_,?_,?_,?_,?_,?_,?_,?_,?_,trivial⟩
    all_goals rintro D' ⟨fr,hp,nx⟩ hD' hr ⟨hn,f0,f7,f8,f10,f24,f25,f26,h0,h1,h2,h10,h11,h12,d0,d1,d2,d3,d4,d5,d6,d7,d8,d9,d10,d11,s11h0,s11r2,s12,x⟩
    all_goals simp[Region.binds] at hn f0 f7 f8 f10 f24 f25 f26 h0 h1 h2 h10 h11 h12 d0 d1 d2 d3 d4 d5 d6 d7 d8 d9 d10 d11 s11h0 s11r2 s12 x hD' hr
    all_goals subst hn
    all_goals try clear hQ'
    · skip
      simp only[go_sem,f7,hF]
      (simp only[ILoc,upd,updo];simp[f0,f7,f8,f10,f24,f25,f26,h1,h11,h12];simp_all)
    · skip
      simp only[go_sem,f10,hF]
      (simp only[ILoc,upd,updo];simp[f0,f7,f8,f10,f24,f25,f26,h1,h11,h12];simp_all)
    · skip
      have zd1:=d1 (by simp[hr,hD'])
      simp only[go_sem,zd1,h12,hF]
      (simp only[ILoc,upd,updo];simp[f0,f7,f8,f10,f24,f25,f26,h1,h11,h12];simp_all)
    · skip
      have zd2:=d2 (by simp[hr,hD'])
      simp only[go_sem,zd2,hF]
      (simp only[ILoc,upd,updo];simp[f0,f7,f8,f10,f24,f25,f26,h1,h11,h12];simp_all)
    · skip
      have zd3:=d3 (by simp[hr,hD'])
      simp only[go_sem,zd3,hF]
      (simp only[ILoc,upd,updo];simp[f0,f7,f8,f10,f24,f25,f26,h1,h11,h12];simp_all)
    · skip
      have zd4:=d4 (by simp[hr,hD'])
      simp only[go_sem,zd4,hF]
      (simp only[ILoc,upd,updo];simp[f0,f7,f8,f10,f24,f25,f26,h1,h11,h12];simp_all)
    · skip
      simp only[go_sem,f0,hF]
      (simp only[ILoc,upd,updo];simp[f0,f7,f8,f10,f24,f25,f26,h1,h11,h12];simp_all)
    · skip
      simp only[go_sem,f10,hF]
      (simp only[ILoc,upd,updo];simp[f0,f7,f8,f10,f24,f25,f26,h1,h11,h12];simp_all)
    · skip
      have zd7:=d7 (by simp[hr,hD'])
      simp only[go_sem,zd7,h12,hF]
      (simp only[ILoc,upd,updo];simp[f0,f7,f8,f10,f24,f25,f26,h1,h11,h12];simp_all)
    · skip
      have zd8:=d8 (by simp[hr,hD'])
      simp only[go_sem,zd8,hF]
      (simp only[ILoc,upd,updo];simp[f0,f7,f8,f10,f24,f25,f26,h1,h11,h12];simp_all)
    · skip
      have zd9:=d9 (by simp[hr,hD'])
      simp only[go_sem,zd9,hF]
      (simp only[ILoc,upd,updo];simp[f0,f7,f8,f10,f24,f25,f26,h1,h11,h12];simp_all)
    · skip
      have zd6:=d6 (by simp[hr,hD'])
      have zd10:=d10 (by simp[hr,hD'])
      have zh0:=h0 (by simp[hr,hD'])
      have zh2:=h2 (by simp[hr,hD'])
      simp only[go_sem,zd6,zd10,zh0,zh2,hF]
      refine Hold.mk ((lx_use (by rfl) hA 2 11534350 (by decide) (by rfl) zh0 zh2 (fun he σ=>hKp _ _ (hpan he σ))) fun he hpn b0' b2' hold=>?_)
      have yh1:=hold 1 _ (by decide) (by decide) (h1)
      have yh10:=fun c0=>hold 10 _ (by decide) (by decide) (h10 c0)
      have yh11:=hold 11 _ (by decide) (by decide) (h11)
      have yh12:=hold 12 _ (by decide) (by decide) (h12)
      have ys11r2:=fun c0=>hold 11534350 _ (by decide) (by decide) (s11r2 c0)
      have ys12:=fun c0=>hold 10 _ (by decide) (by decide) (s12 c0)
      clear hold
      simp only[go_sem,putf]
      (simp only[ILoc,upd,updo];simp[f0,f7,f8,f10,f24,f25,f26,h1,h11,h12];simp_all)
    · skip
      have zd0:=d0 (by simp[hr,hD'])
      have zd5:=d5 (by simp[hr,hD'])
      have zd11:=d11 (by simp[hr,hD'])
      have zh10:=h10 (by simp[hr,hD'])
      simp only[go_sem,zd0,zd5,zd11,zh10,hF]
      (simp only[ILoc,upd,updo];simp[f0,f7,f8,f10,f24,f25,f26,h1,h11,h12];simp_all)
  rintro⟨fr,hp,nx⟩ D' hD' ⟨hn,f0,f7,f8,f10,f24,f25,f26,h0,h1,h2,h10,h11,h12,d0,d1,d2,d3,d4,d5,d6,d7,d8,d9,d10,d11,s11h0,s11r2,s12,x⟩
  simp only at hn f0 f7 f8 f10 f24 f25 f26 h0 h1 h2 h10 h11 h12 d0 d1 d2 d3 d4 d5 d6 d7 d8 d9 d10 d11 s11h0 s11r2 s12 x
  have zd0:=d0 (hD' 0)
  have zd1:=d1 (hD' 1)
  have zd2:=d2 (hD' 2)
  have zd3:=d3 (hD' 3)
  have zd4:=d4 (hD' 4)
  have zd5:=d5 (hD' 5)
  have zd6:=d6 (hD' 6)
  have zd7:=d7 (hD' 7)
  have zd8:=d8 (hD' 8)
  have zd9:=d9 (hD' 9)
  have zd10:=d10 (hD' 10)
  have zd11:=d11 (hD' 11)
  have zs11h0:=s11h0 (hD' 11)
  have zs11r2:=s11r2 (hD' 11)
  have zs12:=s12 (hD' 12)
  have zx:=x (hD' 11)
  repeat(first|refine Kq_norm_code ?_|refine Kq_norm_blk ?_)
  have hcl:EsClo (putT fn (visAV v) es F):=hes.putT fn (by rfl) F
  have her:=fun m=>hcl.ren (m:=m)
  have hor:=ho1.r
  have hoi:=ho1.i
  refine AW.ent (σ':=mkSt [(0,.ptr 0 0),(7,.mp 10),(8,.rw 11),(24,.sl (stl l)),(25,.i l.length),(26,.i (i:Nat))] [(0,.cells [.str nm,.sl (nml ps),.sl (bdl bs),.i y2.cnt,.rw 2]),(1,o1),(2,.row 10 (fdl y2.out)),(10,.map (putT fn (visAV v) es F)),(11,.row 17 (stl S))] 12) (fun i=>if i=2 then 11534350 else i) ?_ ?_
  · refine ent_mk (by simp[go_sem,f0,f7,f8,f24,f25,f26]) ?_ (by simp) (fun id hid=>?_)
    · simp only[List.forall_mem_cons,hor,hoi]
      simp[go_sem,her,zs11h0,zs11r2,zs12,h1,h11]
      exact hcl.ids2 _
    · exact⟨by rw[if_neg (by omega)],by omega⟩
  have hj:=hJ zx
  clear zs11h0 zs11r2 zs12 zd0 zd1 zd2 zd3 zd4 zd5 zd6 zd7 zd8 zd9 zd10 zd11 zx f0 f7 f8 f10 f24 f25 f26 h0 h1 h2 h10 h11 h12 d0 d1 d2 d3 d4 d5 d6 d7 d8 d9 d10 d11 s11h0 s11r2 s12 x hD' hn her hor hoi
  clear fr hp nx D'
  repeat'(first|apply nx|refine zx ?_|rw[zw]|((first|refine hK _ ?_|refine hKp _ _ ?_);clear hK hKp K Kp;try clear hanc anc)|((with_reducible refine And.intro ?_ ?_);exact zb)|((first|refine zr hE fun K Kp hK hKp=>?_|refine zd true mixed hE fun K Kp hK hKp anc hanc=>?_|refine zd false mixed hE fun K Kp hK hKp anc hanc=>?_);simp only[go_sem,u0])|(refine zg (fun hg=>?_) (fun hg=>?_)<;>simp only[go_sem,u0,hg])|(refine zc (fun hc=>?_) (fun hc=>?_)<;>try exact zh hc))
  refine hj _ ⟨fun i=>i,?_⟩
  have her:=fun m=>hcl.ren (m:=m)
  refine ent_mk (by simp[go_sem]) ?_ (by simp) (fun id hid=>⟨rfl,by omega⟩)
  simp only[List.forall_mem_cons,ho1.r,ho1.i]
  simp[go_sem,her]
  exact hcl.ids2 _
end Go.Proofs.YtffmphmiicnaeaaDoor

set_option maxHeartbeats 4000000
set_option maxRecDepth 100000
namespace Go.Proofs.YtffmphmiicnaeaaDoor
open Go.Am Go.Proofs Go.Lf
open Classical
attribute [local irreducible] AW CallP CallB
variable {nm:Nm} {ps:List Nm} {bs:List Bd} {o1:AObj} {l:List Lf.St} {i:Nat} {es:List (AV×AV)} {S:List Lf.St} {y:Ls} {E:En} {Q:AEx→Am.St→Prop} {J:Am.St→Prop} {fs:List Fm}
def IC1 (nm:Nm) (ps:List Nm) (bs:List Bd) (o1:AObj) (l:List Lf.St) (i:Nat) (es:List (AV×AV)) (S:List Lf.St) (y y1 y2:Ls) (k:Int) (n:Nm) (ns:List Nm) (ty:List Tx) (ex:Ex) (th el:List Lf.St) (ar:List Ar) (off:Int) (T1 T2:List Lf.St) (D:Nat→Bool) (σ:Go.Am.St):Prop:=
 σ.nx=13∧σ.fr 0=some (.ptr 0 0)∧σ.fr 7=some (.mp 10)∧σ.fr 8=some (.rw 11)∧σ.fr 10=some (.ptr 12 0)∧σ.fr 24=some (.sl (stl l))∧σ.fr 25=some (.i l.length)∧σ.fr 26=some (.i (i:Nat))∧(D 4=false→σ.hp 0=some (.cells [.str nm,.sl (nml ps),.sl (bdl bs),.i y.cnt,.rw 2]))∧σ.hp 1=some (o1)∧(D 4=false→σ.hp 2=some (.row 10 (fdl y.out)))∧σ.hp 10=some (.map es)∧σ.hp 11=some (.row 17 (stl S))∧(D 14=false→σ.hp 12=some (.cells [.i k,.str n,.sl (nml ns),.sl (Tx.avL ty),.i ex.k,.str ex.op,.str ex.nm,.str ex.vr,.sl (nml ex.ns),.i ex.num,.sl (Tx.avL ex.ty),.i ex.off,.sl (stl th),.sl (stl el),.sl (arl ar),.sl [],.i off]))∧(D 0=true→σ.fr 75=some (.ptr 0 0))∧(D 1=true→σ.fr 76=some (.ptr 12 12))∧(D 2=true→σ.fr 77=some (.sl (stl th)))∧(D 3=true→σ.fr 78=some (.mp 10))∧(D 4=true→σ.fr 79=some (.sl (stl T1)))∧(D 5=true→σ.fr 80=some (.ptr 0 0))∧(D 6=true→σ.fr 81=some (.ptr 12 13))∧(D 7=true→σ.fr 82=some (.sl (stl el)))∧(D 8=true→σ.fr 83=some (.mp 10))∧(D 9=true→σ.fr 84=some (.sl (stl T2)))∧(D 10=true→σ.fr 85=some (.ptr 12 14))∧(D 11=true→σ.fr 86=some (.sl (arl ar)))∧(D 12=true→σ.fr 87=some (.rw 12582925))∧(D 13=true→σ.fr 88=some (.ptr 12 12))∧(D 15=true→σ.fr 89=some (.ptr 12 13))∧(D 17=true→σ.fr 90=some (.ptr 12 14))∧(D 4=true→D 9=false→σ.hp 0=some (.cells [.str nm,.sl (nml ps),.sl (bdl bs),.i y1.cnt,.rw 4194317]))∧(D 4=true→D 9=false→σ.hp 4194317=some (.row 10 (fdl y1.out)))∧(D 9=true→σ.hp 0=some (.cells [.str nm,.sl (nml ps),.sl (bdl bs),.i y2.cnt,.rw 9437197]))∧(D 9=true→σ.hp 9437197=some (.row 10 (fdl y2.out)))∧(D 12=true→σ.hp 12582925=some (.row 4 (arl ar)))∧(D 14=true→D 16=false→σ.hp 12=some (.cells [.i k,.str n,.sl (nml ns),.sl (Tx.avL ty),.i ex.k,.str ex.op,.str ex.nm,.str ex.vr,.sl (nml ex.ns),.i ex.num,.sl (Tx.avL ex.ty),.i ex.off,.sl (stl T1),.sl (stl el),.sl (arl ar),.sl [],.i off]))∧(D 16=true→D 18=false→σ.hp 12=some (.cells [.i k,.str n,.sl (nml ns),.sl (Tx.avL ty),.i ex.k,.str ex.op,.str ex.nm,.str ex.vr,.sl (nml ex.ns),.i ex.num,.sl (Tx.avL ex.ty),.i ex.off,.sl (stl T1),.sl (stl T2),.sl (arl ar),.sl [],.i off]))∧(D 18=true→σ.hp 12=some (.cells [.i k,.str n,.sl (nml ns),.sl (Tx.avL ty),.i ex.k,.str ex.op,.str ex.nm,.str ex.vr,.sl (nml ex.ns),.i ex.num,.sl (Tx.avL ex.ty),.i ex.off,.sl (stl T1),.sl (stl T2),.rw 12582925,.sl [],.i off]))∧(D 4=true→y1.err=0)∧(D 9=true→y2.err=0)∧(D 14=true→D 2=true)∧(D 14=true→D 7=true)∧(D 14=true→D 11=true)
theorem rd_c1 (hE : E.nt = Tryd.f25.ntmps) (hnp : E.np ≤ 2) (ho1 : Lone o1) {k : Int} {n : Nm} {ns : List Nm} {ty : List Tx} {ex : Ex} {th el : List Lf.St} {ar : List Ar} {off : Int}
    (hx:l[i]? =some (.mk k n ns ty ex th el ar [] off)) (hlt:i<l.length) (hs:stSz l≤1000) (hk:k≠13) (hes:EsClo es) {T1 T2:List Lf.St} {y1 y2:Ls}
    (hA1:LC 25 [.ptr 0 0,.sl (stl th),.mp 1] (objL nm ps bs [(1,.map es)]) 3 2 y (.sl (stl T1)) y1) (hA2:y1.err=0→LC 25 [.ptr 0 0,.sl (stl el),.mp 1] (objL nm ps bs [(1,.map es)]) 3 2 y1 (.sl (stl T2)) y2)
    (hpan:y1.err≠0→∀ σ,Q (.pan (failL y1.err y1.pos)) σ) (hpan2:y1.err=0→y2.err≠0→∀ σ,Q (.pan (failL y2.err y2.pos)) σ)
    (H:y1.err=0→y2.err=0→AW Tryd.prog E rest15 (Kq Tryd.prog E (.blk 1:: .code r34:: .lp J::fs) Q) (mkSt [(0,.ptr 0 0),(7,.mp 10),(8,.rw 11),(10,.ptr 12 0),(24,.sl (stl l)),(25,.i l.length),(26,.i (i:Nat))] [(0,.cells [.str nm,.sl (nml ps),.sl (bdl bs),.i y2.cnt,.rw 2]),(1,o1),(2,.row 10 (fdl y2.out)),(10,.map es),(11,.row 17 (stl S)),(12,.cells [.i k,.str n,.sl (nml ns),.sl (Tx.avL ty),.i ex.k,.str ex.op,.str ex.nm,.str ex.vr,.sl (nml ex.ns),.i ex.num,.sl (Tx.avL ex.ty),.i ex.off,.sl (stl T1),.sl (stl T2),.rw 13,.sl [],.i off]),(13,.row 4 (arl ar))] 14)):
    AW Tryd.prog E rd25 (Kq Tryd.prog E (.lp J::fs) Q) (mk25 nm ps bs o1 l i es S y):=by
  have hln:=st_len_le l
  have hm:=st_mem_le (List.mem_of_getElem? hx)
  rw[St.sz] at hm
  have har:=ar_len_le ar
  have q0:(k==13)=false:=by simp[hk]
  have hnn:(((0:Nat):Int) !=0)=false:=by decide
  simp only[rd25,b25,Tryd.f25,Option.getD,sq1,sq2,blkC,lpC]
  repeat'(first|apply nx|refine zx ?_|rw[zw]|((first|refine hK _ ?_|refine hKp _ _ ?_);clear hK hKp K Kp;try clear hanc anc)|((with_reducible refine And.intro ?_ ?_);exact zb)|((fail_if_success refine K_stop 15 ?_);(first|refine zr hE fun K Kp hK hKp=>?_|refine zd true mixed hE fun K Kp hK hKp anc hanc=>?_|refine zd false mixed hE fun K Kp hK hKp anc hanc=>?_);simp only[go_sem,lt_dec hlt,hx,St.av,q0,hnn,fdl_nil,List.length_nil])|(refine zg (fun hg=>?_) (fun hg=>?_)<;>simp only[go_sem,lt_dec hlt,hx,St.av,q0,hnn,fdl_nil,List.length_nil,hg])|(refine zc (fun hc=>?_) (fun hc=>?_)<;>try exact zh hc))
  have her:=fun m=>hes.ren (m:=m)
  have hor:=ho1.r
  have hoi:=ho1.i
  refine AW.ent (σ':=mkSt [(0,.ptr 0 0),(7,.mp 10),(8,.rw 11),(10,.ptr 12 0),(24,.sl (stl l)),(25,.i l.length),(26,.i (i:Nat))] [(0,.cells [.str nm,.sl (nml ps),.sl (bdl bs),.i y.cnt,.rw 2]),(1,o1),(2,.row 10 (fdl y.out)),(10,.map es),(11,.row 17 (stl S)),(12,.cells [.i k,.str n,.sl (nml ns),.sl (Tx.avL ty),.i ex.k,.str ex.op,.str ex.nm,.str ex.vr,.sl (nml ex.ns),.i ex.num,.sl (Tx.avL ex.ty),.i ex.off,.sl (stl th),.sl (stl el),.sl (arl ar),.sl [],.i off])] 13) (fun i=>if i=12 then 3145740 else i) ?_ ?_
  · refine ent_mk (by simp[go_sem]) ?_ (by simp) (fun id hid=>⟨by rw[if_neg (by omega)],by omega⟩)
    simp only[List.forall_mem_cons,hor,hoi]
    simp[go_sem,her]
    exact hes.ids2 _
  clear her hor hoi
  repeat(first|apply w1|apply w2)
  refine K_inv (n:=19) (IC1 nm ps bs o1 l i es S y y1 y2 k n ns ty ex th el ar off T1 T2) mixed hE ?_ ?_ (fun Kp hKp=>?_) ?_ rfl
  · intro D D' σ h
    have:=fun j=>(h j).symm
    unfold IC1
    simp only[this]
    exact fun h=>h
  · simp[IC1,go_sem]
  · refine⟨?_,?_,?_,?_,?_,?_,?_,?_,?_,?_,?_,?_,?_,?_,?_,?_,?_,?_,?_,trivial⟩
    all_goals rintro D' ⟨fr,hp,nx⟩ hD' hr ⟨hn,f0,f7,f8,f10,f24,f25,f26,h0,h1,h2,h10,h11,h12,d0,d1,d2,d3,d4,d5,d6,d7,d8,d9,d10,d11,d12,d13,d15,d17,s4h0,s4r2,s9h0,s9r2,e12,s14,s16,s18,x1,x2,o14_2,o14_7,o14_11⟩
    all_goals simp[Region.binds] at hn f0 f7 f8 f10 f24 f25 f26 h0 h1 h2 h10 h11 h12 d0 d1 d2 d3 d4 d5 d6 d7 d8 d9 d10 d11 d12 d13 d15 d17 s4h0 s4r2 s9h0 s9r2 e12 s14 s16 s18 x1 x2 o14_2 o14_7 o14_11 hD' hr
    all_goals subst hn
    all_goals try clear hQ'
    · skip
      simp only[go_sem,f0]
      (simp only[IC1,upd,updo];simp[f0,f7,f8,f10,f24,f25,f26,h1,h10,h11];simp_all)
    · skip
      simp only[go_sem,f10]
      (simp only[IC1,upd,updo];simp[f0,f7,f8,f10,f24,f25,f26,h1,h10,h11];simp_all)
    · skip
      have zd1:=d1 (by first|(simp[hr,hD'];done)|(cases hq:D' 1<;>simp_all))
      have zh12:=h12 (by first|(simp[hr,hD'];done)|(cases hq:D' 14<;>simp_all))
      simp only[go_sem,zd1,zh12]
      (simp only[IC1,upd,updo];simp[f0,f7,f8,f10,f24,f25,f26,h1,h10,h11];simp_all)
    · skip
      simp only[go_sem,f7]
      (simp only[IC1,upd,updo];simp[f0,f7,f8,f10,f24,f25,f26,h1,h10,h11];simp_all)
    · skip
      have zd0:=d0 (by first|(simp[hr,hD'];done)|(cases hq:D' 0<;>simp_all))
      have zd2:=d2 (by first|(simp[hr,hD'];done)|(cases hq:D' 2<;>simp_all))
      have zd3:=d3 (by first|(simp[hr,hD'];done)|(cases hq:D' 3<;>simp_all))
      have zh0:=h0 (by first|(simp[hr,hD'];done)|(cases hq:D' 4<;>simp_all))
      have zh2:=h2 (by first|(simp[hr,hD'];done)|(cases hq:D' 4<;>simp_all))
      simp only[go_sem,zd0,zd2,zd3,zh0,zh2]
      refine Hold.mk ((bx_use hes hA1 (by simp[go_sem]) (by simp[go_sem]) 2 4194317 (by decide) (by decide) (by rfl) zh0 h10 zh2 (fun he σ=>hKp _ _ (hpan he σ))) fun he hpn b0' b2' hold=>?_)
      have yh1:=hold 1 _ (by decide) (by decide) (h1)
      have yh10:=hold 10 _ (by decide) (by decide) (h10)
      have yh11:=hold 11 _ (by decide) (by decide) (h11)
      have yh12:=fun c0=>hold 12 _ (by decide) (by decide) (h12 c0)
      have ys4r2:=fun c0 c1=>hold 4194317 _ (by decide) (by decide) (s4r2 c0 c1)
      have ys9r2:=fun c0=>hold 9437197 _ (by decide) (by decide) (s9r2 c0)
      have ye12:=fun c0=>hold 12582925 _ (by decide) (by decide) (e12 c0)
      have ys14:=fun c0 c1=>hold 12 _ (by decide) (by decide) (s14 c0 c1)
      have ys16:=fun c0 c1=>hold 12 _ (by decide) (by decide) (s16 c0 c1)
      have ys18:=fun c0=>hold 12 _ (by decide) (by decide) (s18 c0)
      clear hold
      simp only[go_sem,putf]
      (simp only[IC1,upd,updo];simp[f0,f7,f8,f10,f24,f25,f26,h1,h10,h11];simp_all)
    · skip
      simp only[go_sem,f0]
      (simp only[IC1,upd,updo];simp[f0,f7,f8,f10,f24,f25,f26,h1,h10,h11];simp_all)
    · skip
      simp only[go_sem,f10]
      (simp only[IC1,upd,updo];simp[f0,f7,f8,f10,f24,f25,f26,h1,h10,h11];simp_all)
    · skip
      have zd6:=d6 (by first|(simp[hr,hD'];done)|(cases hq:D' 6<;>simp_all))
      have zh12:=h12 (by first|(simp[hr,hD'];done)|(cases hq:D' 14<;>simp_all))
      simp only[go_sem,zd6,zh12]
      (simp only[IC1,upd,updo];simp[f0,f7,f8,f10,f24,f25,f26,h1,h10,h11];simp_all)
    · skip
      simp only[go_sem,f7]
      (simp only[IC1,upd,updo];simp[f0,f7,f8,f10,f24,f25,f26,h1,h10,h11];simp_all)
    · skip
      have zd5:=d5 (by first|(simp[hr,hD'];done)|(cases hq:D' 5<;>simp_all))
      have zd7:=d7 (by first|(simp[hr,hD'];done)|(cases hq:D' 7<;>simp_all))
      have zd8:=d8 (by first|(simp[hr,hD'];done)|(cases hq:D' 8<;>simp_all))
      have zs4h0:=s4h0 (by first|(simp[hr,hD'];done)|(cases hq:D' 4<;>simp_all)) (by first|(simp[hr,hD'];done)|(cases hq:D' 9<;>simp_all))
      have zs4r2:=s4r2 (by first|(simp[hr,hD'];done)|(cases hq:D' 4<;>simp_all)) (by first|(simp[hr,hD'];done)|(cases hq:D' 9<;>simp_all))
      have zx1:=x1 (by first|(simp[hr,hD'];done)|(cases hq:D' 4<;>simp_all))
      simp only[go_sem,zd5,zd7,zd8,zs4h0,zs4r2,zx1]
      refine Hold.mk ((bx_use hes (hA2 zx1) (by simp[go_sem]) (by simp[go_sem]) 4194317 9437197 (by decide) (by decide) (by rfl) zs4h0 h10 zs4r2 (fun he σ=>hKp _ _ (hpan2 zx1 he σ))) fun he hpn b0' b2' hold=>?_)
      have yh1:=hold 1 _ (by decide) (by decide) (h1)
      have yh2:=fun c0=>hold 2 _ (by decide) (by decide) (h2 c0)
      have yh10:=hold 10 _ (by decide) (by decide) (h10)
      have yh11:=hold 11 _ (by decide) (by decide) (h11)
      have yh12:=fun c0=>hold 12 _ (by decide) (by decide) (h12 c0)
      have ys9r2:=fun c0=>hold 9437197 _ (by decide) (by decide) (s9r2 c0)
      have ye12:=fun c0=>hold 12582925 _ (by decide) (by decide) (e12 c0)
      have ys14:=fun c0 c1=>hold 12 _ (by decide) (by decide) (s14 c0 c1)
      have ys16:=fun c0 c1=>hold 12 _ (by decide) (by decide) (s16 c0 c1)
      have ys18:=fun c0=>hold 12 _ (by decide) (by decide) (s18 c0)
      clear hold
      simp only[go_sem,putf]
      (simp only[IC1,upd,updo];simp[f0,f7,f8,f10,f24,f25,f26,h1,h10,h11];simp_all)
    · skip
      simp only[go_sem,f10]
      (simp only[IC1,upd,updo];simp[f0,f7,f8,f10,f24,f25,f26,h1,h10,h11];simp_all)
    · skip
      have zd10:=d10 (by first|(simp[hr,hD'];done)|(cases hq:D' 10<;>simp_all))
      have zh12:=h12 (by first|(simp[hr,hD'];done)|(cases hq:D' 14<;>simp_all))
      simp only[go_sem,zd10,zh12]
      (simp only[IC1,upd,updo];simp[f0,f7,f8,f10,f24,f25,f26,h1,h10,h11];simp_all)
    · skip
      have zd11:=d11 (by first|(simp[hr,hD'];done)|(cases hq:D' 11<;>simp_all))
      simp only[go_sem,zd11]
      refine Hold.mk (CallB.newRow (clone47_nc ar (by omega)) (by simp[AV.cloL,AV.clo]) (arl_clo _) ?_)
      simp only[go_sem]
      (simp only[IC1,upd,updo];simp[f0,f7,f8,f10,f24,f25,f26,h1,h10,h11];simp_all)
    · skip
      simp only[go_sem,f10]
      (simp only[IC1,upd,updo];simp[f0,f7,f8,f10,f24,f25,f26,h1,h10,h11];simp_all)
    · skip
      have zd13:=d13 (by first|(simp[hr,hD'];done)|(cases hq:D' 13<;>simp_all))
      have zd4:=d4 (by first|(simp[hr,hD'];done)|(cases hq:D' 4<;>simp_all))
      have zh12:=h12 (by first|(simp[hr,hD'];done)|(cases hq:D' 14<;>simp_all))
      simp only[go_sem,zd13,zd4,zh12]
      (simp only[IC1,upd,updo];simp[f0,f7,f8,f10,f24,f25,f26,h1,h10,h11];simp_all)
    · skip
      simp only[go_sem,f10]
      (simp only[IC1,upd,updo];simp[f0,f7,f8,f10,f24,f25,f26,h1,h10,h11];simp_all)
    · skip
      have zd15:=d15 (by first|(simp[hr,hD'];done)|(cases hq:D' 15<;>simp_all))
      have zd9:=d9 (by first|(simp[hr,hD'];done)|(cases hq:D' 9<;>simp_all))
      have zs14:=s14 (by first|(simp[hr,hD'];done)|(cases hq:D' 14<;>simp_all)) (by first|(simp[hr,hD'];done)|(cases hq:D' 16<;>simp_all))
      simp only[go_sem,zd15,zd9,zs14]
      (simp only[IC1,upd,updo];simp[f0,f7,f8,f10,f24,f25,f26,h1,h10,h11];simp_all)
    · skip
      simp only[go_sem,f10]
      (simp only[IC1,upd,updo];simp[f0,f7,f8,f10,f24,f25,f26,h1,h10,h11];simp_all)
    · skip
      have zd17:=d17 (by first|(simp[hr,hD'];done)|(cases hq:D' 17<;>simp_all))
      have zd12:=d12 (by first|(simp[hr,hD'];done)|(cases hq:D' 12<;>simp_all))
      have zs16:=s16 (by first|(simp[hr,hD'];done)|(cases hq:D' 16<;>simp_all)) (by first|(simp[hr,hD'];done)|(cases hq:D' 18<;>simp_all))
      simp only[go_sem,zd17,zd12,zs16]
      (simp only[IC1,upd,updo];simp[f0,f7,f8,f10,f24,f25,f26,h1,h10,h11];simp_all)
  rintro⟨fr,hp,nx⟩ D' hD' ⟨hn,f0,f7,f8,f10,f24,f25,f26,h0,h1,h2,h10,h11,h12,d0,d1,d2,d3,d4,d5,d6,d7,d8,d9,d10,d11,d12,d13,d15,d17,s4h0,s4r2,s9h0,s9r2,e12,s14,s16,s18,x1,x2,o14_2,o14_7,o14_11⟩
  simp only at hn f0 f7 f8 f10 f24 f25 f26 h0 h1 h2 h10 h11 h12 d0 d1 d2 d3 d4 d5 d6 d7 d8 d9 d10 d11 d12 d13 d15 d17 s4h0 s4r2 s9h0 s9r2 e12 s14 s16 s18 x1 x2 o14_2 o14_7 o14_11
  have zd0:=d0 (hD' 0)
  have zd1:=d1 (hD' 1)
  have zd2:=d2 (hD' 2)
  have zd3:=d3 (hD' 3)
  have zd4:=d4 (hD' 4)
  have zd5:=d5 (hD' 5)
  have zd6:=d6 (hD' 6)
  have zd7:=d7 (hD' 7)
  have zd8:=d8 (hD' 8)
  have zd9:=d9 (hD' 9)
  have zd10:=d10 (hD' 10)
  have zd11:=d11 (hD' 11)
  have zd12:=d12 (hD' 12)
  have zd13:=d13 (hD' 13)
  have zd15:=d15 (hD' 15)
  have zd17:=d17 (hD' 17)
  have zs9h0:=s9h0 (hD' 9)
  have zs9r2:=s9r2 (hD' 9)
  have ze12:=e12 (hD' 12)
  have zs18:=s18 (hD' 18)
  have zx1:=x1 (hD' 4)
  have zx2:=x2 (hD' 9)
  refine Kq_norm_code ?_
  have her:=fun m=>hes.ren (m:=m)
  have hor:=ho1.r
  have hoi:=ho1.i
  refine AW.ent (m:=fun i=>if i=2 then 9437197 else if i=13 then 12582925 else i) ?_ (H zx1 zx2)
  refine ent_mk (by simp[go_sem,f0,f7,f8,f10,f24,f25,f26]) ?_ (by simp) (fun id hid=>⟨by rw[if_neg (by omega),if_neg (by omega)],by omega⟩)
  simp only[List.forall_mem_cons,hor,hoi]
  simp[go_sem,her,zs9h0,zs9r2,zs18,ze12,h1,h10,h11]
  exact hes.ids2 _
end Go.Proofs.YtffmphmiicnaeaaDoor

set_option maxHeartbeats 4000000
set_option maxRecDepth 100000
namespace Go.Proofs.YtffmphmiicnaeaaDoor
open Go.Am Go.Proofs Go.Lf
open Classical
attribute [local irreducible] AW CallP CallB
variable {nm:Nm} {ps:List Nm} {bs:List Bd} {o1:AObj} {l:List Lf.St} {i:Nat} {es:List (AV×AV)} {S:List Lf.St} {y:Ls} {E:En} {Q:AEx→Am.St→Prop} {J:Am.St→Prop} {fs:List Fm}
theorem arl_set (l:List Ar) (j:Nat) (v:Nm) (ns:List Nm) (b:List Lf.St) (off:Int):(arl l).set j (.agg [.str v,.sl (nml ns),.sl (stl b),.i off])=arl (l.set j (.mk v ns b off)):=by
 rw[arl_eq,arl_eq,List.map_set,Ar.av]
theorem set_mid {α:Type} (a b:List α) (x y:α) {j:Nat} (h:a.length=j):(a++x::b).set j y=a++[y]++b:=by
 subst h
 simp[List.set_append]
def IC2 (nm:Nm) (ps:List Nm) (bs:List Bd) (o1:AObj) (l:List Lf.St) (i:Nat) (es:List (AV×AV)) (S:List Lf.St) (y y1:Ls) (k:Int) (n:Nm) (ns:List Nm) (ty:List Tx) (ex:Ex) (off:Int) (T1 T2:List Lf.St) (AL AM:List Ar) (j ln:Nat) (b T:List Lf.St) (D:Nat→Bool) (σ:Go.Am.St):Prop:=
 σ.nx=14∧σ.fr 0=some (.ptr 0 0)∧σ.fr 7=some (.mp 10)∧σ.fr 8=some (.rw 11)∧σ.fr 10=some (.ptr 12 0)∧σ.fr 12=some (.i (j:Int))∧σ.fr 24=some (.sl (stl l))∧σ.fr 25=some (.i l.length)∧σ.fr 26=some (.i (i:Nat))∧σ.fr 93=some (.i ln)∧σ.fr 94=some (.i (j:Int))∧(D 11=false→σ.hp 0=some (.cells [.str nm,.sl (nml ps),.sl (bdl bs),.i y.cnt,.rw 2]))∧σ.hp 1=some (o1)∧(D 11=false→σ.hp 2=some (.row 10 (fdl y.out)))∧σ.hp 10=some (.map es)∧σ.hp 11=some (.row 17 (stl S))∧σ.hp 12=some (.cells [.i k,.str n,.sl (nml ns),.sl (Tx.avL ty),.i ex.k,.str ex.op,.str ex.nm,.str ex.vr,.sl (nml ex.ns),.i ex.num,.sl (Tx.avL ex.ty),.i ex.off,.sl (stl T1),.sl (stl T2),.rw 13,.sl [],.i off])∧(D 14=false→σ.hp 13=some (.row 4 (arl AL)))∧(D 0=true→σ.fr 97=some (.ptr 12 14))∧(D 1=true→σ.fr 98=some (.rw 13))∧(D 2=true→σ.fr 99=some (.i (j:Int)))∧(D 3=true→σ.fr 100=some (.ptr 0 0))∧(D 4=true→σ.fr 101=some (.ptr 12 14))∧(D 5=true→σ.fr 102=some (.rw 13))∧(D 6=true→σ.fr 103=some (.i (j:Int)))∧(D 7=true→σ.fr 104=some (.rptr 13 4 j 0))∧(D 8=true→σ.fr 105=some (.rptr 13 4 j 2))∧(D 9=true→σ.fr 106=some (.sl (stl b)))∧(D 10=true→σ.fr 107=some (.mp 10))∧(D 11=true→σ.fr 108=some (.sl (stl T)))∧(D 12=true→σ.fr 109=some (.rptr 13 4 j 0))∧(D 13=true→σ.fr 110=some (.rptr 13 4 j 2))∧(D 11=true→σ.hp 0=some (.cells [.str nm,.sl (nml ps),.sl (bdl bs),.i y1.cnt,.rw 11534350]))∧(D 11=true→σ.hp 11534350=some (.row 10 (fdl y1.out)))∧(D 14=true→σ.hp 13=some (.row 4 (arl AM)))∧(D 11=true→y1.err=0)∧(D 14=true→D 7=true)∧(D 14=true→D 9=true)∧(D 14=true→D 12=true)∧(D 13=true→D 12=true)
theorem rd_arm (hE : E.nt = Tryd.f25.ntmps) (hnp : E.np ≤ 2) (ho1 : Lone o1) {k : Int} {n : Nm} {ns : List Nm} {ty : List Tx} {ex : Ex} {T1 T2 : List Lf.St} {AL : List Ar} {off : Int} {j ln : Nat} {v : Nm} {ns1 : List Nm} {b : List Lf.St} {of1 : Int} {T : List Lf.St} {y1 : Ls} {Jb : Am.St → Prop}
    (hes:EsClo es) (hj:AL[j]? =some (.mk v ns1 b of1)) (hjl:j<ln) (hjA:j<AL.length) (hln:ln≤1000) (hA1:LC 25 [.ptr 0 0,.sl (stl b),.mp 1] (objL nm ps bs [(1,.map es)]) 3 2 y (.sl (stl T)) y1)
    (hpan:y1.err≠0→∀ σ,Q (.pan (failL y1.err y1.pos)) σ)
    (H:y1.err=0→∀ σ,(∃ m,Ent E.np m σ (mkSt [(0,.ptr 0 0),(7,.mp 10),(8,.rw 11),(10,.ptr 12 0),(24,.sl (stl l)),(25,.i l.length),(26,.i (i:Nat)),(93,.i ln),(94,.i ((j+1:Nat):Int))] [(0,.cells [.str nm,.sl (nml ps),.sl (bdl bs),.i y1.cnt,.rw 2]),(1,o1),(2,.row 10 (fdl y1.out)),(10,.map es),(11,.row 17 (stl S)),(12,.cells [.i k,.str n,.sl (nml ns),.sl (Tx.avL ty),.i ex.k,.str ex.op,.str ex.nm,.str ex.vr,.sl (nml ex.ns),.i ex.num,.sl (Tx.avL ex.ty),.i ex.off,.sl (stl T1),.sl (stl T2),.rw 13,.sl [],.i off]),(13,.row 4 (arl (AL.set j (.mk v ns1 T of1))))] 14))→Jb σ):
    AW Tryd.prog E (lpC (blkC (sq2 (sq1 rest15)))) (Kq Tryd.prog E (.lp Jb::fs) Q) (mkSt [(0,.ptr 0 0),(7,.mp 10),(8,.rw 11),(10,.ptr 12 0),(24,.sl (stl l)),(25,.i l.length),(26,.i (i:Nat)),(93,.i ln),(94,.i (j:Int))] [(0,.cells [.str nm,.sl (nml ps),.sl (bdl bs),.i y.cnt,.rw 2]),(1,o1),(2,.row 10 (fdl y.out)),(10,.map es),(11,.row 17 (stl S)),(12,.cells [.i k,.str n,.sl (nml ns),.sl (Tx.avL ty),.i ex.k,.str ex.op,.str ex.nm,.str ex.vr,.sl (nml ex.ns),.i ex.num,.sl (Tx.avL ex.ty),.i ex.off,.sl (stl T1),.sl (stl T2),.rw 13,.sl [],.i off]),(13,.row 4 (arl AL))] 14):=by
  simp only[rest15,st25,rd25,b25,Tryd.f25,Option.getD,sq1,sq2,blkC,lpC]
  have u1:=inc_u hjl (by omega)
  have e29:=arl_set AL j v ns1 T of1
  repeat'(first|apply nx|refine zx ?_|rw[zw]|((first|refine hK _ ?_|refine hKp _ _ ?_);clear hK hKp K Kp;try clear hanc anc)|((with_reducible refine And.intro ?_ ?_);exact zb)|((fail_if_success refine K_stop 19 ?_);(first|refine zr hE fun K Kp hK hKp=>?_|refine zd true mixed hE fun K Kp hK hKp anc hanc=>?_|refine zd false mixed hE fun K Kp hK hKp anc hanc=>?_);simp only[go_sem,lt_dec hjl])|(refine zg (fun hg=>?_) (fun hg=>?_)<;>simp only[go_sem,lt_dec hjl,hg])|(refine zc (fun hc=>?_) (fun hc=>?_)<;>try exact zh hc))
  have her:=fun m=>hes.ren (m:=m)
  refine AW.ent (σ':=mkSt [(0,.ptr 0 0),(7,.mp 10),(8,.rw 11),(10,.ptr 12 0),(12,.i (j:Int)),(24,.sl (stl l)),(25,.i l.length),(26,.i (i:Nat)),(93,.i ln),(94,.i (j:Int))] [(0,.cells [.str nm,.sl (nml ps),.sl (bdl bs),.i y.cnt,.rw 2]),(1,o1),(2,.row 10 (fdl y.out)),(10,.map es),(11,.row 17 (stl S)),(12,.cells [.i k,.str n,.sl (nml ns),.sl (Tx.avL ty),.i ex.k,.str ex.op,.str ex.nm,.str ex.vr,.sl (nml ex.ns),.i ex.num,.sl (Tx.avL ex.ty),.i ex.off,.sl (stl T1),.sl (stl T2),.rw 13,.sl [],.i off]),(13,.row 4 (arl AL))] 14) (fun i=>i) ?_ ?_
  · refine ent_mk (by simp[go_sem]) ?_ (by simp) (fun id hid=>⟨rfl,by omega⟩)
    simp only[List.forall_mem_cons,ho1.r,ho1.i]
    simp[go_sem,her]
    exact hes.ids2 _
  clear her
  repeat(first|apply w1|apply w2)
  refine K_inv (n:=15) (IC2 nm ps bs o1 l i es S y y1 k n ns ty ex off T1 T2 AL (AL.set j (.mk v ns1 T of1)) j ln b T) mixed hE ?_ ?_ (fun Kp hKp=>?_) ?_ rfl
  · intro D D' σ h
    have:=fun j=>(h j).symm
    unfold IC2
    simp only[this]
    exact fun h=>h
  · simp[IC2,go_sem,hj,Ar.av,e29,lt_dec hjA]
  · refine⟨?_,?_,?_,?_,?_,?_,?_,?_,?_,?_,?_,?_,?_,?_,?_,trivial⟩
    all_goals rintro D' ⟨fr,hp,nx⟩ hD' hr ⟨hn,f0,f7,f8,f10,f12,f24,f25,f26,f93,f94,h0,h1,h2,h10,h11,h12,h13,d0,d1,d2,d3,d4,d5,d6,d7,d8,d9,d10,d11,d12,d13,s11h0,s11r2,s14,x1,o14_7,o14_9,o14_12,o13_12⟩
    all_goals simp[Region.binds] at hn f0 f7 f8 f10 f12 f24 f25 f26 f93 f94 h0 h1 h2 h10 h11 h12 h13 d0 d1 d2 d3 d4 d5 d6 d7 d8 d9 d10 d11 d12 d13 s11h0 s11r2 s14 x1 o14_7 o14_9 o14_12 o13_12 hD' hr
    all_goals subst hn
    all_goals try clear hQ'
    · skip
      simp only[go_sem,f10,hj,Ar.av,e29,lt_dec hjA]
      (simp only[IC2,upd,updo];simp[f0,f7,f8,f10,f12,f24,f25,f26,f93,f94,h1,h10,h11,h12];simp_all)
    · skip
      have zd0:=d0 (by first|(simp[hr,hD'];done)|(cases hq:D' 0<;>simp_all))
      simp only[go_sem,zd0,h12,hj,Ar.av,e29,lt_dec hjA]
      (simp only[IC2,upd,updo];simp[f0,f7,f8,f10,f12,f24,f25,f26,f93,f94,h1,h10,h11,h12];simp_all)
    · skip
      simp only[go_sem,f12,hj,Ar.av,e29,lt_dec hjA]
      (simp only[IC2,upd,updo];simp[f0,f7,f8,f10,f12,f24,f25,f26,f93,f94,h1,h10,h11,h12];simp_all)
    · skip
      simp only[go_sem,f0,hj,Ar.av,e29,lt_dec hjA]
      (simp only[IC2,upd,updo];simp[f0,f7,f8,f10,f12,f24,f25,f26,f93,f94,h1,h10,h11,h12];simp_all)
    · skip
      simp only[go_sem,f10,hj,Ar.av,e29,lt_dec hjA]
      (simp only[IC2,upd,updo];simp[f0,f7,f8,f10,f12,f24,f25,f26,f93,f94,h1,h10,h11,h12];simp_all)
    · skip
      have zd4:=d4 (by first|(simp[hr,hD'];done)|(cases hq:D' 4<;>simp_all))
      simp only[go_sem,zd4,h12,hj,Ar.av,e29,lt_dec hjA]
      (simp only[IC2,upd,updo];simp[f0,f7,f8,f10,f12,f24,f25,f26,f93,f94,h1,h10,h11,h12];simp_all)
    · skip
      simp only[go_sem,f12,hj,Ar.av,e29,lt_dec hjA]
      (simp only[IC2,upd,updo];simp[f0,f7,f8,f10,f12,f24,f25,f26,f93,f94,h1,h10,h11,h12];simp_all)
    · skip
      have zd5:=d5 (by first|(simp[hr,hD'];done)|(cases hq:D' 5<;>simp_all))
      have zd6:=d6 (by first|(simp[hr,hD'];done)|(cases hq:D' 6<;>simp_all))
      have zh13:=h13 (by first|(simp[hr,hD'];done)|(cases hq:D' 14<;>simp_all))
      simp only[go_sem,zd5,zd6,zh13,hj,Ar.av,e29,lt_dec hjA]
      (simp only[IC2,upd,updo];simp[f0,f7,f8,f10,f12,f24,f25,f26,f93,f94,h1,h10,h11,h12];simp_all)
    · skip
      have zd7:=d7 (by first|(simp[hr,hD'];done)|(cases hq:D' 7<;>simp_all))
      simp only[go_sem,zd7,hj,Ar.av,e29,lt_dec hjA]
      (simp only[IC2,upd,updo];simp[f0,f7,f8,f10,f12,f24,f25,f26,f93,f94,h1,h10,h11,h12];simp_all)
    · skip
      have zd8:=d8 (by first|(simp[hr,hD'];done)|(cases hq:D' 8<;>simp_all))
      have zh13:=h13 (by first|(simp[hr,hD'];done)|(cases hq:D' 14<;>simp_all))
      simp only[go_sem,zd8,zh13,hj,Ar.av,e29,lt_dec hjA]
      (simp only[IC2,upd,updo];simp[f0,f7,f8,f10,f12,f24,f25,f26,f93,f94,h1,h10,h11,h12];simp_all)
    · skip
      simp only[go_sem,f7,hj,Ar.av,e29,lt_dec hjA]
      (simp only[IC2,upd,updo];simp[f0,f7,f8,f10,f12,f24,f25,f26,f93,f94,h1,h10,h11,h12];simp_all)
    · skip
      have zd3:=d3 (by first|(simp[hr,hD'];done)|(cases hq:D' 3<;>simp_all))
      have zd9:=d9 (by first|(simp[hr,hD'];done)|(cases hq:D' 9<;>simp_all))
      have zd10:=d10 (by first|(simp[hr,hD'];done)|(cases hq:D' 10<;>simp_all))
      have zh0:=h0 (by first|(simp[hr,hD'];done)|(cases hq:D' 11<;>simp_all))
      have zh2:=h2 (by first|(simp[hr,hD'];done)|(cases hq:D' 11<;>simp_all))
      simp only[go_sem,zd3,zd9,zd10,zh0,zh2,hj,Ar.av,e29,lt_dec hjA]
      refine Hold.mk ((bx_use hes hA1 (by simp[go_sem]) (by simp[go_sem]) 2 11534350 (by decide) (by decide) (by rfl) zh0 h10 zh2 (fun he σ=>hKp _ _ (hpan he σ))) fun he hpn b0' b2' hold=>?_)
      have yh1:=hold 1 _ (by decide) (by decide) (h1)
      have yh10:=hold 10 _ (by decide) (by decide) (h10)
      have yh11:=hold 11 _ (by decide) (by decide) (h11)
      have yh12:=hold 12 _ (by decide) (by decide) (h12)
      have yh13:=fun c0=>hold 13 _ (by decide) (by decide) (h13 c0)
      have ys11r2:=fun c0=>hold 11534350 _ (by decide) (by decide) (s11r2 c0)
      have ys14:=fun c0=>hold 13 _ (by decide) (by decide) (s14 c0)
      clear hold
      simp only[go_sem,putf]
      (simp only[IC2,upd,updo];simp[f0,f7,f8,f10,f12,f24,f25,f26,f93,f94,h1,h10,h11,h12];simp_all)
    · skip
      have zd1:=d1 (by first|(simp[hr,hD'];done)|(cases hq:D' 1<;>simp_all))
      have zd2:=d2 (by first|(simp[hr,hD'];done)|(cases hq:D' 2<;>simp_all))
      have zh13:=h13 (by first|(simp[hr,hD'];done)|(cases hq:D' 14<;>simp_all))
      simp only[go_sem,zd1,zd2,zh13,hj,Ar.av,e29,lt_dec hjA]
      (simp only[IC2,upd,updo];simp[f0,f7,f8,f10,f12,f24,f25,f26,f93,f94,h1,h10,h11,h12];simp_all)
    · skip
      have zd12:=d12 (by first|(simp[hr,hD'];done)|(cases hq:D' 12<;>simp_all))
      simp only[go_sem,zd12,hj,Ar.av,e29,lt_dec hjA]
      (simp only[IC2,upd,updo];simp[f0,f7,f8,f10,f12,f24,f25,f26,f93,f94,h1,h10,h11,h12];simp_all)
    · skip
      have zd13:=d13 (by first|(simp[hr,hD'];done)|(cases hq:D' 13<;>simp_all))
      have zd11:=d11 (by first|(simp[hr,hD'];done)|(cases hq:D' 11<;>simp_all))
      have zh13:=h13 (by first|(simp[hr,hD'];done)|(cases hq:D' 14<;>simp_all))
      simp only[go_sem,zd13,zd11,zh13,hj,Ar.av,e29,lt_dec hjA]
      (simp only[IC2,upd,updo];simp[f0,f7,f8,f10,f12,f24,f25,f26,f93,f94,h1,h10,h11,h12];simp_all)
  rintro⟨fr,hp,nx⟩ D' hD' ⟨hn,f0,f7,f8,f10,f12,f24,f25,f26,f93,f94,h0,h1,h2,h10,h11,h12,h13,d0,d1,d2,d3,d4,d5,d6,d7,d8,d9,d10,d11,d12,d13,s11h0,s11r2,s14,x1,o14_7,o14_9,o14_12,o13_12⟩
  simp only at hn f0 f7 f8 f10 f12 f24 f25 f26 f93 f94 h0 h1 h2 h10 h11 h12 h13 d0 d1 d2 d3 d4 d5 d6 d7 d8 d9 d10 d11 d12 d13 s11h0 s11r2 s14 x1 o14_7 o14_9 o14_12 o13_12
  have zd0:=d0 (hD' 0)
  have zd1:=d1 (hD' 1)
  have zd2:=d2 (hD' 2)
  have zd3:=d3 (hD' 3)
  have zd4:=d4 (hD' 4)
  have zd5:=d5 (hD' 5)
  have zd6:=d6 (hD' 6)
  have zd7:=d7 (hD' 7)
  have zd8:=d8 (hD' 8)
  have zd9:=d9 (hD' 9)
  have zd10:=d10 (hD' 10)
  have zd11:=d11 (hD' 11)
  have zd12:=d12 (hD' 12)
  have zd13:=d13 (hD' 13)
  have zs11h0:=s11h0 (hD' 11)
  have zs11r2:=s11r2 (hD' 11)
  have zs14:=s14 (hD' 14)
  have zx1:=x1 (hD' 11)
  repeat(first|refine Kq_norm_code ?_|refine Kq_norm_blk ?_)
  have her:=fun m=>hes.ren (m:=m)
  refine AW.ent (σ':=mkSt [(0,.ptr 0 0),(7,.mp 10),(8,.rw 11),(10,.ptr 12 0),(24,.sl (stl l)),(25,.i l.length),(26,.i (i:Nat)),(93,.i ln),(94,.i (j:Int))] [(0,.cells [.str nm,.sl (nml ps),.sl (bdl bs),.i y1.cnt,.rw 2]),(1,o1),(2,.row 10 (fdl y1.out)),(10,.map es),(11,.row 17 (stl S)),(12,.cells [.i k,.str n,.sl (nml ns),.sl (Tx.avL ty),.i ex.k,.str ex.op,.str ex.nm,.str ex.vr,.sl (nml ex.ns),.i ex.num,.sl (Tx.avL ex.ty),.i ex.off,.sl (stl T1),.sl (stl T2),.rw 13,.sl [],.i off]),(13,.row 4 (arl (AL.set j (.mk v ns1 T of1))))] 14) (fun i=>if i=2 then 11534350 else i) ?_ ?_
  · refine ent_mk (by simp[go_sem,f0,f7,f8,f10,f24,f25,f26,f93,f94]) ?_ (by simp) (fun id hid=>⟨by rw[if_neg (by omega)],by omega⟩)
    simp only[List.forall_mem_cons,ho1.r,ho1.i]
    simp[go_sem,her,zs11h0,zs11r2,zs14,h1,h10,h11,h12]
    exact hes.ids2 _
  have hj2:=H zx1
  clear zs11h0 zs11r2 zs14 zd0 zd1 zd2 zd3 zd4 zd5 zd6 zd7 zd8 zd9 zd10 zd11 zd12 zd13 zx1 f0 f7 f8 f10 f12 f24 f25 f26 f93 f94 h0 h1 h2 h10 h11 h12 h13 d0 d1 d2 d3 d4 d5 d6 d7 d8 d9 d10 d11 d12 d13 s11h0 s11r2 s14 x1 o14_7 o14_9 o14_12 o13_12 hD' hn
  clear fr hp nx D'
  repeat'(first|apply nx|refine zx ?_|rw[zw]|((first|refine hK _ ?_|refine hKp _ _ ?_);clear hK hKp K Kp;try clear hanc anc)|((with_reducible refine And.intro ?_ ?_);exact zb)|((first|refine zr hE fun K Kp hK hKp=>?_|refine zd true mixed hE fun K Kp hK hKp anc hanc=>?_|refine zd false mixed hE fun K Kp hK hKp anc hanc=>?_);simp only[go_sem,u1])|(refine zg (fun hg=>?_) (fun hg=>?_)<;>simp only[go_sem,u1,hg])|(refine zc (fun hc=>?_) (fun hc=>?_)<;>try exact zh hc))
  refine hj2 _ ⟨fun i=>i,?_⟩
  refine ent_mk (by simp[go_sem]) ?_ (by simp) (fun id hid=>⟨rfl,by omega⟩)
  simp only[List.forall_mem_cons,ho1.r,ho1.i]
  simp[go_sem,her]
  exact hes.ids2 _
theorem rd_arms (hE : E.nt = Tryd.f25.ntmps) (hnp : E.np ≤ 2) (ho1 : Lone o1) {k : Int} {n : Nm} {ns : List Nm} {ty : List Tx} {ex : Ex} {T1 T2 : List Lf.St} {ar : List Ar} {off : Int} {now : List Vs}
    (hes:EsClo es) (hln:ar.length≤1000) (hB:∀ v ns1 b of1,Ar.mk v ns1 b of1∈ar→∀ y,Ok y (stSz b)→LC 25 [.ptr 0 0,.sl (stl b),.mp 1] (objL nm ps bs [(1,.map es)]) 3 2 y (.sl (stl (blk dec nm ps bs now b y).1)) (blk dec nm ps bs now b y).2)
    (hok:Ok y (arSz ar))
    (hpan:(arms dec nm ps bs now ar y).2.err≠0→∀ σ,Q (.pan (failL (arms dec nm ps bs now ar y).2.err (arms dec nm ps bs now ar y).2.pos)) σ)
    (H:(arms dec nm ps bs now ar y).2.err=0→AW Tryd.prog E (sq1 rest21) (Kq Tryd.prog E (.code (sq2 rest21):: .blk 1:: .code r34:: .lp J::fs) Q) (mkSt [(0,.ptr 0 0),(7,.mp 10),(8,.rw 11),(10,.ptr 12 0),(24,.sl (stl l)),(25,.i l.length),(26,.i (i:Nat))] [(0,.cells [.str nm,.sl (nml ps),.sl (bdl bs),.i (arms dec nm ps bs now ar y).2.cnt,.rw 2]),(1,o1),(2,.row 10 (fdl (arms dec nm ps bs now ar y).2.out)),(10,.map es),(11,.row 17 (stl S)),(12,.cells [.i k,.str n,.sl (nml ns),.sl (Tx.avL ty),.i ex.k,.str ex.op,.str ex.nm,.str ex.vr,.sl (nml ex.ns),.i ex.num,.sl (Tx.avL ex.ty),.i ex.off,.sl (stl T1),.sl (stl T2),.sl (arl (arms dec nm ps bs now ar y).1),.sl [],.i off])] 13)):
    AW Tryd.prog E rest15 (Kq Tryd.prog E (.blk 1:: .code r34:: .lp J::fs) Q) (mkSt [(0,.ptr 0 0),(7,.mp 10),(8,.rw 11),(10,.ptr 12 0),(24,.sl (stl l)),(25,.i l.length),(26,.i (i:Nat))] [(0,.cells [.str nm,.sl (nml ps),.sl (bdl bs),.i y.cnt,.rw 2]),(1,o1),(2,.row 10 (fdl y.out)),(10,.map es),(11,.row 17 (stl S)),(12,.cells [.i k,.str n,.sl (nml ns),.sl (Tx.avL ty),.i ex.k,.str ex.op,.str ex.nm,.str ex.vr,.sl (nml ex.ns),.i ex.num,.sl (Tx.avL ex.ty),.i ex.off,.sl (stl T1),.sl (stl T2),.rw 13,.sl [],.i off]),(13,.row 4 (arl ar))] 14):=by
  have her:=fun m=>hes.ren (m:=m)
  simp only[rest21,rest15,st25,rd25,b25,Tryd.f25,Option.getD,sq1,sq2,blkC,lpC,r34] at H ⊢
  repeat'(first|apply nx|refine zx ?_|rw[zw]|((first|refine hK _ ?_|refine hKp _ _ ?_);clear hK hKp K Kp;try clear hanc anc)|((with_reducible refine And.intro ?_ ?_);exact zb)|((first|refine zr hE fun K Kp hK hKp=>?_|refine zd true mixed hE fun K Kp hK hKp anc hanc=>?_|refine zd false mixed hE fun K Kp hK hKp anc hanc=>?_);simp only[go_sem])|(refine zg (fun hg=>?_) (fun hg=>?_)<;>simp only[go_sem,hg])|(refine zc (fun hc=>?_) (fun hc=>?_)<;>try exact zh hc))
  refine K_loop (X:=Nat×List Ar×Ls) (fun z=>z.1≤ar.length∧z.2.1.length=z.1∧arms dec nm ps bs now ar y=(z.2.1++(arms dec nm ps bs now (ar.drop z.1) z.2.2).1,(arms dec nm ps bs now (ar.drop z.1) z.2.2).2)∧Ok z.2.2 (arSz (ar.drop z.1))) (fun z=>mkSt [(0,.ptr 0 0),(7,.mp 10),(8,.rw 11),(10,.ptr 12 0),(24,.sl (stl l)),(25,.i l.length),(26,.i (i:Nat)),(93,.i ar.length),(94,.i (z.1:Int))] [(0,.cells [.str nm,.sl (nml ps),.sl (bdl bs),.i z.2.2.cnt,.rw 2]),(1,o1),(2,.row 10 (fdl z.2.2.out)),(10,.map es),(11,.row 17 (stl S)),(12,.cells [.i k,.str n,.sl (nml ns),.sl (Tx.avL ty),.i ex.k,.str ex.op,.str ex.nm,.str ex.vr,.sl (nml ex.ns),.i ex.num,.sl (Tx.avL ex.ty),.i ex.off,.sl (stl T1),.sl (stl T2),.rw 13,.sl [],.i off]),(13,.row 4 (arl (z.2.1++ar.drop z.1)))] 14) (fun z=>ar.length - z.1) (0,[],y) ⟨Nat.zero_le _,rfl,rfl,hok⟩ (fun i=>i) ?_ ?_
  · refine ent_mk (by simp[go_sem]) ?_ (by simp) (fun id hid=>⟨rfl,by omega⟩)
    simp only[List.forall_mem_cons,ho1.r,ho1.i]
    simp[go_sem,her]
    exact hes.ids2 _
  rintro⟨j,A,y0⟩ ⟨hj,hA,he,hk0⟩
  simp only at hj hA he hk0 ⊢
  by_cases hlt:j<ar.length
  case neg=>
    obtain rfl:j=ar.length:=by omega
    rw[List.drop_length,arms] at he
    simp only[List.append_nil] at he
    rw[he] at H
    simp only at H
    simp only[List.drop_length,List.append_nil]
    repeat'(first|apply nx|refine zx ?_|rw[zw]|((first|refine hK _ ?_|refine hKp _ _ ?_);clear hK hKp K Kp;try clear hanc anc)|((with_reducible refine And.intro ?_ ?_);exact zb)|((fail_if_success refine K_stop 21 ?_);(first|refine zr hE fun K Kp hK hKp=>?_|refine zd true mixed hE fun K Kp hK hKp anc hanc=>?_|refine zd false mixed hE fun K Kp hK hKp anc hanc=>?_);simp only[go_sem,ge_dec])|(refine zg (fun hg=>?_) (fun hg=>?_)<;>simp only[go_sem,ge_dec,hg])|(refine zc (fun hc=>?_) (fun hc=>?_)<;>try exact zh hc))
    refine AW_frzCell 12 14 13 (sz:=4) (xs:=arl A) (l:=[.i k,.str n,.sl (nml ns),.sl (Tx.avL ty),.i ex.k,.str ex.op,.str ex.nm,.str ex.vr,.sl (nml ex.ns),.i ex.num,.sl (Tx.avL ex.ty),.i ex.off,.sl (stl T1),.sl (stl T2),.rw 13,.sl [],.i off]) (by simp only[go_sem]) (by rfl) (by simp only[go_sem]) (by decide) (arl_clor _) ?_
    refine AW.ent (fun i=>i) ?_ (H hk0.e)
    refine ent_mk (by simp[go_sem]) ?_ (by simp) (fun id hid=>⟨rfl,by omega⟩)
    simp only[List.forall_mem_cons,ho1.r,ho1.i]
    simp[go_sem,her]
    exact hes.ids2 _
  obtain⟨⟨v,ns1,b,of1⟩,hx⟩:=get?_of hlt
  have hm:=List.mem_of_getElem? hx
  have hsz:arSz (ar.drop j)=1+ns1.length+stSz b+arSz (ar.drop (j+1)):=by rw[drop_of hx,arSz,Ar.sz]
  have hc:=hB v ns1 b of1 hm y0 (hk0.mono (by omega))
  rw[drop_of hx,arms,arm] at he
  simp only at he
  have hkeep:(blk dec nm ps bs now b y0).2.err≠0→(arms dec nm ps bs now ar y).2.err=(blk dec nm ps bs now b y0).2.err∧(arms dec nm ps bs now ar y).2.pos=(blk dec nm ps bs now b y0).2.pos:=fun h=>by
    rw[he]
    exact arms_keep nm ps bs (ar.drop (j+1)) now _ h
  have hset:(A++ar.drop j).set j (.mk v ns1 (blk dec nm ps bs now b y0).1 of1)=(A++[.mk v ns1 (blk dec nm ps bs now b y0).1 of1])++ar.drop (j+1):=by rw[drop_of hx];exact set_mid A _ _ _ hA
  have hcode:=fun(Jb:Am.St→Prop) (gs:List Fm) H=>rd_arm (Jb:=Jb) (Q:=Q) (fs:=gs) (l:=l) (i:=i) (S:=S) (k:=k) (n:=n) (ns:=ns) (ty:=ty) (ex:=ex) (T1:=T1) (T2:=T2) (off:=off) hE hnp ho1 hes (AL:=A++ar.drop j) (j:=j) (ln:=ar.length) (v:=v) (ns1:=ns1) (b:=b) (of1:=of1) (by rw[List.getElem?_append_right (by omega),hA,Nat.sub_self,drop_of hx];rfl) hlt (by rw[List.length_append,List.length_drop];omega) hln hc (fun h=>by obtain⟨h1,h2⟩:=hkeep h;rw[← h1, ← h2];exact hpan (by rw[h1];exact h)) H
  simp only[rest21,rest15,st25,rd25,b25,Tryd.f25,Option.getD,sq1,sq2,blkC,lpC,r34] at hcode
  apply hcode
  intro h0 σ hm2
  rw[hset] at hm2
  have g:=blk_grow (dec:=dec) nm ps bs b now y0
  have hp0:=blk_noE (dec:=dec) nm ps bs b now y0 h0 hk0.e hk0.p
  have hk1:=(hk0.grow g (by omega) h0 hp0).mono (m:=arSz (ar.drop (j+1))) (by omega)
  have hl1:(A++[Ar.mk v ns1 (blk dec nm ps bs now b y0).1 of1]).length=j+1:=by rw[List.length_append,hA];rfl
  have he1:arms dec nm ps bs now ar y=((A++[Ar.mk v ns1 (blk dec nm ps bs now b y0).1 of1])++(arms dec nm ps bs now (ar.drop (j+1)) (blk dec nm ps bs now b y0).2).1,(arms dec nm ps bs now (ar.drop (j+1)) (blk dec nm ps bs now b y0).2).2):=by rw[he,List.append_assoc];rfl
  generalize A++[Ar.mk v ns1 (blk dec nm ps bs now b y0).1 of1]=A1 at hm2 hl1 he1
  generalize (blk dec nm ps bs now b y0).2=y9 at hm2 hk1 he1
  refine⟨(j+1,A1,y9),⟨?_,?_,?_,?_⟩,?_,?_⟩
  · exact hlt
  · exact hl1
  · exact he1
  · exact hk1
  · simp only;omega
  · simp only;exact hm2
end Go.Proofs.YtffmphmiicnaeaaDoor

set_option maxHeartbeats 4000000
set_option maxRecDepth 100000
namespace Go.Proofs.YtffmphmiicnaeaaDoor
open Go.Am Go.Proofs Go.Lf
open Classical
attribute [local irreducible] AW CallP CallB
variable {nm:Nm} {ps:List Nm} {bs:List Bd} {o1:AObj} {l:List Lf.St} {i:Nat} {es:List (AV×AV)} {S:List Lf.St} {y:Ls} {E:En} {Q:AEx→Am.St→Prop} {J:Am.St→Prop} {fs:List Fm}
theorem stl_one (k:Int) (n:Nm) (ns:List Nm) (ty:List Tx) (ex:Ex) (th el:List Lf.St) (ar:List Ar) (off:Int) (S:List Lf.St):stl S++[.agg [.i k,.str n,.sl (nml ns),.sl (Tx.avL ty),.i ex.k,.str ex.op,.str ex.nm,.str ex.vr,.sl (nml ex.ns),.i ex.num,.sl (Tx.avL ex.ty),.i ex.off,.sl (stl th),.sl (stl el),.sl (arl ar),.sl [],.i off]]=stl (S++[.mk k n ns ty ex th el ar [] off]):=by
 rw[stl_app];simp[stl,St.av,fdl_nil]
def Ird_spawn (nm:Nm) (ps:List Nm) (bs:List Bd) (o1:AObj) (l:List Lf.St) (i:Nat) (es:List (AV×AV)) (S:List Lf.St) (y:Ls) (C0 C1 C2:List AV) (li:Nm) (NM OP:List Nm) (cs:List Ad) (D:Nat→Bool) (σ:Go.Am.St):Prop:=
 σ.nx=14∧σ.fr 0=some (.ptr 0 0)∧σ.fr 7=some (.mp 10)∧σ.fr 8=some (.rw 11)∧σ.fr 10=some (.ptr 12 0)∧σ.fr 13=some (.ptr 12 1)∧σ.fr 14=some (.ptr 12 2)∧σ.fr 15=some (.ptr 13 0)∧σ.fr 18=some (.sl (nml NM))∧σ.fr 24=some (.sl (stl l))∧σ.fr 25=some (.i l.length)∧σ.fr 26=some (.i (i:Nat))∧σ.hp 0=some (.cells [.str nm,.sl (nml ps),.sl (bdl bs),.i y.cnt,.rw 2])∧σ.hp 1=some (o1)∧σ.hp 2=some (.row 10 (fdl y.out))∧σ.hp 10=some (.map es)∧σ.hp 11=some (.row 17 (stl S))∧(D 11=false→σ.hp 12=some (.cells C0))∧σ.hp 13=some (.cells [.str li,.sl (adl cs)])∧(D 0=true→σ.fr 161=some (.ptr 12 1))∧(D 1=true→σ.fr 162=some (.ptr 12 2))∧(D 2=true→σ.fr 163=some (.ptr 13 0))∧(D 3=true→σ.fr 164=some (.str li))∧(D 4=true→σ.fr 165=some (.sl (nml NM)))∧(D 5=true→σ.fr 166=some (.ptr 12 2))∧(D 6=true→σ.fr 167=some (.ptr 12 2))∧(D 7=true→σ.fr 168=some (.sl (nml OP)))∧(D 8=true→σ.fr 169=some (.rw 8388622))∧(D 9=true→σ.fr 170=some (.sl (nml (NM++OP))))∧(D 10=true→σ.fr 171=some (.ptr 12 1))∧(D 12=true→σ.fr 172=some (.ptr 12 2))∧(D 8=true→D 9=false→σ.hp 8388622=some (.row 1 [.sl (nml NM),.sl (nml OP)]))∧(D 11=true→D 13=false→σ.hp 12=some (.cells C1))∧(D 13=true→σ.hp 12=some (.cells C2))∧(D 11=true→D 7=true)
theorem rd_spawn (hE : E.nt = Tryd.f25.ntmps) (hnp : E.np ≤ 2) (ho1 : Lone o1) {k : Int} {n : Nm} {ns : List Nm} {ty : List Tx} {ex : Ex} {T1 T2 : List Lf.St} {A3 : List Ar} {off : Int} {li : Nm} {NM : List Nm} {cs : List Ad} (hlt : i < l.length) (hl : l.length ≤ 1000) (hes : EsClo es) (hS : S.length ≤ 2 ^ 30) (hNM : NM.length ≤ 2 ^ 30) (hns : ns.length ≤ 1000)
    (H:∀ σ,(∃ m,Ent E.np m σ (mk25 nm ps bs o1 l (i+1) es (S++[.mk k li (NM++ns) ty ex T1 T2 A3 [] off]) y))→J σ):
    AW Tryd.prog E r32 (Kq Tryd.prog E (.code r33:: .blk 1:: .code r34:: .lp J::fs) Q) (mkSt [(0,.ptr 0 0),(7,.mp 10),(8,.rw 11),(10,.ptr 12 0),(13,.ptr 12 1),(14,.ptr 12 2),(15,.ptr 13 0),(18,.sl (nml NM)),(24,.sl (stl l)),(25,.i l.length),(26,.i (i:Nat))] [(0,.cells [.str nm,.sl (nml ps),.sl (bdl bs),.i y.cnt,.rw 2]),(1,o1),(2,.row 10 (fdl y.out)),(10,.map es),(11,.row 17 (stl S)),(12,.cells [.i k,.str n,.sl (nml ns),.sl (Tx.avL ty),.i ex.k,.str ex.op,.str ex.nm,.str ex.vr,.sl (nml ex.ns),.i ex.num,.sl (Tx.avL ex.ty),.i ex.off,.sl (stl T1),.sl (stl T2),.sl (arl A3),.sl [],.i off]),(13,.cells [.str li,.sl (adl cs)])] 14):=by
  have u0:=inc_u hlt (by omega)
  have cc:=concatS_c NM ns hNM (by omega)
  simp only[r32,r33,cd1,rest21,rest15,st25,rd25,b25,Tryd.f25,Option.getD,sq1,sq2,blkC,lpC,r34]
  repeat(first|apply w1|apply w2)
  refine K_inv (n:=14) (Ird_spawn nm ps bs o1 l i es S y [.i k,.str n,.sl (nml ns),.sl (Tx.avL ty),.i ex.k,.str ex.op,.str ex.nm,.str ex.vr,.sl (nml ex.ns),.i ex.num,.sl (Tx.avL ex.ty),.i ex.off,.sl (stl T1),.sl (stl T2),.sl (arl A3),.sl [],.i off] [.i k,.str li,.sl (nml ns),.sl (Tx.avL ty),.i ex.k,.str ex.op,.str ex.nm,.str ex.vr,.sl (nml ex.ns),.i ex.num,.sl (Tx.avL ex.ty),.i ex.off,.sl (stl T1),.sl (stl T2),.sl (arl A3),.sl [],.i off] [.i k,.str li,.sl (nml (NM++ns)),.sl (Tx.avL ty),.i ex.k,.str ex.op,.str ex.nm,.str ex.vr,.sl (nml ex.ns),.i ex.num,.sl (Tx.avL ex.ty),.i ex.off,.sl (stl T1),.sl (stl T2),.sl (arl A3),.sl [],.i off] li NM ns cs) mixed hE ?_ ?_ (fun Kp hKp=>?_) ?_ rfl
  · intro D D' σ h
    have:=fun j=>(h j).symm
    unfold Ird_spawn
    simp only[this]
    exact fun h=>h
  · simp[Ird_spawn,go_sem]
  · refine⟨?_,?_,?_,?_,?_,?_,?_,?_,?_,?_,?_,?_,?_,?_,trivial⟩
    all_goals rintro D' ⟨fr,hp,nx⟩ hD' hr ⟨hn,f0,f7,f8,f10,f13,f14,f15,f18,f24,f25,f26,h0,h1,h2,h10,h11,h12,h13,d0,d1,d2,d3,d4,d5,d6,d7,d8,d9,d10,d12,e8,s11,s13,o11_7⟩
    all_goals simp[Region.binds] at hn f0 f7 f8 f10 f13 f14 f15 f18 f24 f25 f26 h0 h1 h2 h10 h11 h12 h13 d0 d1 d2 d3 d4 d5 d6 d7 d8 d9 d10 d12 e8 s11 s13 o11_7 hD' hr
    all_goals subst hn
    all_goals try clear hQ'
    · skip
      simp only[go_sem,f13]
      (simp only[Ird_spawn,upd,updo];simp[f0,f7,f8,f10,f13,f14,f15,f18,f24,f25,f26,h0,h1,h2,h10,h11,h13];simp_all)
    · skip
      simp only[go_sem,f14]
      (simp only[Ird_spawn,upd,updo];simp[f0,f7,f8,f10,f13,f14,f15,f18,f24,f25,f26,h0,h1,h2,h10,h11,h13];simp_all)
    · skip
      simp only[go_sem,f15]
      (simp only[Ird_spawn,upd,updo];simp[f0,f7,f8,f10,f13,f14,f15,f18,f24,f25,f26,h0,h1,h2,h10,h11,h13];simp_all)
    · skip
      have zd2:=d2 (by first|(simp[hr,hD'];done)|(cases hq:D' 2<;>simp_all))
      simp only[go_sem,zd2,h13]
      (simp only[Ird_spawn,upd,updo];simp[f0,f7,f8,f10,f13,f14,f15,f18,f24,f25,f26,h0,h1,h2,h10,h11,h13];simp_all)
    · skip
      simp only[go_sem,f18]
      (simp only[Ird_spawn,upd,updo];simp[f0,f7,f8,f10,f13,f14,f15,f18,f24,f25,f26,h0,h1,h2,h10,h11,h13];simp_all)
    · skip
      simp only[go_sem,f14]
      (simp only[Ird_spawn,upd,updo];simp[f0,f7,f8,f10,f13,f14,f15,f18,f24,f25,f26,h0,h1,h2,h10,h11,h13];simp_all)
    · skip
      have zd5:=d5 (by first|(simp[hr,hD'];done)|(cases hq:D' 5<;>simp_all))
      simp only[go_sem,zd5]
      (simp only[Ird_spawn,upd,updo];simp[f0,f7,f8,f10,f13,f14,f15,f18,f24,f25,f26,h0,h1,h2,h10,h11,h13];simp_all)
    · skip
      have zd6:=d6 (by first|(simp[hr,hD'];done)|(cases hq:D' 6<;>simp_all))
      have zh12:=h12 (by first|(simp[hr,hD'];done)|(cases hq:D' 11<;>simp_all))
      simp only[go_sem,zd6,zh12]
      (simp only[Ird_spawn,upd,updo];simp[f0,f7,f8,f10,f13,f14,f15,f18,f24,f25,f26,h0,h1,h2,h10,h11,h13];simp_all)
    · skip
      have zd4:=d4 (by first|(simp[hr,hD'];done)|(cases hq:D' 4<;>simp_all))
      have zd7:=d7 (by first|(simp[hr,hD'];done)|(cases hq:D' 7<;>simp_all))
      simp only[go_sem,zd4,zd7]
      (simp only[Ird_spawn,upd,updo];simp[f0,f7,f8,f10,f13,f14,f15,f18,f24,f25,f26,h0,h1,h2,h10,h11,h13];simp_all)
    · skip
      have zd8:=d8 (by first|(simp[hr,hD'];done)|(cases hq:D' 8<;>simp_all))
      have ze8:=e8 (by first|(simp[hr,hD'];done)|(cases hq:D' 8<;>simp_all)) (by first|(simp[hr,hD'];done)|(cases hq:D' 9<;>simp_all))
      simp only[go_sem,zd8,ze8]
      refine Hold.mk (CallB.dpure [8388622] 8 cc (by simp only[go_sem,List.mem_cons,List.not_mem_nil,or_false,zd8,ze8]<;>rfl) (by simp[go_sem,zd8,ze8]) (fun _=>rfl) (fun _=>by simp[AV.snapOkL,AV.snapOk]) rfl ?_)
      simp only[go_sem]
      (simp only[Ird_spawn,upd,updo,notIn_at,List.mem_cons,List.not_mem_nil,or_false];simp[f0,f7,f8,f10,f13,f14,f15,f18,f24,f25,f26,h0,h1,h2,h10,h11,h13];simp_all)
    · skip
      have zd0:=d0 (by first|(simp[hr,hD'];done)|(cases hq:D' 0<;>simp_all))
      simp only[go_sem,zd0]
      (simp only[Ird_spawn,upd,updo];simp[f0,f7,f8,f10,f13,f14,f15,f18,f24,f25,f26,h0,h1,h2,h10,h11,h13];simp_all)
    · skip
      have zd10:=d10 (by first|(simp[hr,hD'];done)|(cases hq:D' 10<;>simp_all))
      have zd3:=d3 (by first|(simp[hr,hD'];done)|(cases hq:D' 3<;>simp_all))
      have zh12:=h12 (by first|(simp[hr,hD'];done)|(cases hq:D' 11<;>simp_all))
      simp only[go_sem,zd10,zd3,zh12]
      (simp only[Ird_spawn,upd,updo];simp[f0,f7,f8,f10,f13,f14,f15,f18,f24,f25,f26,h0,h1,h2,h10,h11,h13];simp_all)
    · skip
      have zd1:=d1 (by first|(simp[hr,hD'];done)|(cases hq:D' 1<;>simp_all))
      simp only[go_sem,zd1]
      (simp only[Ird_spawn,upd,updo];simp[f0,f7,f8,f10,f13,f14,f15,f18,f24,f25,f26,h0,h1,h2,h10,h11,h13];simp_all)
    · skip
      have zd12:=d12 (by first|(simp[hr,hD'];done)|(cases hq:D' 12<;>simp_all))
      have zd9:=d9 (by first|(simp[hr,hD'];done)|(cases hq:D' 9<;>simp_all))
      have zs11:=s11 (by first|(simp[hr,hD'];done)|(cases hq:D' 11<;>simp_all)) (by first|(simp[hr,hD'];done)|(cases hq:D' 13<;>simp_all))
      simp only[go_sem,zd12,zd9,zs11]
      (simp only[Ird_spawn,upd,updo];simp[f0,f7,f8,f10,f13,f14,f15,f18,f24,f25,f26,h0,h1,h2,h10,h11,h13];simp_all)
  rintro⟨fr,hp,nx⟩ D' hD' ⟨hn,f0,f7,f8,f10,f13,f14,f15,f18,f24,f25,f26,h0,h1,h2,h10,h11,h12,h13,d0,d1,d2,d3,d4,d5,d6,d7,d8,d9,d10,d12,e8,s11,s13,o11_7⟩
  simp only at hn f0 f7 f8 f10 f13 f14 f15 f18 f24 f25 f26 h0 h1 h2 h10 h11 h12 h13 d0 d1 d2 d3 d4 d5 d6 d7 d8 d9 d10 d12 e8 s11 s13 o11_7
  have zd0:=d0 (hD' 0)
  have zd1:=d1 (hD' 1)
  have zd2:=d2 (hD' 2)
  have zd3:=d3 (hD' 3)
  have zd4:=d4 (hD' 4)
  have zd5:=d5 (hD' 5)
  have zd6:=d6 (hD' 6)
  have zd7:=d7 (hD' 7)
  have zd8:=d8 (hD' 8)
  have zd9:=d9 (hD' 9)
  have zd10:=d10 (hD' 10)
  have zd12:=d12 (hD' 12)
  have zs13:=s13 (hD' 13)
  repeat(first|refine Kq_norm_code ?_|refine Kq_norm_blk ?_)
  have her:=fun m=>hes.ren (m:=m)
  refine AW.ent (σ':=mkSt [(0,.ptr 0 0),(7,.mp 10),(8,.rw 11),(10,.ptr 12 0),(24,.sl (stl l)),(25,.i l.length),(26,.i (i:Nat))] [(0,.cells [.str nm,.sl (nml ps),.sl (bdl bs),.i y.cnt,.rw 2]),(1,o1),(2,.row 10 (fdl y.out)),(10,.map es),(11,.row 17 (stl S)),(12,.cells [.i k,.str li,.sl (nml (NM++ns)),.sl (Tx.avL ty),.i ex.k,.str ex.op,.str ex.nm,.str ex.vr,.sl (nml ex.ns),.i ex.num,.sl (Tx.avL ex.ty),.i ex.off,.sl (stl T1),.sl (stl T2),.sl (arl A3),.sl [],.i off])] 13) (fun i=>i) ?_ ?_
  · refine ent_mk (by simp[go_sem,f0,f7,f8,f10,f24,f25,f26]) ?_ (by simp) (fun id hid=>⟨rfl,by omega⟩)
    simp only[List.forall_mem_cons,ho1.r,ho1.i]
    simp[go_sem,her,zs13,h0,h1,h2,h10,h11]
    exact hes.ids2 _
  clear zs13 zd0 zd1 zd2 zd3 zd4 zd5 zd6 zd7 zd8 zd9 zd10 zd12 f0 f7 f8 f10 f13 f14 f15 f18 f24 f25 f26 h0 h1 h2 h10 h11 h12 h13 d0 d1 d2 d3 d4 d5 d6 d7 d8 d9 d10 d12 e8 s11 s13 o11_7 hD' hn
  clear fr hp nx D'
  repeat'(first|apply nx|refine zx ?_|rw[zw]|((first|refine hK _ ?_|refine hKp _ _ ?_);clear hK hKp K Kp;try clear hanc anc)|((with_reducible refine And.intro ?_ ?_);exact zb)|((first|refine zr hE fun K Kp hK hKp=>?_|refine zd true mixed hE fun K Kp hK hKp anc hanc=>?_|refine zd false mixed hE fun K Kp hK hKp anc hanc=>?_);simp only[go_sem,u0])|(refine zg (fun hg=>?_) (fun hg=>?_)<;>simp only[go_sem,u0,hg])|(refine zc (fun hc=>?_) (fun hc=>?_)<;>try exact zh hc))
  refine H _ ⟨fun i=>if i=11 then 3145741 else i,?_⟩
  refine ent_mk (by simp[go_sem]) ?_ (by simp) (fun id hid=>⟨by rw[if_neg (by omega)],by omega⟩)
  have e:=stl_one k li (NM++ns) ty ex T1 T2 A3 off S
  simp only[List.forall_mem_cons,ho1.r,ho1.i]
  simp[go_sem,her,e]
  exact hes.ids2 _
def Ird_value (nm:Nm) (ps:List Nm) (bs:List Bd) (o1:AObj) (l:List Lf.St) (i:Nat) (es:List (AV×AV)) (S:List Lf.St) (y:Ls) (C0 C1 C2:List AV) (li:Nm) (NM OP:List Nm) (cs:List Ad) (D:Nat→Bool) (σ:Go.Am.St):Prop:=
 σ.nx=14∧σ.fr 0=some (.ptr 0 0)∧σ.fr 7=some (.mp 10)∧σ.fr 8=some (.rw 11)∧σ.fr 10=some (.ptr 12 0)∧σ.fr 13=some (.ptr 12 6)∧σ.fr 14=some (.ptr 12 8)∧σ.fr 15=some (.ptr 13 0)∧σ.fr 18=some (.sl (nml NM))∧σ.fr 24=some (.sl (stl l))∧σ.fr 25=some (.i l.length)∧σ.fr 26=some (.i (i:Nat))∧σ.hp 0=some (.cells [.str nm,.sl (nml ps),.sl (bdl bs),.i y.cnt,.rw 2])∧σ.hp 1=some (o1)∧σ.hp 2=some (.row 10 (fdl y.out))∧σ.hp 10=some (.map es)∧σ.hp 11=some (.row 17 (stl S))∧(D 11=false→σ.hp 12=some (.cells C0))∧σ.hp 13=some (.cells [.str li,.sl (adl cs)])∧(D 0=true→σ.fr 161=some (.ptr 12 6))∧(D 1=true→σ.fr 162=some (.ptr 12 8))∧(D 2=true→σ.fr 163=some (.ptr 13 0))∧(D 3=true→σ.fr 164=some (.str li))∧(D 4=true→σ.fr 165=some (.sl (nml NM)))∧(D 5=true→σ.fr 166=some (.ptr 12 8))∧(D 6=true→σ.fr 167=some (.ptr 12 8))∧(D 7=true→σ.fr 168=some (.sl (nml OP)))∧(D 8=true→σ.fr 169=some (.rw 8388622))∧(D 9=true→σ.fr 170=some (.sl (nml (NM++OP))))∧(D 10=true→σ.fr 171=some (.ptr 12 6))∧(D 12=true→σ.fr 172=some (.ptr 12 8))∧(D 8=true→D 9=false→σ.hp 8388622=some (.row 1 [.sl (nml NM),.sl (nml OP)]))∧(D 11=true→D 13=false→σ.hp 12=some (.cells C1))∧(D 13=true→σ.hp 12=some (.cells C2))∧(D 11=true→D 7=true)
theorem rd_value (hE : E.nt = Tryd.f25.ntmps) (hnp : E.np ≤ 2) (ho1 : Lone o1) {k : Int} {n : Nm} {ns : List Nm} {ty : List Tx} {ex : Ex} {T1 T2 : List Lf.St} {A3 : List Ar} {off : Int} {li : Nm} {NM : List Nm} {cs : List Ad} (hlt : i < l.length) (hl : l.length ≤ 1000) (hes : EsClo es) (hS : S.length ≤ 2 ^ 30) (hNM : NM.length ≤ 2 ^ 30) (hns : ex.ns.length ≤ 1000)
    (H:∀ σ,(∃ m,Ent E.np m σ (mk25 nm ps bs o1 l (i+1) es (S++[.mk k n ns ty ⟨ex.k,ex.op,li,ex.vr,NM++ex.ns,ex.num,ex.ty,ex.off⟩ T1 T2 A3 [] off]) y))→J σ):
    AW Tryd.prog E r32 (Kq Tryd.prog E (.code r33:: .blk 1:: .code r34:: .lp J::fs) Q) (mkSt [(0,.ptr 0 0),(7,.mp 10),(8,.rw 11),(10,.ptr 12 0),(13,.ptr 12 6),(14,.ptr 12 8),(15,.ptr 13 0),(18,.sl (nml NM)),(24,.sl (stl l)),(25,.i l.length),(26,.i (i:Nat))] [(0,.cells [.str nm,.sl (nml ps),.sl (bdl bs),.i y.cnt,.rw 2]),(1,o1),(2,.row 10 (fdl y.out)),(10,.map es),(11,.row 17 (stl S)),(12,.cells [.i k,.str n,.sl (nml ns),.sl (Tx.avL ty),.i ex.k,.str ex.op,.str ex.nm,.str ex.vr,.sl (nml ex.ns),.i ex.num,.sl (Tx.avL ex.ty),.i ex.off,.sl (stl T1),.sl (stl T2),.sl (arl A3),.sl [],.i off]),(13,.cells [.str li,.sl (adl cs)])] 14):=by
  have u0:=inc_u hlt (by omega)
  have cc:=concatS_c NM ex.ns hNM (by omega)
  simp only[r32,r33,cd1,rest21,rest15,st25,rd25,b25,Tryd.f25,Option.getD,sq1,sq2,blkC,lpC,r34]
  repeat(first|apply w1|apply w2)
  refine K_inv (n:=14) (Ird_value nm ps bs o1 l i es S y [.i k,.str n,.sl (nml ns),.sl (Tx.avL ty),.i ex.k,.str ex.op,.str ex.nm,.str ex.vr,.sl (nml ex.ns),.i ex.num,.sl (Tx.avL ex.ty),.i ex.off,.sl (stl T1),.sl (stl T2),.sl (arl A3),.sl [],.i off] [.i k,.str n,.sl (nml ns),.sl (Tx.avL ty),.i ex.k,.str ex.op,.str li,.str ex.vr,.sl (nml ex.ns),.i ex.num,.sl (Tx.avL ex.ty),.i ex.off,.sl (stl T1),.sl (stl T2),.sl (arl A3),.sl [],.i off] [.i k,.str n,.sl (nml ns),.sl (Tx.avL ty),.i ex.k,.str ex.op,.str li,.str ex.vr,.sl (nml (NM++ex.ns)),.i ex.num,.sl (Tx.avL ex.ty),.i ex.off,.sl (stl T1),.sl (stl T2),.sl (arl A3),.sl [],.i off] li NM ex.ns cs) mixed hE ?_ ?_ (fun Kp hKp=>?_) ?_ rfl
  · intro D D' σ h
    have:=fun j=>(h j).symm
    unfold Ird_value
    simp only[this]
    exact fun h=>h
  · simp[Ird_value,go_sem]
  · refine⟨?_,?_,?_,?_,?_,?_,?_,?_,?_,?_,?_,?_,?_,?_,trivial⟩
    all_goals rintro D' ⟨fr,hp,nx⟩ hD' hr ⟨hn,f0,f7,f8,f10,f13,f14,f15,f18,f24,f25,f26,h0,h1,h2,h10,h11,h12,h13,d0,d1,d2,d3,d4,d5,d6,d7,d8,d9,d10,d12,e8,s11,s13,o11_7⟩
    all_goals simp[Region.binds] at hn f0 f7 f8 f10 f13 f14 f15 f18 f24 f25 f26 h0 h1 h2 h10 h11 h12 h13 d0 d1 d2 d3 d4 d5 d6 d7 d8 d9 d10 d12 e8 s11 s13 o11_7 hD' hr
    all_goals subst hn
    all_goals try clear hQ'
    · skip
      simp only[go_sem,f13]
      (simp only[Ird_value,upd,updo];simp[f0,f7,f8,f10,f13,f14,f15,f18,f24,f25,f26,h0,h1,h2,h10,h11,h13];simp_all)
    · skip
      simp only[go_sem,f14]
      (simp only[Ird_value,upd,updo];simp[f0,f7,f8,f10,f13,f14,f15,f18,f24,f25,f26,h0,h1,h2,h10,h11,h13];simp_all)
    · skip
      simp only[go_sem,f15]
      (simp only[Ird_value,upd,updo];simp[f0,f7,f8,f10,f13,f14,f15,f18,f24,f25,f26,h0,h1,h2,h10,h11,h13];simp_all)
    · skip
      have zd2:=d2 (by first|(simp[hr,hD'];done)|(cases hq:D' 2<;>simp_all))
      simp only[go_sem,zd2,h13]
      (simp only[Ird_value,upd,updo];simp[f0,f7,f8,f10,f13,f14,f15,f18,f24,f25,f26,h0,h1,h2,h10,h11,h13];simp_all)
    · skip
      simp only[go_sem,f18]
      (simp only[Ird_value,upd,updo];simp[f0,f7,f8,f10,f13,f14,f15,f18,f24,f25,f26,h0,h1,h2,h10,h11,h13];simp_all)
    · skip
      simp only[go_sem,f14]
      (simp only[Ird_value,upd,updo];simp[f0,f7,f8,f10,f13,f14,f15,f18,f24,f25,f26,h0,h1,h2,h10,h11,h13];simp_all)
    · skip
      have zd5:=d5 (by first|(simp[hr,hD'];done)|(cases hq:D' 5<;>simp_all))
      simp only[go_sem,zd5]
      (simp only[Ird_value,upd,updo];simp[f0,f7,f8,f10,f13,f14,f15,f18,f24,f25,f26,h0,h1,h2,h10,h11,h13];simp_all)
    · skip
      have zd6:=d6 (by first|(simp[hr,hD'];done)|(cases hq:D' 6<;>simp_all))
      have zh12:=h12 (by first|(simp[hr,hD'];done)|(cases hq:D' 11<;>simp_all))
      simp only[go_sem,zd6,zh12]
      (simp only[Ird_value,upd,updo];simp[f0,f7,f8,f10,f13,f14,f15,f18,f24,f25,f26,h0,h1,h2,h10,h11,h13];simp_all)
    · skip
      have zd4:=d4 (by first|(simp[hr,hD'];done)|(cases hq:D' 4<;>simp_all))
      have zd7:=d7 (by first|(simp[hr,hD'];done)|(cases hq:D' 7<;>simp_all))
      simp only[go_sem,zd4,zd7]
      (simp only[Ird_value,upd,updo];simp[f0,f7,f8,f10,f13,f14,f15,f18,f24,f25,f26,h0,h1,h2,h10,h11,h13];simp_all)
    · skip
      have zd8:=d8 (by first|(simp[hr,hD'];done)|(cases hq:D' 8<;>simp_all))
      have ze8:=e8 (by first|(simp[hr,hD'];done)|(cases hq:D' 8<;>simp_all)) (by first|(simp[hr,hD'];done)|(cases hq:D' 9<;>simp_all))
      simp only[go_sem,zd8,ze8]
      refine Hold.mk (CallB.dpure [8388622] 8 cc (by simp only[go_sem,List.mem_cons,List.not_mem_nil,or_false,zd8,ze8]<;>rfl) (by simp[go_sem,zd8,ze8]) (fun _=>rfl) (fun _=>by simp[AV.snapOkL,AV.snapOk]) rfl ?_)
      simp only[go_sem]
      (simp only[Ird_value,upd,updo,notIn_at,List.mem_cons,List.not_mem_nil,or_false];simp[f0,f7,f8,f10,f13,f14,f15,f18,f24,f25,f26,h0,h1,h2,h10,h11,h13];simp_all)
    · skip
      have zd0:=d0 (by first|(simp[hr,hD'];done)|(cases hq:D' 0<;>simp_all))
      simp only[go_sem,zd0]
      (simp only[Ird_value,upd,updo];simp[f0,f7,f8,f10,f13,f14,f15,f18,f24,f25,f26,h0,h1,h2,h10,h11,h13];simp_all)
    · skip
      have zd10:=d10 (by first|(simp[hr,hD'];done)|(cases hq:D' 10<;>simp_all))
      have zd3:=d3 (by first|(simp[hr,hD'];done)|(cases hq:D' 3<;>simp_all))
      have zh12:=h12 (by first|(simp[hr,hD'];done)|(cases hq:D' 11<;>simp_all))
      simp only[go_sem,zd10,zd3,zh12]
      (simp only[Ird_value,upd,updo];simp[f0,f7,f8,f10,f13,f14,f15,f18,f24,f25,f26,h0,h1,h2,h10,h11,h13];simp_all)
    · skip
      have zd1:=d1 (by first|(simp[hr,hD'];done)|(cases hq:D' 1<;>simp_all))
      simp only[go_sem,zd1]
      (simp only[Ird_value,upd,updo];simp[f0,f7,f8,f10,f13,f14,f15,f18,f24,f25,f26,h0,h1,h2,h10,h11,h13];simp_all)
    · skip
      have zd12:=d12 (by first|(simp[hr,hD'];done)|(cases hq:D' 12<;>simp_all))
      have zd9:=d9 (by first|(simp[hr,hD'];done)|(cases hq:D' 9<;>simp_all))
      have zs11:=s11 (by first|(simp[hr,hD'];done)|(cases hq:D' 11<;>simp_all)) (by first|(simp[hr,hD'];done)|(cases hq:D' 13<;>simp_all))
      simp only[go_sem,zd12,zd9,zs11]
      (simp only[Ird_value,upd,updo];simp[f0,f7,f8,f10,f13,f14,f15,f18,f24,f25,f26,h0,h1,h2,h10,h11,h13];simp_all)
  rintro⟨fr,hp,nx⟩ D' hD' ⟨hn,f0,f7,f8,f10,f13,f14,f15,f18,f24,f25,f26,h0,h1,h2,h10,h11,h12,h13,d0,d1,d2,d3,d4,d5,d6,d7,d8,d9,d10,d12,e8,s11,s13,o11_7⟩
  simp only at hn f0 f7 f8 f10 f13 f14 f15 f18 f24 f25 f26 h0 h1 h2 h10 h11 h12 h13 d0 d1 d2 d3 d4 d5 d6 d7 d8 d9 d10 d12 e8 s11 s13 o11_7
  have zd0:=d0 (hD' 0)
  have zd1:=d1 (hD' 1)
  have zd2:=d2 (hD' 2)
  have zd3:=d3 (hD' 3)
  have zd4:=d4 (hD' 4)
  have zd5:=d5 (hD' 5)
  have zd6:=d6 (hD' 6)
  have zd7:=d7 (hD' 7)
  have zd8:=d8 (hD' 8)
  have zd9:=d9 (hD' 9)
  have zd10:=d10 (hD' 10)
  have zd12:=d12 (hD' 12)
  have zs13:=s13 (hD' 13)
  repeat(first|refine Kq_norm_code ?_|refine Kq_norm_blk ?_)
  have her:=fun m=>hes.ren (m:=m)
  refine AW.ent (σ':=mkSt [(0,.ptr 0 0),(7,.mp 10),(8,.rw 11),(10,.ptr 12 0),(24,.sl (stl l)),(25,.i l.length),(26,.i (i:Nat))] [(0,.cells [.str nm,.sl (nml ps),.sl (bdl bs),.i y.cnt,.rw 2]),(1,o1),(2,.row 10 (fdl y.out)),(10,.map es),(11,.row 17 (stl S)),(12,.cells [.i k,.str n,.sl (nml ns),.sl (Tx.avL ty),.i ex.k,.str ex.op,.str li,.str ex.vr,.sl (nml (NM++ex.ns)),.i ex.num,.sl (Tx.avL ex.ty),.i ex.off,.sl (stl T1),.sl (stl T2),.sl (arl A3),.sl [],.i off])] 13) (fun i=>i) ?_ ?_
  · refine ent_mk (by simp[go_sem,f0,f7,f8,f10,f24,f25,f26]) ?_ (by simp) (fun id hid=>⟨rfl,by omega⟩)
    simp only[List.forall_mem_cons,ho1.r,ho1.i]
    simp[go_sem,her,zs13,h0,h1,h2,h10,h11]
    exact hes.ids2 _
  clear zs13 zd0 zd1 zd2 zd3 zd4 zd5 zd6 zd7 zd8 zd9 zd10 zd12 f0 f7 f8 f10 f13 f14 f15 f18 f24 f25 f26 h0 h1 h2 h10 h11 h12 h13 d0 d1 d2 d3 d4 d5 d6 d7 d8 d9 d10 d12 e8 s11 s13 o11_7 hD' hn
  clear fr hp nx D'
  repeat'(first|apply nx|refine zx ?_|rw[zw]|((first|refine hK _ ?_|refine hKp _ _ ?_);clear hK hKp K Kp;try clear hanc anc)|((with_reducible refine And.intro ?_ ?_);exact zb)|((first|refine zr hE fun K Kp hK hKp=>?_|refine zd true mixed hE fun K Kp hK hKp anc hanc=>?_|refine zd false mixed hE fun K Kp hK hKp anc hanc=>?_);simp only[go_sem,u0])|(refine zg (fun hg=>?_) (fun hg=>?_)<;>simp only[go_sem,u0,hg])|(refine zc (fun hc=>?_) (fun hc=>?_)<;>try exact zh hc))
  refine H _ ⟨fun i=>if i=11 then 3145741 else i,?_⟩
  refine ent_mk (by simp[go_sem]) ?_ (by simp) (fun id hid=>⟨by rw[if_neg (by omega)],by omega⟩)
  have e:=stl_one k n ns ty ⟨ex.k,ex.op,li,ex.vr,NM++ex.ns,ex.num,ex.ty,ex.off⟩ T1 T2 A3 off S
  simp only at e
  simp only[List.forall_mem_cons,ho1.r,ho1.i]
  simp[go_sem,her,e]
  exact hes.ids2 _
end Go.Proofs.YtffmphmiicnaeaaDoor
