/- A part of the proof: an abstract machine for the walks, and what the walked functions compute. -/
import Derived.Test.YtfpcjabbcpgbjaaDoorRh
import Derived.Test.YtfpcjabbcpgbjaaDoorRg
set_option linter.unusedVariables false
set_option linter.unusedSimpArgs false
namespace Go.Proofs.YtfpcjabbcpgbjaaDoor
open Go.Am Go.Proofs Go.Hv Go.Gl
variable {H:Type}
theorem jdg {d:DataW H} (h:DT Tryd.prog 28 d):∃ l:List Int,avD d= .sl (il l)/\l.length+1<=Jh d:=by
 obtain⟨es,h1,h2,h3⟩:=h.slice_inv Tryd.underlying28
 obtain⟨l,h4,h5,h6⟩:=yh (p:=fun _=>True) AV.i (fun _=>1) es fun x hx=>by
  obtain⟨n,g1,g2,_⟩:=yu (h2 x hx)
  exact⟨n,g1,g2⟩
 exact⟨l,by rw[h1,h4];rfl,by rw[h6];have:=GW es;omega⟩
theorem jhY {d:DataW H} (h:DT Tryd.prog 42 d):∃ l:List Bool,avD d= .sl (bl l)/\l.length<=Jh d:=by
 obtain⟨es,h1,h2,h3⟩:=h.slice_inv Tryd.underlying42
 obtain⟨l,h4,h5,h6⟩:=yh (p:=fun _=>True) AV.bool (fun _=>1) es fun x hx=>by
  obtain⟨b,hb⟩:=(h2 x hx).bool_inv Tryd.underlying4
  exact⟨b,hb,yN x⟩
 exact⟨l,by rw[h1,h4];rfl,by rw[h6];have:=GW es;omega⟩
theorem jh6 {p:List (DataW H)} (h:p.length=8):∃ a b c d e f g i,p=[a,b,c,d,e,f,g,i]:=by
 match p,h with| [a,b,c,d,e,f,g,i],_=>exact⟨a,b,c,d,e,f,g,i,rfl⟩
theorem jdj:∀ (n:Nat) (d:DataW H),Jh d<n->DT Tryd.prog 47 d->∃ t:Vl,avD d=t.av/\t.sz<=Jh d
 |0,d,hn,_=>absurd hn (Nat.not_lt_zero _)
 |n+1,d,hn,h=>by
  obtain⟨p,h1,h2,h3,h4⟩:=h.struct_inv Tryd.underlying47
  obtain⟨a,b,c,e,f,g,i,j,rfl⟩:=jh6 h2
  obtain⟨na,ha,_⟩:=yu (h3 0 _ a rfl rfl)
  obtain⟨nb,hb,_⟩:=yu (h3 1 _ b rfl rfl)
  obtain⟨nc,hc,_⟩:=yu (h3 2 _ c rfl rfl)
  obtain⟨ne,he,_⟩:=yu (h3 3 _ e rfl rfl)
  obtain⟨es,g1,g2,g3⟩:=(h3 4 _ f rfl rfl).slice_inv Tryd.underlying45
  obtain⟨bo,hg⟩:=(h3 5 _ g rfl rfl).bool_inv Tryd.underlying4
  obtain⟨pl,hi,hil⟩:=jdg (h3 6 _ i rfl rfl)
  obtain⟨ll,hj,hjl⟩:=jdg (h3 7 _ j rfl rfl)
  simp only[bulkL] at h4
  obtain⟨l,h5,h6,h7⟩:=yh (p:=fun _=>True) Vl.av Vl.sz es fun x hx=>jdj n x (by have:=QL hx;omega) (g2 x hx)
  refine⟨.mk na nb nc ne l bo pl ll,?_,?_⟩
  ·rw[h1]
   simp only[Yq,ha,hb,hc,he,g1,h5,hg,hi,hj,AV.cells,Vl.av,Vl.avL_eq]
   rfl
  ·rw[Vl.sz,Vl.szL_eq];have:=yN a;omega
theorem jf7 {d:DataW H} (h:DT Tryd.prog 47 d):∃ t:Vl,avD d=t.av/\t.sz<=Jh d:=jdj _ d (Nat.lt_succ_self _) h
theorem jlV {d:DataW H} (h:DT Tryd.prog 59 d):∃ c:Cl,avD d=c.av/\1+c.v.sz<=Jh d:=by
 obtain⟨p,h1,h2,h3,h4⟩:=h.struct_inv Tryd.underlying59
 obtain⟨a,b,c,rfl⟩:=jdm h2
 obtain⟨bo,ha⟩:=(h3 0 _ a rfl rfl).bool_inv Tryd.underlying4
 obtain⟨nb,hb,_⟩:=yu (h3 1 _ b rfl rfl)
 obtain⟨v,hc,hcs⟩:=jf7 (h3 2 _ c rfl rfl)
 simp only[bulkL] at h4
 refine⟨⟨bo,nb,v⟩,?_,by have:=yN a;simp only;omega⟩
 rw[h1]
 simp only[Yq,ha,hb,hc,AV.cells,Cl.av,Cl.cs,Vl.av_cs]
 simp
theorem xc {α:Type} (f:α->Nat):∀ (l:List α) (x:α),x∈l->f x<=(l.map f).sum
 |y::l,x,h=>by
  simp only[List.map_cons,List.sum_cons]
  rcases List.mem_cons.1 h with rfl|h
  ·omega
  ·have:=xc f l x h;omega
theorem jh1 {d:DataW H} (h:DT Tryd.prog 44 d) (hb:Jh d<=1048576):∃ t:Hp,avD d=t.av/\HB t:=by
 obtain⟨p,h1,h2,h3,h4⟩:=h.struct_inv Tryd.underlying44
 obtain⟨a,b,rfl⟩:=jdl h2
 obtain⟨es,g1,g2,g3⟩:=(h3 0 _ a rfl rfl).slice_inv Tryd.underlying41
 obtain⟨l,h5,h6,h7⟩:=yh (p:=fun _=>True) Cl.av (fun c=>1+c.v.sz) es fun x hx=>jlV (g2 x hx)
 obtain⟨bo,hb2,hbl⟩:=jhY (h3 1 _ b rfl rfl)
 simp only[bulkL] at h4
 have hes:=GW es
 refine⟨⟨l,bo⟩,?_,⟨by simp only;omega,by simp only;omega,fun c hc=>?_⟩⟩
 ·rw[h1]
  simp only[Yq,g1,hb2,h5,AV.cells,Hp.av,Hp.cs,Hv.cl]
  rfl
 ·have:=xc (fun c:Cl=>1+c.v.sz) l c hc
  omega
theorem glueDrops_pcall {a b c d e:DataW H} (ha:DT Tryd.prog 22 a) (hb:DT Tryd.prog 25 b) (hc:DT Tryd.prog 25 c) (hd:DT Tryd.prog 44 d) (he:DT Tryd.prog 47 e) (hs:Jh a+(Jh b+(Jh c+(Jh d+Jh e)))<=1048576):PCall Tryd.prog 6 [avD a,avD b,avD c,avD d,avD e] (.bool true):=by
 obtain⟨D,h1,h2,h3⟩:=jhZ ha
 obtain⟨t,h4,h5⟩:=jdh hb
 obtain⟨u,h6,h7⟩:=jdh hc
 obtain⟨h,h8,h9⟩:=jh1 hd (by omega)
 obtain⟨v,h10,h11⟩:=jf7 he
 rw[h1,h4,h6,h8,h10]
 refine jeI (jj1 (by omega)) h3 (by omega) (by omega) ?_ ⟨h9.l,h9.a,h9.m,by omega⟩
 have:=jim (D:=D) (l:=[t,u]) (n:=2 ^ 20) (by simp only[Ty.szL];omega)
 omega
end Go.Proofs.YtfpcjabbcpgbjaaDoor
