/- A part of the proof: an abstract machine for the walks, and what the walked functions compute. -/
import Derived.Test.YtfpcjabbcpgbjaaDoorCards
import Derived.Lib.LaidTab
import Derived.Stop.LaidErr
import Derived.KernelRfl
import Derived.Test.YtfpcjabbcpgbjaaDoorMg
import Derived.Test.YtfpcjabbcpgbjaaDoorRe
set_option linter.unusedVariables false
set_option linter.unusedSimpArgs false
namespace Go.Proofs.YtfpcjabbcpgbjaaDoor
open Go.Am Go.Proofs Go.Hv Go.Gl
variable {H:Type}
mutual
theorem Qz:∀ d:DataW H,Rows.uptoBulk d=Jh d
 | .lit (.string _)| .lit (.bool _)| .lit (.int _ _)| .lit (.float _ _)| .lit .nil=>by simp[Rows.uptoBulk,Jh]
 | .nil=>by simp[Rows.uptoBulk,Jh]
 | .ptr d=>by simp[Rows.uptoBulk,Jh,Qz d]
 | .slice l r=>by simp[Rows.uptoBulk,Jh,bulkL_eq l,bulkL_eq r]
 | .agg l=>by simp[Rows.uptoBulk,Jh,bulkL_eq l]
 | .iface _ d=>by simp[Rows.uptoBulk,Jh,Qz d]
 | .map l=>by simp[Rows.uptoBulk,Jh,Ui l]
 | .held _=>by simp[Rows.uptoBulk,Jh]
theorem bulkL_eq:∀ l:List (DataW H),Rows.uptoBulkAll l=bulkL l
 | []=>by simp[Rows.uptoBulkAll,bulkL]
 |d::l=>by simp[Rows.uptoBulkAll,bulkL,Qz d,bulkL_eq l]
theorem Ui:∀ l:List (Lit×DataW H),Rows.uptoBulkEntries l=Uh l
 | []=>by simp[Rows.uptoBulkEntries,Uh]
 |d::l=>by simp[Rows.uptoBulkEntries,Uh,jbO d,Ui l]
theorem jbO:∀ l:Lit×DataW H,Rows.uptoBulkEntry l=jbN l
 |(.string _,d)|(.bool _,d)|(.int _ _,d)|(.float _ _,d)|(.nil,d)=>by simp[Rows.uptoBulkEntry,jbN,Qz d]
end
theorem oh {α:Type} (av:α->AV) (sz:α->Nat) (q:α->Prop):∀ (elems:List (DataW H)),(∀ x,x∈elems->∃ a,avD x=av a/\sz a<=Jh x/\q a)->∃ l:List α,elems.map avD=l.map av/\(l.map sz).sum<=bulkL elems/\∀ a,a∈l->q a
 | [],_=>⟨[],rfl,Nat.le_refl _,fun a ha=>by cases ha⟩
 |x::r,h=>by
  obtain⟨a,h1,h2,h2q⟩:=h x (by simp)
  obtain⟨l,h3,h4,h5⟩:=oh av sz q r (fun y hy=>h y (by simp[hy]))
  exact⟨a::l,by simp[h1,h3],by simp only[List.map_cons,List.sum_cons,bulkL];omega,fun b hb=>by rcases List.mem_cons.1 hb with rfl|hb<;>first|exact h2q|exact h5 b hb⟩
theorem yu {d:DataW H} (h:DT Tryd.prog 3 d):∃ n:Int,avD d=AV.i n/\1<=Jh d/\ -9223372036854775808<=n/\n<=9223372036854775807:=by
 obtain⟨n,h1,h2⟩:=h.int_inv Tryd.underlying3
 refine⟨n,h1,yN d,?_⟩
 simp[Lit.wf,IntKind.min,IntKind.max,IntKind.signed,IntKind.bits] at h2
 constructor<;>omega
theorem jdl {p:List (DataW H)} (h:p.length=2):∃ a b,p=[a,b]:=by
 match p,h with| [a,b],_=>exact⟨a,b,rfl⟩
theorem jdm {p:List (DataW H)} (h:p.length=3):∃ a b c,p=[a,b,c]:=by
 match p,h with| [a,b,c],_=>exact⟨a,b,c,rfl⟩
theorem jh5 {p:List (DataW H)} (h:p.length=5):∃ a b c d e,p=[a,b,c,d,e]:=by
 match p,h with| [a,b,c,d,e],_=>exact⟨a,b,c,d,e,rfl⟩
theorem jdi:∀ (n:Nat) (d:DataW H),Jh d<n->DT Tryd.prog 25 d->∃ t:Ty,avD d=t.av/\t.sz<=Jh d
 |0,d,hn,_=>absurd hn (Nat.not_lt_zero _)
 |n+1,d,hn,h=>by
  obtain⟨p,h1,h2,h3,h4⟩:=h.struct_inv Tryd.underlying25
  obtain⟨a,b,c,rfl⟩:=jdm h2
  obtain⟨na,ha,_⟩:=yu (h3 0 _ a rfl rfl)
  obtain⟨nb,hb,_⟩:=yu (h3 1 _ b rfl rfl)
  obtain⟨es,g1,g2,g3⟩:=(h3 2 _ c rfl rfl).slice_inv Tryd.underlying23
  simp only[bulkL] at h4
  obtain⟨l,h5,h6,h7⟩:=yh (p:=fun _=>True) Ty.av Ty.sz es fun x hx=>jdi n x (by have:=QL hx;omega) (g2 x hx)
  refine⟨.mk na nb l,?_,?_⟩
  ·rw[h1]
   simp only[Yq,ha,hb,g1,h5,AV.cells,Ty.av,Ty.avL_eq]
   rfl
  ·rw[Ty.sz,Ty.szL_eq];have:=yN a;omega
theorem jdh {d:DataW H} (h:DT Tryd.prog 25 d):∃ t:Ty,avD d=t.av/\t.sz<=Jh d:=jdi _ d (Nat.lt_succ_self _) h
theorem jh0 {d:DataW H} (h:DT Tryd.prog 38 d):∃ v:Dv,avD d=v.av/\v.sz<=Jh d:=by
 obtain⟨p,h1,h2,h3,h4⟩:=h.struct_inv Tryd.underlying38
 obtain⟨a,b,rfl⟩:=jdl h2
 obtain⟨s,ha,_⟩:=(h3 0 _ a rfl rfl).str_inv Tryd.underlying9
 obtain⟨es,g1,g2,g3⟩:=(h3 1 _ b rfl rfl).slice_inv Tryd.underlying23
 simp only[bulkL] at h4
 obtain⟨l,h5,h6,h7⟩:=yh (p:=fun _=>True) Ty.av Ty.sz es fun x hx=>jdh (g2 x hx)
 refine⟨⟨s,l⟩,?_,?_⟩
 ·rw[h1]
  simp only[Yq,ha,g1,h5,AV.cells,Dv.av,Dv.cs,Ty.avL_eq]
  rfl
 ·rw[Dv.sz,Ty.szL_eq];have:=yN a;simp only;omega
theorem jlW {d:DataW H} (h:DT Tryd.prog 36 d):∃ t:Dd,avD d=t.av/\1+(t.vs.map Dv.sz).sum<=Jh d/\(-9223372036854775808<=t.dr/\t.dr<=9223372036854775807):=by
 obtain⟨p,h1,h2,h3,h4⟩:=h.struct_inv Tryd.underlying36
 obtain⟨a,b,c,e,f,rfl⟩:=jh5 h2
 obtain⟨s,ha,_⟩:=(h3 0 _ a rfl rfl).str_inv Tryd.underlying9
 obtain⟨nb,hb,_⟩:=yu (h3 1 _ b rfl rfl)
 obtain⟨nc,hc,_⟩:=yu (h3 2 _ c rfl rfl)
 obtain⟨es,g1,g2,g3⟩:=(h3 3 _ e rfl rfl).slice_inv Tryd.underlying34
 obtain⟨nf,hf,_,hr⟩:=yu (h3 4 _ f rfl rfl)
 simp only[bulkL] at h4
 obtain⟨l,h5,h6,h7⟩:=yh (p:=fun _=>True) Dv.av Dv.sz es fun x hx=>jh0 (g2 x hx)
 refine⟨⟨s,nb,nc,l,nf⟩,?_,by have:=yN a;simp only;omega,hr⟩
 rw[h1]
 simp only[Yq,ha,hb,hc,g1,h5,hf,AV.cells,Dd.av,Dd.cs,dvl]
 rfl
theorem jhZ {d:DataW H} (h:DT Tryd.prog 22 d):∃ l:List Dd,avD d= .sl (ddl l)/\dSz l+1<=Jh d/\DR l:=by
 obtain⟨es,h1,h2,h3⟩:=h.slice_inv Tryd.underlying22
 obtain⟨l,h4,h5,h6⟩:=oh Dd.av (fun x=>1+(x.vs.map Dv.sz).sum) (fun t=> -9223372036854775808<=t.dr/\t.dr<=9223372036854775807) es fun x hx=>jlW (h2 x hx)
 exact⟨l,by rw[h1,h4];rfl,by simp only[dSz];omega,h6⟩
theorem jim {D:List Dd} {l:List Ty} {n:Nat} (h:dSz D+Ty.szL l<=n):(uni D l).length<=2*n:=by
 have:=jfA D l
 have:=jej D
 omega
theorem gl_of {W:World} {x y:String×DataW Unit} (h:laidMet Tryd.prog [x,y,("internal/strconv.uint64pow10",Rows.laid_internal_strconv_uint64pow10)] W):Gl W (fun b _=>b<W.heap.size):=by
 have hg:Tryd.prog.globalNamed "internal/strconv.uint64pow10" =some 0:=by kernel_rfl
 have ht:(Tryd.prog.globals[0]?).map (·.type)=some 159:=by kernel_rfl
 have htab:Lib.TabIs Tryd.prog W "internal/strconv.uint64pow10" .u64 Lib.pow10Tab:=by
  refine Lib.tabIs_of_head (rest:=[]) hg ht Tryd.underlying159 Tryd.underlying151 (by kernel_rfl) (by kernel_rfl) ?_
  exact h.tail.tail
 intro p hp
 obtain rfl:=List.mem_singleton.1 hp
 unfold Lib.TabIs World.var? at htab
 rw[hg,Option.bind_some] at htab
 cases hh:W.heap[0]? with
 |none=>rw[hh] at htab;cases htab
 |some o=>
  rw[hh] at htab
  have hlt:0<W.heap.size:=(Array.getElem?_eq_some_iff.1 hh).1
  cases o with
  |cells cs ty fz=>
   refine⟨⟨cs,ty,fz,rfl,?_⟩,fun o _=>hlt⟩
   cases htab
   simp
  |_=>cases htab
end Go.Proofs.YtfpcjabbcpgbjaaDoor
