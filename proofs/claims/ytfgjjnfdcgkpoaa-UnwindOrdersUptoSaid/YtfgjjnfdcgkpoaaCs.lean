/- A part of the proof: an abstract machine for the walks, and what the walked functions compute. -/
import Derived.Test.YtfgjjnfdcgkpoaaRows
import Derived.Test.YtfgjjnfdcgkpoaaMg
import Derived.Test.YtfgjjnfdcgkpoaaCg
import Derived.Test.YtfgjjnfdcgkpoaaCp
set_option linter.unusedVariables false
set_option linter.unusedSimpArgs false
namespace Go.Proofs.Ytfgjjnfdcgkpoaa
open Go.Am Go.Proofs Go.Hv
variable {H:Type}
mutual
theorem bulk_eq:∀ d:DataW H,Rows.uptoBulk d=bulk d
 | .lit (.string _)| .lit (.bool _)| .lit (.int _ _)| .lit (.float _ _)| .lit .nil=>by simp[Rows.uptoBulk,bulk]
 | .nil=>by simp[Rows.uptoBulk,bulk]
 | .ptr d=>by simp[Rows.uptoBulk,bulk,bulk_eq d]
 | .slice l r=>by simp[Rows.uptoBulk,bulk,bulkL_eq l,bulkL_eq r]
 | .agg l=>by simp[Rows.uptoBulk,bulk,bulkL_eq l]
 | .iface _ d=>by simp[Rows.uptoBulk,bulk,bulk_eq d]
 | .map l=>by simp[Rows.uptoBulk,bulk,bulkE_eq l]
 | .held _=>by simp[Rows.uptoBulk,bulk]
theorem bulkL_eq:∀ l:List (DataW H),Rows.uptoBulkAll l=bulkL l
 | []=>by simp[Rows.uptoBulkAll,bulkL]
 |d::l=>by simp[Rows.uptoBulkAll,bulkL,bulk_eq d,bulkL_eq l]
theorem bulkE_eq:∀ l:List (Lit×DataW H),Rows.uptoBulkEntries l=bulkE l
 | []=>by simp[Rows.uptoBulkEntries,bulkE]
 |d::l=>by simp[Rows.uptoBulkEntries,bulkE,bulkP_eq d,bulkE_eq l]
theorem bulkP_eq:∀ l:Lit×DataW H,Rows.uptoBulkEntry l=bulkP l
 |(.string _,d)|(.bool _,d)|(.int _ _,d)|(.float _ _,d)|(.nil,d)=>by simp[Rows.uptoBulkEntry,bulkP,bulk_eq d]
end
theorem opn_int {d:DataW H} (h:DT Try.prog 3 d):∃ n:Int,avD d=AV.i n∧1≤bulk d:=by
 obtain⟨n,h1,_⟩:=h.int_inv Try.underlying3
 exact⟨n,h1,bulk_pos d⟩
theorem opn_il {d:DataW H} (h:DT Try.prog 36 d):∃ l:List Int,avD d= .sl (il l)∧l.length+1≤bulk d:=by
 obtain⟨es,h1,h2,h3⟩:=h.slice_inv Try.underlying36
 obtain⟨l,h4,h5,h6⟩:=list_open (p:=fun _=>True) AV.i (fun _=>1) es fun x hx=>opn_int (h2 x hx)
 exact⟨l,by rw[h1,h4];rfl,by rw[h6];have:=bulk_len es;omega⟩
theorem parts8 {p:List (DataW H)} (h:p.length=8):∃ a b c d e f g i,p=[a,b,c,d,e,f,g,i]:=by
 match p,h with| [a,b,c,d,e,f,g,i],_=>exact⟨a,b,c,d,e,f,g,i,rfl⟩
theorem opn_vl:∀ (n:Nat) (d:DataW H),bulk d<n→DT Try.prog 49 d→∃ t:Vl,avD d=t.av∧t.sz≤bulk d
 |0,d,hn,_=>absurd hn (Nat.not_lt_zero _)
 |n+1,d,hn,h=>by
  obtain⟨p,h1,h2,h3,h4⟩:=h.struct_inv Try.underlying49
  obtain⟨a,b,c,e,f,g,i,j,rfl⟩:=parts8 h2
  obtain⟨na,ha,_⟩:=opn_int (h3 0 _ a rfl rfl)
  obtain⟨nb,hb,_⟩:=opn_int (h3 1 _ b rfl rfl)
  obtain⟨nc,hc,_⟩:=opn_int (h3 2 _ c rfl rfl)
  obtain⟨ne,he,_⟩:=opn_int (h3 3 _ e rfl rfl)
  obtain⟨es,g1,g2,g3⟩:=(h3 4 _ f rfl rfl).slice_inv Try.underlying35
  obtain⟨bo,hg⟩:=(h3 5 _ g rfl rfl).bool_inv Try.underlying4
  obtain⟨pl,hi,hil⟩:=opn_il (h3 6 _ i rfl rfl)
  obtain⟨ll,hj,hjl⟩:=opn_il (h3 7 _ j rfl rfl)
  simp only[bulkL] at h4
  obtain⟨l,h5,h6,h7⟩:=list_open (p:=fun _=>True) Vl.av Vl.sz es fun x hx=>opn_vl n x (by have:=bulk_mem hx;omega) (g2 x hx)
  refine⟨.mk na nb nc ne l bo pl ll,?_,?_⟩
  ·rw[h1]
   simp only[avDC,ha,hb,hc,he,g1,h5,hg,hi,hj,AV.cells,Vl.av,Vl.avL_eq]
   rfl
  ·rw[Vl.sz,Vl.szL_eq];have:=bulk_pos a;omega
theorem opn_v {d:DataW H} (h:DT Try.prog 49 d):∃ t:Vl,avD d=t.av∧t.sz≤bulk d:=opn_vl _ d (Nat.lt_succ_self _) h
theorem parts7 {p:List (DataW H)} (h:p.length=7):∃ a b c d e f g,p=[a,b,c,d,e,f,g]:=by
 match p,h with| [a,b,c,d,e,f,g],_=>exact⟨a,b,c,d,e,f,g,rfl⟩
theorem opn_vs {d:DataW H} (h:DT Try.prog 35 d):∃ l:List Vl,avD d= .sl (Vl.avL l)∧(l.map Vl.sz).sum≤bulk d∧l.length≤bulk d:=by
 obtain⟨es,h1,h2,h3⟩:=h.slice_inv Try.underlying35
 obtain⟨l,h4,h5,h6⟩:=list_open (p:=fun _=>True) Vl.av Vl.sz es fun x hx=>opn_v (h2 x hx)
 exact⟨l,by rw[h1,h4,Vl.avL_eq],by omega,by rw[h6];have:=bulk_len es;omega⟩
def Af.sz (a:Af):Nat:=1+(a.sl.map Vl.sz).sum+a.si.length
theorem opn_af {d:DataW H} (h:DT Try.prog 38 d):∃ a:Af,avD d=a.av∧Af.sz a≤bulk d:=by
 obtain⟨p,h1,h2,h3,h4⟩:=h.struct_inv Try.underlying38
 obtain⟨a,b,c,e,f,g,i,rfl⟩:=parts7 h2
 obtain⟨na,ha,_⟩:=opn_int (h3 0 _ a rfl rfl)
 obtain⟨nb,hb,_⟩:=opn_int (h3 1 _ b rfl rfl)
 obtain⟨nc,hc,_⟩:=opn_int (h3 2 _ c rfl rfl)
 obtain⟨ne,he,_⟩:=opn_int (h3 3 _ e rfl rfl)
 obtain⟨nf,hf,_⟩:=opn_int (h3 4 _ f rfl rfl)
 obtain⟨l,hg,hgl,hgl2⟩:=opn_vs (h3 5 _ g rfl rfl)
 obtain⟨m,hi,hil⟩:=opn_il (h3 6 _ i rfl rfl)
 simp only[bulkL] at h4
 refine⟨⟨na,nb,nc,ne,nf,l,m⟩,?_,by simp only[Af.sz];omega⟩
 rw[h1]
 simp only[avDC,ha,hb,hc,he,hf,hg,hi,AV.cells]
 rfl
def Tsk.sz (t:Tsk):Nat:=1+(t.fs.map Af.sz).sum+t.ls.length+t.ce.length
theorem len_sum {α:Type} (f:α→Nat) (hf:∀ a,1≤f a):∀ l:List α,l.length≤(l.map f).sum
 | []=>Nat.zero_le _
 |a::l=>by have:=hf a;have:=len_sum f hf l;simp only[List.length_cons,List.map_cons,List.sum_cons];omega
theorem vsz_pos (v:Vl):1≤v.sz:=by rw[Vl.sz_eq];omega
end Go.Proofs.Ytfgjjnfdcgkpoaa
