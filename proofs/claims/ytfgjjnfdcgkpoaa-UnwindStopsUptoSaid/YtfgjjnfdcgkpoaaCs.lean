/- A part of the proof: an abstract machine for the walks, and what the walked functions compute. -/
import Derived.Test.YtfgjjnfdcgkpoaaRows
import Derived.Test.YtfgjjnfdcgkpoaaMg
import Derived.Test.YtfgjjnfdcgkpoaaCg
import Derived.Test.YtfgjjnfdcgkpoaaCp
set_option linter.unusedVariables false
set_option linter.unusedSimpArgs false
namespace Go.Proofs.Ytfgjjnfdcgkpoaa
open Go.Am Go.Proofs Go.Hv
variable {H:Type}
mutual
theorem bulk_eq:∀ d:DataW H,Rows.uptoBulk d=bulk d
 | .lit (.string _)| .lit (.bool _)| .lit (.int _ _)| .lit (.float _ _)| .lit .nil=>by simp[Rows.uptoBulk,bulk]
 | .nil=>by simp[Rows.uptoBulk,bulk]
 | .ptr d=>by simp[Rows.uptoBulk,bulk,bulk_eq d]
 | .slice l r=>by simp[Rows.uptoBulk,bulk,bulkL_eq l,bulkL_eq r]
 | .agg l=>by simp[Rows.uptoBulk,bulk,bulkL_eq l]
 | .iface _ d=>by simp[Rows.uptoBulk,bulk,bulk_eq d]
 | .map l=>by simp[Rows.uptoBulk,bulk,bulkE_eq l]
 | .held _=>by simp[Rows.uptoBulk,bulk]
theorem bulkL_eq:∀ l:List (DataW H),Rows.uptoBulkAll l=bulkL l
 | []=>by simp[Rows.uptoBulkAll,bulkL]
 |d::l=>by simp[Rows.uptoBulkAll,bulkL,bulk_eq d,bulkL_eq l]
theorem bulkE_eq:∀ l:List (Lit×DataW H),Rows.uptoBulkEntries l=bulkE l
 | []=>by simp[Rows.uptoBulkEntries,bulkE]
 |d::l=>by simp[Rows.uptoBulkEntries,bulkE,bulkP_eq d,bulkE_eq l]
theorem bulkP_eq:∀ l:Lit×DataW H,Rows.uptoBulkEntry l=bulkP l
 |(.string _,d)|(.bool _,d)|(.int _ _,d)|(.float _ _,d)|(.nil,d)=>by simp[Rows.uptoBulkEntry,bulkP,bulk_eq d]
end
theorem opn_int {d:DataW H} (h:DT Try.prog 3 d):∃ n:Int,avD d=AV.i n∧1≤bulk d:=by
 obtain⟨n,h1,_⟩:=h.int_inv Try.underlying3
 exact⟨n,h1,bulk_pos d⟩
theorem opn_il {d:DataW H} (h:DT Try.prog 36 d):∃ l:List Int,avD d= .sl (il l)∧l.length+1≤bulk d:=by
 obtain⟨es,h1,h2,h3⟩:=h.slice_inv Try.underlying36
 obtain⟨l,h4,h5,h6⟩:=list_open (p:=fun _=>True) AV.i (fun _=>1) es fun x hx=>opn_int (h2 x hx)
 exact⟨l,by rw[h1,h4];rfl,by rw[h6];have:=bulk_len es;omega⟩
theorem opn_bl {d:DataW H} (h:DT Try.prog 27 d):∃ l:List Bool,avD d= .sl (bl l)∧l.length≤bulk d:=by
 obtain⟨es,h1,h2,h3⟩:=h.slice_inv Try.underlying27
 obtain⟨l,h4,h5,h6⟩:=list_open (p:=fun _=>True) AV.bool (fun _=>1) es fun x hx=>by
  obtain⟨b,hb⟩:=(h2 x hx).bool_inv Try.underlying4
  exact⟨b,hb,bulk_pos x⟩
 exact⟨l,by rw[h1,h4];rfl,by rw[h6];have:=bulk_len es;omega⟩
theorem parts2 {p:List (DataW H)} (h:p.length=2):∃ a b,p=[a,b]:=by
 match p,h with| [a,b],_=>exact⟨a,b,rfl⟩
theorem parts3 {p:List (DataW H)} (h:p.length=3):∃ a b c,p=[a,b,c]:=by
 match p,h with| [a,b,c],_=>exact⟨a,b,c,rfl⟩
theorem parts5 {p:List (DataW H)} (h:p.length=5):∃ a b c d e,p=[a,b,c,d,e]:=by
 match p,h with| [a,b,c,d,e],_=>exact⟨a,b,c,d,e,rfl⟩
theorem parts8 {p:List (DataW H)} (h:p.length=8):∃ a b c d e f g i,p=[a,b,c,d,e,f,g,i]:=by
 match p,h with| [a,b,c,d,e,f,g,i],_=>exact⟨a,b,c,d,e,f,g,i,rfl⟩
theorem opn_vl:∀ (n:Nat) (d:DataW H),bulk d<n→DT Try.prog 49 d→∃ t:Vl,avD d=t.av∧t.sz≤bulk d
 |0,d,hn,_=>absurd hn (Nat.not_lt_zero _)
 |n+1,d,hn,h=>by
  obtain⟨p,h1,h2,h3,h4⟩:=h.struct_inv Try.underlying49
  obtain⟨a,b,c,e,f,g,i,j,rfl⟩:=parts8 h2
  obtain⟨na,ha,_⟩:=opn_int (h3 0 _ a rfl rfl)
  obtain⟨nb,hb,_⟩:=opn_int (h3 1 _ b rfl rfl)
  obtain⟨nc,hc,_⟩:=opn_int (h3 2 _ c rfl rfl)
  obtain⟨ne,he,_⟩:=opn_int (h3 3 _ e rfl rfl)
  obtain⟨es,g1,g2,g3⟩:=(h3 4 _ f rfl rfl).slice_inv Try.underlying35
  obtain⟨bo,hg⟩:=(h3 5 _ g rfl rfl).bool_inv Try.underlying4
  obtain⟨pl,hi,hil⟩:=opn_il (h3 6 _ i rfl rfl)
  obtain⟨ll,hj,hjl⟩:=opn_il (h3 7 _ j rfl rfl)
  simp only[bulkL] at h4
  obtain⟨l,h5,h6,h7⟩:=list_open (p:=fun _=>True) Vl.av Vl.sz es fun x hx=>opn_vl n x (by have:=bulk_mem hx;omega) (g2 x hx)
  refine⟨.mk na nb nc ne l bo pl ll,?_,?_⟩
  ·rw[h1]
   simp only[avDC,ha,hb,hc,he,g1,h5,hg,hi,hj,AV.cells,Vl.av,Vl.avL_eq]
   rfl
  ·rw[Vl.sz,Vl.szL_eq];have:=bulk_pos a;omega
theorem opn_v {d:DataW H} (h:DT Try.prog 49 d):∃ t:Vl,avD d=t.av∧t.sz≤bulk d:=opn_vl _ d (Nat.lt_succ_self _) h
theorem opn_c {d:DataW H} (h:DT Try.prog 62 d):∃ c:Cl,avD d=c.av∧1+c.v.sz≤bulk d:=by
 obtain⟨p,h1,h2,h3,h4⟩:=h.struct_inv Try.underlying62
 obtain⟨a,b,c,rfl⟩:=parts3 h2
 obtain⟨bo,ha⟩:=(h3 0 _ a rfl rfl).bool_inv Try.underlying4
 obtain⟨nb,hb,_⟩:=opn_int (h3 1 _ b rfl rfl)
 obtain⟨v,hc,hcs⟩:=opn_v (h3 2 _ c rfl rfl)
 simp only[bulkL] at h4
 refine⟨⟨bo,nb,v⟩,?_,by have:=bulk_pos a;simp only;omega⟩
 rw[h1]
 simp only[avDC,ha,hb,hc,AV.cells,Cl.av,Cl.cs,Vl.av_cs]
 simp
theorem sum_mem {α:Type} (f:α→Nat):∀ (l:List α) (x:α),x∈l→f x≤(l.map f).sum
 |y::l,x,h=>by
  simp only[List.map_cons,List.sum_cons]
  rcases List.mem_cons.1 h with rfl|h
  ·omega
  ·have:=sum_mem f l x h;omega
theorem opn_hp {d:DataW H} (h:DT Try.prog 29 d) (hb:bulk d≤1048576):∃ t:Hp,avD d=t.av∧HB t:=by
 obtain⟨p,h1,h2,h3,h4⟩:=h.struct_inv Try.underlying29
 obtain⟨a,b,rfl⟩:=parts2 h2
 obtain⟨es,g1,g2,g3⟩:=(h3 0 _ a rfl rfl).slice_inv Try.underlying26
 obtain⟨l,h5,h6,h7⟩:=list_open (p:=fun _=>True) Cl.av (fun c=>1+c.v.sz) es fun x hx=>opn_c (g2 x hx)
 obtain⟨bo,hb2,hbl⟩:=opn_bl (h3 1 _ b rfl rfl)
 simp only[bulkL] at h4
 have hes:=bulk_len es
 refine⟨⟨l,bo⟩,?_,⟨by simp only;omega,by simp only;omega,fun c hc=>?_⟩⟩
 ·rw[h1]
  simp only[avDC,g1,hb2,h5,AV.cells,Hp.av,Hp.cs,cl]
  rfl
 ·have:=sum_mem (fun c:Cl=>1+c.v.sz) l c hc
  omega
theorem opn_d {d:DataW H} (h:DT Try.prog 69 d):∃ t:Dt,avD d=t.av∧1≤bulk d:=by
 obtain⟨p,h1,h2,h3,h4⟩:=h.struct_inv Try.underlying69
 obtain⟨a,b,c,e,f,rfl⟩:=parts5 h2
 obtain⟨s,ha,_⟩:=(h3 0 _ a rfl rfl).str_inv Try.underlying9
 obtain⟨nb,hb,_⟩:=opn_int (h3 1 _ b rfl rfl)
 obtain⟨nc,hc,_⟩:=opn_int (h3 2 _ c rfl rfl)
 obtain⟨es,g1,g2,g3⟩:=(h3 3 _ e rfl rfl).slice_inv Try.underlying67
 obtain⟨nf,hf,_⟩:=opn_int (h3 4 _ f rfl rfl)
 refine⟨⟨s,nb,nc,es.map avD,nf⟩,?_,bulk_pos d⟩
 rw[h1]
 simp only[avDC,ha,hb,hc,g1,hf,AV.cells,Dt.av]
 rfl
theorem opn_dl {d:DataW H} (h:DT Try.prog 22 d):∃ l:List Dt,avD d= .sl (dl l)∧l.length≤bulk d:=by
 obtain⟨es,h1,h2,h3⟩:=h.slice_inv Try.underlying22
 obtain⟨l,h4,h5,h6⟩:=list_open (p:=fun _=>True) Dt.av (fun _=>1) es fun x hx=>opn_d (h2 x hx)
 exact⟨l,by rw[h1,h4];rfl,by rw[h6];have:=bulk_len es;omega⟩
theorem parts7 {p:List (DataW H)} (h:p.length=7):∃ a b c d e f g,p=[a,b,c,d,e,f,g]:=by
 match p,h with| [a,b,c,d,e,f,g],_=>exact⟨a,b,c,d,e,f,g,rfl⟩
theorem opn_vs {d:DataW H} (h:DT Try.prog 35 d):∃ l:List Vl,avD d= .sl (Vl.avL l)∧(l.map Vl.sz).sum≤bulk d∧l.length≤bulk d:=by
 obtain⟨es,h1,h2,h3⟩:=h.slice_inv Try.underlying35
 obtain⟨l,h4,h5,h6⟩:=list_open (p:=fun _=>True) Vl.av Vl.sz es fun x hx=>opn_v (h2 x hx)
 exact⟨l,by rw[h1,h4,Vl.avL_eq],by omega,by rw[h6];have:=bulk_len es;omega⟩
def Af.sz (a:Af):Nat:=1+(a.sl.map Vl.sz).sum+a.si.length
theorem opn_af {d:DataW H} (h:DT Try.prog 38 d):∃ a:Af,avD d=a.av∧Af.sz a≤bulk d:=by
 obtain⟨p,h1,h2,h3,h4⟩:=h.struct_inv Try.underlying38
 obtain⟨a,b,c,e,f,g,i,rfl⟩:=parts7 h2
 obtain⟨na,ha,_⟩:=opn_int (h3 0 _ a rfl rfl)
 obtain⟨nb,hb,_⟩:=opn_int (h3 1 _ b rfl rfl)
 obtain⟨nc,hc,_⟩:=opn_int (h3 2 _ c rfl rfl)
 obtain⟨ne,he,_⟩:=opn_int (h3 3 _ e rfl rfl)
 obtain⟨nf,hf,_⟩:=opn_int (h3 4 _ f rfl rfl)
 obtain⟨l,hg,hgl,hgl2⟩:=opn_vs (h3 5 _ g rfl rfl)
 obtain⟨m,hi,hil⟩:=opn_il (h3 6 _ i rfl rfl)
 simp only[bulkL] at h4
 refine⟨⟨na,nb,nc,ne,nf,l,m⟩,?_,by simp only[Af.sz];omega⟩
 rw[h1]
 simp only[avDC,ha,hb,hc,he,hf,hg,hi,AV.cells]
 rfl
theorem opn_ln {d:DataW H} (h:DT Try.prog 96 d):∃ t:Ln,avD d=t.av∧1≤bulk d:=by
 obtain⟨p,h1,h2,h3,h4⟩:=h.struct_inv Try.underlying96
 obtain⟨a,b,c,e,f,rfl⟩:=parts5 h2
 obtain⟨na,ha,_⟩:=opn_int (h3 0 _ a rfl rfl)
 obtain⟨nb,hb,_⟩:=opn_int (h3 1 _ b rfl rfl)
 obtain⟨nc,hc⟩:=(h3 2 _ c rfl rfl).bool_inv Try.underlying4
 obtain⟨ne,he⟩:=(h3 3 _ e rfl rfl).bool_inv Try.underlying4
 obtain⟨nf,hf⟩:=(h3 4 _ f rfl rfl).bool_inv Try.underlying4
 refine⟨⟨na,nb,nc,ne,nf⟩,?_,bulk_pos d⟩
 rw[h1]
 simp only[avDC,ha,hb,hc,he,hf,AV.cells]
 rfl
theorem opn_ou {d:DataW H} (h:DT Try.prog 73 d):∃ t:Int×Int,avD d=ouv t∧1≤bulk d:=by
 obtain⟨p,h1,h2,h3,h4⟩:=h.struct_inv Try.underlying73
 obtain⟨a,b,rfl⟩:=parts2 h2
 obtain⟨na,ha,_⟩:=opn_int (h3 0 _ a rfl rfl)
 obtain⟨nb,hb,_⟩:=opn_int (h3 1 _ b rfl rfl)
 refine⟨(na,nb),?_,bulk_pos d⟩
 rw[h1]
 simp only[avDC,ha,hb,AV.cells]
 rfl
def Tsk.sz (t:Tsk):Nat:=1+(t.fs.map Af.sz).sum+t.ls.length+t.ce.length
theorem opn_t {d:DataW H} (h:DT Try.prog 58 d):∃ t:Tsk,avD d=t.av∧Tsk.sz t≤bulk d:=by
 obtain⟨p,h1,h2,h3,h4⟩:=h.struct_inv Try.underlying58
 obtain⟨a,b,c,e,f,g,i,rfl⟩:=parts7 h2
 obtain⟨na,ha,_⟩:=opn_int (h3 0 _ a rfl rfl)
 obtain⟨es,hb,hb2,hb3⟩:=(h3 1 _ b rfl rfl).slice_inv Try.underlying55
 obtain⟨fs,hb4,hb5,hb6⟩:=list_open (p:=fun _=>True) Af.av Af.sz es fun x hx=>opn_af (hb2 x hx)
 obtain⟨cs,hc,hc2,hc3⟩:=(h3 2 _ c rfl rfl).slice_inv Try.underlying56
 obtain⟨ls,hc4,hc5,hc6⟩:=list_open (p:=fun _=>True) Ln.av (fun _=>1) cs fun x hx=>opn_ln (hc2 x hx)
 obtain⟨ne,he,_⟩:=opn_int (h3 3 _ e rfl rfl)
 obtain⟨nf,hf,_⟩:=opn_int (h3 4 _ f rfl rfl)
 obtain⟨ng,hg,_⟩:=opn_int (h3 5 _ g rfl rfl)
 obtain⟨m,hi,hil⟩:=opn_il (h3 6 _ i rfl rfl)
 simp only[bulkL] at h4
 have l1:=bulk_len es
 have l2:=bulk_len cs
 refine⟨⟨na,fs,ls,ne,nf,ng,m⟩,?_,by simp only[Tsk.sz];omega⟩
 rw[h1]
 simp only[avDC,ha,hb,hb4,hc,hc4,he,hf,hg,hi,AV.cells]
 rfl
theorem opn_im {d:DataW H} (h:DT Try.prog 25 d):∃ (D:List Dt) (R:List AV) (n:Int),(avD d).cells=[.sl (dl D),.sl R,.i n]∧D.length≤bulk d:=by
 obtain⟨p,h1,h2,h3,h4⟩:=h.struct_inv Try.underlying25
 obtain⟨a,b,c,rfl⟩:=parts3 h2
 obtain⟨D,ha,hal⟩:=opn_dl (h3 0 _ a rfl rfl)
 obtain⟨es,hb,_,_⟩:=(h3 1 _ b rfl rfl).slice_inv Try.underlying23
 obtain⟨nc,hc,_⟩:=opn_int (h3 2 _ c rfl rfl)
 simp only[bulkL] at h4
 refine⟨D,es.map avD,nc,?_,by omega⟩
 rw[h1]
 simp only[avDC,ha,hb,hc,AV.cells]
 rfl
theorem cells_hp {t:Hp} :t.av.cells=[.sl (cl t.cells),.sl (bl t.arenas)]:=rfl
theorem len_sum {α:Type} (f:α→Nat) (hf:∀ a,1≤f a):∀ l:List α,l.length≤(l.map f).sum
 | []=>Nat.zero_le _
 |a::l=>by have:=hf a;have:=len_sum f hf l;simp only[List.length_cons,List.map_cons,List.sum_cons];omega
theorem vsz_pos (v:Vl):1≤v.sz:=by rw[Vl.sz_eq];omega
theorem opn_w {d:DataW H} (h:DT Try.prog 34 d) (hb:bulk d≤1048576):∃ w:Wd,avD d=w.av∧WG w:=by
 obtain⟨p,h1,h2,h3,h4⟩:=h.struct_inv Try.underlying34
 obtain⟨a,b,c,e,f,g,i,j,rfl⟩:=parts8 h2
 simp only[bulkL] at h4
 obtain⟨D,R,n,ha,hal⟩:=opn_im (h3 0 _ a rfl rfl)
 obtain⟨hh,hb1,hb2⟩:=opn_hp (h3 1 _ b rfl rfl) (by omega)
 obtain⟨es,hc,hc2,hc3⟩:=(h3 2 _ c rfl rfl).slice_inv Try.underlying30
 obtain⟨ts,hc4,hc5,hc6⟩:=list_open (p:=fun _=>True) Tsk.av Tsk.sz es fun x hx=>opn_t (hc2 x hx)
 obtain⟨cs,he,he2,he3⟩:=(h3 3 _ e rfl rfl).slice_inv Try.underlying31
 obtain⟨cn,he4,he5,he6⟩:=list_open (p:=fun _=>True) chv (fun l=>1+(l.map Vl.sz).sum) cs fun x hx=>by
  obtain⟨es,g1,g2,g3⟩:=(he2 x hx).slice_inv Try.underlying35
  obtain⟨l,g4,g5,g6⟩:=list_open (p:=fun _=>True) Vl.av Vl.sz es fun x hx=>opn_v (g2 x hx)
  exact⟨l,by rw[g1,g4,chv,Vl.avL_eq],by omega⟩
 obtain⟨os,hf,hf2,hf3⟩:=(h3 4 _ f rfl rfl).slice_inv Try.underlying32
 obtain⟨ou,hf4,hf5,hf6⟩:=list_open (p:=fun _=>True) ouv (fun _=>1) os fun x hx=>opn_ou (hf2 x hx)
 obtain⟨ng,hg,_⟩:=opn_int (h3 5 _ g rfl rfl)
 obtain⟨ni,hi,_⟩:=opn_int (h3 6 _ i rfl rfl)
 obtain⟨nj,hj,_⟩:=opn_int (h3 7 _ j rfl rfl)
 have l1:=bulk_len es
 have l2:=bulk_len cs
 have l3:=bulk_len os
 refine⟨⟨D,R,n,hh,ts,cn,ou,ng,ni,nj⟩,?_,hb2,by simp only;omega,by simp only;omega,by simp only;omega,by simp only;omega,fun t ht=>?_,fun l hl=>?_⟩
 ·rw[h1]
  simp only[avDC,ha,hb1,cells_hp]
  simp only[hc,hc4,he,he4,hf,hf4,hg,hi,hj,AV.cells]
  rfl
 ·have k1:=sum_mem Tsk.sz ts t ht
  have k0:Tsk.sz t=1+(t.fs.map Af.sz).sum+t.ls.length+t.ce.length:=rfl
  have k2:=len_sum Af.sz (fun a=>by unfold Af.sz;omega) t.fs
  refine⟨fun x hx=>?_,by omega,by omega,by omega⟩
  have k3:=sum_mem Af.sz t.fs x hx
  have k5:Af.sz x=1+(x.sl.map Vl.sz).sum+x.si.length:=rfl
  have k4:=len_sum Vl.sz vsz_pos x.sl
  refine⟨fun v hv=>?_,by omega,by omega⟩
  have:=sum_mem Vl.sz x.sl v hv
  omega
 ·have k1:=sum_mem (fun l:List Vl=>1+(l.map Vl.sz).sum) cn l hl
  have k4:=len_sum Vl.sz vsz_pos l
  refine⟨by omega,fun v hv=>?_⟩
  have:=sum_mem Vl.sz l v hv
  omega
end Go.Proofs.Ytfgjjnfdcgkpoaa
