/- A part of the proof: an abstract machine for the walks, and what the walked functions compute. -/
import Derived.Test.YtffmphmiicnaeaaDoorCards
import Derived.Lib.LaidTab
import Derived.Stop.LaidErr
import Derived.KernelRfl
import Derived.Test.YtffmphmiicnaeaaDoorMg
import Derived.Test.YtffmphmiicnaeaaDoorRg
set_option linter.unusedVariables false
set_option linter.unusedSimpArgs false
namespace Go.Proofs.YtffmphmiicnaeaaDoor
open Go.Am Go.Proofs Go.Lf
variable {H:Type}
mutual
theorem bulk_eq:∀ d:DataW H,Rows.uptoBulk d=bulk d
 | .lit (.string _)| .lit (.bool _)| .lit (.int _ _)| .lit (.float _ _)| .lit .nil=>by simp[Rows.uptoBulk,bulk]
 | .nil=>by simp[Rows.uptoBulk,bulk]
 | .ptr d=>by simp[Rows.uptoBulk,bulk,bulk_eq d]
 | .slice l r=>by simp[Rows.uptoBulk,bulk,bulkL_eq l,bulkL_eq r]
 | .agg l=>by simp[Rows.uptoBulk,bulk,bulkL_eq l]
 | .iface _ d=>by simp[Rows.uptoBulk,bulk,bulk_eq d]
 | .map l=>by simp[Rows.uptoBulk,bulk,bulkE_eq l]
 | .held _=>by simp[Rows.uptoBulk,bulk]
theorem bulkL_eq:∀ l:List (DataW H),Rows.uptoBulkAll l=bulkL l
 | []=>by simp[Rows.uptoBulkAll,bulkL]
 |d::l=>by simp[Rows.uptoBulkAll,bulkL,bulk_eq d,bulkL_eq l]
theorem bulkE_eq:∀ l:List (Lit×DataW H),Rows.uptoBulkEntries l=bulkE l
 | []=>by simp[Rows.uptoBulkEntries,bulkE]
 |d::l=>by simp[Rows.uptoBulkEntries,bulkE,bulkP_eq d,bulkE_eq l]
theorem bulkP_eq:∀ l:Lit×DataW H,Rows.uptoBulkEntry l=bulkP l
 |(.string _,d)|(.bool _,d)|(.int _ _,d)|(.float _ _,d)|(.nil,d)=>by simp[Rows.uptoBulkEntry,bulkP,bulk_eq d]
end
theorem list_open2 {α:Type} (av:α→AV) (sz wt:α→Nat) (c:Nat):∀ (elems:List (DataW H)),(∀ x,x∈elems→∃ a,avD x=av a∧sz a≤bulk x∧wt a≤c*bulk x)→∃ l:List α,elems.map avD=l.map av∧(l.map sz).sum≤bulkL elems∧(l.map wt).sum≤c*bulkL elems
 | [],_=>⟨[],rfl,Nat.le_refl _,Nat.zero_le _⟩
 |x::r,h=>by
  obtain⟨a,h1,h2,h2q⟩:=h x (by simp)
  obtain⟨l,h3,h4,h5⟩:=list_open2 av sz wt c r (fun y hy=>h y (by simp[hy]))
  exact⟨a::l,by simp[h1,h3],by simp only[List.map_cons,List.sum_cons,bulkL];omega,by simp only[List.map_cons,List.sum_cons,bulkL,Nat.mul_add];omega⟩
theorem ones {α:Type} (l:List α):(l.map fun _=>1).sum=l.length:=by
 induction l with
 |nil=>rfl
 |cons a l ih=>simp only[List.map_cons,List.sum_cons,ih,List.length_cons];omega
theorem opn_i {d:DataW H} (h:DT Tryd.prog 3 d):∃ n:Int,avD d=AV.i n:=by
 obtain⟨n,h1,h2⟩:=h.int_inv Tryd.underlying3
 exact⟨n,h1⟩
theorem opn_n {d:DataW H} (h:DT Tryd.prog 9 d):∃ s:Nm,avD d= .str s∧s.size+1≤bulk d:=h.str_inv Tryd.underlying9
theorem opn_nl {d:DataW H} (h:DT Tryd.prog 22 d):∃ l:List Nm,avD d= .sl (nml l)∧l.length+1≤bulk d:=by
 obtain⟨es,g1,g2,g3⟩:=h.slice_inv Tryd.underlying22
 obtain⟨l,h5,h6,h7⟩:=list_open (p:=fun _=>True) AV.str (fun _:Nm=>1) es fun x hx=>by
  obtain⟨s,hs,_⟩:=opn_n (g2 x hx)
  exact⟨s,hs,bulk_pos x⟩
 refine⟨l,by rw[g1,h5];rfl,?_⟩
 rw[ones] at h6
 omega
theorem parts2 {p:List (DataW H)} (h:p.length=2):∃ a b,p=[a,b]:=by
 match p,h with| [a,b],_=>exact⟨a,b,rfl⟩
theorem parts3 {p:List (DataW H)} (h:p.length=3):∃ a b c,p=[a,b,c]:=by
 match p,h with| [a,b,c],_=>exact⟨a,b,c,rfl⟩
theorem parts4 {p:List (DataW H)} (h:p.length=4):∃ a b c d,p=[a,b,c,d]:=by
 match p,h with| [a,b,c,d],_=>exact⟨a,b,c,d,rfl⟩
theorem parts5 {p:List (DataW H)} (h:p.length=5):∃ a b c d e,p=[a,b,c,d,e]:=by
 match p,h with| [a,b,c,d,e],_=>exact⟨a,b,c,d,e,rfl⟩
theorem parts6 {p:List (DataW H)} (h:p.length=6):∃ a b c d e f,p=[a,b,c,d,e,f]:=by
 match p,h with| [a,b,c,d,e,f],_=>exact⟨a,b,c,d,e,f,rfl⟩
theorem parts8 {p:List (DataW H)} (h:p.length=8):∃ a b c d e f g h,p=[a,b,c,d,e,f,g,h]:=by
 match p,h with| [a,b,c,d,e,f,g,h],_=>exact⟨a,b,c,d,e,f,g,h,rfl⟩
theorem parts10 {p:List (DataW H)} (h:p.length=10):∃ a b c d e f g h i j,p=[a,b,c,d,e,f,g,h,i,j]:=by
 match p,h with| [a,b,c,d,e,f,g,h,i,j],_=>exact⟨a,b,c,d,e,f,g,h,i,j,rfl⟩
theorem opn_tl:∀ (n:Nat) (d:DataW H),bulk d<n→DT Tryd.prog 41 d→∃ t:Tx,avD d=t.av∧t.sz≤bulk d
 |0,d,hn,_=>absurd hn (Nat.not_lt_zero _)
 |n+1,d,hn,h=>by
  obtain⟨p,h1,h2,h3,h4⟩:=h.struct_inv Tryd.underlying41
  obtain⟨a,b,c,rfl⟩:=parts3 h2
  obtain⟨na,ha,_⟩:=opn_n (h3 0 _ a rfl rfl)
  obtain⟨es,g1,g2,g3⟩:=(h3 1 _ b rfl rfl).slice_inv Tryd.underlying39
  obtain⟨nc,hc⟩:=opn_i (h3 2 _ c rfl rfl)
  simp only[bulkL] at h4
  obtain⟨l,h5,h6,h7⟩:=list_open (p:=fun _=>True) Tx.av Tx.sz es fun x hx=>opn_tl n x (by have:=bulk_mem hx;omega) (g2 x hx)
  refine⟨.mk na l nc,?_,?_⟩
  ·rw[h1]
   simp only[avDC,ha,hc,g1,h5,AV.cells,Tx.av,Tx.avL_eq]
   rfl
  ·rw[Tx.sz,Tx.szL_eq];have:=bulk_pos a;omega
theorem opn_t {d:DataW H} (h:DT Tryd.prog 41 d):∃ t:Tx,avD d= .agg [.str t.n,.sl (Tx.avL t.a),.i t.o]∧t.sz≤bulk d:=by
 obtain⟨t,h1,h2⟩:=opn_tl _ d (Nat.lt_succ_self _) h
 exact⟨t,by rw[h1];cases t;rfl,h2⟩
theorem opn_ts {d:DataW H} (h:DT Tryd.prog 39 d):∃ l:List Tx,avD d= .sl (Tx.avL l)∧Tx.szL l+1≤bulk d:=by
 obtain⟨es,g1,g2,g3⟩:=h.slice_inv Tryd.underlying39
 obtain⟨l,h5,h6,h7⟩:=list_open (p:=fun _=>True) Tx.av Tx.sz es fun x hx=>opn_tl _ x (Nat.lt_succ_self _) (g2 x hx)
 exact⟨l,by rw[g1,h5,Tx.avL_eq],by rw[Tx.szL_eq];omega⟩
theorem opn_ads {d:DataW H} (h:DT Tryd.prog 38 d):∃ l:List Ad,avD d= .sl (adl l)∧adSz l+1≤bulk d∧(l.map fun c=>c.nm.size).sum≤1*bulk d:=by
 obtain⟨es,g1,g2,g3⟩:=h.slice_inv Tryd.underlying38
 obtain⟨l,h5,h6,h7⟩:=list_open2 Ad.av (fun a=>a.ty.sz) (fun c=>c.nm.size) 1 es fun x hx=>by
  obtain⟨p,h1,h2,h3,h4⟩:=(g2 x hx).struct_inv Tryd.underlying55
  obtain⟨a,b,c,d,rfl⟩:=parts4 h2
  obtain⟨na,ha,ha2⟩:=opn_n (h3 0 _ a rfl rfl)
  obtain⟨tb,hb,hb2⟩:=opn_t (h3 1 _ b rfl rfl)
  obtain⟨nc,hc⟩:=opn_i (h3 2 _ c rfl rfl)
  obtain⟨nd,hd⟩:=opn_i (h3 3 _ d rfl rfl)
  simp only[bulkL] at h4
  refine⟨⟨na,tb,nc,nd⟩,?_,by simp only;omega,by simp only;omega⟩
  rw[h1]
  simp only[avDC,ha,hb,hc,hd,AV.cells,Ad.av]
  rfl
 exact⟨l,by rw[g1,h5];rfl,by simp only[adSz];omega,by omega⟩
theorem opn_bds {d:DataW H} (h:DT Tryd.prog 37 d):∃ l:List Bd,avD d= .sl (bdl l)∧l.length+1≤bulk d:=by
 obtain⟨es,g1,g2,g3⟩:=h.slice_inv Tryd.underlying37
 obtain⟨l,h5,h6,h7⟩:=list_open (p:=fun _=>True) Bd.av (fun _:Bd=>1) es fun x hx=>by
  obtain⟨p,h1,h2,h3,h4⟩:=(g2 x hx).struct_inv Tryd.underlying124
  obtain⟨a,b,c,rfl⟩:=parts3 h2
  obtain⟨na,ha,ha2⟩:=opn_n (h3 0 _ a rfl rfl)
  obtain⟨nb,hb,hb2⟩:=opn_n (h3 1 _ b rfl rfl)
  obtain⟨nc,hc⟩:=opn_i (h3 2 _ c rfl rfl)
  refine⟨⟨na,nb,nc⟩,?_,bulk_pos _⟩
  rw[h1]
  simp only[avDC,ha,hb,hc,AV.cells,Bd.av]
  rfl
 rw[ones] at h6
 exact⟨l,by rw[g1,h5];rfl,by omega⟩
theorem opn_ex {d:DataW H} (h:DT Tryd.prog 57 d):∃ x:Ex,avD d= .agg x.cs∧x.sz≤bulk d:=by
 obtain⟨p,h1,h2,h3,h4⟩:=h.struct_inv Tryd.underlying57
 obtain⟨a,b,c,d,e,f,g,h,rfl⟩:=parts8 h2
 obtain⟨na,ha⟩:=opn_i (h3 0 _ a rfl rfl)
 obtain⟨nb,hb,hb2⟩:=opn_n (h3 1 _ b rfl rfl)
 obtain⟨nc,hc,hc2⟩:=opn_n (h3 2 _ c rfl rfl)
 obtain⟨nd,hd,hd2⟩:=opn_n (h3 3 _ d rfl rfl)
 obtain⟨ne,he,he2⟩:=opn_nl (h3 4 _ e rfl rfl)
 obtain⟨nf,hf⟩:=opn_i (h3 5 _ f rfl rfl)
 obtain⟨ng,hg,hg2⟩:=opn_ts (h3 6 _ g rfl rfl)
 obtain⟨nh,hh⟩:=opn_i (h3 7 _ h rfl rfl)
 simp only[bulkL] at h4
 refine⟨⟨na,nb,nc,nd,ne,nf,ng,nh⟩,?_,by rw[Ex.sz];simp only;omega⟩
 rw[h1]
 simp only[avDC,ha,hb,hc,hd,he,hf,hg,hh,AV.cells,Ex.cs]
 rfl
theorem wtL_eq:∀ l:List Lf.St,wtL l=(l.map St.wt).sum
 | []=>rfl
 |s::l=>by rw[wtL,wtL_eq l];rfl
theorem wtA_eq:∀ l:List Ar,wtA l=(l.map Ar.wt).sum
 | []=>rfl
 |s::l=>by rw[wtA,wtA_eq l];rfl
theorem wtF_eq:∀ l:List Lf.Fd,wtF l=(l.map Fd.wt).sum
 | []=>rfl
 |s::l=>by rw[wtF,wtF_eq l];rfl
def OpnS (n:Nat) (H:Type):Prop:=∀ d:DataW H,bulk d<n→DT Tryd.prog 42 d→∃ l:List Lf.St,avD d= .sl (stl l)∧stSz l+1≤bulk d∧wtL l≤65*bulk d
def OpnA (n:Nat) (H:Type):Prop:=∀ d:DataW H,bulk d<n→DT Tryd.prog 58 d→∃ l:List Ar,avD d= .sl (arl l)∧arSz l+1≤bulk d∧wtA l≤65*bulk d
def OpnF (n:Nat) (H:Type):Prop:=∀ d:DataW H,bulk d<n→DT Tryd.prog 26 d→∃ l:List Lf.Fd,avD d= .sl (fdl l)∧fdSz l+1≤bulk d∧wtF l≤65*bulk d
theorem opn_all:∀ n,OpnS n H∧OpnA n H∧OpnF n H
 |0=>⟨fun d hn _=>absurd hn (Nat.not_lt_zero _),fun d hn _=>absurd hn (Nat.not_lt_zero _),fun d hn _=>absurd hn (Nat.not_lt_zero _)⟩
 |n+1=>by
  obtain⟨iS,iA,iF⟩:=opn_all n
  refine⟨fun d hn h=>?_,fun d hn h=>?_,fun d hn h=>?_⟩
  ·obtain⟨es,g1,g2,g3⟩:=h.slice_inv Tryd.underlying42
   obtain⟨l,h5,h6,h7⟩:=list_open2 Lf.St.av St.sz St.wt 65 es fun x hx=>by
    obtain⟨p,h1,h2,h3,h4⟩:=(g2 x hx).struct_inv Tryd.underlying60
    obtain⟨a,b,c,d,e,f,g,h,i,j,rfl⟩:=parts10 h2
    have hbx:=bulk_mem hx
    simp only[bulkL] at h4
    obtain⟨na,ha⟩:=opn_i (h3 0 _ a rfl rfl)
    obtain⟨nb,hb,hb2⟩:=opn_n (h3 1 _ b rfl rfl)
    obtain⟨nc,hc,hc2⟩:=opn_nl (h3 2 _ c rfl rfl)
    obtain⟨nd,hd,hd2⟩:=opn_ts (h3 3 _ d rfl rfl)
    obtain⟨ne,he,he2⟩:=opn_ex (h3 4 _ e rfl rfl)
    obtain⟨nf,hf,hf2,hf3⟩:=iS f (by omega) (h3 5 _ f rfl rfl)
    obtain⟨ng,hg,hg2,hg3⟩:=iS g (by omega) (h3 6 _ g rfl rfl)
    obtain⟨nh,hh,hh2,hh3⟩:=iA h (by omega) (h3 7 _ h rfl rfl)
    obtain⟨ni,hi,hi2,hi3⟩:=iF i (by omega) (h3 8 _ i rfl rfl)
    obtain⟨nj,hj⟩:=opn_i (h3 9 _ j rfl rfl)
    refine⟨.mk na nb nc nd ne nf ng nh ni nj,?_,?_,?_⟩
    ·rw[h1]
     simp only[avDC,ha,hb,hc,hd,he,hf,hg,hh,hi,hj,AV.cells,Lf.St.av,Ex.cs]
     rfl
    ·rw[St.sz];omega
    ·rw[St.wt];omega
   exact⟨l,by rw[g1,h5,stl_eq],by rw[stSz_eq];omega,by rw[wtL_eq];omega⟩
  ·obtain⟨es,g1,g2,g3⟩:=h.slice_inv Tryd.underlying58
   obtain⟨l,h5,h6,h7⟩:=list_open2 Ar.av Ar.sz Ar.wt 65 es fun x hx=>by
    obtain⟨p,h1,h2,h3,h4⟩:=(g2 x hx).struct_inv Tryd.underlying97
    obtain⟨a,b,c,d,rfl⟩:=parts4 h2
    have hbx:=bulk_mem hx
    simp only[bulkL] at h4
    obtain⟨na,ha,ha2⟩:=opn_n (h3 0 _ a rfl rfl)
    obtain⟨nb,hb,hb2⟩:=opn_nl (h3 1 _ b rfl rfl)
    obtain⟨nc,hc,hc2,hc3⟩:=iS c (by omega) (h3 2 _ c rfl rfl)
    obtain⟨nd,hd⟩:=opn_i (h3 3 _ d rfl rfl)
    refine⟨.mk na nb nc nd,?_,?_,?_⟩
    ·rw[h1]
     simp only[avDC,ha,hb,hc,hd,AV.cells,Ar.av]
     rfl
    ·rw[Ar.sz];omega
    ·rw[Ar.wt];omega
   exact⟨l,by rw[g1,h5,arl_eq],by rw[arSz_eq];omega,by rw[wtA_eq];omega⟩
  ·obtain⟨es,g1,g2,g3⟩:=h.slice_inv Tryd.underlying26
   obtain⟨l,h5,h6,h7⟩:=list_open2 Lf.Fd.av Fd.sz Fd.wt 65 es fun x hx=>by
    obtain⟨p,h1,h2,h3,h4⟩:=(g2 x hx).struct_inv Tryd.underlying44
    obtain⟨a,b,c,d,e,f,g,h,rfl⟩:=parts8 h2
    have hbx:=bulk_mem hx
    simp only[bulkL] at h4
    obtain⟨na,ha,ha2⟩:=opn_n (h3 0 _ a rfl rfl)
    obtain⟨nb,hb,hb2⟩:=opn_nl (h3 1 _ b rfl rfl)
    obtain⟨nc,hc,hc2⟩:=opn_bds (h3 2 _ c rfl rfl)
    obtain⟨nd,hd,hd2,hd3⟩:=opn_ads (h3 3 _ d rfl rfl)
    obtain⟨ne,he,he2,he3⟩:=opn_ads (h3 4 _ e rfl rfl)
    obtain⟨nf,hf,hf2⟩:=opn_t (h3 5 _ f rfl rfl)
    obtain⟨ng,hg,hg2,hg3⟩:=iS g (by omega) (h3 6 _ g rfl rfl)
    obtain⟨nh,hh⟩:=opn_i (h3 7 _ h rfl rfl)
    refine⟨.mk na nb nc nd ne nf ng nh,?_,?_,?_⟩
    ·rw[h1]
     simp only[avDC,ha,hb,hc,hd,he,hf,hg,hh,AV.cells,Lf.Fd.av]
     rfl
    ·rw[Fd.sz];omega
    ·rw[Fd.wt];omega
   exact⟨l,by rw[g1,h5,fdl_eq],by rw[fdSz_eq];omega,by rw[wtF_eq];omega⟩
theorem opn_vds {d:DataW H} (h:DT Tryd.prog 62 d):∃ l:List Vd,avD d= .sl (vdl l)∧vdSz l+1≤bulk d:=by
 obtain⟨es,g1,g2,g3⟩:=h.slice_inv Tryd.underlying62
 obtain⟨l,h5,h6,h7⟩:=list_open (p:=fun _=>True) Vd.av (fun v:Vd=>1+Tx.szL v.fs) es fun x hx=>by
  obtain⟨p,h1,h2,h3,h4⟩:=(g2 x hx).struct_inv Tryd.underlying67
  obtain⟨a,b,c,rfl⟩:=parts3 h2
  simp only[bulkL] at h4
  obtain⟨na,ha,ha2⟩:=opn_n (h3 0 _ a rfl rfl)
  obtain⟨nb,hb,hb2⟩:=opn_ts (h3 1 _ b rfl rfl)
  obtain⟨nc,hc⟩:=opn_i (h3 2 _ c rfl rfl)
  refine⟨⟨na,nb,nc⟩,?_,by simp only;omega⟩
  rw[h1]
  simp only[avDC,ha,hb,hc,AV.cells,Vd.av]
  rfl
 exact⟨l,by rw[g1,h5];rfl,by simp only[vdSz];omega⟩
theorem opn_m {d:DataW H} (h:DT Tryd.prog 28 d):∃ x:Md,avD d=x.av∧x.sz≤bulk d∧wtF x.fs≤65*bulk d:=by
 obtain⟨p,h1,h2,h3,h4⟩:=h.struct_inv Tryd.underlying28
 obtain⟨a,b,c,d,e,f,rfl⟩:=parts6 h2
 simp only[bulkL] at h4
 obtain⟨na,ha,ha2⟩:=opn_n (h3 0 _ a rfl rfl)
 obtain⟨nb,hb,hb2⟩:=opn_nl (h3 1 _ b rfl rfl)
 obtain⟨es,c1,c2,c3⟩:=(h3 2 _ c rfl rfl).slice_inv Tryd.underlying23
 obtain⟨lc,c5,c6,c7⟩:=list_open (p:=fun _=>True) Dt.av (fun d:Dt=>1+d.ps.length+vdSz d.vs) es fun x hx=>by
  obtain⟨p,h1,h2,h3,h4⟩:=(c2 x hx).struct_inv Tryd.underlying64
  obtain⟨a,b,c,d,e,rfl⟩:=parts5 h2
  simp only[bulkL] at h4
  obtain⟨na,ha,ha2⟩:=opn_n (h3 0 _ a rfl rfl)
  obtain⟨nb,hb,hb2⟩:=opn_nl (h3 1 _ b rfl rfl)
  obtain⟨nc,hc,hc2⟩:=opn_vds (h3 2 _ c rfl rfl)
  obtain⟨nd,hd⟩:=opn_i (h3 3 _ d rfl rfl)
  obtain⟨ne,he⟩:=opn_i (h3 4 _ e rfl rfl)
  refine⟨⟨na,nb,nc,nd,ne⟩,?_,by simp only;omega⟩
  rw[h1]
  simp only[avDC,ha,hb,hc,hd,he,AV.cells,Dt.av]
  rfl
 obtain⟨es2,d1,d2,d3⟩:=(h3 3 _ d rfl rfl).slice_inv Tryd.underlying24
 obtain⟨ld,d5,d6,d7⟩:=list_open (p:=fun _=>True) Tr.av (fun _:Lf.Tr=>1) es2 fun x hx=>by
  obtain⟨p,h1,h2,h3,h4⟩:=(d2 x hx).struct_inv Tryd.underlying84
  obtain⟨a,b,rfl⟩:=parts2 h2
  obtain⟨na,ha,ha2⟩:=opn_n (h3 0 _ a rfl rfl)
  obtain⟨nb,hb⟩:=opn_i (h3 1 _ b rfl rfl)
  refine⟨⟨na,nb⟩,?_,bulk_pos _⟩
  rw[h1]
  simp only[avDC,ha,hb,AV.cells,Tr.av]
  rfl
 obtain⟨es3,e1,e2,e3⟩:=(h3 4 _ e rfl rfl).slice_inv Tryd.underlying25
 obtain⟨le,e5,e6,e7⟩:=list_open (p:=fun _=>True) Im.av (fun x:Im=>1+x.ps.length+x.bs.length+x.ty.sz) es3 fun x hx=>by
  obtain⟨p,h1,h2,h3,h4⟩:=(e2 x hx).struct_inv Tryd.underlying69
  obtain⟨a,b,c,d,e,f,rfl⟩:=parts6 h2
  simp only[bulkL] at h4
  obtain⟨na,ha,ha2⟩:=opn_n (h3 0 _ a rfl rfl)
  obtain⟨nb,hb,hb2⟩:=opn_nl (h3 1 _ b rfl rfl)
  obtain⟨nc,hc,hc2⟩:=opn_bds (h3 2 _ c rfl rfl)
  obtain⟨nd,hd,hd2⟩:=opn_t (h3 3 _ d rfl rfl)
  obtain⟨ne,he,he2⟩:=opn_n (h3 4 _ e rfl rfl)
  obtain⟨nf,hf⟩:=opn_i (h3 5 _ f rfl rfl)
  refine⟨⟨na,nb,nc,nd,ne,nf⟩,?_,by simp only;omega⟩
  rw[h1]
  simp only[avDC,ha,hb,hc,hd,he,hf,AV.cells,Im.av]
  rfl
 obtain⟨nf,hf,hf2,hf3⟩:=(opn_all _).2.2 f (Nat.lt_succ_self _) (h3 5 _ f rfl rfl)
 rw[ones] at d6
 refine⟨⟨na,nb,lc,ld,le,nf⟩,?_,?_,by simp only;omega⟩
 ·rw[h1]
  simp only[avDC,ha,hb,c1,c5,d1,d5,e1,e5,hf,AV.cells,Md.av,Md.cs,dtl,trl,iml]
  rfl
 ·simp only[Md.sz,dtSz,imSz];omega
theorem gl_of {W:World} {x y:String×DataW Unit} (h:laidMet Tryd.prog [x,y,("internal/strconv.uint64pow10",Rows.laid_internal_strconv_uint64pow10)] W):Gl W (fun b _=>b<W.heap.size):=by
 have hg:Tryd.prog.globalNamed "internal/strconv.uint64pow10" =some 0:=by kernel_rfl
 have ht:(Tryd.prog.globals[0]?).map (·.type)=some 167:=by kernel_rfl
 have htab:Lib.TabIs Tryd.prog W "internal/strconv.uint64pow10" .u64 Lib.pow10Tab:=by
  refine Lib.tabIs_of_head (rest:=[]) hg ht Tryd.underlying167 Tryd.underlying160 (by kernel_rfl) (by kernel_rfl) ?_
  exact h.tail.tail
 intro p hp
 obtain rfl:=List.mem_singleton.1 hp
 unfold Lib.TabIs World.var? at htab
 rw[hg,Option.bind_some] at htab
 cases hh:W.heap[0]? with
 |none=>rw[hh] at htab;cases htab
 |some o=>
  rw[hh] at htab
  have hlt:0<W.heap.size:=(Array.getElem?_eq_some_iff.1 hh).1
  cases o with
  |cells cs ty fz=>
   refine⟨⟨cs,ty,fz,rfl,?_⟩,fun o _=>hlt⟩
   cases htab
   simp
  |_=>cases htab
end Go.Proofs.YtffmphmiicnaeaaDoor
