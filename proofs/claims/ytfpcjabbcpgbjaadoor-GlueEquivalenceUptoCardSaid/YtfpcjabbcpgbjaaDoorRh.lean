/- A part of the proof: an abstract machine for the walks, and what the walked functions compute. -/
import Derived.Test.YtfpcjabbcpgbjaaDoorRg
import Derived.Test.YtfpcjabbcpgbjaaDoorRe
set_option linter.unusedVariables false
set_option linter.unusedSimpArgs false
namespace Go.Proofs.YtfpcjabbcpgbjaaDoor
open Go.Am Go.Proofs Go.Hv Go.Gl
variable {H:Type}
theorem glueEquivalence_pcall {a b c d:DataW H} (ha:DT Tryd.prog 22 a) (hb:DT Tryd.prog 25 b) (hc:DT Tryd.prog 25 c) (hd:DT Tryd.prog 25 d) (hs:bulk a+(bulk b+(bulk c+bulk d))≤1048576):PCall Tryd.prog 4 [avD a,avD b,avD c,avD d] (.bool true):=by
 obtain⟨D,h1,h2,h3⟩:=opn_dl ha
 obtain⟨t,h4,h5⟩:=opn_t hb
 obtain⟨u,h6,h7⟩:=opn_t hc
 obtain⟨v,h8,h9⟩:=opn_t hd
 rw[h1,h4,h6,h8]
 refine equivalence_c head_c (db_of (by omega)) h3 (by omega) (by omega) (by omega) fun x y hx hy=>?_
 have h10:∀ x,x∈ [t,u,v]→x.sz≤2 ^ 20 - dSz D:=fun x hx=>by
  simp only[List.mem_cons,List.not_mem_nil,or_false] at hx
  rcases hx with rfl|rfl|rfl<;>omega
 have:=h10 x hx
 have:=h10 y hy
 have:=uni_bd (D:=D) (l:=[x,y]) (n:=2 ^ 22) (by simp only[Ty.szL];omega)
 omega
end Go.Proofs.YtfpcjabbcpgbjaaDoor
