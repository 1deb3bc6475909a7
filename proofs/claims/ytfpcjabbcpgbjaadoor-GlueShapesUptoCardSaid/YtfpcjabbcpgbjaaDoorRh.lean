/- A part of the proof: an abstract machine for the walks, and what the walked functions compute. -/
import Derived.Test.YtfpcjabbcpgbjaaDoorRg
import Derived.Test.YtfpcjabbcpgbjaaDoorRe
set_option linter.unusedVariables false
set_option linter.unusedSimpArgs false
namespace Go.Proofs.YtfpcjabbcpgbjaaDoor
open Go.Am Go.Proofs Go.Hv Go.Gl
variable {H:Type}
theorem glueShapes_pcall {a b c:DataW H} (ha:DT Tryd.prog 22 a) (hb:DT Tryd.prog 25 b) (hc:DT Tryd.prog 25 c) (hs:bulk a+(bulk b+bulk c)≤1048576):PCall Tryd.prog 3 [avD a,avD b,avD c] (.bool true):=by
 obtain⟨D,h1,h2,h3⟩:=opn_dl ha
 obtain⟨t,h4,h5⟩:=opn_t hb
 obtain⟨u,h6,h7⟩:=opn_t hc
 rw[h1,h4,h6]
 have hS:DS D:=ds_of (by omega)
 refine shapes_c head_c (db_of (by omega)) h3 hS (by omega) (by omega) ?_ ?_ ?_ ?_
 ·have:=uni_bd (D:=D) (l:=[t,u]) (n:=2 ^ 20) (by simp only[Ty.szL];omega);omega
 ·have:=uni_bd (D:=D) (l:=[t]) (n:=2 ^ 20) (by simp only[Ty.szL];omega);omega
 ·have:=uni_bd (D:=D) (l:=[u]) (n:=2 ^ 20) (by simp only[Ty.szL];omega);omega
 ·intro hp
  have hf:=hp.2.1
  have h8:=few_uni hf (l':=[t]) (fun x hx=>by obtain rfl:=List.mem_singleton.1 hx;exact pt_sz (hf.2.2.1 x (by simp))) (by simp)
  have:=shp_len hS h8
  omega
end Go.Proofs.YtfpcjabbcpgbjaaDoor
