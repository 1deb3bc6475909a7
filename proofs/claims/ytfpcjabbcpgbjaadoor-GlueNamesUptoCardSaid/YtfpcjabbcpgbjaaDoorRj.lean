/- A part of the proof: an abstract machine for the walks, and what the walked functions compute. -/
import Derived.Test.YtfpcjabbcpgbjaaDoorRh
import Derived.Test.YtfpcjabbcpgbjaaDoorRe
set_option linter.unusedVariables false
set_option linter.unusedSimpArgs false
namespace Go.Proofs.YtfpcjabbcpgbjaaDoor
open Go.Am Go.Proofs Go.Hv Go.Gl
variable {H:Type}
theorem glueNames_pcall {a b c:DataW H} (ha:DT Tryd.prog 22 a) (hb:DT Tryd.prog 25 b) (hc:DT Tryd.prog 9 c) (hs:bulk a+(bulk b+bulk c)≤1048576):PCall Tryd.prog 5 [avD a,avD b,avD c] (.bool true):=by
 obtain⟨D,h1,h2,h3⟩:=opn_dl ha
 obtain⟨t,h4,h5⟩:=opn_t hb
 obtain⟨s,h6,_⟩:=hc.str_inv Tryd.underlying9
 rw[h1,h4,h6]
 exact names_c (db_of (by omega)) h3 (ds_of (by omega)) (by omega) s
end Go.Proofs.YtfpcjabbcpgbjaaDoor
