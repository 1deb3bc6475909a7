/- A part of the proof: an abstract machine for the walks, and what the walked functions compute. -/
import Derived.Test.YtfgjjnfdcgkpoaaCs
import Derived.Test.YtfgjjnfdcgkpoaaCz
set_option linter.unusedVariables false
set_option linter.unusedSimpArgs false
namespace Go.Proofs.Ytfgjjnfdcgkpoaa
open Go.Am Go.Proofs Go.Hv
variable {H:Type}
theorem unwindStops_pcall {a b:DataW H} (ha:DT Try.prog 34 a) (hb:DT Try.prog 3 b) (ba:bulk a≤1048576) (bb:bulk b≤1048576):PCall Try.prog 8 [avD a,avD b] (.bool true):=by
 obtain⟨w,h1,h2⟩:=opn_w ha ba
 obtain⟨n,h3,_⟩:=opn_int hb
 rw[h1,h3]
 exact stops_c w n h2
end Go.Proofs.Ytfgjjnfdcgkpoaa
