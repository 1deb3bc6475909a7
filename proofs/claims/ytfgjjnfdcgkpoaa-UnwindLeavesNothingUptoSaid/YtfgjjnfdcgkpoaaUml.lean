/- A part of the proof: an abstract machine for the walks, and what the walked functions compute. -/
import Derived.Test.YtfgjjnfdcgkpoaaCs
import Derived.Test.YtfgjjnfdcgkpoaaCu
set_option linter.unusedVariables false
set_option linter.unusedSimpArgs false
namespace Go.Proofs.Ytfgjjnfdcgkpoaa
open Go.Am Go.Proofs Go.Hv
variable {H:Type}
theorem unwindLeavesNothing_pcall {a b c:DataW H} (ha:DT Try.prog 34 a) (hb:DT Try.prog 3 b) (hc:DT Try.prog 3 c) (ba:bulk a≤1048576) (bb:bulk b≤1048576) (bc:bulk c≤1048576):PCall Try.prog 5 [avD a,avD b,avD c] (.bool true):=by
 obtain⟨w,h1,h2⟩:=opn_w ha ba
 obtain⟨n,h3,_⟩:=opn_int hb
 obtain⟨m,h4,_⟩:=opn_int hc
 rw[h1,h3,h4]
 exact leaves_c w n m h2
end Go.Proofs.Ytfgjjnfdcgkpoaa
