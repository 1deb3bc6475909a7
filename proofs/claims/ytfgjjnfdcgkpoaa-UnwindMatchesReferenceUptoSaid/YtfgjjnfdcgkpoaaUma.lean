/- A part of the proof: an abstract machine for the walks, and what the walked functions compute. -/
import Derived.Test.YtfgjjnfdcgkpoaaCs
import Derived.Test.YtfgjjnfdcgkpoaaCr
set_option linter.unusedVariables false
set_option linter.unusedSimpArgs false
namespace Go.Proofs.Ytfgjjnfdcgkpoaa
open Go.Am Go.Proofs Go.Hv
variable {H:Type}
theorem unwindMatchesReference_pcall {a b c e:DataW H} (ha:DT Try.prog 34 a) (hb:DT Try.prog 3 b) (hc:DT Try.prog 3 c) (he:DT Try.prog 38 e) (ba:bulk a≤1048576) (bb:bulk b≤1048576) (bc:bulk c≤1048576) (be:bulk e≤1048576):PCall Try.prog 3 [avD a,avD b,avD c,avD e] (.bool true):=by
 obtain⟨w,h1,h2⟩:=opn_w ha ba
 obtain⟨n,h3,_⟩:=opn_int hb
 obtain⟨m,h4,_⟩:=opn_int hc
 obtain⟨f,h5,h6⟩:=opn_af he
 rw[h1,h3,h4,h5]
 exact matches_c w n m f h2 (by unfold Af.sz at h6;omega)
end Go.Proofs.Ytfgjjnfdcgkpoaa
