/- A part of the proof: an abstract machine for the walks, and what the walked functions compute. -/
import Derived.Test.YtfgjjnfdcgkpoaaCs
import Derived.Test.YtfgjjnfdcgkpoaaCt
set_option linter.unusedVariables false
set_option linter.unusedSimpArgs false
namespace Go.Proofs.Ytfgjjnfdcgkpoaa
open Go.Am Go.Proofs Go.Hv
variable {H:Type}
theorem unwindOrders_pcall {e:DataW H} (he:DT Try.prog 38 e) (be:bulk e≤1048576):PCall Try.prog 4 [avD e] (.bool true):=by
 obtain⟨f,h5,h6⟩:=opn_af he
 rw[h5]
 have k4:=len_sum Vl.sz vsz_pos f.sl
 unfold Af.sz at h6
 exact orders_c f (by omega) (by omega)
end Go.Proofs.Ytfgjjnfdcgkpoaa
