/- A part of the proof: an abstract machine for the walks, and what the walked functions compute. -/
import Derived.Test.YtffmphmiicnaeaaDoorRj
import Derived.Test.YtffmphmiicnaeaaDoorRi
set_option linter.unusedVariables false
set_option linter.unusedSimpArgs false
namespace Go.Proofs.YtffmphmiicnaeaaDoor
open Go.Am Go.Proofs Go.Lf
variable {H:Type}
theorem liftOrder_pcall {a:DataW H} (ha:DT Tryd.prog 28 a) (hs:bulk a≤1048576):PCall Tryd.prog 6 [avD a] (.bool true):=by
 obtain⟨x,h1,h2,h3⟩:=opn_m ha
 rw[h1]
 exact order_c head_c x (by omega) (by omega) (fun f hf=>by have:=sum_mem (f:=Fd.wt) hf;rw[wtF_eq] at h3;omega)
end Go.Proofs.YtffmphmiicnaeaaDoor
