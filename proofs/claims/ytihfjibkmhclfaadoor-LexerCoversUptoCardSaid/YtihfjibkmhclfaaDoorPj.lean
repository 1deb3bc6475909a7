/- A part of the proof: an abstract machine for the walks, and what the walked functions compute. -/
import Derived.Test.YtihfjibkmhclfaaDoorPi
import Derived.Test.YtihfjibkmhclfaaDoorPh
set_option linter.unusedVariables false
set_option linter.unusedSimpArgs false
set_option linter.unusedVariables false
namespace Go.Proofs.YtihfjibkmhclfaaDoor
open Go.Am Go.Proofs Go.Lx
variable {H : Type}
theorem lexerMatchesReference_pcall {d0 : DataW H} (h0 : DT Tryd.prog 9 d0) (b0 : bulk d0 ≤ 1048576) : PCall Tryd.prog 3 [avD d0] (.bool true) := by
 obtain ⟨x0, e0, f0⟩ := opn_s h0
 rw [e0]
 exact matches_c x0 (by omega)
end Go.Proofs.YtihfjibkmhclfaaDoor

set_option linter.unusedVariables false
namespace Go.Proofs.YtihfjibkmhclfaaDoor
open Go.Am Go.Proofs Go.Lx
variable {H : Type}
theorem lexerCovers_pcall {d0 : DataW H} (h0 : DT Tryd.prog 9 d0) (b0 : bulk d0 ≤ 1048576) : PCall Tryd.prog 4 [avD d0] (.bool true) := by
 obtain ⟨x0, e0, f0⟩ := opn_s h0
 rw [e0]
 exact covers_c x0 (by omega)
end Go.Proofs.YtihfjibkmhclfaaDoor
