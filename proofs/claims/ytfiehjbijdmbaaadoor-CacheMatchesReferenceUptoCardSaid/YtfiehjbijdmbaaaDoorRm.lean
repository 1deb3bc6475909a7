/- A part of the proof: an abstract machine for the walks, and what the walked functions compute. -/
import Derived.Test.YtfiehjbijdmbaaaDoorRl
import Derived.Test.YtfiehjbijdmbaaaDoorRi
set_option linter.unusedVariables false
set_option linter.unusedSimpArgs false
set_option linter.unusedVariables false
namespace Go.Proofs.YtfiehjbijdmbaaaDoor
open Go.Am Go.Proofs Go.Ca
variable {H : Type}
theorem cacheMatchesReference_pcall {d0 d1 d2 d3 : DataW H} (h0 : DT Tryd.prog 22 d0) (h1 : DT Tryd.prog 3 d1) (h2 : DT Tryd.prog 23 d2) (h3 : DT Tryd.prog 3 d3) (b0 : bulk d0 ≤ 1048576) (b1 : bulk d1 ≤ 1048576) (b2 : bulk d2 ≤ 1048576) (b3 : bulk d3 ≤ 1048576) : PCall Tryd.prog 3 [avD d0, avD d1, avD d2, avD d3] (.bool true) := by
 obtain ⟨x0, e0, f0, g0⟩ := opn_fl h0 b0
 obtain ⟨x1, e1, f1⟩ := opn_int h1
 obtain ⟨x2, e2, f2⟩ := opn_ub h2
 obtain ⟨x3, e3, f3⟩ := opn_int h3
 rw [e0, e1, e2, e3]
 exact matches_c x0 x1 x2 x3 f0 f1 (by omega)
end Go.Proofs.YtfiehjbijdmbaaaDoor
