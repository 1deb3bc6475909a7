/- A part of the proof: an abstract machine for the walks, and what the walked functions compute. -/
import Derived.Test.YtdgmjbgjahmoaaaCq
import Derived.Test.YtdgmjbgjahmoaaaCo
set_option linter.unusedVariables false
set_option linter.unusedSimpArgs false
set_option linter.unusedVariables false
namespace Go.Proofs.Ytdgmjbgjahmoaaa
open Go.Am Go.Proofs Go.Hv
variable {H : Type}
theorem heapPanics_pcall {d a b : DataW H} (hd : DT Try.prog 44 d) (ha : DT Try.prog 25 a) (hb : DT Try.prog 29 b) (bd : bulk d ≤ 1048576) (ba : bulk a ≤ 1048576) (bb : bulk b ≤ 1048576) : PCall Try.prog 4 [avD d, avD a, avD b] (.bool true) := by
 obtain ⟨D, h5, h6⟩ := opn_dl hd
 obtain ⟨h, h1, h2⟩ := opn_hp ha ba
 obtain ⟨v, h3, h4⟩ := opn_v hb
 rw [h5, h1, h3]
 exact panics_pc D h v h2 (by omega) (by omega)
end Go.Proofs.Ytdgmjbgjahmoaaa
