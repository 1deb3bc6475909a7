/- A part of the proof: an abstract machine for the walks, and what the walked functions compute. -/
import Derived.Test.YtdgmjbgjahmoaaaCq
import Derived.Test.YtdgmjbgjahmoaaaCn
set_option linter.unusedVariables false
set_option linter.unusedSimpArgs false
set_option linter.unusedVariables false
namespace Go.Proofs.Ytdgmjbgjahmoaaa
open Go.Am Go.Proofs Go.Hv
variable {H : Type}
theorem heapIndependent_pcall {d a b c : DataW H} (hd : DT Try.prog 44 d) (ha : DT Try.prog 25 a) (hb : DT Try.prog 29 b) (hc : DT Try.prog 29 c) (bd : bulk d ≤ 1048576) (ba : bulk a ≤ 1048576) (bb : bulk b ≤ 1048576) (bc : bulk c ≤ 1048576) : PCall Try.prog 6 [avD d, avD a, avD b, avD c] (.bool true) := by
 obtain ⟨D, h5, h6⟩ := opn_dl hd
 obtain ⟨h, h1, h2⟩ := opn_hp ha ba
 obtain ⟨v, h3, h4⟩ := opn_v hb
 obtain ⟨w, h7, h8⟩ := opn_v hc
 rw [h5, h1, h3, h7]
 exact indep_pc D h v w h2 (by omega) (by omega) (by omega)
end Go.Proofs.Ytdgmjbgjahmoaaa
