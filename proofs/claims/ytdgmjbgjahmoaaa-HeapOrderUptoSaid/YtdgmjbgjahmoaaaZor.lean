/- A part of the proof: an abstract machine for the walks, and what the walked functions compute. -/
import Derived.Test.YtdgmjbgjahmoaaaCq
import Derived.Test.YtdgmjbgjahmoaaaCp
set_option linter.unusedVariables false
set_option linter.unusedSimpArgs false
set_option linter.unusedVariables false
namespace Go.Proofs.Ytdgmjbgjahmoaaa
open Go.Am Go.Proofs Go.Hv
variable {H : Type}
theorem heapOrder_pcall {d a c b : DataW H} (hd : DT Try.prog 44 d) (ha : DT Try.prog 25 a) (hc : DT Try.prog 3 c) (hb : DT Try.prog 26 b) (bd : bulk d ≤ 1048576) (ba : bulk a ≤ 1048576) (bc : bulk c ≤ 1048576) (bb : bulk b ≤ 1048576) : PCall Try.prog 5 [avD d, avD a, avD c, avD b] (.bool true) := by
 obtain ⟨D, h5, h6⟩ := opn_dl hd
 obtain ⟨h, h1, h2⟩ := opn_hp ha ba
 obtain ⟨n, h7, _⟩ := opn_int hc
 obtain ⟨l, h3, h4⟩ := opn_fs hb
 rw [h5, h1, h7, h3]
 exact order_pc D h n l h2 (by omega) (by omega)
end Go.Proofs.Ytdgmjbgjahmoaaa
