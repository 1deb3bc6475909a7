/- A part of the proof: an abstract machine for the walks, and what the walked functions compute. -/
import Derived.Test.YtdgmjbgjahmoaaaCq
import Derived.Test.YtdgmjbgjahmoaaaCh
set_option linter.unusedVariables false
set_option linter.unusedSimpArgs false
set_option linter.unusedVariables false
namespace Go.Proofs.Ytdgmjbgjahmoaaa
open Go.Am Go.Proofs Go.Hv
variable {H : Type}
theorem heapAllocates_pcall {a b c : DataW H} (ha : DT Try.prog 25 a) (hb : DT Try.prog 29 b) (hc : DT Try.prog 3 c) (ba : bulk a ≤ 1048576) (bb : bulk b ≤ 1048576) (bc : bulk c ≤ 1048576) : PCall Try.prog 3 [avD a, avD b, avD c] (.bool true) := by
 obtain ⟨h, h1, h2⟩ := opn_hp ha ba
 obtain ⟨v, h3, h4⟩ := opn_v hb
 obtain ⟨n, h5, _⟩ := opn_int hc
 rw [h1, h3, h5]
 exact alloc_pc h v n h2 (by omega)
end Go.Proofs.Ytdgmjbgjahmoaaa
