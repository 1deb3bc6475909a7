/- A part of the proof: an abstract machine for the walks, and what the walked functions compute. -/
import Derived.Test.YtdgmjbgjahmoaaaCq
import Derived.Test.YtdgmjbgjahmoaaaCl
set_option linter.unusedVariables false
set_option linter.unusedSimpArgs false
namespace Go.Proofs.Ytdgmjbgjahmoaaa
open Go.Am Go.Proofs Go.Hv
variable {H : Type}
theorem heapMatchesReference_pcall {d a b c e : DataW H} (hd : DT Try.prog 44 d) (ha : DT Try.prog 25 a) (hb : DT Try.prog 29 b) (hc : DT Try.prog 3 c) (he : DT Try.prog 3 e) (bd : bulk d ≤ 1048576) (ba : bulk a ≤ 1048576) (bb : bulk b ≤ 1048576) (bc : bulk c ≤ 1048576) (be : bulk e ≤ 1048576) : PCall Try.prog 7 [avD d, avD a, avD b, avD c, avD e] (.bool true) := by
 obtain ⟨D, h5, h6⟩ := opn_dl hd
 obtain ⟨h, h1, h2⟩ := opn_hp ha ba
 obtain ⟨v, h3, h4⟩ := opn_v hb
 obtain ⟨n, h7, _⟩ := opn_int hc
 obtain ⟨m, h8, _⟩ := opn_int he
 rw [h5, h1, h3, h7, h8]
 exact match_pc D h v n m h2 (by omega) (by omega)
end Go.Proofs.Ytdgmjbgjahmoaaa
