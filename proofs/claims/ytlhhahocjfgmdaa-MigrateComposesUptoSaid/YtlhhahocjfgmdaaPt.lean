/- A part of the proof: an abstract machine for the walks, and what the walked functions compute. -/
import Derived.Test.YtlhhahocjfgmdaaPs
import Derived.Test.YtlhhahocjfgmdaaPr
set_option linter.unusedVariables false
set_option linter.unusedSimpArgs false
set_option linter.unusedVariables false
namespace Go.Proofs.Ytlhhahocjfgmdaa
open Go.Am Go.Proofs Go.Hv Go.Mv
variable {H : Type}
theorem migrateComposes_pcall {a b c d e f g : DataW H} (ha : DT Try.prog 22 a) (hb : DT Try.prog 22 b) (hc : DT Try.prog 22 c) (hd : DT Try.prog 23 d) (he : DT Try.prog 23 e) (hf : DT Try.prog 26 f) (hg : DT Try.prog 30 g)
    (ba : bulk a ≤ 1048576) (bb : bulk b ≤ 1048576) (bc : bulk c ≤ 1048576) (bd : bulk d ≤ 1048576) (be : bulk e ≤ 1048576) (bf : bulk f ≤ 1048576) (bg : bulk g ≤ 1048576) : PCall Try.prog 5 [avD a, avD b, avD c, avD d, avD e, avD f, avD g] (.bool true) := by
  obtain ⟨x, h1, h2⟩ := opn_dl ha ba
  obtain ⟨y, h3, h4⟩ := opn_dl hb bb
  obtain ⟨z, h5, h6⟩ := opn_dl hc bc
  obtain ⟨l, h7, h8, _⟩ := opn_ml hd bd
  obtain ⟨m, h9, h10, _⟩ := opn_ml he be
  obtain ⟨t, h11, h12⟩ := opn_t hf
  obtain ⟨v, h13, h14⟩ := opn_v hg
  rw [h1, h3, h5, h7, h9, h11, h13]
  exact composes_pc x y z l m t v h2 h4 h6 h8 h10 (by omega) (by omega)
end Go.Proofs.Ytlhhahocjfgmdaa
