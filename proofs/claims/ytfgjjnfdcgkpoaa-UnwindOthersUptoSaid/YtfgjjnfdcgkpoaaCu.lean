/- A part of the proof: an abstract machine for the walks, and what the walked functions compute. -/
import Derived.Test.YtfgjjnfdcgkpoaaCq
import Derived.Test.YtfgjjnfdcgkpoaaHz
import Derived.Test.YtfgjjnfdcgkpoaaCr
import Derived.Test.YtfgjjnfdcgkpoaaCk
set_option linter.unusedVariables false
set_option linter.unusedSimpArgs false
set_option maxHeartbeats 4000000
set_option maxRecDepth 100000
namespace Go.Proofs.Ytfgjjnfdcgkpoaa
open Go.Am Go.Proofs Go.Hv
open Classical
def fin (D:List Dt) (l:List Int):Fa:=l.foldl (stepF (drs D)) Fa.nil
theorem foldF_pos (d:List Int):∀ (l:List Int) (f:Fa),(∀ p,p∈f.out→0<p)→∀ p,p∈(l.foldl (stepF d) f).out→0<p
 | [],f,h=>h
 |x::l,f,h=>by
  rw[List.foldl_cons]
  refine foldF_pos d l _ ?_
  unfold stepF
  split
  ·exact h
  ·unfold Fa.add
   simp only
   intro p hp
   split at hp
   ·rcases List.mem_append.1 hp with hp|hp
    ·exact h p hp
    ·simp at hp;subst hp;assumption
   ·exact h p hp
end Go.Proofs.Ytfgjjnfdcgkpoaa

set_option maxHeartbeats 4000000
set_option maxRecDepth 100000
namespace Go.Proofs.Ytfgjjnfdcgkpoaa
open Go.Am Go.Proofs Go.Hv
open Classical
attribute [local irreducible] AW CallP CallB CallY
def setE (w:Wd) (m:Nat) (t:Tsk) (e:Ed):Wd:= { w with h:=e.h,ts:=w.ts.set m { t with st:=e.st,fs:=[],ls:=[] },ou:=e.ou,dp:=e.dp,cd:=e.cd }
end Go.Proofs.Ytfgjjnfdcgkpoaa
