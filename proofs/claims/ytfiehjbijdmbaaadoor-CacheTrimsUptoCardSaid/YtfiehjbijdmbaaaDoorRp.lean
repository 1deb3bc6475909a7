/- A part of the proof: an abstract machine for the walks, and what the walked functions compute. -/
import Derived.Test.YtfiehjbijdmbaaaDoorRi
import Derived.Test.YtfiehjbijdmbaaaDoorRj
import Derived.Test.YtfiehjbijdmbaaaDoorRl
set_option linter.unusedVariables false
set_option linter.unusedSimpArgs false
set_option linter.unusedSimpArgs false
set_option linter.unusedVariables false
set_option maxHeartbeats 4000000
set_option maxRecDepth 100000
namespace Go.Proofs.YtfiehjbijdmbaaaDoor
open Nat (reduceAdd reduceMul reduceEqDiff reduceLT reduceLeDiff reduceSub reduceDiv)
open Int (reduceBNe reduceLE reduceEq)
open Go.Am Go.Proofs Go.Ca
open Classical
attribute [local irreducible] AW CallP CallB
theorem trims_c (l : List Fl) (n k : Int) (hB : FB l) (hk : I64 k) : PCall Tryd.prog 6 [.sl (fl l), .i n, .i k] (.bool true) := by
 have hl := hB.len
 have h0 := head_call
 have hfe := few_call l [] (by omega) (by simp) (fun f hf => ⟨by have := hB.bs f hf; omega, by have := hB.nm f hf; omega⟩)
 have t1 := trim_call l n hl
 have hT := trim_len l n
 have hTl : (trimR l n).length ≤ l.length := by simp [trimR]
 have hTe := trim_eq l n
 have hTg := trim_get l n k
 have hTB : FB (trimR l n) := ⟨by omega, fun f hf => hB.bs f (List.mem_of_mem_drop hf), fun f hf => hB.nm f (List.mem_of_mem_drop hf)⟩
 have m1 := same_call (trimR l n) (trimR l n) (by omega) (by omega)
 rw [decide_eq_true rfl] at m1
 have g1 := get_call (trimR l n) k hTB hk
 have g2 := sameG_call l (trimR l n) k hB hTB hk
 generalize trimR l n = T at *
 generalize getR T k = G at *
 have u1 : IntKind.i64.wrap ((l.length : Int) - (T.length : Int)) = ((l.length - T.length : Nat) : Int) := by rw [wrap64 (by omega) (by omega)]; omega
 have q1 : decide (((l.length - T.length : Nat) : Int) < 0) = false := by simp
 have q2 : ((T.length : Int) != max 0 (min n l.length)) = false := by rw [hT]; simp
 have u2 : l.length - T.length ≤ l.length := by omega
 cases hf : fewB l []
 ·rw [hf] at hfe
  refine PCall.intro Tryd.func6 rfl isf6 (by simp [Tryd.f6]) (by simp [AV.cloL, AV.clo]) fun E Q hE hN hQ => K_start ?_
  repeat' (first | apply nx | refine Kq_exit_ne (by decide) ?_ | rw [wrap64 (by omega) (by omega)] | ((first | refine hK _ ?_ | refine hKp _ _ ?_); clear hK hKp K Kp; try clear hanc anc) | ((with_reducible refine And.intro ?_ ?_); (focus (first | trivial | omega | (simp only [Fits]; omega) | assumption | (rw [hanc]; rfl)))) | ((first | refine K_regA hE fun K Kp hK hKp => ?_ | refine K_drwA false mixed hE fun K Kp hK hKp anc hanc => ?_ | ((first | apply CallP_mk | apply CallB_mk); (focus (simp only [go_sem] <;> rfl)); (focus (first | exact h0 | exact hfe)); (focus (first | (simp [go_sem]; done) | (simp [go_sem, CloRow, AV.cells, AV.clo]; done))); (focus (first | exact .inl rfl | (right; simp [go_sem]))))); simp only [go_sem, Bool.not_false]) | ((first | refine onG_split_t (fun hg => ?_) (fun hg => ?_) | refine onG_split_f (fun hg => ?_) (fun hg => ?_)) <;> simp only [go_sem, Bool.not_false, hg]) | (refine K_condA (fun hc => ?_) (fun hc => ?_) <;> try (exact absurd hc (by decide))) | (refine K_ret ?_; refine (hQ _ ⟨_, by (try simp only [go_sem, ↓reduceIte, Nat.reduceEqDiff]); rfl, by simp [go_sem], ?_, by first | rfl | assumption⟩).1))
  simp [AV.snap]
 ·rw [hf] at hfe
  by_cases hG : G.2 = 20
  ·have q3 : (G.2 == 20) = true := by simpa using hG
   refine PCall.intro Tryd.func6 rfl isf6 (by simp [Tryd.f6]) (by simp [AV.cloL, AV.clo]) fun E Q hE hN hQ => K_start ?_
   repeat' (first | apply nx | refine Kq_exit_ne (by decide) ?_ | rw [wrap64 (by omega) (by omega)] | ((first | refine hK _ ?_ | refine hKp _ _ ?_); clear hK hKp K Kp; try clear hanc anc) | ((with_reducible refine And.intro ?_ ?_); (focus (first | trivial | omega | (simp only [Fits]; omega) | assumption | (rw [hanc]; rfl)))) | ((first | refine K_regA hE fun K Kp hK hKp => ?_ | refine K_drwA false mixed hE fun K Kp hK hKp anc hanc => ?_ | ((first | apply CallP_mk | apply CallB_mk); (focus (simp only [go_sem] <;> rfl)); (focus (first | exact h0 | exact hfe | exact t1 | exact m1 | exact g1)); (focus (first | (simp [go_sem]; done) | (simp [go_sem, CloRow, AV.cells, AV.clo]; done))); (focus (first | exact .inl rfl | (right; simp [go_sem]))))); simp only [go_sem, Bool.not_true, u1, q1, q2, hTe, q3]) | ((first | refine onG_split_t (fun hg => ?_) (fun hg => ?_) | refine onG_split_f (fun hg => ?_) (fun hg => ?_)) <;> simp only [go_sem, Bool.not_true, u1, q1, q2, hTe, q3, hg]) | (refine K_condA (fun hc => ?_) (fun hc => ?_) <;> try (exact absurd hc (by decide))) | (refine K_ret ?_; refine (hQ _ ⟨_, by (try simp only [go_sem, ↓reduceIte, Nat.reduceEqDiff]); rfl, by simp [go_sem], ?_, by first | rfl | assumption⟩).1))
   simp [AV.snap]
  ·have q3 : (G.2 == 20) = false := by simpa using hG
   rw [decide_eq_true (hTg.resolve_left hG)] at g2
   refine PCall.intro Tryd.func6 rfl isf6 (by simp [Tryd.f6]) (by simp [AV.cloL, AV.clo]) fun E Q hE hN hQ => K_start ?_
   repeat' (first | apply nx | refine Kq_exit_ne (by decide) ?_ | rw [wrap64 (by omega) (by omega)] | ((first | refine hK _ ?_ | refine hKp _ _ ?_); clear hK hKp K Kp; try clear hanc anc) | ((with_reducible refine And.intro ?_ ?_); (focus (first | trivial | omega | (simp only [Fits]; omega) | assumption | (rw [hanc]; rfl)))) | ((first | refine K_regA hE fun K Kp hK hKp => ?_ | refine K_drwA false mixed hE fun K Kp hK hKp anc hanc => ?_ | ((first | apply CallP_mk | apply CallB_mk); (focus (simp only [go_sem] <;> rfl)); (focus (first | exact h0 | exact hfe | exact t1 | exact m1 | exact g1 | exact g2)); (focus (first | (simp [go_sem]; done) | (simp [go_sem, CloRow, AV.cells, AV.clo]; done))); (focus (first | exact .inl rfl | (right; simp [go_sem]))))); simp only [go_sem, Bool.not_true, u1, q1, q2, hTe, q3]) | ((first | refine onG_split_t (fun hg => ?_) (fun hg => ?_) | refine onG_split_f (fun hg => ?_) (fun hg => ?_)) <;> simp only [go_sem, Bool.not_true, u1, q1, q2, hTe, q3, hg]) | (refine K_condA (fun hc => ?_) (fun hc => ?_) <;> try (exact absurd hc (by decide))) | (refine K_ret ?_; refine (hQ _ ⟨_, by (try simp only [go_sem, ↓reduceIte, Nat.reduceEqDiff]); rfl, by simp [go_sem], ?_, by first | rfl | assumption⟩).1))
   simp [AV.snap]
end Go.Proofs.YtfiehjbijdmbaaaDoor

set_option linter.unusedVariables false
namespace Go.Proofs.YtfiehjbijdmbaaaDoor
open Go.Am Go.Proofs Go.Ca
variable {H : Type}
theorem cacheTrims_pcall {d0 d1 d2 : DataW H} (h0 : DT Tryd.prog 22 d0) (h1 : DT Tryd.prog 3 d1) (h2 : DT Tryd.prog 3 d2) (b0 : bulk d0 ≤ 1048576) (b1 : bulk d1 ≤ 1048576) (b2 : bulk d2 ≤ 1048576) : PCall Tryd.prog 6 [avD d0, avD d1, avD d2] (.bool true) := by
 obtain ⟨x0, e0, f0, g0⟩ := opn_fl h0 b0
 obtain ⟨x1, e1, f1⟩ := opn_int h1
 obtain ⟨x2, e2, f2⟩ := opn_int h2
 rw [e0, e1, e2]
 exact trims_c x0 x1 x2 f0 f2
end Go.Proofs.YtfiehjbijdmbaaaDoor
