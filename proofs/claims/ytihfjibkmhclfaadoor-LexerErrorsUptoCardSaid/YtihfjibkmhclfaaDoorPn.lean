/- A part of the proof: an abstract machine for the walks, and what the walked functions compute. -/
import Derived.Test.YtihfjibkmhclfaaDoorPh
import Derived.Test.YtihfjibkmhclfaaDoorPi
set_option linter.unusedVariables false
set_option linter.unusedSimpArgs false
set_option linter.unusedSimpArgs false
set_option linter.unusedVariables false
set_option maxHeartbeats 4000000
set_option maxRecDepth 100000
namespace Go.Proofs.YtihfjibkmhclfaaDoor
open Nat (reduceAdd reduceMul reduceEqDiff reduceLT reduceLeDiff reduceSub reduceDiv)
open Int (reduceBNe reduceLE reduceEq)
open Go.Am Go.Proofs Go.Lx
open Classical
attribute [local irreducible] AW CallP CallB
theorem errors_c (l : List UInt8) (hl : l.length ≤ 2 ^ 30) : PCall Tryd.prog 8 [.str (tx l)] (.bool true) := by
 have h0 := head_call
 have c1 := lex_call l hl
 unfold resL at c1
 by_cases hb : 30000 < l.length
 ·have q : decide ((l.length : Int) > 30000) = true := decide_eq_true (by omega)
  refine PCall.intro Tryd.func8 rfl isf8 (by simp [Tryd.f8]) (by simp [AV.cloL, AV.clo]) fun E Q hE hN hQ => K_start ?_
  repeat' (first | apply nx | refine Kq_exit_ne (by decide) ?_ | rw [wrap64 (by omega) (by omega)] | ((first | refine hK _ ?_ | refine hKp _ _ ?_); clear hK hKp K Kp; try clear hanc anc) | ((with_reducible refine And.intro ?_ ?_); (focus (first | trivial | omega | (simp only [Fits]; omega) | assumption | (rw [hanc]; rfl)))) | ((first | refine K_regA hE fun K Kp hK hKp => ?_ | refine K_drwA false mixed hE fun K Kp hK hKp anc hanc => ?_ | ((first | apply CallP_mk | apply CallB_mk); (focus (simp only [go_sem] <;> rfl)); (focus (exact h0)); (focus (first | (simp [go_sem]; done) | (simp [go_sem, CloRow, AV.cells, AV.clo]; done))); (focus (first | exact .inl rfl | (right; simp [go_sem]))))); simp only [go_sem, q]) | ((first | refine onG_split_t (fun hg => ?_) (fun hg => ?_) | refine onG_split_f (fun hg => ?_) (fun hg => ?_)) <;> simp only [go_sem, q, hg]) | (refine K_condA (fun hc => ?_) (fun hc => ?_) <;> try (exact absurd hc (by decide))) | (refine K_ret ?_; refine (hQ _ ⟨_, by (try simp only [go_sem, ↓reduceIte, Nat.reduceEqDiff]); rfl, by simp [go_sem], ?_, by first | rfl | assumption⟩).1))
  simp [AV.snap]
 have q : decide ((l.length : Int) > 30000) = false := decide_eq_false (by omega)
 by_cases hc2 : 20000 < l.length
 ·rw [lexT_gt hc2] at c1
  simp only at c1
  have q2 : decide ((l.length : Int) > 20000) = true := decide_eq_true (by omega)
  have q3 : (((20000 : Nat) : Int) == 20000) = true := rfl
  refine PCall.intro Tryd.func8 rfl isf8 (by simp [Tryd.f8]) (by simp [AV.cloL, AV.clo]) fun E Q hE hN hQ => K_start ?_
  repeat' (first | apply nx | refine Kq_exit_ne (by decide) ?_ | rw [wrap64 (by omega) (by omega)] | ((first | refine hK _ ?_ | refine hKp _ _ ?_); clear hK hKp K Kp; try clear hanc anc) | ((with_reducible refine And.intro ?_ ?_); (focus (first | trivial | omega | (simp only [Fits]; omega) | assumption | (rw [hanc]; rfl)))) | ((first | refine K_regA hE fun K Kp hK hKp => ?_ | refine K_drwA false mixed hE fun K Kp hK hKp anc hanc => ?_ | ((first | apply CallP_mk | apply CallB_mk); (focus (simp only [go_sem] <;> rfl)); (focus (first | exact h0 | exact c1)); (focus (first | (simp [go_sem]; done) | (simp [go_sem, CloRow, AV.cells, AV.clo]; done))); (focus (first | exact .inl rfl | (right; simp [go_sem]))))); simp only [go_sem, q, q2, q3, tkl_nil]) | ((first | refine onG_split_t (fun hg => ?_) (fun hg => ?_) | refine onG_split_f (fun hg => ?_) (fun hg => ?_)) <;> simp only [go_sem, q, q2, q3, tkl_nil, hg]) | (refine K_condA (fun hc => ?_) (fun hc => ?_) <;> try (exact absurd hc (by decide))) | (refine K_ret ?_; refine (hQ _ ⟨_, by (try simp only [go_sem, ↓reduceIte, Nat.reduceEqDiff]); rfl, by simp [go_sem], ?_, by first | rfl | assumption⟩).1))
  simp [AV.snap]
 have q2 : decide ((l.length : Int) > 20000) = false := decide_eq_false (by omega)
 have q2' : decide ((l.length : Int) ≤ 20000) = true := decide_eq_true (by omega)
 rw [lexT_le (by omega)] at c1
 by_cases he : (lexM l).2.1 = 0
 ·obtain ⟨g1, g2, g3⟩ := lexM_ok he
  rw [g1] at c1
  simp only at c1
  generalize (lx 0 l).1 = ts at *
  have q3 : (((0 : Nat) : Int) == 0) = true := rfl
  refine PCall.intro Tryd.func8 rfl isf8 (by simp [Tryd.f8]) (by simp [AV.cloL, AV.clo]) fun E Q hE hN hQ => K_start ?_
  repeat' (first | apply nx | refine Kq_exit_ne (by decide) ?_ | rw [wrap64 (by omega) (by omega)] | ((first | refine hK _ ?_ | refine hKp _ _ ?_); clear hK hKp K Kp; try clear hanc anc) | ((with_reducible refine And.intro ?_ ?_); (focus (first | trivial | omega | (simp only [Fits]; omega) | assumption | (rw [hanc]; rfl)))) | ((first | refine K_regA hE fun K Kp hK hKp => ?_ | refine K_drwA false mixed hE fun K Kp hK hKp anc hanc => ?_ | ((first | apply CallP_mk | apply CallB_mk); (focus (simp only [go_sem] <;> rfl)); (focus (first | exact h0 | exact c1)); (focus (first | (simp [go_sem]; done) | (simp [go_sem, CloRow, AV.cells, AV.clo]; done))); (focus (first | exact .inl rfl | (right; simp [go_sem]))))); simp only [go_sem, q, q2, q2', q3]) | ((first | refine onG_split_t (fun hg => ?_) (fun hg => ?_) | refine onG_split_f (fun hg => ?_) (fun hg => ?_)) <;> simp only [go_sem, q, q2, q2', q3, hg]) | (refine K_condA (fun hc => ?_) (fun hc => ?_) <;> try (exact absurd hc (by decide))) | (refine K_ret ?_; refine (hQ _ ⟨_, by (try simp only [go_sem, ↓reduceIte, Nat.reduceEqDiff]); rfl, by simp [go_sem], ?_, by first | rfl | assumption⟩).1))
  simp [AV.snap]
 ·obtain ⟨g1, g2, g3, g4⟩ := lexM_bad he
  have c2 := lex_call (l.take (lexM l).2.2) (by rw [List.length_take]; omega)
  rw [lexT_le (by rw [List.length_take]; omega)] at c2
  have g5 := (lexM_ok g4).1
  rw [g5] at c2
  generalize (lx 0 (l.take (lexM l).2.2)).1 = us at *
  generalize lexM l = r at *
  obtain ⟨ts, e, p⟩ := r
  simp only at *
  subst g1
  unfold resL at c2
  simp only at c2
  have q3 : (e == 0) = false := by simpa using he
  have q4 : decide ((p : Int) < 0) = false := by simp
  have q5 : decide ((p : Int) ≥ (l.length : Int)) = false := decide_eq_false (by omega)
  have q6 : p ≤ l.length := by omega
  rcases g2 with rfl | rfl
  ·refine PCall.intro Tryd.func8 rfl isf8 (by simp [Tryd.f8]) (by simp [AV.cloL, AV.clo]) fun E Q hE hN hQ => K_start ?_
   repeat' (first | apply nx | refine Kq_exit_ne (by decide) ?_ | rw [wrap64 (by omega) (by omega)] | ((first | refine hK _ ?_ | refine hKp _ _ ?_); clear hK hKp K Kp; try clear hanc anc) | ((with_reducible refine And.intro ?_ ?_); (focus (first | trivial | omega | (simp only [Fits]; omega) | assumption | (rw [hanc]; rfl)))) | ((first | refine K_regA hE fun K Kp hK hKp => ?_ | refine K_drwA false mixed hE fun K Kp hK hKp anc hanc => ?_ | ((first | apply CallP_mk | apply CallB_mk); (focus (simp only [go_sem] <;> rfl)); (focus (first | exact h0 | exact c1 | exact c2)); (focus (first | (simp [go_sem]; done) | (simp [go_sem, CloRow, AV.cells, AV.clo]; done))); (focus (first | exact .inl rfl | (right; simp [go_sem]))))); simp only [go_sem, q, q2, q3, q4, q5, q6]) | ((first | refine onG_split_t (fun hg => ?_) (fun hg => ?_) | refine onG_split_f (fun hg => ?_) (fun hg => ?_)) <;> simp only [go_sem, q, q2, q3, q4, q5, q6, hg]) | (refine K_condA (fun hc => ?_) (fun hc => ?_) <;> try (exact absurd hc (by decide))) | (refine K_ret ?_; refine (hQ _ ⟨_, by (try simp only [go_sem, ↓reduceIte, Nat.reduceEqDiff]); rfl, by simp [go_sem], ?_, by first | rfl | assumption⟩).1))
   simp [AV.snap]
  ·refine PCall.intro Tryd.func8 rfl isf8 (by simp [Tryd.f8]) (by simp [AV.cloL, AV.clo]) fun E Q hE hN hQ => K_start ?_
   repeat' (first | apply nx | refine Kq_exit_ne (by decide) ?_ | rw [wrap64 (by omega) (by omega)] | ((first | refine hK _ ?_ | refine hKp _ _ ?_); clear hK hKp K Kp; try clear hanc anc) | ((with_reducible refine And.intro ?_ ?_); (focus (first | trivial | omega | (simp only [Fits]; omega) | assumption | (rw [hanc]; rfl)))) | ((first | refine K_regA hE fun K Kp hK hKp => ?_ | refine K_drwA false mixed hE fun K Kp hK hKp anc hanc => ?_ | ((first | apply CallP_mk | apply CallB_mk); (focus (simp only [go_sem] <;> rfl)); (focus (first | exact h0 | exact c1 | exact c2)); (focus (first | (simp [go_sem]; done) | (simp [go_sem, CloRow, AV.cells, AV.clo]; done))); (focus (first | exact .inl rfl | (right; simp [go_sem]))))); simp only [go_sem, q, q2, q3, q4, q5, q6]) | ((first | refine onG_split_t (fun hg => ?_) (fun hg => ?_) | refine onG_split_f (fun hg => ?_) (fun hg => ?_)) <;> simp only [go_sem, q, q2, q3, q4, q5, q6, hg]) | (refine K_condA (fun hc => ?_) (fun hc => ?_) <;> try (exact absurd hc (by decide))) | (refine K_ret ?_; refine (hQ _ ⟨_, by (try simp only [go_sem, ↓reduceIte, Nat.reduceEqDiff]); rfl, by simp [go_sem], ?_, by first | rfl | assumption⟩).1))
   simp [AV.snap]
end Go.Proofs.YtihfjibkmhclfaaDoor

set_option linter.unusedVariables false
namespace Go.Proofs.YtihfjibkmhclfaaDoor
open Go.Am Go.Proofs Go.Lx
variable {H : Type}
theorem lexerErrors_pcall {d0 : DataW H} (h0 : DT Tryd.prog 9 d0) (b0 : bulk d0 ≤ 1048576) : PCall Tryd.prog 8 [avD d0] (.bool true) := by
 obtain ⟨x0, e0, f0⟩ := opn_s h0
 rw [e0]
 exact errors_c x0 (by omega)
end Go.Proofs.YtihfjibkmhclfaaDoor
