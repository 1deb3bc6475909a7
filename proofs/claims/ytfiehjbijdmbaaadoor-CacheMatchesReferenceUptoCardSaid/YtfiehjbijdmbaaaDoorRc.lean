/- A part of the proof: an abstract machine for the walks, and what the walked functions compute. -/
import Derived.Test.YtfiehjbijdmbaaaDoorRb
set_option linter.unusedVariables false
set_option linter.unusedSimpArgs false
set_option linter.unusedSimpArgs false
set_option linter.unusedVariables false
set_option maxHeartbeats 4000000
set_option maxRecDepth 100000
namespace Go.Proofs.YtfiehjbijdmbaaaDoor
open Nat (reduceAdd reduceMul reduceEqDiff reduceLT reduceLeDiff reduceSub reduceDiv)
open Int (reduceBNe reduceLE reduceEq)
open Go.Am Go.Proofs Go.Ca
open Classical
attribute [local irreducible] AW CallP CallB
theorem vn_small : ∀ (l : List UInt8) (k : Nat), l.length ≤ k → k ≤ 7 → vn l < 256 ^ k := by
 intro l
 induction h : l.length generalizing l with
 | zero =>
  intro k _ _
  have : l = [] := List.length_eq_zero_iff.1 h
  subst this
  exact Int.pow_pos (by decide)
 | succ n ih =>
  intro k hk hk7
  rcases List.eq_nil_or_concat l with rfl | ⟨l, b, rfl⟩
  ·simp at h
  ·rw [List.concat_eq_append] at h ⊢
   simp only [List.length_append, List.length_singleton] at h
   rw [vn_snoc]
   cases k with
   | zero => omega
   | succ k =>
    have h1 := ih l (by omega) k (by omega) (by omega)
    have h2 := vn_range l
    have h3 := u8_lt b
    have h4 : (256 : Int) ^ (k + 1) = 256 ^ k * 256 := Int.pow_succ ..
    have h5 : (vn l * 256 + (b.toNat : Int)) % 18446744073709551616 ≤ vn l * 256 + (b.toNat : Int) := by
     have := Int.emod_add_mul_ediv (vn l * 256 + (b.toNat : Int)) 18446744073709551616
     have := Int.ediv_nonneg (show 0 ≤ vn l * 256 + (b.toNat : Int) by omega) (show (0 : Int) ≤ 18446744073709551616 by decide)
     omega
    omega
theorem sv_small {l : List UInt8} (h : l.length ≤ 4) : sv l = vn l := by
 have h1 := vn_small l 4 h (by decide)
 have h2 := vn_range l
 have h3 : (256 : Int) ^ 4 = 4294967296 := by decide
 exact wrap64 (by omega) (by omega)
theorem open_call (b : List UInt8) (hl : b.length ≤ 2 ^ 30) : PCall Tryd.prog 31 [.sl (ub b)] (.tup [.i (openR b).1, .sl (ub (openR b).2.1), .i (openR b).2.2]) := by
 unfold openR
 by_cases h16 : b.length < 16
 ·have q : decide ((b.length : Int) < 16) = true := decide_eq_true (by omega)
  rw [if_pos h16]
  refine PCall.intro Tryd.func31 rfl isf31 (by simp [Tryd.f31]) (by simp [AV.cloL, AV.clo]) fun E Q hE hN hQ => K_start ?_
  repeat' (first | apply nx | refine Kq_exit_ne (by decide) ?_ | rw [wrap64 (by omega) (by omega)] | ((first | refine hK _ ?_ | refine hKp _ _ ?_); clear hK hKp K Kp; try clear hanc anc) | ((with_reducible refine And.intro ?_ ?_); (focus (first | trivial | omega | (simp only [Fits]; omega) | assumption | (rw [hanc]; rfl)))) | ((first | refine K_regA hE fun K Kp hK hKp => ?_ | refine K_drwA false mixed hE fun K Kp hK hKp anc hanc => ?_); simp only [go_sem, q]) | ((first | refine onG_split_t (fun hg => ?_) (fun hg => ?_) | refine onG_split_f (fun hg => ?_) (fun hg => ?_)) <;> simp only [go_sem, q, hg]) | (refine K_condA (fun hc => ?_) (fun hc => ?_) <;> try (exact absurd hc (by decide))) | (refine K_ret ?_; refine (hQ _ ⟨_, by (try simp only [go_sem, ↓reduceIte, Nat.reduceEqDiff]); rfl, by simp [go_sem], ?_, by first | rfl | assumption⟩).1))
  simp [AV.snap, AV.snapL, ub_nil]
 rw [if_neg h16]
 have q : decide ((b.length : Int) < 16) = false := decide_eq_false (by omega)
 have hc1 := value_call (b.take 8) (by simp; omega)
 have hc2 := value_call ((b.take 12).drop 8) (by simp; omega)
 have hc3 := value_call (b.drop (b.length - 4)) (by simp; omega)
 have hc4 := sum_call (b.take (b.length - 4)) (by simp; omega)
 have hc5 := cloneB_call ((b.take (b.length - 4)).drop 12) (by simp; omega)
 rw [sv_small (by simp; omega)] at hc2 hc3
 have u1 : IntKind.i64.wrap ((b.length : Int) - 16) = ((b.length - 16 : Nat) : Int) := by rw [wrap64 (by omega) (by omega)]; omega
 have u2 : IntKind.i64.wrap (12 + ((b.length - 16 : Nat) : Int)) = ((b.length - 4 : Nat) : Int) := by rw [wrap64 (by omega) (by omega)]; omega
 by_cases h1 : vn ((b.take 12).drop 8) = ((b.length - 16 : Nat) : Int)
 case neg =>
  rw [if_pos h1]
  have q1 : (vn ((b.take 12).drop 8) != ((b.length - 16 : Nat) : Int)) = true := by simpa using h1
  refine PCall.intro Tryd.func31 rfl isf31 (by simp [Tryd.f31]) (by simp [AV.cloL, AV.clo]) fun E Q hE hN hQ => K_start ?_
  repeat' (first | apply nx | refine Kq_exit_ne (by decide) ?_ | rw [wrap64 (by omega) (by omega)] | ((first | refine hK _ ?_ | refine hKp _ _ ?_); clear hK hKp K Kp; try clear hanc anc) | ((with_reducible refine And.intro ?_ ?_); (focus (first | trivial | omega | (simp only [Fits]; omega) | assumption | (rw [hanc]; rfl)))) | ((first | refine K_regA hE fun K Kp hK hKp => ?_ | refine K_drwA false mixed hE fun K Kp hK hKp anc hanc => ?_ | ((first | apply CallP_mk | apply CallB_mk); (focus (simp only [go_sem] <;> rfl)); (focus (first | exact hc1 | exact hc2)); (focus (first | (simp [go_sem]; done) | (simp [go_sem, CloRow, AV.cells, AV.clo]; done))); (focus (first | exact .inl rfl | (right; simp [go_sem]))))); simp only [go_sem, q, q1, u1, u2]) | ((first | refine onG_split_t (fun hg => ?_) (fun hg => ?_) | refine onG_split_f (fun hg => ?_) (fun hg => ?_)) <;> simp only [go_sem, q, q1, u1, u2, hg]) | (refine K_condA (fun hc => ?_) (fun hc => ?_) <;> try (exact absurd hc (by decide))) | (refine K_ret ?_; refine (hQ _ ⟨_, by (try simp only [go_sem, ↓reduceIte, Nat.reduceEqDiff]); rfl, by simp [go_sem], ?_, by first | rfl | assumption⟩).1))
  simp [AV.snap, AV.snapL, ub_nil]
 rw [if_neg (by simpa using h1)]
 have q1 : (vn ((b.take 12).drop 8) != ((b.length - 16 : Nat) : Int)) = false := by simpa using h1
 by_cases h2 : vn (b.drop (b.length - 4)) = sumD (b.take (b.length - 4))
 case neg =>
  rw [if_pos h2]
  have q2 : (vn (b.drop (b.length - 4)) != sumD (b.take (b.length - 4))) = true := by simpa using h2
  refine PCall.intro Tryd.func31 rfl isf31 (by simp [Tryd.f31]) (by simp [AV.cloL, AV.clo]) fun E Q hE hN hQ => K_start ?_
  repeat' (first | apply nx | refine Kq_exit_ne (by decide) ?_ | rw [wrap64 (by omega) (by omega)] | ((first | refine hK _ ?_ | refine hKp _ _ ?_); clear hK hKp K Kp; try clear hanc anc) | ((with_reducible refine And.intro ?_ ?_); (focus (first | trivial | omega | (simp only [Fits]; omega) | assumption | (rw [hanc]; rfl)))) | ((first | refine K_regA hE fun K Kp hK hKp => ?_ | refine K_drwA false mixed hE fun K Kp hK hKp anc hanc => ?_ | ((first | apply CallP_mk | apply CallB_mk); (focus (simp only [go_sem] <;> rfl)); (focus (first | exact hc1 | exact hc2 | exact hc3 | exact hc4)); (focus (first | (simp [go_sem]; done) | (simp [go_sem, CloRow, AV.cells, AV.clo]; done))); (focus (first | exact .inl rfl | (right; simp [go_sem]))))); simp only [go_sem, q, q1, q2, u1, u2]) | ((first | refine onG_split_t (fun hg => ?_) (fun hg => ?_) | refine onG_split_f (fun hg => ?_) (fun hg => ?_)) <;> simp only [go_sem, q, q1, q2, u1, u2, hg]) | (refine K_condA (fun hc => ?_) (fun hc => ?_) <;> try (exact absurd hc (by decide))) | (refine K_ret ?_; refine (hQ _ ⟨_, by (try simp only [go_sem, ↓reduceIte, Nat.reduceEqDiff]); rfl, by simp [go_sem], ?_, by first | rfl | assumption⟩).1))
  simp [AV.snap, AV.snapL, ub_nil]
 rw [if_neg (by simpa using h2)]
 have q2 : (vn (b.drop (b.length - 4)) != sumD (b.take (b.length - 4))) = false := by simpa using h2
 refine PCall.intro Tryd.func31 rfl isf31 (by simp [Tryd.f31]) (by simp [AV.cloL, AV.clo]) fun E Q hE hN hQ => K_start ?_
 repeat' (first | apply nx | refine Kq_exit_ne (by decide) ?_ | rw [wrap64 (by omega) (by omega)] | ((first | refine hK _ ?_ | refine hKp _ _ ?_); clear hK hKp K Kp; try clear hanc anc) | ((with_reducible refine And.intro ?_ ?_); (focus (first | trivial | omega | (simp only [Fits]; omega) | assumption | (rw [hanc]; rfl)))) | ((first | refine K_regA hE fun K Kp hK hKp => ?_ | refine K_drwA false mixed hE fun K Kp hK hKp anc hanc => ?_ | ((first | apply CallP_mk | apply CallB_mk); (focus (simp only [go_sem] <;> rfl)); (focus (first | exact hc1 | exact hc2 | exact hc3 | exact hc4 | exact hc5)); (focus (first | (simp [go_sem]; done) | (simp [go_sem, CloRow, AV.cells, AV.clo]; done))); (focus (first | exact .inl rfl | (right; simp [go_sem]))))); simp only [go_sem, q, q1, q2, u1, u2]) | ((first | refine onG_split_t (fun hg => ?_) (fun hg => ?_) | refine onG_split_f (fun hg => ?_) (fun hg => ?_)) <;> simp only [go_sem, q, q1, q2, u1, u2, hg]) | (refine K_condA (fun hc => ?_) (fun hc => ?_) <;> try (exact absurd hc (by decide))) | (refine K_ret ?_; refine (hQ _ ⟨_, by (try simp only [go_sem, ↓reduceIte, Nat.reduceEqDiff]); rfl, by simp [go_sem], ?_, by first | rfl | assumption⟩).1))
 simp [AV.snap, AV.snapL]
def bodyR (b : List UInt8) (k : Int) : List UInt8 × Int :=
 if b.length < 16 ∨ vn (b.take 8) ≠ k % 18446744073709551616 ∨ vn ((b.take 12).drop 8) ≠ ((b.length - 16 : Nat) : Int) then ([], 16)
 else if vn (b.drop (b.length - 4)) ≠ sumD (b.take (b.length - 4)) then ([], 17)
 else ((b.take (b.length - 4)).drop 12, 0)
theorem body_call (b : List UInt8) (k : Int) (hl : b.length ≤ 2 ^ 30) : PCall Tryd.prog 33 [.sl (ub b), .i k] (.tup [.sl (ub (bodyR b k).1), .i (bodyR b k).2]) := by
 unfold bodyR
 by_cases h16 : b.length < 16
 ·have q : decide ((b.length : Int) < 16) = true := decide_eq_true (by omega)
  rw [if_pos (.inl h16)]
  refine PCall.intro Tryd.func33 rfl isf33 (by simp [Tryd.f33]) (by simp [AV.cloL, AV.clo]) fun E Q hE hN hQ => K_start ?_
  repeat' (first | apply nx | refine Kq_exit_ne (by decide) ?_ | rw [wrap64 (by omega) (by omega)] | ((first | refine hK _ ?_ | refine hKp _ _ ?_); clear hK hKp K Kp; try clear hanc anc) | ((with_reducible refine And.intro ?_ ?_); (focus (first | trivial | omega | (simp only [Fits]; omega) | assumption | (rw [hanc]; rfl)))) | ((first | refine K_regA hE fun K Kp hK hKp => ?_ | refine K_drwA false mixed hE fun K Kp hK hKp anc hanc => ?_); simp only [go_sem, q]) | ((first | refine onG_split_t (fun hg => ?_) (fun hg => ?_) | refine onG_split_f (fun hg => ?_) (fun hg => ?_)) <;> simp only [go_sem, q, hg]) | (refine K_condA (fun hc => ?_) (fun hc => ?_) <;> try (exact absurd hc (by decide))) | (refine K_ret ?_; refine (hQ _ ⟨_, by (try simp only [go_sem, ↓reduceIte, Nat.reduceEqDiff]); rfl, by simp [go_sem], ?_, by first | rfl | assumption⟩).1))
  simp [AV.snap, AV.snapL, ub_nil]
 have q : decide ((b.length : Int) < 16) = false := decide_eq_false (by omega)
 have hc1 := rvalue_call (b.take 8) (by simp; omega)
 have hc2 := rvalue_call ((b.take 12).drop 8) (by simp; omega)
 have hc3 := rvalue_call (b.drop (b.length - 4)) (by simp; omega)
 have hc4 := rsum_call (b.take (b.length - 4)) (by simp; omega)
 have hr4 := sumD_range (b.take (b.length - 4))
 have u0 := wrap_u64 k
 have u1 : IntKind.i64.wrap ((b.length : Int) - 16) = ((b.length - 16 : Nat) : Int) := by rw [wrap64 (by omega) (by omega)]; omega
 have u2 : IntKind.u64.wrap ((b.length - 16 : Nat) : Int) = ((b.length - 16 : Nat) : Int) := by rw [wrap_u64]; omega
 have u3 : IntKind.i64.wrap ((b.length : Int) - 4) = ((b.length - 4 : Nat) : Int) := by rw [wrap64 (by omega) (by omega)]; omega
 have u4 : IntKind.u64.wrap (sumD (b.take (b.length - 4))) = sumD (b.take (b.length - 4)) := by rw [wrap_u64]; omega
 by_cases h0 : vn (b.take 8) = k % 18446744073709551616
 case neg =>
  rw [if_pos (.inr (.inl h0))]
  have q0 : (vn (b.take 8) != k % 18446744073709551616) = true := by simpa using h0
  refine PCall.intro Tryd.func33 rfl isf33 (by simp [Tryd.f33]) (by simp [AV.cloL, AV.clo]) fun E Q hE hN hQ => K_start ?_
  repeat' (first | apply nx | refine Kq_exit_ne (by decide) ?_ | rw [wrap64 (by omega) (by omega)] | ((first | refine hK _ ?_ | refine hKp _ _ ?_); clear hK hKp K Kp; try clear hanc anc) | ((with_reducible refine And.intro ?_ ?_); (focus (first | trivial | omega | (simp only [Fits]; omega) | assumption | (rw [hanc]; rfl)))) | ((first | refine K_regA hE fun K Kp hK hKp => ?_ | refine K_drwA false mixed hE fun K Kp hK hKp anc hanc => ?_ | ((first | apply CallP_mk | apply CallB_mk); (focus (simp only [go_sem] <;> rfl)); (focus (first | exact hc1 | exact hc2)); (focus (first | (simp [go_sem]; done) | (simp [go_sem, CloRow, AV.cells, AV.clo]; done))); (focus (first | exact .inl rfl | (right; simp [go_sem]))))); simp only [go_sem, q, q0, u0, u1, u2]) | ((first | refine onG_split_t (fun hg => ?_) (fun hg => ?_) | refine onG_split_f (fun hg => ?_) (fun hg => ?_)) <;> simp only [go_sem, q, q0, u0, u1, u2, hg]) | (refine K_condA (fun hc => ?_) (fun hc => ?_) <;> try (exact absurd hc (by decide))) | (refine K_ret ?_; refine (hQ _ ⟨_, by (try simp only [go_sem, ↓reduceIte, Nat.reduceEqDiff]); rfl, by simp [go_sem], ?_, by first | rfl | assumption⟩).1))
  simp [AV.snap, AV.snapL, ub_nil]
 have q0 : (vn (b.take 8) != k % 18446744073709551616) = false := by simpa using h0
 by_cases h1 : vn ((b.take 12).drop 8) = ((b.length - 16 : Nat) : Int)
 case neg =>
  rw [if_pos (.inr (.inr h1))]
  have q1 : (vn ((b.take 12).drop 8) != ((b.length - 16 : Nat) : Int)) = true := by simpa using h1
  refine PCall.intro Tryd.func33 rfl isf33 (by simp [Tryd.f33]) (by simp [AV.cloL, AV.clo]) fun E Q hE hN hQ => K_start ?_
  repeat' (first | apply nx | refine Kq_exit_ne (by decide) ?_ | rw [wrap64 (by omega) (by omega)] | ((first | refine hK _ ?_ | refine hKp _ _ ?_); clear hK hKp K Kp; try clear hanc anc) | ((with_reducible refine And.intro ?_ ?_); (focus (first | trivial | omega | (simp only [Fits]; omega) | assumption | (rw [hanc]; rfl)))) | ((first | refine K_regA hE fun K Kp hK hKp => ?_ | refine K_drwA false mixed hE fun K Kp hK hKp anc hanc => ?_ | ((first | apply CallP_mk | apply CallB_mk); (focus (simp only [go_sem] <;> rfl)); (focus (first | exact hc1 | exact hc2)); (focus (first | (simp [go_sem]; done) | (simp [go_sem, CloRow, AV.cells, AV.clo]; done))); (focus (first | exact .inl rfl | (right; simp [go_sem]))))); simp only [go_sem, q, q0, q1, u0, u1, u2]) | ((first | refine onG_split_t (fun hg => ?_) (fun hg => ?_) | refine onG_split_f (fun hg => ?_) (fun hg => ?_)) <;> simp only [go_sem, q, q0, q1, u0, u1, u2, hg]) | (refine K_condA (fun hc => ?_) (fun hc => ?_) <;> try (exact absurd hc (by decide))) | (refine K_ret ?_; refine (hQ _ ⟨_, by (try simp only [go_sem, ↓reduceIte, Nat.reduceEqDiff]); rfl, by simp [go_sem], ?_, by first | rfl | assumption⟩).1))
  simp [AV.snap, AV.snapL, ub_nil]
 have q1 : (vn ((b.take 12).drop 8) != ((b.length - 16 : Nat) : Int)) = false := by simpa using h1
 rw [if_neg (by rintro (h | h | h); exact h16 h; exact h h0; exact h h1)]
 by_cases h2 : vn (b.drop (b.length - 4)) = sumD (b.take (b.length - 4))
 case neg =>
  rw [if_pos h2]
  have q2 : (vn (b.drop (b.length - 4)) != sumD (b.take (b.length - 4))) = true := by simpa using h2
  refine PCall.intro Tryd.func33 rfl isf33 (by simp [Tryd.f33]) (by simp [AV.cloL, AV.clo]) fun E Q hE hN hQ => K_start ?_
  repeat' (first | apply nx | refine Kq_exit_ne (by decide) ?_ | rw [wrap64 (by omega) (by omega)] | ((first | refine hK _ ?_ | refine hKp _ _ ?_); clear hK hKp K Kp; try clear hanc anc) | ((with_reducible refine And.intro ?_ ?_); (focus (first | trivial | omega | (simp only [Fits]; omega) | assumption | (rw [hanc]; rfl)))) | ((first | refine K_regA hE fun K Kp hK hKp => ?_ | refine K_drwA false mixed hE fun K Kp hK hKp anc hanc => ?_ | ((first | apply CallP_mk | apply CallB_mk); (focus (simp only [go_sem] <;> rfl)); (focus (first | exact hc1 | exact hc2 | exact hc3 | exact hc4)); (focus (first | (simp [go_sem]; done) | (simp [go_sem, CloRow, AV.cells, AV.clo]; done))); (focus (first | exact .inl rfl | (right; simp [go_sem]))))); simp only [go_sem, q, q0, q1, q2, u0, u1, u2, u3, u4]) | ((first | refine onG_split_t (fun hg => ?_) (fun hg => ?_) | refine onG_split_f (fun hg => ?_) (fun hg => ?_)) <;> simp only [go_sem, q, q0, q1, q2, u0, u1, u2, u3, u4, hg]) | (refine K_condA (fun hc => ?_) (fun hc => ?_) <;> try (exact absurd hc (by decide))) | (refine K_ret ?_; refine (hQ _ ⟨_, by (try simp only [go_sem, ↓reduceIte, Nat.reduceEqDiff]); rfl, by simp [go_sem], ?_, by first | rfl | assumption⟩).1))
  simp [AV.snap, AV.snapL, ub_nil]
 rw [if_neg (by simpa using h2)]
 have q2 : (vn (b.drop (b.length - 4)) != sumD (b.take (b.length - 4))) = false := by simpa using h2
 refine PCall.intro Tryd.func33 rfl isf33 (by simp [Tryd.f33]) (by simp [AV.cloL, AV.clo]) fun E Q hE hN hQ => K_start ?_
 have hf : Fits (b.length - 4 - 12) 1 := by simp only [Fits]; omega
 repeat' (first | apply nx | refine Kq_exit_ne (by decide) ?_ | rw [wrap64 (by omega) (by omega)] | ((first | refine hK _ ?_ | refine hKp _ _ ?_); clear hK hKp K Kp; try clear hanc anc) | ((with_reducible refine And.intro ?_ ?_); (focus (first | trivial | omega | (simp only [Fits]; omega) | assumption | (rw [hanc]; rfl)))) | ((first | refine K_regA hE fun K Kp hK hKp => ?_ | refine K_drwA false mixed hE fun K Kp hK hKp anc hanc => ?_ | ((first | apply CallP_mk | apply CallB_mk); (focus (simp only [go_sem] <;> rfl)); (focus (first | exact hc1 | exact hc2 | exact hc3 | exact hc4)); (focus (first | (simp [go_sem]; done) | (simp [go_sem, CloRow, AV.cells, AV.clo]; done))); (focus (first | exact .inl rfl | (right; simp [go_sem]))))); simp only [go_sem, q, q0, q1, q2, u0, u1, u2, u3, u4]) | ((first | refine onG_split_t (fun hg => ?_) (fun hg => ?_) | refine onG_split_f (fun hg => ?_) (fun hg => ?_)) <;> simp only [go_sem, q, q0, q1, q2, u0, u1, u2, u3, u4, hg]) | (refine K_condA (fun hc => ?_) (fun hc => ?_) <;> try (exact absurd hc (by decide))) | (refine K_ret ?_; refine (hQ _ ⟨_, by (try simp only [go_sem, ↓reduceIte, Nat.reduceEqDiff]); rfl, by simp [go_sem], ?_, by first | rfl | assumption⟩).1))
 refine ⟨(by simpa using hf), ?_⟩
 repeat' (first | apply nx | refine Kq_exit_ne (by decide) ?_ | rw [wrap64 (by omega) (by omega)] | ((first | refine hK _ ?_ | refine hKp _ _ ?_); clear hK hKp K Kp; try clear hanc anc) | ((with_reducible refine And.intro ?_ ?_); (focus (first | trivial | omega | (simp only [Fits]; omega) | assumption | (rw [hanc]; rfl)))) | ((first | refine K_regA hE fun K Kp hK hKp => ?_ | refine K_drwA false mixed hE fun K Kp hK hKp anc hanc => ?_); simp only [go_sem]) | ((first | refine onG_split_t (fun hg => ?_) (fun hg => ?_) | refine onG_split_f (fun hg => ?_) (fun hg => ?_)) <;> simp only [go_sem, hg]) | (refine K_condA (fun hc => ?_) (fun hc => ?_) <;> try (exact absurd hc (by decide))) | (refine K_ret ?_; refine (hQ _ ⟨_, by (try simp only [go_sem, ↓reduceIte, Nat.reduceEqDiff]); rfl, by simp [go_sem], ?_, by first | rfl | assumption⟩).1))
 simp [AV.snap, AV.snapL, go_sem]
def fewB (l : List Fl) (b : List UInt8) : Bool := (l.take 420).all (fun f => decide (f.bs.length ≤ 300) && decide (f.nm.size ≤ 40)) && (decide (l.length ≤ 420) && decide (b.length ≤ 300))
theorem few_call (l : List Fl) (b : List UInt8) (hl : l.length ≤ 2 ^ 40) (hb : b.length ≤ 2 ^ 40) (hx : ∀ f, f ∈ l → f.bs.length ≤ 2 ^ 40 ∧ f.nm.size ≤ 2 ^ 40) : PCall Tryd.prog 10 [.sl (fl l), .sl (ub b)] (.bool (fewB l b)) := by
 unfold fewB
 refine PCall.intro Tryd.func10 rfl isf10 (by simp [Tryd.f10]) (by simp [AV.cloL, AV.clo]) fun E Q hE hN hQ => K_start ?_
 repeat' (first | apply nx | refine Kq_exit_ne (by decide) ?_ | rw [wrap64 (by omega) (by omega)] | ((first | refine hK _ ?_ | refine hKp _ _ ?_); clear hK hKp K Kp; try clear hanc anc) | ((with_reducible refine And.intro ?_ ?_); (focus (first | trivial | omega | (simp only [Fits]; omega) | assumption | (rw [hanc]; rfl)))) | ((first | refine K_regA hE fun K Kp hK hKp => ?_ | refine K_drwA false mixed hE fun K Kp hK hKp anc hanc => ?_); simp only [go_sem]) | ((first | refine onG_split_t (fun hg => ?_) (fun hg => ?_) | refine onG_split_f (fun hg => ?_) (fun hg => ?_)) <;> simp only [go_sem, hg]) | (refine K_condA (fun hc => ?_) (fun hc => ?_) <;> try (exact absurd hc (by decide))) | (refine K_ret ?_; refine (hQ _ ⟨_, by (try simp only [go_sem, ↓reduceIte, Nat.reduceEqDiff]); rfl, by simp [go_sem], ?_, by first | rfl | assumption⟩).1))
 refine K_loop (X := Nat) (fun i => i ≤ l.length ∧ i ≤ 420 ∧ (l.take i).all (fun f => decide (f.bs.length ≤ 300) && decide (f.nm.size ≤ 40)) = true) (fun i => mkSt [(0, .sl (fl l)), (1, .sl (ub b)), (5, AV.i i)] [] 0) (fun i => l.length - i) 0 ⟨Nat.zero_le _, Nat.zero_le _, rfl⟩ (fun i => i) (by refine ent_mk (by simp [go_sem]) (by simp [go_sem]) (by simp) (by simp [hN])) ?_
 rintro i ⟨hi, hi2, ha⟩
 have key : (i = l.length ∨ i = 420) → (l.take 420).all (fun f => decide (f.bs.length ≤ 300) && decide (f.nm.size ≤ 40)) = true := by
  rintro (rfl | rfl)
  ·rw [List.take_length] at ha
   exact List.all_eq_true.2 fun x hx => List.all_eq_true.1 ha x (List.mem_of_mem_take hx)
  ·exact ha
 by_cases hlt : i < l.length
 ·by_cases hlt2 : i < 420
  ·obtain ⟨f, hf⟩ := get?_of hlt
   obtain ⟨g1, g2⟩ := hx f (List.mem_of_getElem? hf)
   have q0 : decide ((i : Int) < 420) = true := decide_eq_true (by omega)
   by_cases h1 : f.bs.length ≤ 300 ∧ f.nm.size ≤ 40
   ·have q1 : decide ((f.bs.length : Int) > 300) = false := decide_eq_false (by omega)
    have q2 : decide ((f.nm.size : Int) > 40) = false := decide_eq_false (by omega)
    repeat' (first | apply nx | refine Kq_exit_ne (by decide) ?_ | rw [wrap64 (by omega) (by omega)] | ((first | refine hK _ ?_ | refine hKp _ _ ?_); clear hK hKp K Kp; try clear hanc anc) | ((with_reducible refine And.intro ?_ ?_); (focus (first | trivial | omega | (simp only [Fits]; omega) | assumption | (rw [hanc]; rfl)))) | ((first | refine K_regA hE fun K Kp hK hKp => ?_ | refine K_drwA false mixed hE fun K Kp hK hKp anc hanc => ?_); simp only [go_sem, lt_dec hlt, q0, hf, q1, q2, Fl.av_eq]) | ((first | refine onG_split_t (fun hg => ?_) (fun hg => ?_) | refine onG_split_f (fun hg => ?_) (fun hg => ?_)) <;> simp only [go_sem, lt_dec hlt, q0, hf, q1, q2, Fl.av_eq, hg]) | (refine K_condA (fun hc => ?_) (fun hc => ?_) <;> try (exact absurd hc (by decide))) | (refine K_ret ?_; refine (hQ _ ⟨_, by (try simp only [go_sem, ↓reduceIte, Nat.reduceEqDiff]); rfl, by simp [go_sem], ?_, by first | rfl | assumption⟩).1))
    refine ⟨i + 1, ⟨by omega, by omega, ?_⟩, by omega, fun i => i, by refine ent_mk (by simp [go_sem]) (by simp [go_sem]) (by simp) (by simp [hN])⟩
    rw [take_get hf, List.all_append, ha]
    simp [h1.1, h1.2]
   ·have e : (l.take 420).all (fun f => decide (f.bs.length ≤ 300) && decide (f.nm.size ≤ 40)) = false := by
     cases h : (l.take 420).all (fun f => decide (f.bs.length ≤ 300) && decide (f.nm.size ≤ 40))
     ·rfl
     ·exfalso
      have := List.all_eq_true.1 h f (List.mem_of_getElem? (i := i) (by rw [List.getElem?_take, if_pos hlt2]; exact hf))
      simp only [Bool.and_eq_true, decide_eq_true_eq] at this
      exact h1 this
    rw [e] at hQ
    by_cases g3 : f.bs.length ≤ 300
    ·have q1 : decide ((f.bs.length : Int) > 300) = false := decide_eq_false (by omega)
     have q2 : decide ((f.nm.size : Int) > 40) = true := decide_eq_true (by omega)
     repeat' (first | apply nx | refine Kq_exit_ne (by decide) ?_ | rw [wrap64 (by omega) (by omega)] | ((first | refine hK _ ?_ | refine hKp _ _ ?_); clear hK hKp K Kp; try clear hanc anc) | ((with_reducible refine And.intro ?_ ?_); (focus (first | trivial | omega | (simp only [Fits]; omega) | assumption | (rw [hanc]; rfl)))) | ((first | refine K_regA hE fun K Kp hK hKp => ?_ | refine K_drwA false mixed hE fun K Kp hK hKp anc hanc => ?_); simp only [go_sem, lt_dec hlt, q0, hf, q1, q2, Fl.av_eq]) | ((first | refine onG_split_t (fun hg => ?_) (fun hg => ?_) | refine onG_split_f (fun hg => ?_) (fun hg => ?_)) <;> simp only [go_sem, lt_dec hlt, q0, hf, q1, q2, Fl.av_eq, hg]) | (refine K_condA (fun hc => ?_) (fun hc => ?_) <;> try (exact absurd hc (by decide))) | (refine K_ret ?_; refine (hQ _ ⟨_, by (try simp only [go_sem, ↓reduceIte, Nat.reduceEqDiff]); rfl, by simp [go_sem], ?_, by first | rfl | assumption⟩).1))
     simp [AV.snap]
    ·have q1 : decide ((f.bs.length : Int) > 300) = true := decide_eq_true (by omega)
     repeat' (first | apply nx | refine Kq_exit_ne (by decide) ?_ | rw [wrap64 (by omega) (by omega)] | ((first | refine hK _ ?_ | refine hKp _ _ ?_); clear hK hKp K Kp; try clear hanc anc) | ((with_reducible refine And.intro ?_ ?_); (focus (first | trivial | omega | (simp only [Fits]; omega) | assumption | (rw [hanc]; rfl)))) | ((first | refine K_regA hE fun K Kp hK hKp => ?_ | refine K_drwA false mixed hE fun K Kp hK hKp anc hanc => ?_); simp only [go_sem, lt_dec hlt, q0, hf, q1, Fl.av_eq]) | ((first | refine onG_split_t (fun hg => ?_) (fun hg => ?_) | refine onG_split_f (fun hg => ?_) (fun hg => ?_)) <;> simp only [go_sem, lt_dec hlt, q0, hf, q1, Fl.av_eq, hg]) | (refine K_condA (fun hc => ?_) (fun hc => ?_) <;> try (exact absurd hc (by decide))) | (refine K_ret ?_; refine (hQ _ ⟨_, by (try simp only [go_sem, ↓reduceIte, Nat.reduceEqDiff]); rfl, by simp [go_sem], ?_, by first | rfl | assumption⟩).1))
     simp [AV.snap]
  ·have q0 : decide ((i : Int) < 420) = false := decide_eq_false (by omega)
   have q1 : decide ((l.length : Int) ≤ 420) = false := decide_eq_false (by omega)
   have e : decide (l.length ≤ 420) = false := decide_eq_false (by omega)
   rw [key (.inr (by omega)), e] at hQ
   repeat' (first | apply nx | refine Kq_exit_ne (by decide) ?_ | rw [wrap64 (by omega) (by omega)] | ((first | refine hK _ ?_ | refine hKp _ _ ?_); clear hK hKp K Kp; try clear hanc anc) | ((with_reducible refine And.intro ?_ ?_); (focus (first | trivial | omega | (simp only [Fits]; omega) | assumption | (rw [hanc]; rfl)))) | ((first | refine K_regA hE fun K Kp hK hKp => ?_ | refine K_drwA false mixed hE fun K Kp hK hKp anc hanc => ?_); simp only [go_sem, lt_dec hlt, q0, q1]) | ((first | refine onG_split_t (fun hg => ?_) (fun hg => ?_) | refine onG_split_f (fun hg => ?_) (fun hg => ?_)) <;> simp only [go_sem, lt_dec hlt, q0, q1, hg]) | (refine K_condA (fun hc => ?_) (fun hc => ?_) <;> try (exact absurd hc (by decide))) | (refine K_ret ?_; refine (hQ _ ⟨_, by (try simp only [go_sem, ↓reduceIte, Nat.reduceEqDiff]); rfl, by simp [go_sem], ?_, by first | rfl | assumption⟩).1))
   simp [AV.snap]
 ·obtain rfl : i = l.length := by omega
  have q1 : decide ((l.length : Int) ≤ 420) = true := decide_eq_true (by omega)
  have e : decide (l.length ≤ 420) = true := decide_eq_true (by omega)
  have e2 : decide ((b.length : Int) ≤ 300) = decide (b.length ≤ 300) := by rw [decide_eq_decide]; omega
  rw [key (.inl rfl), e, ← e2] at hQ
  repeat' (first | apply nx | refine Kq_exit_ne (by decide) ?_ | rw [wrap64 (by omega) (by omega)] | ((first | refine hK _ ?_ | refine hKp _ _ ?_); clear hK hKp K Kp; try clear hanc anc) | ((with_reducible refine And.intro ?_ ?_); (focus (first | trivial | omega | (simp only [Fits]; omega) | assumption | (rw [hanc]; rfl)))) | ((first | refine K_regA hE fun K Kp hK hKp => ?_ | refine K_drwA false mixed hE fun K Kp hK hKp anc hanc => ?_); simp only [go_sem, ge_dec, q1]) | ((first | refine onG_split_t (fun hg => ?_) (fun hg => ?_) | refine onG_split_f (fun hg => ?_) (fun hg => ?_)) <;> simp only [go_sem, ge_dec, q1, hg]) | (refine K_condA (fun hc => ?_) (fun hc => ?_) <;> try (exact absurd hc (by decide))) | (refine K_ret ?_; refine (hQ _ ⟨_, by (try simp only [go_sem, ↓reduceIte, Nat.reduceEqDiff]); rfl, by simp [go_sem], ?_, by first | rfl | assumption⟩).1))
  simp [AV.snap]
end Go.Proofs.YtfiehjbijdmbaaaDoor

set_option linter.unusedSimpArgs false
set_option linter.unusedVariables false
set_option maxHeartbeats 4000000
set_option maxRecDepth 100000
namespace Go.Proofs.YtfiehjbijdmbaaaDoor
open Nat (reduceAdd reduceMul reduceEqDiff reduceLT reduceLeDiff reduceSub reduceDiv)
open Int (reduceBNe reduceLE reduceEq)
open Go.Am Go.Proofs Go.Ca
open Classical
attribute [local irreducible] AW CallP CallB
theorem same_call (a b : List Fl) (ha : a.length ≤ 2 ^ 40) (hb : b.length ≤ 2 ^ 40) : PCall Tryd.prog 17 [.sl (fl a), .sl (fl b)] (.bool (decide (a = b))) := by
 refine PCall.intro Tryd.func17 rfl isf17 (by simp [Tryd.f17]) (by simp [AV.cloL, AV.clo]) fun E Q hE hN hQ => K_start ?_
 by_cases hl : a.length = b.length
 ·have q0 : ((a.length : Int) != (b.length : Int)) = false := by simp [hl]
  repeat' (first | apply nx | refine Kq_exit_ne (by decide) ?_ | rw [wrap64 (by omega) (by omega)] | ((first | refine hK _ ?_ | refine hKp _ _ ?_); clear hK hKp K Kp; try clear hanc anc) | ((with_reducible refine And.intro ?_ ?_); (focus (first | trivial | omega | (simp only [Fits]; omega) | assumption | (rw [hanc]; rfl)))) | ((first | refine K_regA hE fun K Kp hK hKp => ?_ | refine K_drwA false mixed hE fun K Kp hK hKp anc hanc => ?_); simp only [go_sem, q0]) | ((first | refine onG_split_t (fun hg => ?_) (fun hg => ?_) | refine onG_split_f (fun hg => ?_) (fun hg => ?_)) <;> simp only [go_sem, q0, hg]) | (refine K_condA (fun hc => ?_) (fun hc => ?_) <;> try (exact absurd hc (by decide))) | (refine K_ret ?_; refine (hQ _ ⟨_, by (try simp only [go_sem, ↓reduceIte, Nat.reduceEqDiff]); rfl, by simp [go_sem], ?_, by first | rfl | assumption⟩).1))
  refine K_loop (X := Nat) (fun i => i ≤ a.length ∧ decide (a = b) = decide (a.drop i = b.drop i)) (fun i => mkSt [(0, .sl (fl a)), (1, .sl (fl b)), (5, AV.i i)] [] 0) (fun i => a.length - i) 0 ⟨Nat.zero_le _, rfl⟩ (fun i => i) (by refine ent_mk (by simp [go_sem]) (by simp [go_sem]) (by simp) (by simp [hN])) ?_
  rintro i ⟨hi, ht⟩
  by_cases hlt : i < a.length
  ·obtain ⟨x, hx⟩ := get?_of hlt
   obtain ⟨y, hy⟩ := get?_of (show i < b.length by omega)
   rw [drop_of hx, drop_of hy] at ht
   have q1 := ba_eqB x.nm y.nm
   by_cases hxy : x.nm = y.nm
   ·rw [decide_eq_true hxy] at q1
    by_cases hxz : x.bs = y.bs
    ·have q2 : decide (x.bs = y.bs) = true := decide_eq_true hxz
     have e : x = y := by cases x; cases y; simp_all
     repeat' (first | apply nx | refine Kq_exit_ne (by decide) ?_ | rw [wrap64 (by omega) (by omega)] | ((first | refine hK _ ?_ | refine hKp _ _ ?_); clear hK hKp K Kp; try clear hanc anc) | ((with_reducible refine And.intro ?_ ?_); (focus (first | trivial | omega | (simp only [Fits]; omega) | assumption | (rw [hanc]; rfl)))) | ((first | refine K_regA hE fun K Kp hK hKp => ?_ | refine K_drwA false mixed hE fun K Kp hK hKp anc hanc => ?_); simp only [go_sem, lt_dec hlt, hx, hy, q1, q2, Fl.av_eq]) | ((first | refine onG_split_t (fun hg => ?_) (fun hg => ?_) | refine onG_split_f (fun hg => ?_) (fun hg => ?_)) <;> simp only [go_sem, lt_dec hlt, hx, hy, q1, q2, Fl.av_eq, hg]) | (refine K_condA (fun hc => ?_) (fun hc => ?_) <;> try (exact absurd hc (by decide))) | (refine K_ret ?_; refine (hQ _ ⟨_, by (try simp only [go_sem, ↓reduceIte, Nat.reduceEqDiff]); rfl, by simp [go_sem], ?_, by first | rfl | assumption⟩).1))
     exact ⟨i + 1, ⟨by omega, by rw [ht]; simp [e]⟩, by omega, fun i => i, by refine ent_mk (by simp [go_sem]) (by simp [go_sem]) (by simp) (by simp [hN])⟩
    ·have q2 : decide (x.bs = y.bs) = false := decide_eq_false hxz
     have e : x ≠ y := by rintro rfl; exact hxz rfl
     repeat' (first | apply nx | refine Kq_exit_ne (by decide) ?_ | rw [wrap64 (by omega) (by omega)] | ((first | refine hK _ ?_ | refine hKp _ _ ?_); clear hK hKp K Kp; try clear hanc anc) | ((with_reducible refine And.intro ?_ ?_); (focus (first | trivial | omega | (simp only [Fits]; omega) | assumption | (rw [hanc]; rfl)))) | ((first | refine K_regA hE fun K Kp hK hKp => ?_ | refine K_drwA false mixed hE fun K Kp hK hKp anc hanc => ?_); simp only [go_sem, lt_dec hlt, hx, hy, q1, q2, Fl.av_eq]) | ((first | refine onG_split_t (fun hg => ?_) (fun hg => ?_) | refine onG_split_f (fun hg => ?_) (fun hg => ?_)) <;> simp only [go_sem, lt_dec hlt, hx, hy, q1, q2, Fl.av_eq, hg]) | (refine K_condA (fun hc => ?_) (fun hc => ?_) <;> try (exact absurd hc (by decide))) | (refine K_ret ?_; refine (hQ _ ⟨_, by (try simp only [go_sem, ↓reduceIte, Nat.reduceEqDiff]); rfl, by simp [go_sem], ?_, by first | rfl | assumption⟩).1))
     simp [AV.snap, ht, e]
   ·rw [decide_eq_false hxy] at q1
    have e : x ≠ y := by rintro rfl; exact hxy rfl
    repeat' (first | apply nx | refine Kq_exit_ne (by decide) ?_ | rw [wrap64 (by omega) (by omega)] | ((first | refine hK _ ?_ | refine hKp _ _ ?_); clear hK hKp K Kp; try clear hanc anc) | ((with_reducible refine And.intro ?_ ?_); (focus (first | trivial | omega | (simp only [Fits]; omega) | assumption | (rw [hanc]; rfl)))) | ((first | refine K_regA hE fun K Kp hK hKp => ?_ | refine K_drwA false mixed hE fun K Kp hK hKp anc hanc => ?_); simp only [go_sem, lt_dec hlt, hx, hy, q1, Fl.av_eq]) | ((first | refine onG_split_t (fun hg => ?_) (fun hg => ?_) | refine onG_split_f (fun hg => ?_) (fun hg => ?_)) <;> simp only [go_sem, lt_dec hlt, hx, hy, q1, Fl.av_eq, hg]) | (refine K_condA (fun hc => ?_) (fun hc => ?_) <;> try (exact absurd hc (by decide))) | (refine K_ret ?_; refine (hQ _ ⟨_, by (try simp only [go_sem, ↓reduceIte, Nat.reduceEqDiff]); rfl, by simp [go_sem], ?_, by first | rfl | assumption⟩).1))
    simp [AV.snap, ht, e]
  ·obtain rfl : i = a.length := by omega
   rw [List.drop_length, hl, List.drop_length] at ht
   repeat' (first | apply nx | refine Kq_exit_ne (by decide) ?_ | rw [wrap64 (by omega) (by omega)] | ((first | refine hK _ ?_ | refine hKp _ _ ?_); clear hK hKp K Kp; try clear hanc anc) | ((with_reducible refine And.intro ?_ ?_); (focus (first | trivial | omega | (simp only [Fits]; omega) | assumption | (rw [hanc]; rfl)))) | ((first | refine K_regA hE fun K Kp hK hKp => ?_ | refine K_drwA false mixed hE fun K Kp hK hKp anc hanc => ?_); simp only [go_sem, ge_dec]) | ((first | refine onG_split_t (fun hg => ?_) (fun hg => ?_) | refine onG_split_f (fun hg => ?_) (fun hg => ?_)) <;> simp only [go_sem, ge_dec, hg]) | (refine K_condA (fun hc => ?_) (fun hc => ?_) <;> try (exact absurd hc (by decide))) | (refine K_ret ?_; refine (hQ _ ⟨_, by (try simp only [go_sem, ↓reduceIte, Nat.reduceEqDiff]); rfl, by simp [go_sem], ?_, by first | rfl | assumption⟩).1))
   simp [AV.snap, ht]
 ·have q0 : ((a.length : Int) != (b.length : Int)) = true := by simp; omega
  repeat' (first | apply nx | refine Kq_exit_ne (by decide) ?_ | rw [wrap64 (by omega) (by omega)] | ((first | refine hK _ ?_ | refine hKp _ _ ?_); clear hK hKp K Kp; try clear hanc anc) | ((with_reducible refine And.intro ?_ ?_); (focus (first | trivial | omega | (simp only [Fits]; omega) | assumption | (rw [hanc]; rfl)))) | ((first | refine K_regA hE fun K Kp hK hKp => ?_ | refine K_drwA false mixed hE fun K Kp hK hKp anc hanc => ?_); simp only [go_sem, q0]) | ((first | refine onG_split_t (fun hg => ?_) (fun hg => ?_) | refine onG_split_f (fun hg => ?_) (fun hg => ?_)) <;> simp only [go_sem, q0, hg]) | (refine K_condA (fun hc => ?_) (fun hc => ?_) <;> try (exact absurd hc (by decide))) | (refine K_ret ?_; refine (hQ _ ⟨_, by (try simp only [go_sem, ↓reduceIte, Nat.reduceEqDiff]); rfl, by simp [go_sem], ?_, by first | rfl | assumption⟩).1))
  have : a ≠ b := by rintro rfl; exact hl rfl
  simp [AV.snap, this]
theorem trim_call (l : List Fl) (n : Int) (hl : l.length ≤ 2 ^ 30) : PCall Tryd.prog 18 [.sl (fl l), .i n] (.sl (fl (trimR l n))) := by
 have u : IntKind.i64.wrap ((l.length : Int) - min (l.length : Int) (max 0 n)) = ((l.length - (min (l.length : Int) (max 0 n)).toNat : Nat) : Int) := by rw [wrap64 (by omega) (by omega)]; omega
 have hc0 := cloneF_call (trimR l n) (by simp [trimR]; omega)
 unfold trimR at hc0 ⊢
 generalize hm : l.length - (min (l.length : Int) (max 0 n)).toNat = m at *
 have hml : m ≤ l.length := by omega
 refine PCall.intro Tryd.func18 rfl isf18 (by simp [Tryd.f18]) (by simp [AV.cloL, AV.clo]) fun E Q hE hN hQ => K_start ?_
 repeat' (first | apply nx | refine Kq_exit_ne (by decide) ?_ | rw [wrap64 (by omega) (by omega)] | ((first | refine hK _ ?_ | refine hKp _ _ ?_); clear hK hKp K Kp; try clear hanc anc) | ((with_reducible refine And.intro ?_ ?_); (focus (first | trivial | omega | (simp only [Fits]; omega) | assumption | (rw [hanc]; rfl)))) | ((first | refine K_regA hE fun K Kp hK hKp => ?_ | refine K_drwA false mixed hE fun K Kp hK hKp anc hanc => ?_ | ((first | apply CallP_mk | apply CallB_mk); (focus (simp only [go_sem] <;> rfl)); (focus (exact hc0)); (focus (first | (simp [go_sem]; done) | (simp [go_sem, CloRow, AV.cells, AV.clo]; done))); (focus (first | exact .inl rfl | (right; simp [go_sem]))))); simp only [go_sem, u]) | ((first | refine onG_split_t (fun hg => ?_) (fun hg => ?_) | refine onG_split_f (fun hg => ?_) (fun hg => ?_)) <;> simp only [go_sem, u, hg]) | (refine K_condA (fun hc => ?_) (fun hc => ?_) <;> try (exact absurd hc (by decide))) | (refine K_ret ?_; refine (hQ _ ⟨_, by (try simp only [go_sem, ↓reduceIte, Nat.reduceEqDiff]); rfl, by simp [go_sem], ?_, by first | rfl | assumption⟩).1))
 simp [AV.snap]
theorem rtrim_call (l : List Fl) (n : Int) (hl : l.length ≤ 2 ^ 30) : PCall Tryd.prog 19 [.sl (fl l), .i n] (.sl (fl (trimR l n))) := by
 have e : max 0 (min n (l.length : Int)) = min (l.length : Int) (max 0 n) := by omega
 have u : IntKind.i64.wrap ((l.length : Int) - min (l.length : Int) (max 0 n)) = ((l.length - (min (l.length : Int) (max 0 n)).toNat : Nat) : Int) := by rw [wrap64 (by omega) (by omega)]; omega
 unfold trimR
 generalize hm : l.length - (min (l.length : Int) (max 0 n)).toNat = m at *
 have hml : m ≤ l.length := by omega
 have hf : Fits (0 + (l.drop m).length) 40 := by simp only [Fits, List.length_drop]; omega
 refine PCall.intro Tryd.func19 rfl isf19 (by simp [Tryd.f19]) (by simp [AV.cloL, AV.clo]) fun E Q hE hN hQ => K_start ?_
 repeat' (first | apply nx | refine Kq_exit_ne (by decide) ?_ | rw [wrap64 (by omega) (by omega)] | ((first | refine hK _ ?_ | refine hKp _ _ ?_); clear hK hKp K Kp; try clear hanc anc) | ((with_reducible refine And.intro ?_ ?_); (focus (first | trivial | omega | (simp only [Fits]; omega) | assumption | (rw [hanc]; rfl)))) | ((first | refine K_regA hE fun K Kp hK hKp => ?_ | refine K_drwA false mixed hE fun K Kp hK hKp anc hanc => ?_); simp only [go_sem, u, e]) | ((first | refine onG_split_t (fun hg => ?_) (fun hg => ?_) | refine onG_split_f (fun hg => ?_) (fun hg => ?_)) <;> simp only [go_sem, u, e, hg]) | (refine K_condA (fun hc => ?_) (fun hc => ?_) <;> try (exact absurd hc (by decide))) | (refine K_ret ?_; refine (hQ _ ⟨_, by (try simp only [go_sem, ↓reduceIte, Nat.reduceEqDiff]); rfl, by simp [go_sem], ?_, by first | rfl | assumption⟩).1))
 simp [AV.snap, go_sem]
theorem entry_call (l : List Fl) (k : Int) (hl : l.length ≤ 2 ^ 40) (h1 : -9223372036854775808 ≤ k) (h2 : k ≤ 9223372036854775807) : PCall Tryd.prog 32 [.sl (fl l), .i k] (.i (lastI l k)) := by
 have hc0 := rname_call k h1 h2
 have u0 : IntKind.i64.wrap ((l.length : Int) - 1) = (l.length : Int) - 1 := wrap64 (by omega) (by omega)
 refine PCall.intro Tryd.func32 rfl isf32 (by simp [Tryd.f32]) (by simp [AV.cloL, AV.clo]) fun E Q hE hN hQ => K_start ?_
 repeat' (first | apply nx | refine Kq_exit_ne (by decide) ?_ | rw [wrap64 (by omega) (by omega)] | ((first | refine hK _ ?_ | refine hKp _ _ ?_); clear hK hKp K Kp; try clear hanc anc) | ((with_reducible refine And.intro ?_ ?_); (focus (first | trivial | omega | (simp only [Fits]; omega) | assumption | (rw [hanc]; rfl)))) | ((first | refine K_regA hE fun K Kp hK hKp => ?_ | refine K_drwA false mixed hE fun K Kp hK hKp anc hanc => ?_); simp only [go_sem, u0]) | ((first | refine onG_split_t (fun hg => ?_) (fun hg => ?_) | refine onG_split_f (fun hg => ?_) (fun hg => ?_)) <;> simp only [go_sem, u0, hg]) | (refine K_condA (fun hc => ?_) (fun hc => ?_) <;> try (exact absurd hc (by decide))) | (refine K_ret ?_; refine (hQ _ ⟨_, by (try simp only [go_sem, ↓reduceIte, Nat.reduceEqDiff]); rfl, by simp [go_sem], ?_, by first | rfl | assumption⟩).1))
 refine K_loop (X := Nat) (fun j => j ≤ l.length ∧ lastN l k l.length = lastN l k j) (fun j => mkSt [(0, .sl (fl l)), (1, .i k), (5, .i ((j : Int) - 1))] [] 0) (fun j => j) l.length ⟨Nat.le_refl _, rfl⟩ (fun i => i) (by refine ent_mk (by simp [go_sem]) (by simp [go_sem]) (by simp) (by simp [hN])) ?_
 rintro j ⟨hj, ht⟩
 cases j with
 | zero =>
  have q : decide (((0 : Nat) : Int) - 1 ≥ 0) = false := by simp
  repeat' (first | apply nx | refine Kq_exit_ne (by decide) ?_ | rw [wrap64 (by omega) (by omega)] | ((first | refine hK _ ?_ | refine hKp _ _ ?_); clear hK hKp K Kp; try clear hanc anc) | ((with_reducible refine And.intro ?_ ?_); (focus (first | trivial | omega | (simp only [Fits]; omega) | assumption | (rw [hanc]; rfl)))) | ((first | refine K_regA hE fun K Kp hK hKp => ?_ | refine K_drwA false mixed hE fun K Kp hK hKp anc hanc => ?_); simp only [go_sem, q]) | ((first | refine onG_split_t (fun hg => ?_) (fun hg => ?_) | refine onG_split_f (fun hg => ?_) (fun hg => ?_)) <;> simp only [go_sem, q, hg]) | (refine K_condA (fun hc => ?_) (fun hc => ?_) <;> try (exact absurd hc (by decide))) | (refine K_ret ?_; refine (hQ _ ⟨_, by (try simp only [go_sem, ↓reduceIte, Nat.reduceEqDiff]); rfl, by simp [go_sem], ?_, by first | rfl | assumption⟩).1))
  simp [AV.snap, lastI, ht, lastN]
 | succ m =>
  have e0 : ((m + 1 : Nat) : Int) - 1 = (m : Int) := by omega
  have q : decide ((m : Int) ≥ 0) = true := by simp
  have u5 : IntKind.i64.wrap ((m : Int) - 1) = (m : Int) - 1 := wrap64 (by omega) (by omega)
  obtain ⟨f, hf⟩ := get?_of (show m < l.length by omega)
  have q1 := ba_eqB f.nm (nm k)
  rw [lastN, hf] at ht
  by_cases hn : f.nm = nm k
  ·rw [decide_eq_true hn] at q1
   rw [if_pos (by simp [hn])] at ht
   repeat' (first | apply nx | refine Kq_exit_ne (by decide) ?_ | rw [wrap64 (by omega) (by omega)] | ((first | refine hK _ ?_ | refine hKp _ _ ?_); clear hK hKp K Kp; try clear hanc anc) | ((with_reducible refine And.intro ?_ ?_); (focus (first | trivial | omega | (simp only [Fits]; omega) | assumption | (rw [hanc]; rfl)))) | ((first | refine K_regA hE fun K Kp hK hKp => ?_ | refine K_drwA false mixed hE fun K Kp hK hKp anc hanc => ?_ | ((first | apply CallP_mk | apply CallB_mk); (focus (simp only [go_sem] <;> rfl)); (focus (exact hc0)); (focus (first | (simp [go_sem]; done) | (simp [go_sem, CloRow, AV.cells, AV.clo]; done))); (focus (first | exact .inl rfl | (right; simp [go_sem]))))); simp only [go_sem, e0, q, hf, q1, Fl.av_eq]) | ((first | refine onG_split_t (fun hg => ?_) (fun hg => ?_) | refine onG_split_f (fun hg => ?_) (fun hg => ?_)) <;> simp only [go_sem, e0, q, hf, q1, Fl.av_eq, hg]) | (refine K_condA (fun hc => ?_) (fun hc => ?_) <;> try (exact absurd hc (by decide))) | (refine K_ret ?_; refine (hQ _ ⟨_, by (try simp only [go_sem, ↓reduceIte, Nat.reduceEqDiff]); rfl, by simp [go_sem], ?_, by first | rfl | assumption⟩).1))
   simp [AV.snap, lastI, ht]
  ·rw [decide_eq_false hn] at q1
   rw [if_neg (by simpa using hn)] at ht
   repeat' (first | apply nx | refine Kq_exit_ne (by decide) ?_ | rw [wrap64 (by omega) (by omega)] | ((first | refine hK _ ?_ | refine hKp _ _ ?_); clear hK hKp K Kp; try clear hanc anc) | ((with_reducible refine And.intro ?_ ?_); (focus (first | trivial | omega | (simp only [Fits]; omega) | assumption | (rw [hanc]; rfl)))) | ((first | refine K_regA hE fun K Kp hK hKp => ?_ | refine K_drwA false mixed hE fun K Kp hK hKp anc hanc => ?_ | ((first | apply CallP_mk | apply CallB_mk); (focus (simp only [go_sem] <;> rfl)); (focus (exact hc0)); (focus (first | (simp [go_sem]; done) | (simp [go_sem, CloRow, AV.cells, AV.clo]; done))); (focus (first | exact .inl rfl | (right; simp [go_sem]))))); simp only [go_sem, e0, q, hf, q1, Fl.av_eq, u5]) | ((first | refine onG_split_t (fun hg => ?_) (fun hg => ?_) | refine onG_split_f (fun hg => ?_) (fun hg => ?_)) <;> simp only [go_sem, e0, q, hf, q1, Fl.av_eq, u5, hg]) | (refine K_condA (fun hc => ?_) (fun hc => ?_) <;> try (exact absurd hc (by decide))) | (refine K_ret ?_; refine (hQ _ ⟨_, by (try simp only [go_sem, ↓reduceIte, Nat.reduceEqDiff]); rfl, by simp [go_sem], ?_, by first | rfl | assumption⟩).1))
   exact ⟨m, ⟨by omega, ht⟩, by omega, fun i => i, by refine ent_mk (by simp [go_sem]) (by simp [go_sem]) (by simp) (by simp [hN])⟩
def rgetR (l : List Fl) (k : Int) : List UInt8 × Int :=
 match lastN l k l.length with
 | none => ([], 20)
 | some i => bodyR (l.getD i default).bs k
theorem lastN_lt {l : List Fl} {k : Int} : ∀ {n i : Nat}, lastN l k n = some i → i < n ∧ i < l.length ∧ (l.getD i default).nm = nm k
 | 0, i, h => by cases h
 | n + 1, i, h => by
  rw [lastN] at h
  split at h
  ·rename_i hh
   cases h
   cases hf : l[n]? with
   | none => rw [hf] at hh; cases hh
   | some f =>
    rw [hf] at hh
    have := (List.getElem?_eq_some_iff.1 hf).1
    refine ⟨Nat.lt_succ_self n, this, ?_⟩
    rw [List.getD_eq_getElem?_getD, hf]
    simpa using hh
  ·obtain ⟨a, b⟩ := lastN_lt h
   exact ⟨by omega, b⟩
theorem rget_call (l : List Fl) (k : Int) (hl : l.length ≤ 2 ^ 40) (hx : ∀ f, f ∈ l → f.bs.length ≤ 2 ^ 30) (h1 : -9223372036854775808 ≤ k) (h2 : k ≤ 9223372036854775807) : PCall Tryd.prog 14 [.sl (fl l), .i k] (.tup [.sl (ub (rgetR l k).1), .i (rgetR l k).2]) := by
 have hc0 := entry_call l k hl h1 h2
 unfold rgetR
 unfold lastI at hc0
 cases hi : lastN l k l.length with
 | none =>
  rw [hi] at hc0
  have q : decide ((-1 : Int) < 0) = true := by decide
  refine PCall.intro Tryd.func14 rfl isf14 (by simp [Tryd.f14]) (by simp [AV.cloL, AV.clo]) fun E Q hE hN hQ => K_start ?_
  repeat' (first | apply nx | refine Kq_exit_ne (by decide) ?_ | rw [wrap64 (by omega) (by omega)] | ((first | refine hK _ ?_ | refine hKp _ _ ?_); clear hK hKp K Kp; try clear hanc anc) | ((with_reducible refine And.intro ?_ ?_); (focus (first | trivial | omega | (simp only [Fits]; omega) | assumption | (rw [hanc]; rfl)))) | ((first | refine K_regA hE fun K Kp hK hKp => ?_ | refine K_drwA false mixed hE fun K Kp hK hKp anc hanc => ?_ | ((first | apply CallP_mk | apply CallB_mk); (focus (simp only [go_sem] <;> rfl)); (focus (exact hc0)); (focus (first | (simp [go_sem]; done) | (simp [go_sem, CloRow, AV.cells, AV.clo]; done))); (focus (first | exact .inl rfl | (right; simp [go_sem]))))); simp only [go_sem, q]) | ((first | refine onG_split_t (fun hg => ?_) (fun hg => ?_) | refine onG_split_f (fun hg => ?_) (fun hg => ?_)) <;> simp only [go_sem, q, hg]) | (refine K_condA (fun hc => ?_) (fun hc => ?_) <;> try (exact absurd hc (by decide))) | (refine K_ret ?_; refine (hQ _ ⟨_, by (try simp only [go_sem, ↓reduceIte, Nat.reduceEqDiff]); rfl, by simp [go_sem], ?_, by first | rfl | assumption⟩).1))
  simp [AV.snap, AV.snapL, ub_nil]
 | some i =>
  rw [hi] at hc0
  obtain ⟨_, hlt, _⟩ := lastN_lt hi
  obtain ⟨f, hf⟩ := get?_of hlt
  have hg : l.getD i default = f := by rw [List.getD_eq_getElem?_getD, hf]; rfl
  have hc1 := body_call f.bs k (hx f (List.mem_of_getElem? hf))
  have q : decide ((i : Int) < 0) = false := by simp
  simp only [hg]
  refine PCall.intro Tryd.func14 rfl isf14 (by simp [Tryd.f14]) (by simp [AV.cloL, AV.clo]) fun E Q hE hN hQ => K_start ?_
  repeat' (first | apply nx | refine Kq_exit_ne (by decide) ?_ | rw [wrap64 (by omega) (by omega)] | ((first | refine hK _ ?_ | refine hKp _ _ ?_); clear hK hKp K Kp; try clear hanc anc) | ((with_reducible refine And.intro ?_ ?_); (focus (first | trivial | omega | (simp only [Fits]; omega) | assumption | (rw [hanc]; rfl)))) | ((first | refine K_regA hE fun K Kp hK hKp => ?_ | refine K_drwA false mixed hE fun K Kp hK hKp anc hanc => ?_ | ((first | apply CallP_mk | apply CallB_mk); (focus (simp only [go_sem] <;> rfl)); (focus (first | exact hc0 | exact hc1)); (focus (first | (simp [go_sem]; done) | (simp [go_sem, CloRow, AV.cells, AV.clo]; done))); (focus (first | exact .inl rfl | (right; simp [go_sem]))))); simp only [go_sem, q, hf, Fl.av_eq]) | ((first | refine onG_split_t (fun hg => ?_) (fun hg => ?_) | refine onG_split_f (fun hg => ?_) (fun hg => ?_)) <;> simp only [go_sem, q, hf, Fl.av_eq, hg]) | (refine K_condA (fun hc => ?_) (fun hc => ?_) <;> try (exact absurd hc (by decide))) | (refine K_ret ?_; refine (hQ _ ⟨_, by (try simp only [go_sem, ↓reduceIte, Nat.reduceEqDiff]); rfl, by simp [go_sem], ?_, by first | rfl | assumption⟩).1))
  simp [AV.snap, AV.snapL]
end Go.Proofs.YtfiehjbijdmbaaaDoor
