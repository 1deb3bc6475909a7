/- A part of the proof: an abstract machine for the walks, and what the walked functions compute. -/
import Derived.Test.YtfiehjbijdmbaaaDoorRi
import Derived.Test.YtfiehjbijdmbaaaDoorRj
import Derived.Test.YtfiehjbijdmbaaaDoorRl
set_option linter.unusedVariables false
set_option linter.unusedSimpArgs false
set_option linter.unusedSimpArgs false
set_option linter.unusedVariables false
set_option maxHeartbeats 4000000
set_option maxRecDepth 100000
namespace Go.Proofs.YtfiehjbijdmbaaaDoor
open Nat (reduceAdd reduceMul reduceEqDiff reduceLT reduceLeDiff reduceSub reduceDiv)
open Int (reduceBNe reduceLE reduceEq)
open Go.Am Go.Proofs Go.Ca
open Classical
attribute [local irreducible] AW CallP CallB
theorem order_c (l : List Fl) (a b k : Int) (x y : List UInt8) (hB : FB l) (hl : l.length ≤ 2 ^ 20) (ha : I64 a) (hb : I64 b) (hk : I64 k) (hx : x.length ≤ 2 ^ 20) (hy : y.length ≤ 2 ^ 20) : PCall Tryd.prog 8 [.sl (fl l), .i a, .i b, .i k, .sl (ub x), .sl (ub y)] (.bool true) := by
 have h0 := head_call
 have hfe := few_call l x (by omega) (by omega) (fun f hf => ⟨by have := hB.bs f hf; omega, by have := hB.nm f hf; omega⟩)
 by_cases hf : fewB l x = true ∧ y.length ≤ 300 ∧ l.length ≤ 398
 case neg =>
  cases hf0 : fewB l x
  ·rw [hf0] at hfe
   refine PCall.intro Tryd.func8 rfl isf8 (by simp [Tryd.f8]) (by simp [AV.cloL, AV.clo]) fun E Q hE hN hQ => K_start ?_
   repeat' (first | apply nx | refine Kq_exit_ne (by decide) ?_ | rw [wrap64 (by omega) (by omega)] | ((first | refine hK _ ?_ | refine hKp _ _ ?_); clear hK hKp K Kp; try clear hanc anc) | ((with_reducible refine And.intro ?_ ?_); (focus (first | trivial | omega | (simp only [Fits]; omega) | assumption | (rw [hanc]; rfl)))) | ((first | refine K_regA hE fun K Kp hK hKp => ?_ | refine K_drwA false mixed hE fun K Kp hK hKp anc hanc => ?_ | ((first | apply CallP_mk | apply CallB_mk); (focus (simp only [go_sem] <;> rfl)); (focus (first | exact h0 | exact hfe)); (focus (first | (simp [go_sem]; done) | (simp [go_sem, CloRow, AV.cells, AV.clo]; done))); (focus (first | exact .inl rfl | (right; simp [go_sem]))))); simp only [go_sem, Bool.not_false]) | ((first | refine onG_split_t (fun hg => ?_) (fun hg => ?_) | refine onG_split_f (fun hg => ?_) (fun hg => ?_)) <;> simp only [go_sem, Bool.not_false, hg]) | (refine K_condA (fun hc => ?_) (fun hc => ?_) <;> try (exact absurd hc (by decide))) | (refine K_ret ?_; refine (hQ _ ⟨_, by (try simp only [go_sem, ↓reduceIte, Nat.reduceEqDiff]); rfl, by simp [go_sem], ?_, by first | rfl | assumption⟩).1))
   simp [AV.snap]
  ·rw [hf0] at hfe
   by_cases hy3 : y.length ≤ 300
   ·have q1 : decide ((y.length : Int) > 300) = false := decide_eq_false (by omega)
    have hn : ¬ l.length ≤ 398 := fun h => hf ⟨hf0, hy3, h⟩
    have q2 : decide ((l.length : Int) > 398) = true := decide_eq_true (by omega)
    refine PCall.intro Tryd.func8 rfl isf8 (by simp [Tryd.f8]) (by simp [AV.cloL, AV.clo]) fun E Q hE hN hQ => K_start ?_
    repeat' (first | apply nx | refine Kq_exit_ne (by decide) ?_ | rw [wrap64 (by omega) (by omega)] | ((first | refine hK _ ?_ | refine hKp _ _ ?_); clear hK hKp K Kp; try clear hanc anc) | ((with_reducible refine And.intro ?_ ?_); (focus (first | trivial | omega | (simp only [Fits]; omega) | assumption | (rw [hanc]; rfl)))) | ((first | refine K_regA hE fun K Kp hK hKp => ?_ | refine K_drwA false mixed hE fun K Kp hK hKp anc hanc => ?_ | ((first | apply CallP_mk | apply CallB_mk); (focus (simp only [go_sem] <;> rfl)); (focus (first | exact h0 | exact hfe)); (focus (first | (simp [go_sem]; done) | (simp [go_sem, CloRow, AV.cells, AV.clo]; done))); (focus (first | exact .inl rfl | (right; simp [go_sem]))))); simp only [go_sem, Bool.not_true, q1, q2]) | ((first | refine onG_split_t (fun hg => ?_) (fun hg => ?_) | refine onG_split_f (fun hg => ?_) (fun hg => ?_)) <;> simp only [go_sem, Bool.not_true, q1, q2, hg]) | (refine K_condA (fun hc => ?_) (fun hc => ?_) <;> try (exact absurd hc (by decide))) | (refine K_ret ?_; refine (hQ _ ⟨_, by (try simp only [go_sem, ↓reduceIte, Nat.reduceEqDiff]); rfl, by simp [go_sem], ?_, by first | rfl | assumption⟩).1))
    simp [AV.snap]
   ·have q1 : decide ((y.length : Int) > 300) = true := decide_eq_true (by omega)
    refine PCall.intro Tryd.func8 rfl isf8 (by simp [Tryd.f8]) (by simp [AV.cloL, AV.clo]) fun E Q hE hN hQ => K_start ?_
    repeat' (first | apply nx | refine Kq_exit_ne (by decide) ?_ | rw [wrap64 (by omega) (by omega)] | ((first | refine hK _ ?_ | refine hKp _ _ ?_); clear hK hKp K Kp; try clear hanc anc) | ((with_reducible refine And.intro ?_ ?_); (focus (first | trivial | omega | (simp only [Fits]; omega) | assumption | (rw [hanc]; rfl)))) | ((first | refine K_regA hE fun K Kp hK hKp => ?_ | refine K_drwA false mixed hE fun K Kp hK hKp anc hanc => ?_ | ((first | apply CallP_mk | apply CallB_mk); (focus (simp only [go_sem] <;> rfl)); (focus (first | exact h0 | exact hfe)); (focus (first | (simp [go_sem]; done) | (simp [go_sem, CloRow, AV.cells, AV.clo]; done))); (focus (first | exact .inl rfl | (right; simp [go_sem]))))); simp only [go_sem, Bool.not_true, q1]) | ((first | refine onG_split_t (fun hg => ?_) (fun hg => ?_) | refine onG_split_f (fun hg => ?_) (fun hg => ?_)) <;> simp only [go_sem, Bool.not_true, q1, hg]) | (refine K_condA (fun hc => ?_) (fun hc => ?_) <;> try (exact absurd hc (by decide))) | (refine K_ret ?_; refine (hQ _ ⟨_, by (try simp only [go_sem, ↓reduceIte, Nat.reduceEqDiff]); rfl, by simp [go_sem], ?_, by first | rfl | assumption⟩).1))
    simp [AV.snap]
 obtain ⟨hf0, hy3, hl3⟩ := hf
 rw [hf0] at hfe
 have q1 : decide ((y.length : Int) > 300) = false := decide_eq_false (by omega)
 have q2 : decide ((l.length : Int) > 398) = false := decide_eq_false (by omega)
 have la := others_len l a
 have lb := others_len l b
 have fa := fb_put hB hl ha hx
 have fb := fb_put hB hl hb hy
 have p1 := put_call l a x hB ha (by omega)
 rw [putR_ok (by omega)] at p1
 have p3 := put_call l b y hB hb (by omega)
 rw [putR_ok (by omega)] at p3
 have lA : (others l a ++ [fileOf a x]).length ≤ 399 := by simp; omega
 have lB : (others l b ++ [fileOf b y]).length ≤ 399 := by simp; omega
 have lab := others_len (others l a ++ [fileOf a x]) b
 have lba := others_len (others l b ++ [fileOf b y]) a
 have p2 := put_call _ b y fa hb (by omega)
 rw [putR_ok (by omega)] at p2
 have p4 := put_call _ a x fb ha (by omega)
 rw [putR_ok (by omega)] at p4
 by_cases hab : a = b
 ·subst hab
  have q3 : (a == a) = true := by simp
  rw [put_twice] at p2
  have m1 := same_call (others l a ++ [fileOf a y]) (others l a ++ [fileOf a y]) (by omega) (by omega)
  rw [decide_eq_true rfl] at m1
  refine PCall.intro Tryd.func8 rfl isf8 (by simp [Tryd.f8]) (by simp [AV.cloL, AV.clo]) fun E Q hE hN hQ => K_start ?_
  repeat' (first | apply nx | refine Kq_exit_ne (by decide) ?_ | rw [wrap64 (by omega) (by omega)] | ((first | refine hK _ ?_ | refine hKp _ _ ?_); clear hK hKp K Kp; try clear hanc anc) | ((with_reducible refine And.intro ?_ ?_); (focus (first | trivial | omega | (simp only [Fits]; omega) | assumption | (rw [hanc]; rfl)))) | ((first | refine K_regA hE fun K Kp hK hKp => ?_ | refine K_drwA false mixed hE fun K Kp hK hKp anc hanc => ?_ | ((first | apply CallP_mk | apply CallB_mk); (focus (simp only [go_sem] <;> rfl)); (focus (first | exact h0 | exact hfe | exact p1 | exact p2 | exact p3 | exact p4 | exact m1)); (focus (first | (simp [go_sem]; done) | (simp [go_sem, CloRow, AV.cells, AV.clo]; done))); (focus (first | exact .inl rfl | (right; simp [go_sem]))))); simp only [go_sem, Bool.not_true, q1, q2, i_selfn, q3]) | ((first | refine onG_split_t (fun hg => ?_) (fun hg => ?_) | refine onG_split_f (fun hg => ?_) (fun hg => ?_)) <;> simp only [go_sem, Bool.not_true, q1, q2, i_selfn, q3, hg]) | (refine K_condA (fun hc => ?_) (fun hc => ?_) <;> try (exact absurd hc (by decide))) | (refine K_ret ?_; refine (hQ _ ⟨_, by (try simp only [go_sem, ↓reduceIte, Nat.reduceEqDiff]); rfl, by simp [go_sem], ?_, by first | rfl | assumption⟩).1))
  simp [AV.snap]
 ·have q3 : (a == b) = false := by simpa using hab
  have f2 := fb_put fa (by omega) hb hy
  have f4 := fb_put fb (by omega) ha hx
  have ho := fun k => put_order (l := l) (x := x) (y := y) hab k
  have m1 := sameG_call _ _ k f2 f4 hk
  have m2 := sameG_call _ _ a f2 f4 ha
  have m3 := sameG_call _ _ b f2 f4 hb
  rw [decide_eq_true (ho _)] at m1 m2 m3
  generalize others (others l a ++ [fileOf a x]) b ++ [fileOf b y] = B at *
  generalize others (others l b ++ [fileOf b y]) a ++ [fileOf a x] = D at *
  refine PCall.intro Tryd.func8 rfl isf8 (by simp [Tryd.f8]) (by simp [AV.cloL, AV.clo]) fun E Q hE hN hQ => K_start ?_
  repeat' (first | apply nx | refine Kq_exit_ne (by decide) ?_ | rw [wrap64 (by omega) (by omega)] | ((first | refine hK _ ?_ | refine hKp _ _ ?_); clear hK hKp K Kp; try clear hanc anc) | ((with_reducible refine And.intro ?_ ?_); (focus (first | trivial | omega | (simp only [Fits]; omega) | assumption | (rw [hanc]; rfl)))) | ((first | refine K_regA hE fun K Kp hK hKp => ?_ | refine K_drwA false mixed hE fun K Kp hK hKp anc hanc => ?_ | ((first | apply CallP_mk | apply CallB_mk); (focus (simp only [go_sem] <;> rfl)); (focus (first | exact h0 | exact hfe | exact p1 | exact p2 | exact p3 | exact p4 | exact m1 | exact m2 | exact m3)); (focus (first | (simp [go_sem]; done) | (simp [go_sem, CloRow, AV.cells, AV.clo]; done))); (focus (first | exact .inl rfl | (right; simp [go_sem]))))); simp only [go_sem, Bool.not_true, q1, q2, i_selfn, q3]) | ((first | refine onG_split_t (fun hg => ?_) (fun hg => ?_) | refine onG_split_f (fun hg => ?_) (fun hg => ?_)) <;> simp only [go_sem, Bool.not_true, q1, q2, i_selfn, q3, hg]) | (refine K_condA (fun hc => ?_) (fun hc => ?_) <;> try (exact absurd hc (by decide))) | (refine K_ret ?_; refine (hQ _ ⟨_, by (try simp only [go_sem, ↓reduceIte, Nat.reduceEqDiff]); rfl, by simp [go_sem], ?_, by first | rfl | assumption⟩).1))
  simp [AV.snap]
end Go.Proofs.YtfiehjbijdmbaaaDoor

set_option linter.unusedVariables false
namespace Go.Proofs.YtfiehjbijdmbaaaDoor
open Go.Am Go.Proofs Go.Ca
variable {H : Type}
theorem cacheOrder_pcall {d0 d1 d2 d3 d4 d5 : DataW H} (h0 : DT Tryd.prog 22 d0) (h1 : DT Tryd.prog 3 d1) (h2 : DT Tryd.prog 3 d2) (h3 : DT Tryd.prog 3 d3) (h4 : DT Tryd.prog 23 d4) (h5 : DT Tryd.prog 23 d5) (b0 : bulk d0 ≤ 1048576) (b1 : bulk d1 ≤ 1048576) (b2 : bulk d2 ≤ 1048576) (b3 : bulk d3 ≤ 1048576) (b4 : bulk d4 ≤ 1048576) (b5 : bulk d5 ≤ 1048576) : PCall Tryd.prog 8 [avD d0, avD d1, avD d2, avD d3, avD d4, avD d5] (.bool true) := by
 obtain ⟨x0, e0, f0, g0⟩ := opn_fl h0 b0
 obtain ⟨x1, e1, f1⟩ := opn_int h1
 obtain ⟨x2, e2, f2⟩ := opn_int h2
 obtain ⟨x3, e3, f3⟩ := opn_int h3
 obtain ⟨x4, e4, f4⟩ := opn_ub h4
 obtain ⟨x5, e5, f5⟩ := opn_ub h5
 rw [e0, e1, e2, e3, e4, e5]
 exact order_c x0 x1 x2 x3 x4 x5 f0 g0 f1 f2 f3 (by omega) (by omega)
end Go.Proofs.YtfiehjbijdmbaaaDoor
