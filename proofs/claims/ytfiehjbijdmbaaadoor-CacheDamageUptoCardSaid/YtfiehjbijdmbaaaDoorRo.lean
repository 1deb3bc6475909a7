/- A part of the proof: an abstract machine for the walks, and what the walked functions compute. -/
import Derived.Test.YtfiehjbijdmbaaaDoorRk
import Derived.Test.YtfiehjbijdmbaaaDoorRl
set_option linter.unusedVariables false
set_option linter.unusedSimpArgs false
set_option linter.unusedSimpArgs false
set_option linter.unusedVariables false
set_option maxHeartbeats 4000000
set_option maxRecDepth 100000
namespace Go.Proofs.YtfiehjbijdmbaaaDoor
open Nat (reduceAdd reduceMul reduceEqDiff reduceLT reduceLeDiff reduceSub reduceDiv)
open Int (reduceBNe reduceLE reduceEq)
open Go.Am Go.Proofs Go.Ca
open Classical
attribute [local irreducible] AW CallP CallB
theorem damage_c (l : List Fl) (k k' : Int) (b : List UInt8) (a y h : UInt8) (hB : FB l) (hl : l.length ≤ 2 ^ 20) (hk : I64 k) (hk' : I64 k') (hb : b.length ≤ 2 ^ 20) : PCall Tryd.prog 5 [.sl (fl l), .i k, .i k', .sl (ub b), .int .u8 (a.toNat : Int), .int .u8 (y.toNat : Int), .int .u8 (h.toNat : Int)] (.bool true) := by
 have h0 := head_call
 have hfe := few_call l b (by omega) (by omega) (fun f hf => ⟨by have := hB.bs f hf; omega, by have := hB.nm f hf; omega⟩)
 have p1 := put_call l k b hB hk (by omega)
 have hol := others_len l k
 cases hf : fewB l b
 ·rw [hf] at hfe
  refine PCall.intro Tryd.func5 rfl isf5 (by simp [Tryd.f5]) (by simp [AV.cloL, AV.clo]) fun E Q hE hN hQ => K_start ?_
  repeat' (first | apply nx | refine Kq_exit_ne (by decide) ?_ | rw [wrap64 (by omega) (by omega)] | ((first | refine hK _ ?_ | refine hKp _ _ ?_); clear hK hKp K Kp; try clear hanc anc) | ((with_reducible refine And.intro ?_ ?_); (focus (first | trivial | omega | (simp only [Fits]; omega) | assumption | (rw [hanc]; rfl)))) | ((first | refine K_regA hE fun K Kp hK hKp => ?_ | refine K_drwA false mixed hE fun K Kp hK hKp anc hanc => ?_ | ((first | apply CallP_mk | apply CallB_mk); (focus (simp only [go_sem] <;> rfl)); (focus (first | exact h0 | exact hfe)); (focus (first | (simp [go_sem]; done) | (simp [go_sem, CloRow, AV.cells, AV.clo]; done))); (focus (first | exact .inl rfl | (right; simp [go_sem]))))); simp only [go_sem, Bool.not_false]) | ((first | refine onG_split_t (fun hg => ?_) (fun hg => ?_) | refine onG_split_f (fun hg => ?_) (fun hg => ?_)) <;> simp only [go_sem, Bool.not_false, hg]) | (refine K_condA (fun hc => ?_) (fun hc => ?_) <;> try (exact absurd hc (by decide))) | (refine K_ret ?_; refine (hQ _ ⟨_, by (try simp only [go_sem, ↓reduceIte, Nat.reduceEqDiff]); rfl, by simp [go_sem], ?_, by first | rfl | assumption⟩).1))
  simp [AV.snap]
 rw [hf] at hfe
 by_cases h4 : 400 ≤ (others l k).length
 ·rw [putR_no h4] at p1
  have q1 : ((19 : Int) != 0) = true := rfl
  refine PCall.intro Tryd.func5 rfl isf5 (by simp [Tryd.f5]) (by simp [AV.cloL, AV.clo]) fun E Q hE hN hQ => K_start ?_
  repeat' (first | apply nx | refine Kq_exit_ne (by decide) ?_ | rw [wrap64 (by omega) (by omega)] | ((first | refine hK _ ?_ | refine hKp _ _ ?_); clear hK hKp K Kp; try clear hanc anc) | ((with_reducible refine And.intro ?_ ?_); (focus (first | trivial | omega | (simp only [Fits]; omega) | assumption | (rw [hanc]; rfl)))) | ((first | refine K_regA hE fun K Kp hK hKp => ?_ | refine K_drwA false mixed hE fun K Kp hK hKp anc hanc => ?_ | ((first | apply CallP_mk | apply CallB_mk); (focus (simp only [go_sem] <;> rfl)); (focus (first | exact h0 | exact hfe | exact p1)); (focus (first | (simp [go_sem]; done) | (simp [go_sem, CloRow, AV.cells, AV.clo]; done))); (focus (first | exact .inl rfl | (right; simp [go_sem]))))); simp only [go_sem, Bool.not_true, q1]) | ((first | refine onG_split_t (fun hg => ?_) (fun hg => ?_) | refine onG_split_f (fun hg => ?_) (fun hg => ?_)) <;> simp only [go_sem, Bool.not_true, q1, hg]) | (refine K_condA (fun hc => ?_) (fun hc => ?_) <;> try (exact absurd hc (by decide))) | (refine K_ret ?_; refine (hQ _ ⟨_, by (try simp only [go_sem, ↓reduceIte, Nat.reduceEqDiff]); rfl, by simp [go_sem], ?_, by first | rfl | assumption⟩).1))
  simp [AV.snap]
 rw [putR_ok h4] at p1
 have rn := rname_call k' hk'.1 hk'.2
 have hL := file_len k b
 have hG : (fileOf k b).bs.length ≤ 2 ^ 30 := by omega
 have hch := changed_call (fileOf k b).bs a y h (by omega) hG
 have hbad := chg_bad (k := k) (b := b) (by omega) a y h
 have hcl := chg_len (fileOf k b).bs a y h
 have hFB : ∀ (n : Int) (c : List UInt8), I64 n → c.length ≤ 2 ^ 30 → FB (others l k ++ [⟨nm n, c⟩]) := fun n c hn hc => by
  refine ⟨by simp; omega, fun f hf => ?_, fun f hf => ?_⟩
  ·rcases List.mem_append.1 hf with h | h
   ·exact hB.bs f (List.mem_filter.1 h).1
   ·rw [List.mem_singleton.1 h]; exact hc
  ·rcases List.mem_append.1 hf with h | h
   ·exact hB.nm f (List.mem_filter.1 h).1
   ·rw [List.mem_singleton.1 h]; exact nm_size hn
 have g1 := get_call _ k (hFB k (chg (fileOf k b).bs a y h) hk (by omega)) hk
 rw [get_last _ _ hk rfl] at g1
 simp only [hbad.1] at g1
 have g2 := get_call _ k' (hFB k' (fileOf k b).bs hk' (by omega)) hk'
 have hgo : k' ≠ k → getR (others l k ++ [⟨nm k', (fileOf k b).bs⟩]) k' = ([], 16) := fun hne => get_alien _ hk (by omega) hne
 have hN1 : (others l k ++ [fileOf k b]).length = (others l k).length + 1 := by simp
 have hN2 : (others l k ++ [fileOf k b])[(others l k).length]? = some (fileOf k b) := by simp
 have hN3 : (fileOf k b).av = .agg [.str (nm k), .sl (ub (fileOf k b).bs)] := rfl
 have hN4 : ∀ f, (others l k ++ [fileOf k b]).set (others l k).length f = others l k ++ [f] := fun f => by simp
 have hN5 : ∀ c f, (others l k ++ [c]).set (others l k).length f = others l k ++ [f] := fun c f => by simp
 have hN6 : ∀ c, (others l k ++ [c])[(others l k).length]? = some c := fun c => by simp
 generalize (fileOf k b).bs = G at *
 generalize chg G a y h = C at *
 generalize (bodyR C k).2 = e at *
 have u0 : IntKind.i64.wrap ((((others l k).length + 1 : Nat) : Int) - 1) = (((others l k).length : Nat) : Int) := by rw [wrap64 (by omega) (by omega)]; omega
 have q0 : ((((others l k).length + 1 : Nat) : Int) == 0) = false := by
  have : ¬ (((others l k).length + 1 : Nat) : Int) = 0 := by omega
  simpa using this
 have q1 : ((G.length : Int) == 0) = false := by
  have : ¬ (G.length : Int) = 0 := by omega
  simpa using this
 have hol2 : (others l k).length < 400 := by omega
 have hFt : Fits ((others l k).length + 1) 40 := by simp only [Fits]; omega
 have hlt : (others l k).length < (others l k).length + 1 := by omega
 generalize fileOf k b = F at *
 have hN7 : (Fl.mk (nm k) C).av = .agg [.str (nm k), .sl (ub C)] := rfl
 have hkk : k' = k ∨ k' ≠ k := by omega
 rcases hbad.2 with rfl | rfl
 all_goals rcases hkk with hkk | hkk
 ·have q5 : (k' == k) = true := by simpa using hkk
  refine PCall.intro Tryd.func5 rfl isf5 (by simp [Tryd.f5]) (by simp [AV.cloL, AV.clo]) fun E Q hE hN hQ => K_start ?_
  repeat' (first | apply nx | refine Kq_exit_ne (by decide) ?_ | rw [wrap64 (by omega) (by omega)] | ((first | refine hK _ ?_ | refine hKp _ _ ?_); clear hK hKp K Kp; try clear hanc anc) | ((with_reducible refine And.intro ?_ ?_); (focus (first | trivial | omega | (simp only [Fits]; omega) | assumption | (rw [hanc]; rfl)))) | ((first | refine K_regA hE fun K Kp hK hKp => ?_ | refine K_drwA false mixed hE fun K Kp hK hKp anc hanc => ?_ | ((first | apply CallP_mk | apply CallB_mk); (focus (simp only [go_sem] <;> rfl)); (focus (first | exact h0 | exact hfe | exact p1 | exact hch | exact g1 | exact rn)); (focus (first | (simp [go_sem]; done) | (simp [go_sem, CloRow, AV.cells, AV.clo]; done))); (focus (first | exact .inl rfl | (right; simp [go_sem]))))); simp only [go_sem, Bool.not_true, i_selfn, hN1, hN2, hN3, hN4, hN5, hN6, hN7, u0, q0, q1, q5]) | ((first | refine onG_split_t (fun hg => ?_) (fun hg => ?_) | refine onG_split_f (fun hg => ?_) (fun hg => ?_)) <;> simp only [go_sem, Bool.not_true, i_selfn, hN1, hN2, hN3, hN4, hN5, hN6, hN7, u0, q0, q1, q5, hg]) | (refine K_condA (fun hc => ?_) (fun hc => ?_) <;> try (exact absurd hc (by decide))) | (refine K_ret ?_; refine (hQ _ ⟨_, by (try simp only [go_sem, ↓reduceIte, Nat.reduceEqDiff]); rfl, by simp [go_sem], ?_, by first | rfl | assumption⟩).1))
  simp [AV.snap]
 ·have q5 : (k' == k) = false := by simpa using hkk
  rw [hgo hkk] at g2
  refine PCall.intro Tryd.func5 rfl isf5 (by simp [Tryd.f5]) (by simp [AV.cloL, AV.clo]) fun E Q hE hN hQ => K_start ?_
  repeat' (first | apply nx | refine Kq_exit_ne (by decide) ?_ | rw [wrap64 (by omega) (by omega)] | ((first | refine hK _ ?_ | refine hKp _ _ ?_); clear hK hKp K Kp; try clear hanc anc) | ((with_reducible refine And.intro ?_ ?_); (focus (first | trivial | omega | (simp only [Fits]; omega) | assumption | (rw [hanc]; rfl)))) | ((first | refine K_regA hE fun K Kp hK hKp => ?_ | refine K_drwA false mixed hE fun K Kp hK hKp anc hanc => ?_ | ((first | apply CallP_mk | apply CallB_mk); (focus (simp only [go_sem] <;> rfl)); (focus (first | exact h0 | exact hfe | exact p1 | exact hch | exact g1 | exact rn | exact g2)); (focus (first | (simp [go_sem]; done) | (simp [go_sem, CloRow, AV.cells, AV.clo]; done))); (focus (first | exact .inl rfl | (right; simp [go_sem]))))); simp only [go_sem, Bool.not_true, i_selfn, hN1, hN2, hN3, hN4, hN5, hN6, hN7, u0, q0, q1, q5]) | ((first | refine onG_split_t (fun hg => ?_) (fun hg => ?_) | refine onG_split_f (fun hg => ?_) (fun hg => ?_)) <;> simp only [go_sem, Bool.not_true, i_selfn, hN1, hN2, hN3, hN4, hN5, hN6, hN7, u0, q0, q1, q5, hg]) | (refine K_condA (fun hc => ?_) (fun hc => ?_) <;> try (exact absurd hc (by decide))) | (refine K_ret ?_; refine (hQ _ ⟨_, by (try simp only [go_sem, ↓reduceIte, Nat.reduceEqDiff]); rfl, by simp [go_sem], ?_, by first | rfl | assumption⟩).1))
  simp [AV.snap]
 ·have q5 : (k' == k) = true := by simpa using hkk
  refine PCall.intro Tryd.func5 rfl isf5 (by simp [Tryd.f5]) (by simp [AV.cloL, AV.clo]) fun E Q hE hN hQ => K_start ?_
  repeat' (first | apply nx | refine Kq_exit_ne (by decide) ?_ | rw [wrap64 (by omega) (by omega)] | ((first | refine hK _ ?_ | refine hKp _ _ ?_); clear hK hKp K Kp; try clear hanc anc) | ((with_reducible refine And.intro ?_ ?_); (focus (first | trivial | omega | (simp only [Fits]; omega) | assumption | (rw [hanc]; rfl)))) | ((first | refine K_regA hE fun K Kp hK hKp => ?_ | refine K_drwA false mixed hE fun K Kp hK hKp anc hanc => ?_ | ((first | apply CallP_mk | apply CallB_mk); (focus (simp only [go_sem] <;> rfl)); (focus (first | exact h0 | exact hfe | exact p1 | exact hch | exact g1 | exact rn)); (focus (first | (simp [go_sem]; done) | (simp [go_sem, CloRow, AV.cells, AV.clo]; done))); (focus (first | exact .inl rfl | (right; simp [go_sem]))))); simp only [go_sem, Bool.not_true, i_selfn, hN1, hN2, hN3, hN4, hN5, hN6, hN7, u0, q0, q1, q5]) | ((first | refine onG_split_t (fun hg => ?_) (fun hg => ?_) | refine onG_split_f (fun hg => ?_) (fun hg => ?_)) <;> simp only [go_sem, Bool.not_true, i_selfn, hN1, hN2, hN3, hN4, hN5, hN6, hN7, u0, q0, q1, q5, hg]) | (refine K_condA (fun hc => ?_) (fun hc => ?_) <;> try (exact absurd hc (by decide))) | (refine K_ret ?_; refine (hQ _ ⟨_, by (try simp only [go_sem, ↓reduceIte, Nat.reduceEqDiff]); rfl, by simp [go_sem], ?_, by first | rfl | assumption⟩).1))
  simp [AV.snap]
 ·have q5 : (k' == k) = false := by simpa using hkk
  rw [hgo hkk] at g2
  refine PCall.intro Tryd.func5 rfl isf5 (by simp [Tryd.f5]) (by simp [AV.cloL, AV.clo]) fun E Q hE hN hQ => K_start ?_
  repeat' (first | apply nx | refine Kq_exit_ne (by decide) ?_ | rw [wrap64 (by omega) (by omega)] | ((first | refine hK _ ?_ | refine hKp _ _ ?_); clear hK hKp K Kp; try clear hanc anc) | ((with_reducible refine And.intro ?_ ?_); (focus (first | trivial | omega | (simp only [Fits]; omega) | assumption | (rw [hanc]; rfl)))) | ((first | refine K_regA hE fun K Kp hK hKp => ?_ | refine K_drwA false mixed hE fun K Kp hK hKp anc hanc => ?_ | ((first | apply CallP_mk | apply CallB_mk); (focus (simp only [go_sem] <;> rfl)); (focus (first | exact h0 | exact hfe | exact p1 | exact hch | exact g1 | exact rn | exact g2)); (focus (first | (simp [go_sem]; done) | (simp [go_sem, CloRow, AV.cells, AV.clo]; done))); (focus (first | exact .inl rfl | (right; simp [go_sem]))))); simp only [go_sem, Bool.not_true, i_selfn, hN1, hN2, hN3, hN4, hN5, hN6, hN7, u0, q0, q1, q5]) | ((first | refine onG_split_t (fun hg => ?_) (fun hg => ?_) | refine onG_split_f (fun hg => ?_) (fun hg => ?_)) <;> simp only [go_sem, Bool.not_true, i_selfn, hN1, hN2, hN3, hN4, hN5, hN6, hN7, u0, q0, q1, q5, hg]) | (refine K_condA (fun hc => ?_) (fun hc => ?_) <;> try (exact absurd hc (by decide))) | (refine K_ret ?_; refine (hQ _ ⟨_, by (try simp only [go_sem, ↓reduceIte, Nat.reduceEqDiff]); rfl, by simp [go_sem], ?_, by first | rfl | assumption⟩).1))
  simp [AV.snap]
end Go.Proofs.YtfiehjbijdmbaaaDoor

set_option linter.unusedVariables false
namespace Go.Proofs.YtfiehjbijdmbaaaDoor
open Go.Am Go.Proofs Go.Ca
variable {H : Type}
theorem cacheDamage_pcall {d0 d1 d2 d3 d4 d5 d6 : DataW H} (h0 : DT Tryd.prog 22 d0) (h1 : DT Tryd.prog 3 d1) (h2 : DT Tryd.prog 3 d2) (h3 : DT Tryd.prog 23 d3) (h4 : DT Tryd.prog 5 d4) (h5 : DT Tryd.prog 5 d5) (h6 : DT Tryd.prog 5 d6) (b0 : bulk d0 ≤ 1048576) (b1 : bulk d1 ≤ 1048576) (b2 : bulk d2 ≤ 1048576) (b3 : bulk d3 ≤ 1048576) (b4 : bulk d4 ≤ 1048576) (b5 : bulk d5 ≤ 1048576) (b6 : bulk d6 ≤ 1048576) : PCall Tryd.prog 5 [avD d0, avD d1, avD d2, avD d3, avD d4, avD d5, avD d6] (.bool true) := by
 obtain ⟨x0, e0, f0, g0⟩ := opn_fl h0 b0
 obtain ⟨x1, e1, f1⟩ := opn_int h1
 obtain ⟨x2, e2, f2⟩ := opn_int h2
 obtain ⟨x3, e3, f3⟩ := opn_ub h3
 obtain ⟨x4, e4, _⟩ := opn_u8 h4
 obtain ⟨x5, e5, _⟩ := opn_u8 h5
 obtain ⟨x6, e6, _⟩ := opn_u8 h6
 rw [e0, e1, e2, e3, e4, e5, e6]
 exact damage_c x0 x1 x2 x3 x4 x5 x6 f0 g0 f1 f2 (by omega)
end Go.Proofs.YtfiehjbijdmbaaaDoor
