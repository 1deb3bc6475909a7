/- A part of the proof: an abstract machine for the walks, and what the walked functions compute. -/
import Derived.Test.YtfiehjbijdmbaaaDoorRi
import Derived.Test.YtfiehjbijdmbaaaDoorRj
import Derived.Test.YtfiehjbijdmbaaaDoorRl
set_option linter.unusedVariables false
set_option linter.unusedSimpArgs false
set_option linter.unusedSimpArgs false
set_option linter.unusedVariables false
set_option maxHeartbeats 4000000
set_option maxRecDepth 100000
namespace Go.Proofs.YtfiehjbijdmbaaaDoor
open Nat (reduceAdd reduceMul reduceEqDiff reduceLT reduceLeDiff reduceSub reduceDiv)
open Int (reduceBNe reduceLE reduceEq)
open Go.Am Go.Proofs Go.Ca
open Classical
attribute [local irreducible] AW CallP CallB
theorem puts_c (l : List Fl) (k k' : Int) (b : List UInt8) (hB : FB l) (hk : I64 k) (hk' : I64 k') (hb : b.length ≤ 2 ^ 20) (hl : l.length ≤ 2 ^ 20) (hs : FB (others l k ++ [fileOf k b])) : PCall Tryd.prog 4 [.sl (fl l), .i k, .i k', .sl (ub b)] (.bool true) := by
 have h0 := head_call
 have hfe := few_call l b (by omega) (by omega) (fun f hf => ⟨by have := hB.bs f hf; omega, by have := hB.nm f hf; omega⟩)
 have p1 := put_call l k b hB hk (by omega)
 have rn := rname_call k hk.1 hk.2
 have hol := others_len l k
 cases hf : fewB l b
 ·rw [hf] at hfe
  refine PCall.intro Tryd.func4 rfl isf4 (by simp [Tryd.f4]) (by simp [AV.cloL, AV.clo]) fun E Q hE hN hQ => K_start ?_
  repeat' (first | apply nx | refine Kq_exit_ne (by decide) ?_ | rw [wrap64 (by omega) (by omega)] | ((first | refine hK _ ?_ | refine hKp _ _ ?_); clear hK hKp K Kp; try clear hanc anc) | ((with_reducible refine And.intro ?_ ?_); (focus (first | trivial | omega | (simp only [Fits]; omega) | assumption | (rw [hanc]; rfl)))) | ((first | refine K_regA hE fun K Kp hK hKp => ?_ | refine K_drwA false mixed hE fun K Kp hK hKp anc hanc => ?_ | ((first | apply CallP_mk | apply CallB_mk); (focus (simp only [go_sem] <;> rfl)); (focus (first | exact h0 | exact hfe)); (focus (first | (simp [go_sem]; done) | (simp [go_sem, CloRow, AV.cells, AV.clo]; done))); (focus (first | exact .inl rfl | (right; simp [go_sem]))))); simp only [go_sem, Bool.not_false]) | ((first | refine onG_split_t (fun hg => ?_) (fun hg => ?_) | refine onG_split_f (fun hg => ?_) (fun hg => ?_)) <;> simp only [go_sem, Bool.not_false, hg]) | (refine K_condA (fun hc => ?_) (fun hc => ?_) <;> try (exact absurd hc (by decide))) | (refine K_ret ?_; refine (hQ _ ⟨_, by (try simp only [go_sem, ↓reduceIte, Nat.reduceEqDiff]); rfl, by simp [go_sem], ?_, by first | rfl | assumption⟩).1))
  simp [AV.snap]
 rw [hf] at hfe
 refine PCall.intro Tryd.func4 rfl isf4 (by simp [Tryd.f4]) (by simp [AV.cloL, AV.clo]) fun E Q hE hN hQ => K_start ?_
 repeat' (first | apply nx | refine Kq_exit_ne (by decide) ?_ | rw [wrap64 (by omega) (by omega)] | ((first | refine hK _ ?_ | refine hKp _ _ ?_); clear hK hKp K Kp; try clear hanc anc) | ((with_reducible refine And.intro ?_ ?_); (focus (first | trivial | omega | (simp only [Fits]; omega) | assumption | (rw [hanc]; rfl)))) | ((first | refine K_regA hE fun K Kp hK hKp => ?_ | refine K_drwA false mixed hE fun K Kp hK hKp anc hanc => ?_ | ((first | apply CallP_mk | apply CallB_mk); (focus (simp only [go_sem] <;> rfl)); (focus (first | exact h0 | exact hfe)); (focus (first | (simp [go_sem]; done) | (simp [go_sem, CloRow, AV.cells, AV.clo]; done))); (focus (first | exact .inl rfl | (right; simp [go_sem]))))); simp only [go_sem, Bool.not_true]) | ((first | refine onG_split_t (fun hg => ?_) (fun hg => ?_) | refine onG_split_f (fun hg => ?_) (fun hg => ?_)) <;> simp only [go_sem, Bool.not_true, hg]) | (refine K_condA (fun hc => ?_) (fun hc => ?_) <;> try (exact absurd hc (by decide))) | (refine K_ret ?_; refine (hQ _ ⟨_, by (try simp only [go_sem, ↓reduceIte, Nat.reduceEqDiff]); rfl, by simp [go_sem], ?_, by first | rfl | assumption⟩).1))
 refine AW_nil 10 2 (by rw [hE]; decide) (by simp only [go_sem]) ?_
 refine K_loop (X := Nat) (fun i => i ≤ l.length) (fun i => mkSt [(0, .sl (fl l)), (1, .i k), (2, .i k'), (3, .sl (ub b)), (9, .bool true), (10, .rw 0), (11, .i i)] [(0, .row 2 (fl (others (l.take i) k)))] 1) (fun i => l.length - i) 0 (Nat.zero_le _) (fun i => 9437184) (by refine ent_mk (by simp [go_sem, others]) (by simp [go_sem, others]) (by simp) (by simp [hN])) ?_
 intro i hi
 by_cases hlt : i < l.length
 ·obtain ⟨f, hf⟩ := get?_of hlt
  have q := ba_eqB f.nm (nm k)
  have et := others_take (k := k) hf
  have hot := others_len (l.take i) k
  simp only [List.length_take] at hot
  by_cases hn : f.nm = nm k
  ·rw [if_pos hn, List.append_nil] at et
   rw [decide_eq_true hn] at q
   repeat' (first | apply nx | refine Kq_exit_ne (by decide) ?_ | rw [wrap64 (by omega) (by omega)] | ((first | refine hK _ ?_ | refine hKp _ _ ?_); clear hK hKp K Kp; try clear hanc anc) | ((with_reducible refine And.intro ?_ ?_); (focus (first | trivial | omega | (simp only [Fits]; omega) | assumption | (rw [hanc]; rfl)))) | ((first | refine K_regA hE fun K Kp hK hKp => ?_ | refine K_drwA false mixed hE fun K Kp hK hKp anc hanc => ?_ | ((first | apply CallP_mk | apply CallB_mk); (focus (simp only [go_sem] <;> rfl)); (focus (exact rn)); (focus (first | (simp [go_sem]; done) | (simp [go_sem, CloRow, AV.cells, AV.clo]; done))); (focus (first | exact .inl rfl | (right; simp [go_sem]))))); simp only [go_sem, lt_dec hlt, hf, Fl.av_eq, bne, q]) | ((first | refine onG_split_t (fun hg => ?_) (fun hg => ?_) | refine onG_split_f (fun hg => ?_) (fun hg => ?_)) <;> simp only [go_sem, lt_dec hlt, hf, Fl.av_eq, bne, q, hg]) | (refine K_condA (fun hc => ?_) (fun hc => ?_) <;> try (exact absurd hc (by decide))) | (refine K_ret ?_; refine (hQ _ ⟨_, by (try simp only [go_sem, ↓reduceIte, Nat.reduceEqDiff]); rfl, by simp [go_sem], ?_, by first | rfl | assumption⟩).1))
   exact ⟨i + 1, by omega, by omega, fun i => i, by refine ent_mk (by simp [go_sem, et]) (by simp [go_sem, et]) (by simp) (by simp [hN])⟩
  ·rw [if_neg hn] at et
   rw [decide_eq_false hn] at q
   repeat' (first | apply nx | refine Kq_exit_ne (by decide) ?_ | rw [wrap64 (by omega) (by omega)] | ((first | refine hK _ ?_ | refine hKp _ _ ?_); clear hK hKp K Kp; try clear hanc anc) | ((with_reducible refine And.intro ?_ ?_); (focus (first | trivial | omega | (simp only [Fits]; omega) | assumption | (rw [hanc]; rfl)))) | ((first | refine K_regA hE fun K Kp hK hKp => ?_ | refine K_drwA false mixed hE fun K Kp hK hKp anc hanc => ?_ | ((first | apply CallP_mk | apply CallB_mk); (focus (simp only [go_sem] <;> rfl)); (focus (exact rn)); (focus (first | (simp [go_sem]; done) | (simp [go_sem, CloRow, AV.cells, AV.clo]; done))); (focus (first | exact .inl rfl | (right; simp [go_sem]))))); simp only [go_sem, lt_dec hlt, hf, Fl.av_eq, bne, q]) | ((first | refine onG_split_t (fun hg => ?_) (fun hg => ?_) | refine onG_split_f (fun hg => ?_) (fun hg => ?_)) <;> simp only [go_sem, lt_dec hlt, hf, Fl.av_eq, bne, q, hg]) | (refine K_condA (fun hc => ?_) (fun hc => ?_) <;> try (exact absurd hc (by decide))) | (refine K_ret ?_; refine (hQ _ ⟨_, by (try simp only [go_sem, ↓reduceIte, Nat.reduceEqDiff]); rfl, by simp [go_sem], ?_, by first | rfl | assumption⟩).1))
   exact ⟨i + 1, by omega, by omega, fun i => if i = 0 then 18874369 else i, by refine ent_mk (by simp [go_sem, et]) (by simp [go_sem, et]) (by simp) (by simp [hN])⟩
 obtain rfl : i = l.length := by omega
 rw [List.take_length]
 by_cases h4 : 400 ≤ (others l k).length
 ·rw [putR_no h4] at p1
  have q1 : decide (((others l k).length : Int) ≥ 400) = true := decide_eq_true (by omega)
  repeat' (first | apply nx | refine Kq_exit_ne (by decide) ?_ | rw [wrap64 (by omega) (by omega)] | ((first | refine hK _ ?_ | refine hKp _ _ ?_); clear hK hKp K Kp; try clear hanc anc) | ((with_reducible refine And.intro ?_ ?_); (focus (first | trivial | omega | (simp only [Fits]; omega) | assumption | (rw [hanc]; rfl)))) | ((first | refine K_regA hE fun K Kp hK hKp => ?_ | refine K_drwA false mixed hE fun K Kp hK hKp anc hanc => ?_ | ((first | apply CallP_mk | apply CallB_mk); (focus (simp only [go_sem] <;> rfl)); (focus (exact p1)); (focus (first | (simp [go_sem]; done) | (simp [go_sem, CloRow, AV.cells, AV.clo]; done))); (focus (first | exact .inl rfl | (right; simp [go_sem]))))); simp only [go_sem, ge_dec, q1]) | ((first | refine onG_split_t (fun hg => ?_) (fun hg => ?_) | refine onG_split_f (fun hg => ?_) (fun hg => ?_)) <;> simp only [go_sem, ge_dec, q1, hg]) | (refine K_condA (fun hc => ?_) (fun hc => ?_) <;> try (exact absurd hc (by decide))) | (refine K_ret ?_; refine (hQ _ ⟨_, by (try simp only [go_sem, ↓reduceIte, Nat.reduceEqDiff]); rfl, by simp [go_sem], ?_, by first | rfl | assumption⟩).1))
  simp [AV.snap]
 rw [putR_ok h4] at p1
 have q1 : decide (((others l k).length : Int) ≥ 400) = false := decide_eq_false (by omega)
 have g1 := get_call _ k hs hk
 rw [get_put hk (by omega)] at g1
 have m1 := same_call (others l k) (others l k) (by omega) (by omega)
 rw [decide_eq_true rfl] at m1
 have hO : (others l k ++ [fileOf k b]).take (others l k).length = others l k := List.take_left' rfl
 have hO2 : (others l k ++ [fileOf k b])[(others l k).length]? = some (fileOf k b) := by simp
 have hO3 : (fileOf k b).av = .agg [.str (nm k), .sl (ub (fileOf k b).bs)] := rfl
 have hO4 : (others l k ++ [fileOf k b]).length = (others l k).length + 1 := by simp
 have u1 : IntKind.i64.wrap (((others l k).length : Int) + 1) = (((others l k).length + 1 : Nat) : Int) := by rw [wrap64 (by omega) (by omega)]; omega
 have u3 : (others l k).length ≤ (others l k).length + 1 := by omega
 have g2 := sameG_call l (others l k ++ [fileOf k b]) k' hB hs hk'
 have hg2 : k' = k ∨ getR l k' = getR (others l k ++ [fileOf k b]) k' := by
  by_cases hh : k' = k
  ·exact .inl hh
  ·exact .inr (get_put_other hh).symm
 generalize others l k ++ [fileOf k b] = N at *
 by_cases hkk : k' = k
 ·have q5 : (k' == k) = true := by simpa using hkk
  repeat' (first | apply nx | refine Kq_exit_ne (by decide) ?_ | rw [wrap64 (by omega) (by omega)] | ((first | refine hK _ ?_ | refine hKp _ _ ?_); clear hK hKp K Kp; try clear hanc anc) | ((with_reducible refine And.intro ?_ ?_); (focus (first | trivial | omega | (simp only [Fits]; omega) | assumption | (rw [hanc]; rfl)))) | ((first | refine K_regA hE fun K Kp hK hKp => ?_ | refine K_drwA false mixed hE fun K Kp hK hKp anc hanc => ?_ | ((first | apply CallP_mk | apply CallB_mk); (focus (simp only [go_sem] <;> rfl)); (focus (first | exact p1 | exact g1 | exact m1 | exact rn)); (focus (first | (simp [go_sem]; done) | (simp [go_sem, CloRow, AV.cells, AV.clo]; done))); (focus (first | exact .inl rfl | (right; simp [go_sem]))))); simp only [go_sem, ge_dec, q1, hO4, hO, hO2, hO3, u1, i_selfn, tx_self, bne, q5]) | ((first | refine onG_split_t (fun hg => ?_) (fun hg => ?_) | refine onG_split_f (fun hg => ?_) (fun hg => ?_)) <;> simp only [go_sem, ge_dec, q1, hO4, hO, hO2, hO3, u1, i_selfn, tx_self, bne, q5, hg]) | (refine K_condA (fun hc => ?_) (fun hc => ?_) <;> try (exact absurd hc (by decide))) | (refine K_ret ?_; refine (hQ _ ⟨_, by (try simp only [go_sem, ↓reduceIte, Nat.reduceEqDiff]); rfl, by simp [go_sem], ?_, by first | rfl | assumption⟩).1))
  simp [AV.snap]
 ·have q5 : (k' == k) = false := by simpa using hkk
  rw [decide_eq_true (hg2.resolve_left hkk)] at g2
  repeat' (first | apply nx | refine Kq_exit_ne (by decide) ?_ | rw [wrap64 (by omega) (by omega)] | ((first | refine hK _ ?_ | refine hKp _ _ ?_); clear hK hKp K Kp; try clear hanc anc) | ((with_reducible refine And.intro ?_ ?_); (focus (first | trivial | omega | (simp only [Fits]; omega) | assumption | (rw [hanc]; rfl)))) | ((first | refine K_regA hE fun K Kp hK hKp => ?_ | refine K_drwA false mixed hE fun K Kp hK hKp anc hanc => ?_ | ((first | apply CallP_mk | apply CallB_mk); (focus (simp only [go_sem] <;> rfl)); (focus (first | exact p1 | exact g1 | exact m1 | exact rn | exact g2)); (focus (first | (simp [go_sem]; done) | (simp [go_sem, CloRow, AV.cells, AV.clo]; done))); (focus (first | exact .inl rfl | (right; simp [go_sem]))))); simp only [go_sem, ge_dec, q1, hO4, hO, hO2, hO3, u1, i_selfn, tx_self, bne, q5]) | ((first | refine onG_split_t (fun hg => ?_) (fun hg => ?_) | refine onG_split_f (fun hg => ?_) (fun hg => ?_)) <;> simp only [go_sem, ge_dec, q1, hO4, hO, hO2, hO3, u1, i_selfn, tx_self, bne, q5, hg]) | (refine K_condA (fun hc => ?_) (fun hc => ?_) <;> try (exact absurd hc (by decide))) | (refine K_ret ?_; refine (hQ _ ⟨_, by (try simp only [go_sem, ↓reduceIte, Nat.reduceEqDiff]); rfl, by simp [go_sem], ?_, by first | rfl | assumption⟩).1))
  simp [AV.snap]
end Go.Proofs.YtfiehjbijdmbaaaDoor

set_option linter.unusedVariables false
namespace Go.Proofs.YtfiehjbijdmbaaaDoor
open Go.Am Go.Proofs Go.Ca
variable {H : Type}
theorem cachePuts_pcall {d0 d1 d2 d3 : DataW H} (h0 : DT Tryd.prog 22 d0) (h1 : DT Tryd.prog 3 d1) (h2 : DT Tryd.prog 3 d2) (h3 : DT Tryd.prog 23 d3) (b0 : bulk d0 ≤ 1048576) (b1 : bulk d1 ≤ 1048576) (b2 : bulk d2 ≤ 1048576) (b3 : bulk d3 ≤ 1048576) : PCall Tryd.prog 4 [avD d0, avD d1, avD d2, avD d3] (.bool true) := by
 obtain ⟨x0, e0, f0, g0⟩ := opn_fl h0 b0
 obtain ⟨x1, e1, f1⟩ := opn_int h1
 obtain ⟨x2, e2, f2⟩ := opn_int h2
 obtain ⟨x3, e3, f3⟩ := opn_ub h3
 rw [e0, e1, e2, e3]
 exact puts_c x0 x1 x2 x3 f0 f1 f2 (by omega) g0 (fb_put f0 g0 f1 (by omega))
end Go.Proofs.YtfiehjbijdmbaaaDoor
