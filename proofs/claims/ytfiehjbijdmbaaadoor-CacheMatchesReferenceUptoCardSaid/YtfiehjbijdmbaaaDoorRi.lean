/- A part of the proof: an abstract machine for the walks, and what the walked functions compute. -/
import Derived.Test.YtfiehjbijdmbaaaDoorRh
set_option linter.unusedVariables false
set_option linter.unusedSimpArgs false
set_option linter.unusedSimpArgs false
set_option linter.unusedVariables false
set_option maxHeartbeats 4000000
set_option maxRecDepth 100000
namespace Go.Proofs.YtfiehjbijdmbaaaDoor
open Nat (reduceAdd reduceMul reduceEqDiff reduceLT reduceLeDiff reduceSub reduceDiv)
open Int (reduceBNe reduceLE reduceEq)
open Go.Am Go.Proofs Go.Ca
open Classical
attribute [local irreducible] AW CallP CallB
theorem tx_self (a : ByteArray) : (a.toList == a.toList) = true := by rw [ba_eqB]; exact decide_eq_true rfl
theorem i_self (n : Int) : (n == n) = true := by simp
theorem i_selfn (n : Int) : (n != n) = false := by simp
theorem put_len (l : List Fl) (k : Int) (b : List UInt8) : (putR l k b).1.length ≤ l.length + 1 := by
 have := others_len l k
 unfold putR
 split
 ·simp
 ·simp; omega
theorem matches_c (l : List Fl) (k : Int) (b : List UInt8) (n : Int) (hB : FB l) (hk : I64 k) (hb : b.length ≤ 2 ^ 30) : PCall Tryd.prog 3 [.sl (fl l), .i k, .sl (ub b), .i n] (.bool true) := by
 have hl := hB.len
 have h0 := head_call
 have hfe := few_call l b (by omega) (by omega) (fun f hf => ⟨by have := hB.bs f hf; omega, by have := hB.nm f hf; omega⟩)
 have hpl := put_len l k b
 have p1 := put_call l k b hB hk hb
 have p2 := rput_call l k b hB hk hb
 have g1 := get_call l k hB hk
 have g2 := rget_call l k (by omega) (fun f hf => hB.bs f hf) hk.1 hk.2
 rw [getR_rget hk] at g2
 have s1 := sound_call l hB
 have s2 := rsound_call l hB
 have m1 := same_call (putR l k b).1 (putR l k b).1 (by omega) (by omega)
 have t1 := trim_call l n hl
 have t2 := rtrim_call l n hl
 have htl : (trimR l n).length ≤ l.length := by simp [trimR]
 have m2 := same_call (trimR l n) (trimR l n) (by omega) (by omega)
 rw [decide_eq_true rfl] at m1 m2
 have hSl : (soundR l).length ≤ l.length := sndU_len l l.length
 generalize trimR l n = T at *
 generalize putR l k b = P at *
 generalize getR l k = G at *
 generalize soundR l = S at *
 cases hf : fewB l b
 ·rw [hf] at hfe
  refine PCall.intro Tryd.func3 rfl isf3 (by simp [Tryd.f3]) (by simp [AV.cloL, AV.clo]) fun E Q hE hN hQ => K_start ?_
  repeat' (first | apply nx | refine Kq_exit_ne (by decide) ?_ | rw [wrap64 (by omega) (by omega)] | ((first | refine hK _ ?_ | refine hKp _ _ ?_); clear hK hKp K Kp; try clear hanc anc) | ((with_reducible refine And.intro ?_ ?_); (focus (first | trivial | omega | (simp only [Fits]; omega) | assumption | (rw [hanc]; rfl)))) | ((first | refine K_regA hE fun K Kp hK hKp => ?_ | refine K_drwA false mixed hE fun K Kp hK hKp anc hanc => ?_ | ((first | apply CallP_mk | apply CallB_mk); (focus (simp only [go_sem] <;> rfl)); (focus (first | exact h0 | exact hfe)); (focus (first | (simp [go_sem]; done) | (simp [go_sem, CloRow, AV.cells, AV.clo]; done))); (focus (first | exact .inl rfl | (right; simp [go_sem]))))); simp only [go_sem, Bool.not_false]) | ((first | refine onG_split_t (fun hg => ?_) (fun hg => ?_) | refine onG_split_f (fun hg => ?_) (fun hg => ?_)) <;> simp only [go_sem, Bool.not_false, hg]) | (refine K_condA (fun hc => ?_) (fun hc => ?_) <;> try (exact absurd hc (by decide))) | (refine K_ret ?_; refine (hQ _ ⟨_, by (try simp only [go_sem, ↓reduceIte, Nat.reduceEqDiff]); rfl, by simp [go_sem], ?_, by first | rfl | assumption⟩).1))
  simp [AV.snap]
 ·rw [hf] at hfe
  refine PCall.intro Tryd.func3 rfl isf3 (by simp [Tryd.f3]) (by simp [AV.cloL, AV.clo]) fun E Q hE hN hQ => K_start ?_
  repeat' (first | apply nx | refine Kq_exit_ne (by decide) ?_ | rw [wrap64 (by omega) (by omega)] | ((first | refine hK _ ?_ | refine hKp _ _ ?_); clear hK hKp K Kp; try clear hanc anc) | ((with_reducible refine And.intro ?_ ?_); (focus (first | trivial | omega | (simp only [Fits]; omega) | assumption | (rw [hanc]; rfl)))) | ((first | refine K_regA hE fun K Kp hK hKp => ?_ | refine K_drwA false mixed hE fun K Kp hK hKp anc hanc => ?_ | ((first | apply CallP_mk | apply CallB_mk); (focus (simp only [go_sem] <;> rfl)); (focus (first | exact h0 | exact hfe | exact p1 | exact p2 | exact g1 | exact g2 | exact s1 | exact s2)); (focus (first | (simp [go_sem]; done) | (simp [go_sem, CloRow, AV.cells, AV.clo]; done))); (focus (first | exact .inl rfl | (right; simp [go_sem]))))); simp only [go_sem, Bool.not_true, i_selfn]) | ((first | refine onG_split_t (fun hg => ?_) (fun hg => ?_) | refine onG_split_f (fun hg => ?_) (fun hg => ?_)) <;> simp only [go_sem, Bool.not_true, i_selfn, hg]) | (refine K_condA (fun hc => ?_) (fun hc => ?_) <;> try (exact absurd hc (by decide))) | (refine K_ret ?_; refine (hQ _ ⟨_, by (try simp only [go_sem, ↓reduceIte, Nat.reduceEqDiff]); rfl, by simp [go_sem], ?_, by first | rfl | assumption⟩).1))
  refine K_loop (X := Nat) (fun i => i ≤ S.length) (fun i => mkSt [(0, .sl (fl l)), (3, .i n), (9, .bool true), (10, .sl (fl P.1)), (11, .i P.2), (12, .sl (fl P.1)), (13, .i P.2), (14, .sl (ub G.1)), (15, .i G.2), (16, .sl (ub G.1)), (17, .i G.2), (18, .sl (il S)), (19, .sl (il S)), (20, .i i)] [] 0) (fun i => S.length - i) 0 (Nat.zero_le _) (fun i => i) (by refine ent_mk (by simp [go_sem]) (by simp [go_sem]) (by simp) (by simp [hN])) ?_
  intro i hi
  by_cases hlt : i < S.length
  ·obtain ⟨x, hx⟩ := get?_of hlt
   repeat' (first | apply nx | refine Kq_exit_ne (by decide) ?_ | rw [wrap64 (by omega) (by omega)] | ((first | refine hK _ ?_ | refine hKp _ _ ?_); clear hK hKp K Kp; try clear hanc anc) | ((with_reducible refine And.intro ?_ ?_); (focus (first | trivial | omega | (simp only [Fits]; omega) | assumption | (rw [hanc]; rfl)))) | ((first | refine K_regA hE fun K Kp hK hKp => ?_ | refine K_drwA false mixed hE fun K Kp hK hKp anc hanc => ?_); simp only [go_sem, lt_dec hlt, hx, i_selfn]) | ((first | refine onG_split_t (fun hg => ?_) (fun hg => ?_) | refine onG_split_f (fun hg => ?_) (fun hg => ?_)) <;> simp only [go_sem, lt_dec hlt, hx, i_selfn, hg]) | (refine K_condA (fun hc => ?_) (fun hc => ?_) <;> try (exact absurd hc (by decide))) | (refine K_ret ?_; refine (hQ _ ⟨_, by (try simp only [go_sem, ↓reduceIte, Nat.reduceEqDiff]); rfl, by simp [go_sem], ?_, by first | rfl | assumption⟩).1))
   exact ⟨i + 1, by omega, by omega, fun i => i, by refine ent_mk (by simp [go_sem]) (by simp [go_sem]) (by simp) (by simp [hN])⟩
  ·obtain rfl : i = S.length := by omega
   repeat' (first | apply nx | refine Kq_exit_ne (by decide) ?_ | rw [wrap64 (by omega) (by omega)] | ((first | refine hK _ ?_ | refine hKp _ _ ?_); clear hK hKp K Kp; try clear hanc anc) | ((with_reducible refine And.intro ?_ ?_); (focus (first | trivial | omega | (simp only [Fits]; omega) | assumption | (rw [hanc]; rfl)))) | ((first | refine K_regA hE fun K Kp hK hKp => ?_ | refine K_drwA false mixed hE fun K Kp hK hKp anc hanc => ?_ | ((first | apply CallP_mk | apply CallB_mk); (focus (simp only [go_sem] <;> rfl)); (focus (first | exact m1 | exact t1 | exact t2 | exact m2)); (focus (first | (simp [go_sem]; done) | (simp [go_sem, CloRow, AV.cells, AV.clo]; done))); (focus (first | exact .inl rfl | (right; simp [go_sem]))))); simp only [go_sem, ge_dec, i_self, tx_self]) | ((first | refine onG_split_t (fun hg => ?_) (fun hg => ?_) | refine onG_split_f (fun hg => ?_) (fun hg => ?_)) <;> simp only [go_sem, ge_dec, i_self, tx_self, hg]) | (refine K_condA (fun hc => ?_) (fun hc => ?_) <;> try (exact absurd hc (by decide))) | (refine K_ret ?_; refine (hQ _ ⟨_, by (try simp only [go_sem, ↓reduceIte, Nat.reduceEqDiff]); rfl, by simp [go_sem], ?_, by first | rfl | assumption⟩).1))
   simp [AV.snap]
end Go.Proofs.YtfiehjbijdmbaaaDoor
