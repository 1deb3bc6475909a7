/- A part of the proof: an abstract machine for the walks, and what the walked functions compute. -/
import Derived.Test.YtihfjibkmhclfaaDoorPh
import Derived.Test.YtihfjibkmhclfaaDoorPi
set_option linter.unusedVariables false
set_option linter.unusedSimpArgs false
set_option linter.unusedSimpArgs false
set_option linter.unusedVariables false
set_option maxHeartbeats 4000000
set_option maxRecDepth 100000
namespace Go.Proofs.YtihfjibkmhclfaaDoor
open Nat (reduceAdd reduceMul reduceEqDiff reduceLT reduceLeDiff reduceSub reduceDiv)
open Int (reduceBNe reduceLE reduceEq)
open Go.Am Go.Proofs Go.Lx
open Classical
attribute [local irreducible] AW CallP CallB
theorem nl_app (a : List UInt8) : tx a ++ (⟨#[10]⟩ : ByteArray) = tx (a ++ [10]) := tx_app a [10]
theorem concat_c (a b : List UInt8) (ha : a.length ≤ 2 ^ 29) (hb : b.length ≤ 2 ^ 29) : PCall Tryd.prog 6 [.str (tx a), .str (tx b)] (.bool true) := by
 have h0 := head_call
 have c1 := lex_call a (by omega)
 have c2 := lex_call b (by omega)
 have hn1 := lexT_len a
 have hn2 := lexT_len b
 unfold resL at c1 c2
 by_cases q1 : 10000 < a.length
 ·have q : decide ((a.length : Int) > 10000) = true := decide_eq_true (by omega)
  refine PCall.intro Tryd.func6 rfl isf6 (by simp [Tryd.f6]) (by simp [AV.cloL, AV.clo]) fun E Q hE hN hQ => K_start ?_
  repeat' (first | apply nx | refine Kq_exit_ne (by decide) ?_ | rw [wrap64 (by omega) (by omega)] | ((first | refine hK _ ?_ | refine hKp _ _ ?_); clear hK hKp K Kp; try clear hanc anc) | ((with_reducible refine And.intro ?_ ?_); (focus (first | trivial | omega | (simp only [Fits]; omega) | assumption | (rw [hanc]; rfl)))) | ((first | refine K_regA hE fun K Kp hK hKp => ?_ | refine K_drwA false mixed hE fun K Kp hK hKp anc hanc => ?_ | ((first | apply CallP_mk | apply CallB_mk); (focus (simp only [go_sem] <;> rfl)); (focus (exact h0)); (focus (first | (simp [go_sem]; done) | (simp [go_sem, CloRow, AV.cells, AV.clo]; done))); (focus (first | exact .inl rfl | (right; simp [go_sem]))))); simp only [go_sem, q]) | ((first | refine onG_split_t (fun hg => ?_) (fun hg => ?_) | refine onG_split_f (fun hg => ?_) (fun hg => ?_)) <;> simp only [go_sem, q, hg]) | (refine K_condA (fun hc => ?_) (fun hc => ?_) <;> try (exact absurd hc (by decide))) | (refine K_ret ?_; refine (hQ _ ⟨_, by (try simp only [go_sem, ↓reduceIte, Nat.reduceEqDiff]); rfl, by simp [go_sem], ?_, by first | rfl | assumption⟩).1))
  simp [AV.snap]
 have q : decide ((a.length : Int) > 10000) = false := decide_eq_false (by omega)
 by_cases q2 : 10000 < b.length
 ·have q' : decide ((b.length : Int) > 10000) = true := decide_eq_true (by omega)
  refine PCall.intro Tryd.func6 rfl isf6 (by simp [Tryd.f6]) (by simp [AV.cloL, AV.clo]) fun E Q hE hN hQ => K_start ?_
  repeat' (first | apply nx | refine Kq_exit_ne (by decide) ?_ | rw [wrap64 (by omega) (by omega)] | ((first | refine hK _ ?_ | refine hKp _ _ ?_); clear hK hKp K Kp; try clear hanc anc) | ((with_reducible refine And.intro ?_ ?_); (focus (first | trivial | omega | (simp only [Fits]; omega) | assumption | (rw [hanc]; rfl)))) | ((first | refine K_regA hE fun K Kp hK hKp => ?_ | refine K_drwA false mixed hE fun K Kp hK hKp anc hanc => ?_ | ((first | apply CallP_mk | apply CallB_mk); (focus (simp only [go_sem] <;> rfl)); (focus (exact h0)); (focus (first | (simp [go_sem]; done) | (simp [go_sem, CloRow, AV.cells, AV.clo]; done))); (focus (first | exact .inl rfl | (right; simp [go_sem]))))); simp only [go_sem, q, q']) | ((first | refine onG_split_t (fun hg => ?_) (fun hg => ?_) | refine onG_split_f (fun hg => ?_) (fun hg => ?_)) <;> simp only [go_sem, q, q', hg]) | (refine K_condA (fun hc => ?_) (fun hc => ?_) <;> try (exact absurd hc (by decide))) | (refine K_ret ?_; refine (hQ _ ⟨_, by (try simp only [go_sem, ↓reduceIte, Nat.reduceEqDiff]); rfl, by simp [go_sem], ?_, by first | rfl | assumption⟩).1))
  simp [AV.snap]
 have q' : decide ((b.length : Int) > 10000) = false := decide_eq_false (by omega)
 have hab : a ++ [10] ++ b = a ++ 10 :: b := by simp
 have c3 := lex_call (a ++ 10 :: b) (by simp; omega)
 unfold resL at c3
 have hz1 : a.length + (#[10] : Array UInt8).size + b.length ≤ 4611686018427387904 := by
  have a3 : (#[10] : Array UInt8).size = 1 := rfl
  omega
 have hz2 : a.length + (#[10] : Array UInt8).size ≤ 4611686018427387904 := Nat.le_trans (Nat.le_add_right _ _) hz1
 have hz3 : (a ++ [10]).length + b.length ≤ 4611686018427387904 := by
  rw [List.length_append]; exact hz1
 have f1 : ((0 : Int) == 2) = false := rfl
 have f2 : ((2 : Int) == 2) = true := rfl
 by_cases he : (lexT a).2.1 = 0
 case neg =>
  have e1 : ((lexT a).2.1 != 0) = true := by simpa using he
  generalize lexT a = r1 at *
  generalize lexT b = r2 at *
  generalize lexT (a ++ 10 :: b) = r3 at *
  refine PCall.intro Tryd.func6 rfl isf6 (by simp [Tryd.f6]) (by simp [AV.cloL, AV.clo]) fun E Q hE hN hQ => K_start ?_
  repeat' (first | apply nx | refine Kq_exit_ne (by decide) ?_ | rw [wrap64 (by omega) (by omega)] | ((first | refine hK _ ?_ | refine hKp _ _ ?_); clear hK hKp K Kp; try clear hanc anc) | ((with_reducible refine And.intro ?_ ?_); (focus (first | trivial | omega | (simp only [Fits]; omega) | assumption | (rw [hanc]; rfl)))) | ((first | refine K_regA hE fun K Kp hK hKp => ?_ | refine K_drwA false mixed hE fun K Kp hK hKp anc hanc => ?_ | ((first | apply CallP_mk | apply CallB_mk); (focus (simp only [go_sem] <;> rfl)); (focus (first | exact h0 | exact c1 | exact c2 | exact c3)); (focus (first | (simp [go_sem]; done) | (simp [go_sem, CloRow, AV.cells, AV.clo]; done))); (focus (first | exact .inl rfl | (right; simp [go_sem]))))); simp only [go_sem, q, q', e1, nl_app, tx_app, hab, hz1, hz2, hz3]) | ((first | refine onG_split_t (fun hg => ?_) (fun hg => ?_) | refine onG_split_f (fun hg => ?_) (fun hg => ?_)) <;> simp only [go_sem, q, q', e1, nl_app, tx_app, hab, hz1, hz2, hz3, hg]) | (refine K_condA (fun hc => ?_) (fun hc => ?_) <;> try (exact absurd hc (by decide))) | (refine K_ret ?_; refine (hQ _ ⟨_, by (try simp only [go_sem, ↓reduceIte, Nat.reduceEqDiff]); rfl, by simp [go_sem], ?_, by first | rfl | assumption⟩).1))
  simp [AV.snap]
 by_cases hf : (lexT b).2.1 = 0
 case neg =>
  have e1 : ((lexT a).2.1 != 0) = false := by simpa using he
  have e2 : ((lexT b).2.1 != 0) = true := by simpa using hf
  generalize lexT a = r1 at *
  generalize lexT b = r2 at *
  generalize lexT (a ++ 10 :: b) = r3 at *
  refine PCall.intro Tryd.func6 rfl isf6 (by simp [Tryd.f6]) (by simp [AV.cloL, AV.clo]) fun E Q hE hN hQ => K_start ?_
  repeat' (first | apply nx | refine Kq_exit_ne (by decide) ?_ | rw [wrap64 (by omega) (by omega)] | ((first | refine hK _ ?_ | refine hKp _ _ ?_); clear hK hKp K Kp; try clear hanc anc) | ((with_reducible refine And.intro ?_ ?_); (focus (first | trivial | omega | (simp only [Fits]; omega) | assumption | (rw [hanc]; rfl)))) | ((first | refine K_regA hE fun K Kp hK hKp => ?_ | refine K_drwA false mixed hE fun K Kp hK hKp anc hanc => ?_ | ((first | apply CallP_mk | apply CallB_mk); (focus (simp only [go_sem] <;> rfl)); (focus (first | exact h0 | exact c1 | exact c2 | exact c3)); (focus (first | (simp [go_sem]; done) | (simp [go_sem, CloRow, AV.cells, AV.clo]; done))); (focus (first | exact .inl rfl | (right; simp [go_sem]))))); simp only [go_sem, q, q', e1, e2, nl_app, tx_app, hab, hz1, hz2, hz3]) | ((first | refine onG_split_t (fun hg => ?_) (fun hg => ?_) | refine onG_split_f (fun hg => ?_) (fun hg => ?_)) <;> simp only [go_sem, q, q', e1, e2, nl_app, tx_app, hab, hz1, hz2, hz3, hg]) | (refine K_condA (fun hc => ?_) (fun hc => ?_) <;> try (exact absurd hc (by decide))) | (refine K_ret ?_; refine (hQ _ ⟨_, by (try simp only [go_sem, ↓reduceIte, Nat.reduceEqDiff]); rfl, by simp [go_sem], ?_, by first | rfl | assumption⟩).1))
  simp [AV.snap]
 obtain ⟨g1, g2⟩ := lexT_ok (by omega) he
 obtain ⟨g3, g4⟩ := lexT_ok (by omega) hf
 have hj := join_ok g2 g4
 rw [g1] at c1 hn1
 rw [g3] at c2 hn2
 have hxo := lx_small (a.length + 1) 0 a (Nat.lt_succ_self _)
 have hyo : ∀ (i : Nat) (t : Tk), (lx 0 b).1[i]? = some t → t.off ≤ b.length := fun i t h => by have := ((lx_pre (b.length + 1) 0 b i (Nat.lt_succ_self _)).1 t h).2.1; omega
 generalize (lx 0 a).1 = xs at *
 generalize (lx 0 b).1 = ys at *
 simp only at c1 c2 hn1 hn2
 have v0 : IntKind.i64.wrap ((xs.length : Int) + (ys.length : Int)) = ((xs.length + ys.length : Nat) : Int) := by rw [wrap64 (by omega) (by omega)]; omega
 have v1 : IntKind.i64.wrap ((a.length : Int) + (b.length : Int)) = ((a.length + b.length : Nat) : Int) := by rw [wrap64 (by omega) (by omega)]; omega
 have v2 : IntKind.i64.wrap (((a.length + b.length : Nat) : Int) + 1) = ((a.length + b.length + 1 : Nat) : Int) := by rw [wrap64 (by omega) (by omega)]; omega
 by_cases hs : 20000 < a.length + b.length + 1
 ·have q3 : decide (((a.length + b.length + 1 : Nat) : Int) > 20000) = true := decide_eq_true (by omega)
  rw [lexT_gt (by simp; omega)] at c3
  simp only at c3
  by_cases hx : 6000 < xs.length + ys.length
  ·have q4 : decide (((xs.length + ys.length : Nat) : Int) > 6000) = true := decide_eq_true (by omega)
   refine PCall.intro Tryd.func6 rfl isf6 (by simp [Tryd.f6]) (by simp [AV.cloL, AV.clo]) fun E Q hE hN hQ => K_start ?_
   repeat' (first | apply nx | refine Kq_exit_ne (by decide) ?_ | rw [wrap64 (by omega) (by omega)] | ((first | refine hK _ ?_ | refine hKp _ _ ?_); clear hK hKp K Kp; try clear hanc anc) | ((with_reducible refine And.intro ?_ ?_); (focus (first | trivial | omega | (simp only [Fits]; omega) | assumption | (rw [hanc]; rfl)))) | ((first | refine K_regA hE fun K Kp hK hKp => ?_ | refine K_drwA false mixed hE fun K Kp hK hKp anc hanc => ?_ | ((first | apply CallP_mk | apply CallB_mk); (focus (simp only [go_sem] <;> rfl)); (focus (first | exact h0 | exact c1 | exact c2 | exact c3)); (focus (first | (simp [go_sem]; done) | (simp [go_sem, CloRow, AV.cells, AV.clo]; done))); (focus (first | exact .inl rfl | (right; simp [go_sem]))))); simp only [go_sem, q, q', nl_app, tx_app, hab, hz1, hz2, hz3, v0, v1, v2, q3, q4, f2]) | ((first | refine onG_split_t (fun hg => ?_) (fun hg => ?_) | refine onG_split_f (fun hg => ?_) (fun hg => ?_)) <;> simp only [go_sem, q, q', nl_app, tx_app, hab, hz1, hz2, hz3, v0, v1, v2, q3, q4, f2, hg]) | (refine K_condA (fun hc => ?_) (fun hc => ?_) <;> try (exact absurd hc (by decide))) | (refine K_ret ?_; refine (hQ _ ⟨_, by (try simp only [go_sem, ↓reduceIte, Nat.reduceEqDiff]); rfl, by simp [go_sem], ?_, by first | rfl | assumption⟩).1))
   simp [AV.snap]
  ·have q4 : decide (((xs.length + ys.length : Nat) : Int) > 6000) = false := decide_eq_false (by omega)
   refine PCall.intro Tryd.func6 rfl isf6 (by simp [Tryd.f6]) (by simp [AV.cloL, AV.clo]) fun E Q hE hN hQ => K_start ?_
   repeat' (first | apply nx | refine Kq_exit_ne (by decide) ?_ | rw [wrap64 (by omega) (by omega)] | ((first | refine hK _ ?_ | refine hKp _ _ ?_); clear hK hKp K Kp; try clear hanc anc) | ((with_reducible refine And.intro ?_ ?_); (focus (first | trivial | omega | (simp only [Fits]; omega) | assumption | (rw [hanc]; rfl)))) | ((first | refine K_regA hE fun K Kp hK hKp => ?_ | refine K_drwA false mixed hE fun K Kp hK hKp anc hanc => ?_ | ((first | apply CallP_mk | apply CallB_mk); (focus (simp only [go_sem] <;> rfl)); (focus (first | exact h0 | exact c1 | exact c2 | exact c3)); (focus (first | (simp [go_sem]; done) | (simp [go_sem, CloRow, AV.cells, AV.clo]; done))); (focus (first | exact .inl rfl | (right; simp [go_sem]))))); simp only [go_sem, q, q', nl_app, tx_app, hab, hz1, hz2, hz3, v0, v1, v2, q3, q4, f2]) | ((first | refine onG_split_t (fun hg => ?_) (fun hg => ?_) | refine onG_split_f (fun hg => ?_) (fun hg => ?_)) <;> simp only [go_sem, q, q', nl_app, tx_app, hab, hz1, hz2, hz3, v0, v1, v2, q3, q4, f2, hg]) | (refine K_condA (fun hc => ?_) (fun hc => ?_) <;> try (exact absurd hc (by decide))) | (refine K_ret ?_; refine (hQ _ ⟨_, by (try simp only [go_sem, ↓reduceIte, Nat.reduceEqDiff]); rfl, by simp [go_sem], ?_, by first | rfl | assumption⟩).1))
   simp [AV.snap]
 have q3 : decide (((a.length + b.length + 1 : Nat) : Int) > 20000) = false := decide_eq_false (by omega)
 rw [lexT_le (by simp; omega), lexM_eq, hj] at c3
 simp only [List.length_append, List.length_map] at c3
 by_cases hx : 6000 < xs.length + ys.length
 ·have q4 : decide (((xs.length + ys.length : Nat) : Int) > 6000) = true := decide_eq_true (by omega)
  rw [if_pos hx] at c3
  simp only at c3
  generalize Tk.off _ = o at c3
  refine PCall.intro Tryd.func6 rfl isf6 (by simp [Tryd.f6]) (by simp [AV.cloL, AV.clo]) fun E Q hE hN hQ => K_start ?_
  repeat' (first | apply nx | refine Kq_exit_ne (by decide) ?_ | rw [wrap64 (by omega) (by omega)] | ((first | refine hK _ ?_ | refine hKp _ _ ?_); clear hK hKp K Kp; try clear hanc anc) | ((with_reducible refine And.intro ?_ ?_); (focus (first | trivial | omega | (simp only [Fits]; omega) | assumption | (rw [hanc]; rfl)))) | ((first | refine K_regA hE fun K Kp hK hKp => ?_ | refine K_drwA false mixed hE fun K Kp hK hKp anc hanc => ?_ | ((first | apply CallP_mk | apply CallB_mk); (focus (simp only [go_sem] <;> rfl)); (focus (first | exact h0 | exact c1 | exact c2 | exact c3)); (focus (first | (simp [go_sem]; done) | (simp [go_sem, CloRow, AV.cells, AV.clo]; done))); (focus (first | exact .inl rfl | (right; simp [go_sem]))))); simp only [go_sem, q, q', nl_app, tx_app, hab, hz1, hz2, hz3, v0, v1, v2, q3, q4, f2]) | ((first | refine onG_split_t (fun hg => ?_) (fun hg => ?_) | refine onG_split_f (fun hg => ?_) (fun hg => ?_)) <;> simp only [go_sem, q, q', nl_app, tx_app, hab, hz1, hz2, hz3, v0, v1, v2, q3, q4, f2, hg]) | (refine K_condA (fun hc => ?_) (fun hc => ?_) <;> try (exact absurd hc (by decide))) | (refine K_ret ?_; refine (hQ _ ⟨_, by (try simp only [go_sem, ↓reduceIte, Nat.reduceEqDiff]); rfl, by simp [go_sem], ?_, by first | rfl | assumption⟩).1))
  simp [AV.snap]
 have q4 : decide (((xs.length + ys.length : Nat) : Int) > 6000) = false := decide_eq_false (by omega)
 rw [if_neg hx, if_neg (by simp)] at c3
 simp only at c3
 have hzl : (xs ++ ys.map (up (a.length + 1))).length = xs.length + ys.length := by simp
 have q5 : (((xs.length + ys.length : Nat) : Int) != ((xs.length + ys.length : Nat) : Int)) = false := by simp
 generalize hzs : xs ++ ys.map (up (a.length + 1)) = zs at *
 refine PCall.intro Tryd.func6 rfl isf6 (by simp [Tryd.f6]) (by simp [AV.cloL, AV.clo]) fun E Q hE hN hQ => K_start ?_
 repeat' (first | apply nx | refine Kq_exit_ne (by decide) ?_ | rw [wrap64 (by omega) (by omega)] | ((first | refine hK _ ?_ | refine hKp _ _ ?_); clear hK hKp K Kp; try clear hanc anc) | ((with_reducible refine And.intro ?_ ?_); (focus (first | trivial | omega | (simp only [Fits]; omega) | assumption | (rw [hanc]; rfl)))) | ((first | refine K_regA hE fun K Kp hK hKp => ?_ | refine K_drwA false mixed hE fun K Kp hK hKp anc hanc => ?_ | ((first | apply CallP_mk | apply CallB_mk); (focus (simp only [go_sem] <;> rfl)); (focus (first | exact h0 | exact c1 | exact c2 | exact c3)); (focus (first | (simp [go_sem]; done) | (simp [go_sem, CloRow, AV.cells, AV.clo]; done))); (focus (first | exact .inl rfl | (right; simp [go_sem]))))); simp only [go_sem, q, q', nl_app, tx_app, hab, hz1, hz2, hz3, v0, v1, v2, q3, q4, q5, f1, hzl]) | ((first | refine onG_split_t (fun hg => ?_) (fun hg => ?_) | refine onG_split_f (fun hg => ?_) (fun hg => ?_)) <;> simp only [go_sem, q, q', nl_app, tx_app, hab, hz1, hz2, hz3, v0, v1, v2, q3, q4, q5, f1, hzl, hg]) | (refine K_condA (fun hc => ?_) (fun hc => ?_) <;> try (exact absurd hc (by decide))) | (refine K_ret ?_; refine (hQ _ ⟨_, by (try simp only [go_sem, ↓reduceIte, Nat.reduceEqDiff]); rfl, by simp [go_sem], ?_, by first | rfl | assumption⟩).1))
 refine K_loop (X := Nat) (fun i => i ≤ zs.length) (fun i => mkSt [(0, .str (tx a)), (5, .bool true), (6, .sl (tkl xs)), (9, .sl (tkl ys)), (12, .sl (tkl zs)), (15, .i i)] [] 0) (fun i => zs.length - i) 0 (Nat.zero_le _) (fun i => i) (by refine ent_mk (by simp [go_sem]) (by simp [go_sem]) (by simp) (by simp [hN])) ?_
 intro i hi
 by_cases hlt : i < zs.length
 case neg =>
  obtain rfl : i = zs.length := by omega
  repeat' (first | apply nx | refine Kq_exit_ne (by decide) ?_ | rw [wrap64 (by omega) (by omega)] | ((first | refine hK _ ?_ | refine hKp _ _ ?_); clear hK hKp K Kp; try clear hanc anc) | ((with_reducible refine And.intro ?_ ?_); (focus (first | trivial | omega | (simp only [Fits]; omega) | assumption | (rw [hanc]; rfl)))) | ((first | refine K_regA hE fun K Kp hK hKp => ?_ | refine K_drwA false mixed hE fun K Kp hK hKp anc hanc => ?_); simp only [go_sem, ge_dec]) | ((first | refine onG_split_t (fun hg => ?_) (fun hg => ?_) | refine onG_split_f (fun hg => ?_) (fun hg => ?_)) <;> simp only [go_sem, ge_dec, hg]) | (refine K_condA (fun hc => ?_) (fun hc => ?_) <;> try (exact absurd hc (by decide))) | (refine K_ret ?_; refine (hQ _ ⟨_, by (try simp only [go_sem, ↓reduceIte, Nat.reduceEqDiff]); rfl, by simp [go_sem], ?_, by first | rfl | assumption⟩).1))
  simp [AV.snap]
 have u1 : IntKind.i64.wrap ((i : Int) + 1) = ((i + 1 : Nat) : Int) := by rw [wrap64 (by omega) (by omega)]; omega
 by_cases hlx : i < xs.length
 ·obtain ⟨t, ht⟩ := get?_of hlx
  have htz : zs[i]? = some t := by rw [← hzs, List.getElem?_append_left hlx]; exact ht
  repeat' (first | apply nx | refine Kq_exit_ne (by decide) ?_ | rw [wrap64 (by omega) (by omega)] | ((first | refine hK _ ?_ | refine hKp _ _ ?_); clear hK hKp K Kp; try clear hanc anc) | ((with_reducible refine And.intro ?_ ?_); (focus (first | trivial | omega | (simp only [Fits]; omega) | assumption | (rw [hanc]; rfl)))) | ((first | refine K_regA hE fun K Kp hK hKp => ?_ | refine K_drwA false mixed hE fun K Kp hK hKp anc hanc => ?_); simp only [go_sem, lt_dec hlt, lt_dec hlx, ht, htz, Tk.av_eq, u1, agg30 .neq t t true (by simp)]) | ((first | refine onG_split_t (fun hg => ?_) (fun hg => ?_) | refine onG_split_f (fun hg => ?_) (fun hg => ?_)) <;> simp only [go_sem, lt_dec hlt, lt_dec hlx, ht, htz, Tk.av_eq, u1, agg30 .neq t t true (by simp), hg]) | (refine K_condA (fun hc => ?_) (fun hc => ?_) <;> try (exact absurd hc (by decide))) | (refine K_ret ?_; refine (hQ _ ⟨_, by (try simp only [go_sem, ↓reduceIte, Nat.reduceEqDiff]); rfl, by simp [go_sem], ?_, by first | rfl | assumption⟩).1))
  exact ⟨i + 1, hlt, by omega, fun i => i, by refine ent_mk (by simp [go_sem]) (by simp [go_sem]) (by simp) (by simp [hN])⟩
 have hly : i - xs.length < ys.length := by omega
 obtain ⟨t, ht⟩ := get?_of hly
 have htz : zs[i]? = some (up (a.length + 1) t) := by
  rw [← hzs, List.getElem?_append_right (by omega), List.getElem?_map, ht]; rfl
 have hto := hyo _ t ht
 have u2 : IntKind.i64.wrap ((i : Int) - (xs.length : Int)) = ((i - xs.length : Nat) : Int) := by rw [wrap64 (by omega) (by omega)]; omega
 have u3 : IntKind.i64.wrap ((t.off : Int) + (a.length : Int)) = ((t.off + a.length : Nat) : Int) := by rw [wrap64 (by omega) (by omega)]; omega
 have u4 : IntKind.i64.wrap (((t.off + a.length : Nat) : Int) + 1) = ((t.off + (a.length + 1) : Nat) : Int) := by rw [wrap64 (by omega) (by omega)]; omega
 have hlx2 : decide ((i : Int) < (xs.length : Int)) = false := decide_eq_false (by omega)
 have hag := agg30 .neq (up (a.length + 1) t) (up (a.length + 1) t) true (by simp)
 have hup : (up (a.length + 1) t).av = .agg [.i t.kind, .str (tx t.text), .i t.num, .i ((t.off + (a.length + 1) : Nat) : Int)] := rfl
 have hag' : aggE Tryd.prog .neq 30 [.i (up (a.length + 1) t).kind, .str (tx (up (a.length + 1) t).text), .i (up (a.length + 1) t).num, .i ((up (a.length + 1) t).off : Int)] [.i t.kind, .str (tx t.text), .i t.num, .i ((t.off + (a.length + 1) : Nat) : Int)] = some (True, .bool (!true)) := hag
 repeat' (first | apply nx | refine Kq_exit_ne (by decide) ?_ | rw [wrap64 (by omega) (by omega)] | ((first | refine hK _ ?_ | refine hKp _ _ ?_); clear hK hKp K Kp; try clear hanc anc) | ((with_reducible refine And.intro ?_ ?_); (focus (first | trivial | omega | (simp only [Fits]; omega) | assumption | (rw [hanc]; rfl)))) | ((first | refine K_regA hE fun K Kp hK hKp => ?_ | refine K_drwA false mixed hE fun K Kp hK hKp anc hanc => ?_); simp only [go_sem, lt_dec hlt, lt_dec hly, hlx2, ht, htz, Tk.av_eq, u1, u2, u3, u4, hag']) | ((first | refine onG_split_t (fun hg => ?_) (fun hg => ?_) | refine onG_split_f (fun hg => ?_) (fun hg => ?_)) <;> simp only [go_sem, lt_dec hlt, lt_dec hly, hlx2, ht, htz, Tk.av_eq, u1, u2, u3, u4, hag', hg]) | (refine K_condA (fun hc => ?_) (fun hc => ?_) <;> try (exact absurd hc (by decide))) | (refine K_ret ?_; refine (hQ _ ⟨_, by (try simp only [go_sem, ↓reduceIte, Nat.reduceEqDiff]); rfl, by simp [go_sem], ?_, by first | rfl | assumption⟩).1))
 exact ⟨i + 1, hlt, by omega, fun i => i, by refine ent_mk (by simp [go_sem]) (by simp [go_sem]) (by simp) (by simp [hN])⟩
end Go.Proofs.YtihfjibkmhclfaaDoor

set_option linter.unusedVariables false
namespace Go.Proofs.YtihfjibkmhclfaaDoor
open Go.Am Go.Proofs Go.Lx
variable {H : Type}
theorem lexerConcatenates_pcall {d0 d1 : DataW H} (h0 : DT Tryd.prog 9 d0) (h1 : DT Tryd.prog 9 d1) (b0 : bulk d0 ≤ 1048576) (b1 : bulk d1 ≤ 1048576) : PCall Tryd.prog 6 [avD d0, avD d1] (.bool true) := by
 obtain ⟨x0, e0, f0⟩ := opn_s h0
 obtain ⟨x1, e1, f1⟩ := opn_s h1
 rw [e0, e1]
 exact concat_c x0 x1 (by omega) (by omega)
end Go.Proofs.YtihfjibkmhclfaaDoor
