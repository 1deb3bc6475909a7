/- A part of the proof: an abstract machine for the walks, and what the walked functions compute. -/
import Derived.Test.YtlhhahocjfgmdaaPd
import Derived.Test.YtlhhahocjfgmdaaPa
set_option linter.unusedVariables false
set_option linter.unusedSimpArgs false
set_option linter.unusedSimpArgs false
set_option linter.unusedVariables false
set_option maxHeartbeats 4000000
set_option maxRecDepth 100000
namespace Go.Proofs.Ytlhhahocjfgmdaa
open Nat (reduceAdd reduceMul reduceEqDiff reduceLT reduceLeDiff reduceSub reduceDiv)
open Int (reduceBNe reduceLE reduceEq)
open Go.Am Go.Proofs Go.Hv Go.Mv
open Classical
attribute [local irreducible] AW CallP CallB
theorem typed_ih {d : List Dd} : ∀ (ts : List Ty) (vs : List Vl), ts.length = vs.length → tdL d ts vs = decide (∀ (j : Nat) t v, ts[j]? = some t → vs[j]? = some v → tdB d t v = true) := by
 intro ts vs hl
 have := tdL_iff d ts vs
 by_cases h : ∀ (j : Nat) t v, ts[j]? = some t → vs[j]? = some v → tdB d t v = true
 ·rw [decide_eq_true h]; exact this.2 ⟨hl, h⟩
 ·rw [decide_eq_false h]
  cases e : tdL d ts vs
  ·rfl
  ·exact absurd (this.1 e).2 h
theorem rtyped_call : ∀ (N : Nat) (d : List Dd) (t : Ty) (v : Vl), v.sz < N → N ≤ 2 ^ 40 → dSz d ≤ 2 ^ 40 → PCall Try.prog 10 [.sl (ddl d), t.av, v.av] (.bool (tdB d t v)) := by
 intro N
 induction N with
 | zero => intro d t v h; omega
 | succ N ih =>
 intro d t v hn hN hd
 have hsz := v.sz_eq
 have hlf := Vl.len_le v.fs
 cases t with | mk tk ti ta =>
 cases v with | mk k id var n fs ex p q =>
 simp only [Vl.fs] at hsz hlf
 rw [tdB, Ty.av, Vl.av]
 by_cases t1 : tk = 1
 ·subst t1
  refine PCall.intro Try.func10 rfl isf10 (by simp [Try.f10]) (by simp [AV.cloL, AV.clo]) fun E Q hE hN hQ => K_start ?_
  repeat' (first | apply nx | refine Kq_exit_ne (by decide) ?_ | rw [wrap64 (by omega) (by omega)] | ((first | refine hK _ ?_ | refine hKp _ _ ?_); clear hK hKp K Kp; try clear hanc anc) | ((with_reducible refine And.intro ?_ ?_); (focus (first | trivial | omega | (simp only [Fits]; omega) | assumption | (rw [hanc]; rfl)))) | ((first | refine K_regA hE fun K Kp hK hKp => ?_ | refine K_drwA false mixed hE fun K Kp hK hKp anc hanc => ?_); simp only [go_sem]) | ((first | refine onG_split_t (fun hg => ?_) (fun hg => ?_) | refine onG_split_f (fun hg => ?_) (fun hg => ?_)) <;> simp only [go_sem, hg]) | (refine K_condA (fun hc => ?_) (fun hc => ?_) <;> try (exact absurd hc (by decide))) | (refine K_ret ?_; refine (hQ _ ⟨_, by (try simp only [go_sem, ↓reduceIte, Nat.reduceEqDiff]); rfl, by simp [go_sem], ?_, by first | rfl | assumption⟩).1))
  all_goals simp [AV.snap]
  all_goals rfl
 by_cases t3 : tk = 3
 ·subst t3
  refine PCall.intro Try.func10 rfl isf10 (by simp [Try.f10]) (by simp [AV.cloL, AV.clo]) fun E Q hE hN hQ => K_start ?_
  repeat' (first | apply nx | refine Kq_exit_ne (by decide) ?_ | rw [wrap64 (by omega) (by omega)] | ((first | refine hK _ ?_ | refine hKp _ _ ?_); clear hK hKp K Kp; try clear hanc anc) | ((with_reducible refine And.intro ?_ ?_); (focus (first | trivial | omega | (simp only [Fits]; omega) | assumption | (rw [hanc]; rfl)))) | ((first | refine K_regA hE fun K Kp hK hKp => ?_ | refine K_drwA false mixed hE fun K Kp hK hKp anc hanc => ?_); simp only [go_sem]) | ((first | refine onG_split_t (fun hg => ?_) (fun hg => ?_) | refine onG_split_f (fun hg => ?_) (fun hg => ?_)) <;> simp only [go_sem, hg]) | (refine K_condA (fun hc => ?_) (fun hc => ?_) <;> try (exact absurd hc (by decide))) | (refine K_ret ?_; refine (hQ _ ⟨_, by (try simp only [go_sem, ↓reduceIte, Nat.reduceEqDiff]); rfl, by simp [go_sem], ?_, by first | rfl | assumption⟩).1))
  all_goals simp [AV.snap]
  all_goals rfl
 by_cases t4 : tk = 4
 ·subst t4
  refine PCall.intro Try.func10 rfl isf10 (by simp [Try.f10]) (by simp [AV.cloL, AV.clo]) fun E Q hE hN hQ => K_start ?_
  repeat' (first | apply nx | refine Kq_exit_ne (by decide) ?_ | rw [wrap64 (by omega) (by omega)] | ((first | refine hK _ ?_ | refine hKp _ _ ?_); clear hK hKp K Kp; try clear hanc anc) | ((with_reducible refine And.intro ?_ ?_); (focus (first | trivial | omega | (simp only [Fits]; omega) | assumption | (rw [hanc]; rfl)))) | ((first | refine K_regA hE fun K Kp hK hKp => ?_ | refine K_drwA false mixed hE fun K Kp hK hKp anc hanc => ?_); simp only [go_sem]) | ((first | refine onG_split_t (fun hg => ?_) (fun hg => ?_) | refine onG_split_f (fun hg => ?_) (fun hg => ?_)) <;> simp only [go_sem, hg]) | (refine K_condA (fun hc => ?_) (fun hc => ?_) <;> try (exact absurd hc (by decide))) | (refine K_ret ?_; refine (hQ _ ⟨_, by (try simp only [go_sem, ↓reduceIte, Nat.reduceEqDiff]); rfl, by simp [go_sem], ?_, by first | rfl | assumption⟩).1))
  all_goals simp [AV.snap]
  all_goals rfl
 rw [if_neg t1, if_neg t3, if_neg t4]
 by_cases t2 : tk = 2
 case neg =>
  have e1 : (tk == 1) = false := by simp [t1]
  have e2 : (tk == 2) = false := by simp [t2]
  have e3 : (tk == 3) = false := by simp [t3]
  have e4 : (tk == 4) = false := by simp [t4]
  rw [if_neg t2]
  refine PCall.intro Try.func10 rfl isf10 (by simp [Try.f10]) (by simp [AV.cloL, AV.clo]) fun E Q hE hN hQ => K_start ?_
  repeat' (first | apply nx | refine Kq_exit_ne (by decide) ?_ | rw [wrap64 (by omega) (by omega)] | ((first | refine hK _ ?_ | refine hKp _ _ ?_); clear hK hKp K Kp; try clear hanc anc) | ((with_reducible refine And.intro ?_ ?_); (focus (first | trivial | omega | (simp only [Fits]; omega) | assumption | (rw [hanc]; rfl)))) | ((first | refine K_regA hE fun K Kp hK hKp => ?_ | refine K_drwA false mixed hE fun K Kp hK hKp anc hanc => ?_); simp only [go_sem, e1, e2, e3, e4]) | ((first | refine onG_split_t (fun hg => ?_) (fun hg => ?_) | refine onG_split_f (fun hg => ?_) (fun hg => ?_)) <;> simp only [go_sem, e1, e2, e3, e4, hg]) | (refine K_condA (fun hc => ?_) (fun hc => ?_) <;> try (exact absurd hc (by decide))) | (refine K_ret ?_; refine (hQ _ ⟨_, by (try simp only [go_sem, ↓reduceIte, Nat.reduceEqDiff]); rfl, by simp [go_sem], ?_, by first | rfl | assumption⟩).1))
  all_goals simp [AV.snap]
 subst t2
 rw [if_pos rfl]
 by_cases k2 : k = 2
 case neg =>
  have q1 : (k != 2) = true := by simp [k2]
  rw [decide_eq_false k2, Bool.false_and]
  refine PCall.intro Try.func10 rfl isf10 (by simp [Try.f10]) (by simp [AV.cloL, AV.clo]) fun E Q hE hN hQ => K_start ?_
  repeat' (first | apply nx | refine Kq_exit_ne (by decide) ?_ | rw [wrap64 (by omega) (by omega)] | ((first | refine hK _ ?_ | refine hKp _ _ ?_); clear hK hKp K Kp; try clear hanc anc) | ((with_reducible refine And.intro ?_ ?_); (focus (first | trivial | omega | (simp only [Fits]; omega) | assumption | (rw [hanc]; rfl)))) | ((first | refine K_regA hE fun K Kp hK hKp => ?_ | refine K_drwA false mixed hE fun K Kp hK hKp anc hanc => ?_); simp only [go_sem, q1]) | ((first | refine onG_split_t (fun hg => ?_) (fun hg => ?_) | refine onG_split_f (fun hg => ?_) (fun hg => ?_)) <;> simp only [go_sem, q1, hg]) | (refine K_condA (fun hc => ?_) (fun hc => ?_) <;> try (exact absurd hc (by decide))) | (refine K_ret ?_; refine (hQ _ ⟨_, by (try simp only [go_sem, ↓reduceIte, Nat.reduceEqDiff]); rfl, by simp [go_sem], ?_, by first | rfl | assumption⟩).1))
  all_goals simp [AV.snap]
 subst k2
 by_cases hid : id = ti
 case neg =>
  have q1 : (id != ti) = true := by simp [hid]
  rw [decide_eq_false hid, Bool.false_and, Bool.and_false]
  refine PCall.intro Try.func10 rfl isf10 (by simp [Try.f10]) (by simp [AV.cloL, AV.clo]) fun E Q hE hN hQ => K_start ?_
  repeat' (first | apply nx | refine Kq_exit_ne (by decide) ?_ | rw [wrap64 (by omega) (by omega)] | ((first | refine hK _ ?_ | refine hKp _ _ ?_); clear hK hKp K Kp; try clear hanc anc) | ((with_reducible refine And.intro ?_ ?_); (focus (first | trivial | omega | (simp only [Fits]; omega) | assumption | (rw [hanc]; rfl)))) | ((first | refine K_regA hE fun K Kp hK hKp => ?_ | refine K_drwA false mixed hE fun K Kp hK hKp anc hanc => ?_); simp only [go_sem, q1]) | ((first | refine onG_split_t (fun hg => ?_) (fun hg => ?_) | refine onG_split_f (fun hg => ?_) (fun hg => ?_)) <;> simp only [go_sem, q1, hg]) | (refine K_condA (fun hc => ?_) (fun hc => ?_) <;> try (exact absurd hc (by decide))) | (refine K_ret ?_; refine (hQ _ ⟨_, by (try simp only [go_sem, ↓reduceIte, Nat.reduceEqDiff]); rfl, by simp [go_sem], ?_, by first | rfl | assumption⟩).1))
  all_goals simp [AV.snap]
 subst hid
 have q0 : (id != id) = false := by simp
 simp only [decide_true, Bool.true_and]
 by_cases h1 : 0 ≤ id
 case neg =>
  have q1 : decide (id < 0) = true := by simp; omega
  rw [at_neg _ (by omega)]
  refine PCall.intro Try.func10 rfl isf10 (by simp [Try.f10]) (by simp [AV.cloL, AV.clo]) fun E Q hE hN hQ => K_start ?_
  repeat' (first | apply nx | refine Kq_exit_ne (by decide) ?_ | rw [wrap64 (by omega) (by omega)] | ((first | refine hK _ ?_ | refine hKp _ _ ?_); clear hK hKp K Kp; try clear hanc anc) | ((with_reducible refine And.intro ?_ ?_); (focus (first | trivial | omega | (simp only [Fits]; omega) | assumption | (rw [hanc]; rfl)))) | ((first | refine K_regA hE fun K Kp hK hKp => ?_ | refine K_drwA false mixed hE fun K Kp hK hKp anc hanc => ?_); simp only [go_sem, q0, q1]) | ((first | refine onG_split_t (fun hg => ?_) (fun hg => ?_) | refine onG_split_f (fun hg => ?_) (fun hg => ?_)) <;> simp only [go_sem, q0, q1, hg]) | (refine K_condA (fun hc => ?_) (fun hc => ?_) <;> try (exact absurd hc (by decide))) | (refine K_ret ?_; refine (hQ _ ⟨_, by (try simp only [go_sem, ↓reduceIte, Nat.reduceEqDiff]); rfl, by simp [go_sem], ?_, by first | rfl | assumption⟩).1))
  all_goals simp [AV.snap]
 have q1 : decide (id < 0) = false := by simp; omega
 obtain ⟨i, rfl⟩ := Int.eq_ofNat_of_zero_le h1
 rw [at_nat]
 by_cases h2 : i < d.length
 case neg =>
  have q2 : decide ((i : Int) ≥ (d.length : Int)) = true := by simp; omega
  rw [List.getElem?_eq_none (by omega)]
  refine PCall.intro Try.func10 rfl isf10 (by simp [Try.f10]) (by simp [AV.cloL, AV.clo]) fun E Q hE hN hQ => K_start ?_
  repeat' (first | apply nx | refine Kq_exit_ne (by decide) ?_ | rw [wrap64 (by omega) (by omega)] | ((first | refine hK _ ?_ | refine hKp _ _ ?_); clear hK hKp K Kp; try clear hanc anc) | ((with_reducible refine And.intro ?_ ?_); (focus (first | trivial | omega | (simp only [Fits]; omega) | assumption | (rw [hanc]; rfl)))) | ((first | refine K_regA hE fun K Kp hK hKp => ?_ | refine K_drwA false mixed hE fun K Kp hK hKp anc hanc => ?_); simp only [go_sem, q0, q1, q2]) | ((first | refine onG_split_t (fun hg => ?_) (fun hg => ?_) | refine onG_split_f (fun hg => ?_) (fun hg => ?_)) <;> simp only [go_sem, q0, q1, q2, hg]) | (refine K_condA (fun hc => ?_) (fun hc => ?_) <;> try (exact absurd hc (by decide))) | (refine K_ret ?_; refine (hQ _ ⟨_, by (try simp only [go_sem, ↓reduceIte, Nat.reduceEqDiff]); rfl, by simp [go_sem], ?_, by first | rfl | assumption⟩).1))
  all_goals simp [AV.snap]
 have q2 : decide ((i : Int) ≥ (d.length : Int)) = false := by simp; omega
 obtain ⟨x, hx⟩ := get?_of h2
 rw [hx]
 simp only
 by_cases h3 : 0 ≤ var
 case neg =>
  have q3 : decide (var < 0) = true := by simp; omega
  rw [at_neg _ (by omega)]
  refine PCall.intro Try.func10 rfl isf10 (by simp [Try.f10]) (by simp [AV.cloL, AV.clo]) fun E Q hE hN hQ => K_start ?_
  repeat' (first | apply nx | refine Kq_exit_ne (by decide) ?_ | rw [wrap64 (by omega) (by omega)] | ((first | refine hK _ ?_ | refine hKp _ _ ?_); clear hK hKp K Kp; try clear hanc anc) | ((with_reducible refine And.intro ?_ ?_); (focus (first | trivial | omega | (simp only [Fits]; omega) | assumption | (rw [hanc]; rfl)))) | ((first | refine K_regA hE fun K Kp hK hKp => ?_ | refine K_drwA false mixed hE fun K Kp hK hKp anc hanc => ?_); simp only [go_sem, q0, q1, q2, q3]) | ((first | refine onG_split_t (fun hg => ?_) (fun hg => ?_) | refine onG_split_f (fun hg => ?_) (fun hg => ?_)) <;> simp only [go_sem, q0, q1, q2, q3, hg]) | (refine K_condA (fun hc => ?_) (fun hc => ?_) <;> try (exact absurd hc (by decide))) | (refine K_ret ?_; refine (hQ _ ⟨_, by (try simp only [go_sem, ↓reduceIte, Nat.reduceEqDiff]); rfl, by simp [go_sem], ?_, by first | rfl | assumption⟩).1))
  all_goals simp [AV.snap]
 have q3 : decide (var < 0) = false := by simp; omega
 obtain ⟨m, rfl⟩ := Int.eq_ofNat_of_zero_le h3
 rw [at_nat]
 by_cases h4 : m < x.vs.length
 case neg =>
  have q4 : decide ((m : Int) ≥ (x.vs.length : Int)) = true := by simp; omega
  rw [List.getElem?_eq_none (by omega)]
  refine PCall.intro Try.func10 rfl isf10 (by simp [Try.f10]) (by simp [AV.cloL, AV.clo]) fun E Q hE hN hQ => K_start ?_
  repeat' (first | apply nx | refine Kq_exit_ne (by decide) ?_ | rw [wrap64 (by omega) (by omega)] | ((first | refine hK _ ?_ | refine hKp _ _ ?_); clear hK hKp K Kp; try clear hanc anc) | ((with_reducible refine And.intro ?_ ?_); (focus (first | trivial | omega | (simp only [Fits]; omega) | assumption | (rw [hanc]; rfl)))) | ((first | refine K_regA hE fun K Kp hK hKp => ?_ | refine K_drwA false mixed hE fun K Kp hK hKp anc hanc => ?_); simp only [go_sem, q0, q1, q2, q3, q4, hx, Dd.av, Dd.cs_eq]) | ((first | refine onG_split_t (fun hg => ?_) (fun hg => ?_) | refine onG_split_f (fun hg => ?_) (fun hg => ?_)) <;> simp only [go_sem, q0, q1, q2, q3, q4, hx, Dd.av, Dd.cs_eq, hg]) | (refine K_condA (fun hc => ?_) (fun hc => ?_) <;> try (exact absurd hc (by decide))) | (refine K_ret ?_; refine (hQ _ ⟨_, by (try simp only [go_sem, ↓reduceIte, Nat.reduceEqDiff]); rfl, by simp [go_sem], ?_, by first | rfl | assumption⟩).1))
  all_goals simp [AV.snap]
 have q4 : decide ((m : Int) ≥ (x.vs.length : Int)) = false := by simp; omega
 obtain ⟨y, hy⟩ := get?_of h4
 rw [hy]
 simp only
 have hys := (dSz_vs (List.mem_of_getElem? hx)).2 y (List.mem_of_getElem? hy)
 by_cases h5 : y.fs.length = fs.length
 case neg =>
  have q5 : ((y.fs.length : Int) != (fs.length : Int)) = true := by simp; omega
  have e : tdL d y.fs fs = false := by
   cases e : tdL d y.fs fs
   ·rfl
   ·exact absurd ((tdL_iff d _ _).1 e).1 h5
  rw [e]
  refine PCall.intro Try.func10 rfl isf10 (by simp [Try.f10]) (by simp [AV.cloL, AV.clo]) fun E Q hE hN hQ => K_start ?_
  repeat' (first | apply nx | refine Kq_exit_ne (by decide) ?_ | rw [wrap64 (by omega) (by omega)] | ((first | refine hK _ ?_ | refine hKp _ _ ?_); clear hK hKp K Kp; try clear hanc anc) | ((with_reducible refine And.intro ?_ ?_); (focus (first | trivial | omega | (simp only [Fits]; omega) | assumption | (rw [hanc]; rfl)))) | ((first | refine K_regA hE fun K Kp hK hKp => ?_ | refine K_drwA false mixed hE fun K Kp hK hKp anc hanc => ?_); simp only [go_sem, q0, q1, q2, q3, q4, q5, hx, hy, Dd.av, Dd.cs_eq, Dv.av, Dv.cs_eq]) | ((first | refine onG_split_t (fun hg => ?_) (fun hg => ?_) | refine onG_split_f (fun hg => ?_) (fun hg => ?_)) <;> simp only [go_sem, q0, q1, q2, q3, q4, q5, hx, hy, Dd.av, Dd.cs_eq, Dv.av, Dv.cs_eq, hg]) | (refine K_condA (fun hc => ?_) (fun hc => ?_) <;> try (exact absurd hc (by decide))) | (refine K_ret ?_; refine (hQ _ ⟨_, by (try simp only [go_sem, ↓reduceIte, Nat.reduceEqDiff]); rfl, by simp [go_sem], ?_, by first | rfl | assumption⟩).1))
  all_goals simp [AV.snap]
 have q5 : ((y.fs.length : Int) != (fs.length : Int)) = false := by simp [h5]
 rw [typed_ih _ _ h5]
 refine PCall.intro Try.func10 rfl isf10 (by simp [Try.f10]) (by simp [AV.cloL, AV.clo]) fun E Q hE hN hQ => K_start ?_
 repeat' (first | apply nx | refine Kq_exit_ne (by decide) ?_ | rw [wrap64 (by omega) (by omega)] | ((first | refine hK _ ?_ | refine hKp _ _ ?_); clear hK hKp K Kp; try clear hanc anc) | ((with_reducible refine And.intro ?_ ?_); (focus (first | trivial | omega | (simp only [Fits]; omega) | assumption | (rw [hanc]; rfl)))) | ((first | refine K_regA hE fun K Kp hK hKp => ?_ | refine K_drwA false mixed hE fun K Kp hK hKp anc hanc => ?_); simp only [go_sem, q0, q1, q2, q3, q4, q5, hx, hy, Dd.av, Dd.cs_eq, Dv.av, Dv.cs_eq]) | ((first | refine onG_split_t (fun hg => ?_) (fun hg => ?_) | refine onG_split_f (fun hg => ?_) (fun hg => ?_)) <;> simp only [go_sem, q0, q1, q2, q3, q4, q5, hx, hy, Dd.av, Dd.cs_eq, Dv.av, Dv.cs_eq, hg]) | (refine K_condA (fun hc => ?_) (fun hc => ?_) <;> try (exact absurd hc (by decide))) | (refine K_ret ?_; refine (hQ _ ⟨_, by (try simp only [go_sem, ↓reduceIte, Nat.reduceEqDiff]); rfl, by simp [go_sem], ?_, by first | rfl | assumption⟩).1))
 refine K_loop (X := Nat) (fun j => j ≤ fs.length ∧ ∀ (a : Nat) t v, a < j → y.fs[a]? = some t → fs[a]? = some v → tdB d t v = true) (fun j => mkSt [(0, .sl (ddl d)), (5, .ptr 0 0), (7, .sl (Ty.avL y.fs)), (8, AV.i j)] [(0, .cells [.i 2, .i i, .i m, .i n, .sl (Vl.avL fs), .bool ex, .sl (il p), .sl (il q)])] 1) (fun j => fs.length - j) 0 ⟨Nat.zero_le _, fun a t v h => absurd h (Nat.not_lt_zero _)⟩ (fun i => 1048576) (by refine ent_mk (by simp [go_sem]) (by simp [go_sem]) (by simp) (by simp [hN])) ?_
 rintro j ⟨hj, hok⟩
 by_cases hlt : j < fs.length
 ·obtain ⟨u, hu⟩ := get?_of hlt
  obtain ⟨t, ht⟩ := get?_of (show j < y.fs.length by omega)
  have hlt2 : decide ((j : Int) < (y.fs.length : Int)) = true := by simp; omega
  have hc0 := ih d t u (by have := Vl.sz_mem (List.mem_of_getElem? hu); omega) (by omega) hd
  rw [Ty.av_eq, Vl.av_eq] at hc0
  cases hb : tdB d t u
  ·have hn : ¬ ∀ (j : Nat) t v, y.fs[j]? = some t → fs[j]? = some v → tdB d t v = true := fun h => by
    rw [h j t u ht hu] at hb; cases hb
   rw [hb] at hc0
   rw [decide_eq_false hn] at hQ
   repeat' (first | apply nx | refine Kq_exit_ne (by decide) ?_ | rw [wrap64 (by omega) (by omega)] | ((first | refine hK _ ?_ | refine hKp _ _ ?_); clear hK hKp K Kp; try clear hanc anc) | ((with_reducible refine And.intro ?_ ?_); (focus (first | trivial | omega | (simp only [Fits]; omega) | assumption | (rw [hanc]; rfl)))) | ((first | refine K_regA hE fun K Kp hK hKp => ?_ | refine K_drwA false mixed hE fun K Kp hK hKp anc hanc => ?_ | ((first | apply CallP_mk | apply CallB_mk); (focus (simp only [go_sem] <;> rfl)); (focus (exact hc0)); (focus (first | (simp [go_sem]; done) | (simp [go_sem, CloRow, AV.cells, AV.clo]; done))); (focus (first | exact .inl rfl | (right; simp [go_sem]))))); simp only [go_sem, hlt2, hu, ht, Ty.av_eq, Vl.av_eq]) | ((first | refine onG_split_t (fun hg => ?_) (fun hg => ?_) | refine onG_split_f (fun hg => ?_) (fun hg => ?_)) <;> simp only [go_sem, hlt2, hu, ht, Ty.av_eq, Vl.av_eq, hg]) | (refine K_condA (fun hc => ?_) (fun hc => ?_) <;> try (exact absurd hc (by decide))) | (refine K_ret ?_; refine (hQ _ ⟨_, by (try simp only [go_sem, ↓reduceIte, Nat.reduceEqDiff]); rfl, by simp [go_sem], ?_, by first | rfl | assumption⟩).1))
   simp [AV.snap]
  ·rw [hb] at hc0
   repeat' (first | apply nx | refine Kq_exit_ne (by decide) ?_ | rw [wrap64 (by omega) (by omega)] | ((first | refine hK _ ?_ | refine hKp _ _ ?_); clear hK hKp K Kp; try clear hanc anc) | ((with_reducible refine And.intro ?_ ?_); (focus (first | trivial | omega | (simp only [Fits]; omega) | assumption | (rw [hanc]; rfl)))) | ((first | refine K_regA hE fun K Kp hK hKp => ?_ | refine K_drwA false mixed hE fun K Kp hK hKp anc hanc => ?_ | ((first | apply CallP_mk | apply CallB_mk); (focus (simp only [go_sem] <;> rfl)); (focus (exact hc0)); (focus (first | (simp [go_sem]; done) | (simp [go_sem, CloRow, AV.cells, AV.clo]; done))); (focus (first | exact .inl rfl | (right; simp [go_sem]))))); simp only [go_sem, hlt2, hu, ht, Ty.av_eq, Vl.av_eq]) | ((first | refine onG_split_t (fun hg => ?_) (fun hg => ?_) | refine onG_split_f (fun hg => ?_) (fun hg => ?_)) <;> simp only [go_sem, hlt2, hu, ht, Ty.av_eq, Vl.av_eq, hg]) | (refine K_condA (fun hc => ?_) (fun hc => ?_) <;> try (exact absurd hc (by decide))) | (refine K_ret ?_; refine (hQ _ ⟨_, by (try simp only [go_sem, ↓reduceIte, Nat.reduceEqDiff]); rfl, by simp [go_sem], ?_, by first | rfl | assumption⟩).1))
   refine ⟨j + 1, ⟨by omega, fun a t' v' ha hta hva => ?_⟩, by omega, fun i => i, by refine ent_mk (by simp [go_sem]) (by simp [go_sem]) (by simp) (by simp [hN])⟩
   by_cases e : a = j
   ·subst e
    rw [ht] at hta; rw [hu] at hva
    cases hta; cases hva
    exact hb
   ·exact hok a t' v' (by omega) hta hva
 ·obtain rfl : j = fs.length := by omega
  have hall : ∀ (j : Nat) t v, y.fs[j]? = some t → fs[j]? = some v → tdB d t v = true := fun a t v ha hv => hok a t v (List.getElem?_eq_some_iff.1 hv).1 ha hv
  have hge : decide ((fs.length : Int) < (y.fs.length : Int)) = false := by simp; omega
  rw [decide_eq_true hall] at hQ
  repeat' (first | apply nx | refine Kq_exit_ne (by decide) ?_ | rw [wrap64 (by omega) (by omega)] | ((first | refine hK _ ?_ | refine hKp _ _ ?_); clear hK hKp K Kp; try clear hanc anc) | ((with_reducible refine And.intro ?_ ?_); (focus (first | trivial | omega | (simp only [Fits]; omega) | assumption | (rw [hanc]; rfl)))) | ((first | refine K_regA hE fun K Kp hK hKp => ?_ | refine K_drwA false mixed hE fun K Kp hK hKp anc hanc => ?_); simp only [go_sem, hge]) | ((first | refine onG_split_t (fun hg => ?_) (fun hg => ?_) | refine onG_split_f (fun hg => ?_) (fun hg => ?_)) <;> simp only [go_sem, hge, hg]) | (refine K_condA (fun hc => ?_) (fun hc => ?_) <;> try (exact absurd hc (by decide))) | (refine K_ret ?_; refine (hQ _ ⟨_, by (try simp only [go_sem, ↓reduceIte, Nat.reduceEqDiff]); rfl, by simp [go_sem], ?_, by first | rfl | assumption⟩).1))
  simp [AV.snap]
theorem indices_call (l : List Int) (n : Nat) (m : Int) (hl : l.length ≤ 2 ^ 40) : PCall Try.prog 55 [.sl (il l), .i n, .i m] (.bool (diffB l n && l.all fun j => decide (j ≥ m))) := by
 have hbad : ∀ (i : Nat) x, l[i]? = some x → ((n : Int) ≤ x ∨ x < m ∨ (0 ≤ x ∧ ∃ k, k < i ∧ l[k]? = some x)) → (diffB l n && l.all fun j => decide (j ≥ m)) = false := by
  intro i x hx h
  rw [Bool.and_eq_false_iff]
  rcases h with h | h | ⟨h, k, hk, hkx⟩
  ·refine .inl ?_
   cases e : diffB l n
   ·rfl
   ·have := (diff_iff.1 e).1 x (List.mem_of_getElem? hx); omega
  ·refine .inr ?_
   rw [List.all_eq_false]
   exact ⟨x, List.mem_of_getElem? hx, by simpa using h⟩
  ·refine .inl ?_
   cases e : diffB l n
   ·rfl
   ·have := (diff_iff.1 e).2 k i x hk hkx hx; omega
 generalize hr : (diffB l n && l.all fun j => decide (j ≥ m)) = r at hbad
 refine PCall.intro Try.func55 rfl isf55 (by simp [Try.f55]) (by simp [AV.cloL, AV.clo]) fun E Q hE hN hQ => K_start ?_
 repeat' (first | apply nx | refine Kq_exit_ne (by decide) ?_ | rw [wrap64 (by omega) (by omega)] | ((first | refine hK _ ?_ | refine hKp _ _ ?_); clear hK hKp K Kp; try clear hanc anc) | ((with_reducible refine And.intro ?_ ?_); (focus (first | trivial | omega | (simp only [Fits]; omega) | assumption | (rw [hanc]; rfl)))) | ((first | refine K_regA hE fun K Kp hK hKp => ?_ | refine K_drwA false mixed hE fun K Kp hK hKp anc hanc => ?_); simp only [go_sem]) | ((first | refine onG_split_t (fun hg => ?_) (fun hg => ?_) | refine onG_split_f (fun hg => ?_) (fun hg => ?_)) <;> simp only [go_sem, hg]) | (refine K_condA (fun hc => ?_) (fun hc => ?_) <;> try (exact absurd hc (by decide))) | (refine K_ret ?_; refine (hQ _ ⟨_, by (try simp only [go_sem, ↓reduceIte, Nat.reduceEqDiff]); rfl, by simp [go_sem], ?_, by first | rfl | assumption⟩).1))
 refine K_loop (X := Nat) (fun i => i ≤ l.length ∧ ∀ (a : Nat) y, a < i → l[a]? = some y → y < n ∧ m ≤ y ∧ ∀ k, k < a → l[k]? = some y → y < 0) (fun i => mkSt [(0, .sl (il l)), (1, .i n), (2, .i m), (7, AV.i i)] [] 0) (fun i => l.length - i) 0 ⟨Nat.zero_le _, fun a y h => absurd h (Nat.not_lt_zero _)⟩ (fun i => i) (by refine ent_mk (by simp [go_sem]) (by simp [go_sem]) (by simp) (by simp [hN])) ?_
 rintro i ⟨hi, hok⟩
 by_cases hlt : i < l.length
 ·obtain ⟨x, hx⟩ := get?_of hlt
  by_cases h1 : x < n
  case neg =>
   have q1 : decide (x ≥ (n : Int)) = true := by simp; omega
   rw [hbad i x hx (.inl (by omega))] at hQ
   repeat' (first | apply nx | refine Kq_exit_ne (by decide) ?_ | rw [wrap64 (by omega) (by omega)] | ((first | refine hK _ ?_ | refine hKp _ _ ?_); clear hK hKp K Kp; try clear hanc anc) | ((with_reducible refine And.intro ?_ ?_); (focus (first | trivial | omega | (simp only [Fits]; omega) | assumption | (rw [hanc]; rfl)))) | ((first | refine K_regA hE fun K Kp hK hKp => ?_ | refine K_drwA false mixed hE fun K Kp hK hKp anc hanc => ?_); simp only [go_sem, lt_dec hlt, hx, q1]) | ((first | refine onG_split_t (fun hg => ?_) (fun hg => ?_) | refine onG_split_f (fun hg => ?_) (fun hg => ?_)) <;> simp only [go_sem, lt_dec hlt, hx, q1, hg]) | (refine K_condA (fun hc => ?_) (fun hc => ?_) <;> try (exact absurd hc (by decide))) | (refine K_ret ?_; refine (hQ _ ⟨_, by (try simp only [go_sem, ↓reduceIte, Nat.reduceEqDiff]); rfl, by simp [go_sem], ?_, by first | rfl | assumption⟩).1))
   simp [AV.snap]
  have q1 : decide (x ≥ (n : Int)) = false := by simp; omega
  by_cases h2 : m ≤ x
  case neg =>
   have q2 : decide (x < m) = true := by simp; omega
   rw [hbad i x hx (.inr (.inl (by omega)))] at hQ
   repeat' (first | apply nx | refine Kq_exit_ne (by decide) ?_ | rw [wrap64 (by omega) (by omega)] | ((first | refine hK _ ?_ | refine hKp _ _ ?_); clear hK hKp K Kp; try clear hanc anc) | ((with_reducible refine And.intro ?_ ?_); (focus (first | trivial | omega | (simp only [Fits]; omega) | assumption | (rw [hanc]; rfl)))) | ((first | refine K_regA hE fun K Kp hK hKp => ?_ | refine K_drwA false mixed hE fun K Kp hK hKp anc hanc => ?_); simp only [go_sem, lt_dec hlt, hx, q1, q2]) | ((first | refine onG_split_t (fun hg => ?_) (fun hg => ?_) | refine onG_split_f (fun hg => ?_) (fun hg => ?_)) <;> simp only [go_sem, lt_dec hlt, hx, q1, q2, hg]) | (refine K_condA (fun hc => ?_) (fun hc => ?_) <;> try (exact absurd hc (by decide))) | (refine K_ret ?_; refine (hQ _ ⟨_, by (try simp only [go_sem, ↓reduceIte, Nat.reduceEqDiff]); rfl, by simp [go_sem], ?_, by first | rfl | assumption⟩).1))
   simp [AV.snap]
  have q2 : decide (x < m) = false := by simp; omega
  repeat' (first | apply nx | refine Kq_exit_ne (by decide) ?_ | rw [wrap64 (by omega) (by omega)] | ((first | refine hK _ ?_ | refine hKp _ _ ?_); clear hK hKp K Kp; try clear hanc anc) | ((with_reducible refine And.intro ?_ ?_); (focus (first | trivial | omega | (simp only [Fits]; omega) | assumption | (rw [hanc]; rfl)))) | ((first | refine K_regA hE fun K Kp hK hKp => ?_ | refine K_drwA false mixed hE fun K Kp hK hKp anc hanc => ?_); simp only [go_sem, lt_dec hlt, hx, q1, q2]) | ((first | refine onG_split_t (fun hg => ?_) (fun hg => ?_) | refine onG_split_f (fun hg => ?_) (fun hg => ?_)) <;> simp only [go_sem, lt_dec hlt, hx, q1, q2, hg]) | (refine K_condA (fun hc => ?_) (fun hc => ?_) <;> try (exact absurd hc (by decide))) | (refine K_ret ?_; refine (hQ _ ⟨_, by (try simp only [go_sem, ↓reduceIte, Nat.reduceEqDiff]); rfl, by simp [go_sem], ?_, by first | rfl | assumption⟩).1))
  refine K_loop (X := Nat) (fun k => k ≤ i ∧ ∀ (a : Nat), a < k → l[a]? = some x → x < 0) (fun k => mkSt [(0, .sl (il l)), (1, .i n), (2, .i m), (7, AV.i i), (8, AV.i k)] [] 0) (fun k => i - k) 0 ⟨Nat.zero_le _, fun a h => absurd h (Nat.not_lt_zero _)⟩ (fun i => i) (by refine ent_mk (by simp [go_sem]) (by simp [go_sem]) (by simp) (by simp [hN])) ?_
  rintro k ⟨hk, hok2⟩
  by_cases hlt2 : k < i
  ·obtain ⟨z, hz⟩ := get?_of (show k < l.length by omega)
   by_cases h3 : 0 ≤ x
   ·have q3 : decide (x ≥ 0) = true := by simpa using h3
    by_cases h4 : z = x
    ·subst h4
     have q4 : (z == z) = true := by simp
     rw [hbad i z hx (.inr (.inr ⟨h3, k, hlt2, hz⟩))] at hQ
     repeat' (first | apply nx | refine Kq_exit_ne (by decide) ?_ | rw [wrap64 (by omega) (by omega)] | ((first | refine hK _ ?_ | refine hKp _ _ ?_); clear hK hKp K Kp; try clear hanc anc) | ((with_reducible refine And.intro ?_ ?_); (focus (first | trivial | omega | (simp only [Fits]; omega) | assumption | (rw [hanc]; rfl)))) | ((first | refine K_regA hE fun K Kp hK hKp => ?_ | refine K_drwA false mixed hE fun K Kp hK hKp anc hanc => ?_); simp only [go_sem, lt_dec hlt2, hx, hz, q3, q4]) | ((first | refine onG_split_t (fun hg => ?_) (fun hg => ?_) | refine onG_split_f (fun hg => ?_) (fun hg => ?_)) <;> simp only [go_sem, lt_dec hlt2, hx, hz, q3, q4, hg]) | (refine K_condA (fun hc => ?_) (fun hc => ?_) <;> try (exact absurd hc (by decide))) | (refine K_ret ?_; refine (hQ _ ⟨_, by (try simp only [go_sem, ↓reduceIte, Nat.reduceEqDiff]); rfl, by simp [go_sem], ?_, by first | rfl | assumption⟩).1))
     simp [AV.snap]
    ·have q4 : (z == x) = false := by simp [h4]
     repeat' (first | apply nx | refine Kq_exit_ne (by decide) ?_ | rw [wrap64 (by omega) (by omega)] | ((first | refine hK _ ?_ | refine hKp _ _ ?_); clear hK hKp K Kp; try clear hanc anc) | ((with_reducible refine And.intro ?_ ?_); (focus (first | trivial | omega | (simp only [Fits]; omega) | assumption | (rw [hanc]; rfl)))) | ((first | refine K_regA hE fun K Kp hK hKp => ?_ | refine K_drwA false mixed hE fun K Kp hK hKp anc hanc => ?_); simp only [go_sem, lt_dec hlt2, hx, hz, q3, q4]) | ((first | refine onG_split_t (fun hg => ?_) (fun hg => ?_) | refine onG_split_f (fun hg => ?_) (fun hg => ?_)) <;> simp only [go_sem, lt_dec hlt2, hx, hz, q3, q4, hg]) | (refine K_condA (fun hc => ?_) (fun hc => ?_) <;> try (exact absurd hc (by decide))) | (refine K_ret ?_; refine (hQ _ ⟨_, by (try simp only [go_sem, ↓reduceIte, Nat.reduceEqDiff]); rfl, by simp [go_sem], ?_, by first | rfl | assumption⟩).1))
     refine ⟨k + 1, ⟨by omega, fun a ha hax => ?_⟩, by omega, fun i => i, by refine ent_mk (by simp [go_sem]) (by simp [go_sem]) (by simp) (by simp [hN])⟩
     by_cases e : a = k
     ·subst e; rw [hz] at hax; exact absurd (Option.some.inj hax) h4
     ·exact hok2 a (by omega) hax
   ·have q3 : decide (x ≥ 0) = false := by simpa using h3
    repeat' (first | apply nx | refine Kq_exit_ne (by decide) ?_ | rw [wrap64 (by omega) (by omega)] | ((first | refine hK _ ?_ | refine hKp _ _ ?_); clear hK hKp K Kp; try clear hanc anc) | ((with_reducible refine And.intro ?_ ?_); (focus (first | trivial | omega | (simp only [Fits]; omega) | assumption | (rw [hanc]; rfl)))) | ((first | refine K_regA hE fun K Kp hK hKp => ?_ | refine K_drwA false mixed hE fun K Kp hK hKp anc hanc => ?_); simp only [go_sem, lt_dec hlt2, hx, hz, q3]) | ((first | refine onG_split_t (fun hg => ?_) (fun hg => ?_) | refine onG_split_f (fun hg => ?_) (fun hg => ?_)) <;> simp only [go_sem, lt_dec hlt2, hx, hz, q3, hg]) | (refine K_condA (fun hc => ?_) (fun hc => ?_) <;> try (exact absurd hc (by decide))) | (refine K_ret ?_; refine (hQ _ ⟨_, by (try simp only [go_sem, ↓reduceIte, Nat.reduceEqDiff]); rfl, by simp [go_sem], ?_, by first | rfl | assumption⟩).1))
    exact ⟨k + 1, ⟨by omega, fun a ha hax => by omega⟩, by omega, fun i => i, by refine ent_mk (by simp [go_sem]) (by simp [go_sem]) (by simp) (by simp [hN])⟩
  ·obtain rfl : k = i := by omega
   repeat' (first | apply nx | refine Kq_exit_ne (by decide) ?_ | rw [wrap64 (by omega) (by omega)] | ((first | refine hK _ ?_ | refine hKp _ _ ?_); clear hK hKp K Kp; try clear hanc anc) | ((with_reducible refine And.intro ?_ ?_); (focus (first | trivial | omega | (simp only [Fits]; omega) | assumption | (rw [hanc]; rfl)))) | ((first | refine K_regA hE fun K Kp hK hKp => ?_ | refine K_drwA false mixed hE fun K Kp hK hKp anc hanc => ?_); simp only [go_sem, ge_dec]) | ((first | refine onG_split_t (fun hg => ?_) (fun hg => ?_) | refine onG_split_f (fun hg => ?_) (fun hg => ?_)) <;> simp only [go_sem, ge_dec, hg]) | (refine K_condA (fun hc => ?_) (fun hc => ?_) <;> try (exact absurd hc (by decide))) | (refine K_ret ?_; refine (hQ _ ⟨_, by (try simp only [go_sem, ↓reduceIte, Nat.reduceEqDiff]); rfl, by simp [go_sem], ?_, by first | rfl | assumption⟩).1))
   refine ⟨k + 1, ⟨by omega, fun a y ha hay => ?_⟩, by omega, fun i => i, by refine ent_mk (by simp [go_sem]) (by simp [go_sem]) (by simp) (by simp [hN])⟩
   by_cases e : a = k
   ·subst e
    rw [hx] at hay
    cases hay
    exact ⟨h1, h2, fun b hb hbx => hok2 b hb hbx⟩
   ·exact hok a y (by omega) hay
 ·obtain rfl : i = l.length := by omega
  have e : r = true := by
   rw [← hr, Bool.and_eq_true]
   refine ⟨diff_iff.2 ⟨fun x hx => ?_, fun a b x hab ha hb => ?_⟩, ?_⟩
   ·obtain ⟨j, hj⟩ := List.getElem?_of_mem hx
    exact (hok j x (List.getElem?_eq_some_iff.1 hj).1 hj).1
   ·exact (hok b x (List.getElem?_eq_some_iff.1 hb).1 hb).2.2 a hab ha
   ·rw [List.all_eq_true]
    intro x hx
    obtain ⟨j, hj⟩ := List.getElem?_of_mem hx
    simpa using (hok j x (List.getElem?_eq_some_iff.1 hj).1 hj).2.1
  rw [e] at hQ
  repeat' (first | apply nx | refine Kq_exit_ne (by decide) ?_ | rw [wrap64 (by omega) (by omega)] | ((first | refine hK _ ?_ | refine hKp _ _ ?_); clear hK hKp K Kp; try clear hanc anc) | ((with_reducible refine And.intro ?_ ?_); (focus (first | trivial | omega | (simp only [Fits]; omega) | assumption | (rw [hanc]; rfl)))) | ((first | refine K_regA hE fun K Kp hK hKp => ?_ | refine K_drwA false mixed hE fun K Kp hK hKp anc hanc => ?_); simp only [go_sem, ge_dec]) | ((first | refine onG_split_t (fun hg => ?_) (fun hg => ?_) | refine onG_split_f (fun hg => ?_) (fun hg => ?_)) <;> simp only [go_sem, ge_dec, hg]) | (refine K_condA (fun hc => ?_) (fun hc => ?_) <;> try (exact absurd hc (by decide))) | (refine K_ret ?_; refine (hQ _ ⟨_, by (try simp only [go_sem, ↓reduceIte, Nat.reduceEqDiff]); rfl, by simp [go_sem], ?_, by first | rfl | assumption⟩).1))
  simp [AV.snap]
end Go.Proofs.Ytlhhahocjfgmdaa

set_option linter.unusedSimpArgs false
set_option linter.unusedVariables false
set_option maxHeartbeats 4000000
set_option maxRecDepth 100000
namespace Go.Proofs.Ytlhhahocjfgmdaa
open Nat (reduceAdd reduceMul reduceEqDiff reduceLT reduceLeDiff reduceSub reduceDiv)
open Int (reduceBNe reduceLE reduceEq)
open Go.Am Go.Proofs Go.Hv Go.Mv
open Classical
attribute [local irreducible] AW CallP CallB
theorem rdatas_call (d : List Dd) (hd : dSz d ≤ 2 ^ 30) : PCall Try.prog 34 [.sl (ddl d)] (.bool (dtB d)) := by
 have hdl := dSz_len d
 have hb1 : ∀ (i : Nat) x, d[i]? = some x → ddB d.length x = false → dtB d = false := by
  intro i x hx h
  unfold dtB
  rw [Bool.and_eq_false_iff, List.all_eq_false]
  exact .inr ⟨x, List.mem_of_getElem? hx, by simp [h]⟩
 have hb2 : ∀ (i k : Nat) x v, d[i]? = some x → x.vs[k]? = some v → dvB d.length v = false → dtB d = false := by
  intro i k x v hx hv h
  refine hb1 i x hx ?_
  unfold ddB
  rw [Bool.and_eq_false_iff, List.all_eq_false]
  exact .inr ⟨v, List.mem_of_getElem? hv, by simp [h]⟩
 have hb3 : ∀ (i k j : Nat) x v t, d[i]? = some x → x.vs[k]? = some v → v.fs[j]? = some t → stB d.length t 8 = false → dtB d = false := by
  intro i k j x v t hx hv ht h
  refine hb2 i k x v hx hv ?_
  unfold dvB
  rw [Bool.and_eq_false_iff, List.all_eq_false]
  exact .inr ⟨t, List.mem_of_getElem? ht, by simp [h]⟩
 by_cases h1 : d.length ≤ 200
 case neg =>
  have q1 : decide ((d.length : Int) > 200) = true := by simp; omega
  have e : dtB d = false := by unfold dtB; rw [Bool.and_eq_false_iff]; exact .inl (by simp; omega)
  rw [e]
  refine PCall.intro Try.func34 rfl isf34 (by simp [Try.f34]) (by simp [AV.cloL, AV.clo]) fun E Q hE hN hQ => K_start ?_
  repeat' (first | apply nx | refine Kq_exit_ne (by decide) ?_ | rw [wrap64 (by omega) (by omega)] | ((first | refine hK _ ?_ | refine hKp _ _ ?_); clear hK hKp K Kp; try clear hanc anc) | ((with_reducible refine And.intro ?_ ?_); (focus (first | trivial | omega | (simp only [Fits]; omega) | assumption | (rw [hanc]; rfl)))) | ((first | refine K_regA hE fun K Kp hK hKp => ?_ | refine K_drwA false mixed hE fun K Kp hK hKp anc hanc => ?_); simp only [go_sem, q1]) | ((first | refine onG_split_t (fun hg => ?_) (fun hg => ?_) | refine onG_split_f (fun hg => ?_) (fun hg => ?_)) <;> simp only [go_sem, q1, hg]) | (refine K_condA (fun hc => ?_) (fun hc => ?_) <;> try (exact absurd hc (by decide))) | (refine K_ret ?_; refine (hQ _ ⟨_, by (try simp only [go_sem, ↓reduceIte, Nat.reduceEqDiff]); rfl, by simp [go_sem], ?_, by first | rfl | assumption⟩).1))
  all_goals simp [AV.snap]
 have q1 : decide ((d.length : Int) > 200) = false := by simp; omega
 generalize hr : dtB d = r at *
 refine PCall.intro Try.func34 rfl isf34 (by simp [Try.f34]) (by simp [AV.cloL, AV.clo]) fun E Q hE hN hQ => K_start ?_
 repeat' (first | apply nx | refine Kq_exit_ne (by decide) ?_ | rw [wrap64 (by omega) (by omega)] | ((first | refine hK _ ?_ | refine hKp _ _ ?_); clear hK hKp K Kp; try clear hanc anc) | ((with_reducible refine And.intro ?_ ?_); (focus (first | trivial | omega | (simp only [Fits]; omega) | assumption | (rw [hanc]; rfl)))) | ((first | refine K_regA hE fun K Kp hK hKp => ?_ | refine K_drwA false mixed hE fun K Kp hK hKp anc hanc => ?_); simp only [go_sem, q1]) | ((first | refine onG_split_t (fun hg => ?_) (fun hg => ?_) | refine onG_split_f (fun hg => ?_) (fun hg => ?_)) <;> simp only [go_sem, q1, hg]) | (refine K_condA (fun hc => ?_) (fun hc => ?_) <;> try (exact absurd hc (by decide))) | (refine K_ret ?_; refine (hQ _ ⟨_, by (try simp only [go_sem, ↓reduceIte, Nat.reduceEqDiff]); rfl, by simp [go_sem], ?_, by first | rfl | assumption⟩).1))
 refine K_loop (X := Nat) (fun i => i ≤ d.length ∧ ∀ (a : Nat) x, a < i → d[a]? = some x → ddB d.length x = true) (fun i => mkSt [(0, .sl (ddl d)), (3, AV.i i)] [] 0) (fun i => d.length - i) 0 ⟨Nat.zero_le _, fun a x h => absurd h (Nat.not_lt_zero _)⟩ (fun i => i) (by refine ent_mk (by simp [go_sem]) (by simp [go_sem]) (by simp) (by simp [hN])) ?_
 rintro i ⟨hi, hok⟩
 by_cases hlt : i < d.length
 ·obtain ⟨x, hx⟩ := get?_of hlt
  have hxs := dSz_vs (List.mem_of_getElem? hx)
  cases q2 : x.pr == 0
  ·have q2' : (x.pr != 0) = true := by simp_all
   rw [hb1 i x hx (by unfold ddB; rw [q2]; rfl)] at hQ
   repeat' (first | apply nx | refine Kq_exit_ne (by decide) ?_ | rw [wrap64 (by omega) (by omega)] | ((first | refine hK _ ?_ | refine hKp _ _ ?_); clear hK hKp K Kp; try clear hanc anc) | ((with_reducible refine And.intro ?_ ?_); (focus (first | trivial | omega | (simp only [Fits]; omega) | assumption | (rw [hanc]; rfl)))) | ((first | refine K_regA hE fun K Kp hK hKp => ?_ | refine K_drwA false mixed hE fun K Kp hK hKp anc hanc => ?_); simp only [go_sem, lt_dec hlt, hx, Dd.av, Dd.cs_eq, q2']) | ((first | refine onG_split_t (fun hg => ?_) (fun hg => ?_) | refine onG_split_f (fun hg => ?_) (fun hg => ?_)) <;> simp only [go_sem, lt_dec hlt, hx, Dd.av, Dd.cs_eq, q2', hg]) | (refine K_condA (fun hc => ?_) (fun hc => ?_) <;> try (exact absurd hc (by decide))) | (refine K_ret ?_; refine (hQ _ ⟨_, by (try simp only [go_sem, ↓reduceIte, Nat.reduceEqDiff]); rfl, by simp [go_sem], ?_, by first | rfl | assumption⟩).1))
   all_goals simp [AV.snap]
  have q2' : (x.pr != 0) = false := by simp_all
  by_cases h3 : 1 ≤ x.vs.length
  case neg =>
   have q3 : decide ((x.vs.length : Int) < 1) = true := by simp; omega
   rw [hb1 i x hx (by unfold ddB; have : decide ((x.vs.length : Int) ≥ 1) = false := (by simp; omega); rw [this]; simp)] at hQ
   repeat' (first | apply nx | refine Kq_exit_ne (by decide) ?_ | rw [wrap64 (by omega) (by omega)] | ((first | refine hK _ ?_ | refine hKp _ _ ?_); clear hK hKp K Kp; try clear hanc anc) | ((with_reducible refine And.intro ?_ ?_); (focus (first | trivial | omega | (simp only [Fits]; omega) | assumption | (rw [hanc]; rfl)))) | ((first | refine K_regA hE fun K Kp hK hKp => ?_ | refine K_drwA false mixed hE fun K Kp hK hKp anc hanc => ?_); simp only [go_sem, lt_dec hlt, hx, Dd.av, Dd.cs_eq, q2', q3]) | ((first | refine onG_split_t (fun hg => ?_) (fun hg => ?_) | refine onG_split_f (fun hg => ?_) (fun hg => ?_)) <;> simp only [go_sem, lt_dec hlt, hx, Dd.av, Dd.cs_eq, q2', q3, hg]) | (refine K_condA (fun hc => ?_) (fun hc => ?_) <;> try (exact absurd hc (by decide))) | (refine K_ret ?_; refine (hQ _ ⟨_, by (try simp only [go_sem, ↓reduceIte, Nat.reduceEqDiff]); rfl, by simp [go_sem], ?_, by first | rfl | assumption⟩).1))
   all_goals simp [AV.snap]
  have q3 : decide ((x.vs.length : Int) < 1) = false := by simp; omega
  by_cases h4 : x.vs.length ≤ 16
  case neg =>
   have q4 : decide ((x.vs.length : Int) > 16) = true := by simp; omega
   rw [hb1 i x hx (by unfold ddB; have : decide ((x.vs.length : Int) ≤ 16) = false := (by simp; omega); rw [this]; simp)] at hQ
   repeat' (first | apply nx | refine Kq_exit_ne (by decide) ?_ | rw [wrap64 (by omega) (by omega)] | ((first | refine hK _ ?_ | refine hKp _ _ ?_); clear hK hKp K Kp; try clear hanc anc) | ((with_reducible refine And.intro ?_ ?_); (focus (first | trivial | omega | (simp only [Fits]; omega) | assumption | (rw [hanc]; rfl)))) | ((first | refine K_regA hE fun K Kp hK hKp => ?_ | refine K_drwA false mixed hE fun K Kp hK hKp anc hanc => ?_); simp only [go_sem, lt_dec hlt, hx, Dd.av, Dd.cs_eq, q2', q3, q4]) | ((first | refine onG_split_t (fun hg => ?_) (fun hg => ?_) | refine onG_split_f (fun hg => ?_) (fun hg => ?_)) <;> simp only [go_sem, lt_dec hlt, hx, Dd.av, Dd.cs_eq, q2', q3, q4, hg]) | (refine K_condA (fun hc => ?_) (fun hc => ?_) <;> try (exact absurd hc (by decide))) | (refine K_ret ?_; refine (hQ _ ⟨_, by (try simp only [go_sem, ↓reduceIte, Nat.reduceEqDiff]); rfl, by simp [go_sem], ?_, by first | rfl | assumption⟩).1))
   all_goals simp [AV.snap]
  have q4 : decide ((x.vs.length : Int) > 16) = false := by simp; omega
  repeat' (first | apply nx | refine Kq_exit_ne (by decide) ?_ | rw [wrap64 (by omega) (by omega)] | ((first | refine hK _ ?_ | refine hKp _ _ ?_); clear hK hKp K Kp; try clear hanc anc) | ((with_reducible refine And.intro ?_ ?_); (focus (first | trivial | omega | (simp only [Fits]; omega) | assumption | (rw [hanc]; rfl)))) | ((first | refine K_regA hE fun K Kp hK hKp => ?_ | refine K_drwA false mixed hE fun K Kp hK hKp anc hanc => ?_); simp only [go_sem, lt_dec hlt, hx, Dd.av, Dd.cs_eq, q2', q3, q4]) | ((first | refine onG_split_t (fun hg => ?_) (fun hg => ?_) | refine onG_split_f (fun hg => ?_) (fun hg => ?_)) <;> simp only [go_sem, lt_dec hlt, hx, Dd.av, Dd.cs_eq, q2', q3, q4, hg]) | (refine K_condA (fun hc => ?_) (fun hc => ?_) <;> try (exact absurd hc (by decide))) | (refine K_ret ?_; refine (hQ _ ⟨_, by (try simp only [go_sem, ↓reduceIte, Nat.reduceEqDiff]); rfl, by simp [go_sem], ?_, by first | rfl | assumption⟩).1))
  refine K_loop (X := Nat) (fun k => k ≤ x.vs.length ∧ ∀ (a : Nat) v, a < k → x.vs[a]? = some v → dvB d.length v = true) (fun k => mkSt [(0, .sl (ddl d)), (3, AV.i i), (4, AV.i k)] [] 0) (fun k => x.vs.length - k) 0 ⟨Nat.zero_le _, fun a x h => absurd h (Nat.not_lt_zero _)⟩ (fun i => i) (by refine ent_mk (by simp [go_sem]) (by simp [go_sem]) (by simp) (by simp [hN])) ?_
  rintro k ⟨hk, hok2⟩
  by_cases hlt2 : k < x.vs.length
  ·obtain ⟨v, hv⟩ := get?_of hlt2
   have hvs := hxs.2 v (List.mem_of_getElem? hv)
   by_cases h5 : v.fs.length ≤ 8
   case neg =>
    have q5 : decide ((v.fs.length : Int) > 8) = true := by simp; omega
    rw [hb2 i k x v hx hv (by unfold dvB; have : decide ((v.fs.length : Int) ≤ 8) = false := (by simp; omega); rw [this]; rfl)] at hQ
    repeat' (first | apply nx | refine Kq_exit_ne (by decide) ?_ | rw [wrap64 (by omega) (by omega)] | ((first | refine hK _ ?_ | refine hKp _ _ ?_); clear hK hKp K Kp; try clear hanc anc) | ((with_reducible refine And.intro ?_ ?_); (focus (first | trivial | omega | (simp only [Fits]; omega) | assumption | (rw [hanc]; rfl)))) | ((first | refine K_regA hE fun K Kp hK hKp => ?_ | refine K_drwA false mixed hE fun K Kp hK hKp anc hanc => ?_); simp only [go_sem, lt_dec hlt2, hx, hv, Dd.av, Dd.cs_eq, Dv.av, Dv.cs_eq, q5]) | ((first | refine onG_split_t (fun hg => ?_) (fun hg => ?_) | refine onG_split_f (fun hg => ?_) (fun hg => ?_)) <;> simp only [go_sem, lt_dec hlt2, hx, hv, Dd.av, Dd.cs_eq, Dv.av, Dv.cs_eq, q5, hg]) | (refine K_condA (fun hc => ?_) (fun hc => ?_) <;> try (exact absurd hc (by decide))) | (refine K_ret ?_; refine (hQ _ ⟨_, by (try simp only [go_sem, ↓reduceIte, Nat.reduceEqDiff]); rfl, by simp [go_sem], ?_, by first | rfl | assumption⟩).1))
    all_goals simp [AV.snap]
   have q5 : decide ((v.fs.length : Int) > 8) = false := by simp; omega
   repeat' (first | apply nx | refine Kq_exit_ne (by decide) ?_ | rw [wrap64 (by omega) (by omega)] | ((first | refine hK _ ?_ | refine hKp _ _ ?_); clear hK hKp K Kp; try clear hanc anc) | ((with_reducible refine And.intro ?_ ?_); (focus (first | trivial | omega | (simp only [Fits]; omega) | assumption | (rw [hanc]; rfl)))) | ((first | refine K_regA hE fun K Kp hK hKp => ?_ | refine K_drwA false mixed hE fun K Kp hK hKp anc hanc => ?_); simp only [go_sem, lt_dec hlt2, hx, hv, Dd.av, Dd.cs_eq, Dv.av, Dv.cs_eq, q5]) | ((first | refine onG_split_t (fun hg => ?_) (fun hg => ?_) | refine onG_split_f (fun hg => ?_) (fun hg => ?_)) <;> simp only [go_sem, lt_dec hlt2, hx, hv, Dd.av, Dd.cs_eq, Dv.av, Dv.cs_eq, q5, hg]) | (refine K_condA (fun hc => ?_) (fun hc => ?_) <;> try (exact absurd hc (by decide))) | (refine K_ret ?_; refine (hQ _ ⟨_, by (try simp only [go_sem, ↓reduceIte, Nat.reduceEqDiff]); rfl, by simp [go_sem], ?_, by first | rfl | assumption⟩).1))
   refine K_loop (X := Nat) (fun j => j ≤ v.fs.length ∧ ∀ (a : Nat) t, a < j → v.fs[a]? = some t → stB d.length t 8 = true) (fun j => mkSt [(0, .sl (ddl d)), (3, AV.i i), (4, AV.i k), (5, .sl (Ty.avL v.fs)), (6, AV.i j)] [] 0) (fun j => v.fs.length - j) 0 ⟨Nat.zero_le _, fun a x h => absurd h (Nat.not_lt_zero _)⟩ (fun i => i) (by refine ent_mk (by simp [go_sem]) (by simp [go_sem]) (by simp) (by simp [hN])) ?_
   rintro j ⟨hj, hok3⟩
   by_cases hlt3 : j < v.fs.length
   ·obtain ⟨t, ht⟩ := get?_of hlt3
    have hc0 := rstored_call (2 ^ 40) t d.length 8 (by have := hvs.2 t (List.mem_of_getElem? ht); omega) (Nat.le_refl _) (by decide)
    rw [Ty.av_eq] at hc0
    cases hb : stB d.length t 8
    ·rw [hb] at hc0
     rw [hb3 i k j x v t hx hv ht hb] at hQ
     repeat' (first | apply nx | refine Kq_exit_ne (by decide) ?_ | rw [wrap64 (by omega) (by omega)] | ((first | refine hK _ ?_ | refine hKp _ _ ?_); clear hK hKp K Kp; try clear hanc anc) | ((with_reducible refine And.intro ?_ ?_); (focus (first | trivial | omega | (simp only [Fits]; omega) | assumption | (rw [hanc]; rfl)))) | ((first | refine K_regA hE fun K Kp hK hKp => ?_ | refine K_drwA false mixed hE fun K Kp hK hKp anc hanc => ?_ | ((first | apply CallP_mk | apply CallB_mk); (focus (simp only [go_sem] <;> rfl)); (focus (exact hc0)); (focus (first | (simp [go_sem]; done) | (simp [go_sem, CloRow, AV.cells, AV.clo]; done))); (focus (first | exact .inl rfl | (right; simp [go_sem]))))); simp only [go_sem, lt_dec hlt3, ht, Ty.av_eq]) | ((first | refine onG_split_t (fun hg => ?_) (fun hg => ?_) | refine onG_split_f (fun hg => ?_) (fun hg => ?_)) <;> simp only [go_sem, lt_dec hlt3, ht, Ty.av_eq, hg]) | (refine K_condA (fun hc => ?_) (fun hc => ?_) <;> try (exact absurd hc (by decide))) | (refine K_ret ?_; refine (hQ _ ⟨_, by (try simp only [go_sem, ↓reduceIte, Nat.reduceEqDiff]); rfl, by simp [go_sem], ?_, by first | rfl | assumption⟩).1))
     all_goals simp [AV.snap]
    ·rw [hb] at hc0
     repeat' (first | apply nx | refine Kq_exit_ne (by decide) ?_ | rw [wrap64 (by omega) (by omega)] | ((first | refine hK _ ?_ | refine hKp _ _ ?_); clear hK hKp K Kp; try clear hanc anc) | ((with_reducible refine And.intro ?_ ?_); (focus (first | trivial | omega | (simp only [Fits]; omega) | assumption | (rw [hanc]; rfl)))) | ((first | refine K_regA hE fun K Kp hK hKp => ?_ | refine K_drwA false mixed hE fun K Kp hK hKp anc hanc => ?_ | ((first | apply CallP_mk | apply CallB_mk); (focus (simp only [go_sem] <;> rfl)); (focus (exact hc0)); (focus (first | (simp [go_sem]; done) | (simp [go_sem, CloRow, AV.cells, AV.clo]; done))); (focus (first | exact .inl rfl | (right; simp [go_sem]))))); simp only [go_sem, lt_dec hlt3, ht, Ty.av_eq]) | ((first | refine onG_split_t (fun hg => ?_) (fun hg => ?_) | refine onG_split_f (fun hg => ?_) (fun hg => ?_)) <;> simp only [go_sem, lt_dec hlt3, ht, Ty.av_eq, hg]) | (refine K_condA (fun hc => ?_) (fun hc => ?_) <;> try (exact absurd hc (by decide))) | (refine K_ret ?_; refine (hQ _ ⟨_, by (try simp only [go_sem, ↓reduceIte, Nat.reduceEqDiff]); rfl, by simp [go_sem], ?_, by first | rfl | assumption⟩).1))
     refine ⟨j + 1, ⟨by omega, fun a t' ha hta => ?_⟩, by omega, fun i => i, by refine ent_mk (by simp [go_sem]) (by simp [go_sem]) (by simp) (by simp [hN])⟩
     by_cases e : a = j
     ·subst e; rw [ht] at hta; cases hta; exact hb
     ·exact hok3 a t' (by omega) hta
   ·obtain rfl : j = v.fs.length := by omega
    repeat' (first | apply nx | refine Kq_exit_ne (by decide) ?_ | rw [wrap64 (by omega) (by omega)] | ((first | refine hK _ ?_ | refine hKp _ _ ?_); clear hK hKp K Kp; try clear hanc anc) | ((with_reducible refine And.intro ?_ ?_); (focus (first | trivial | omega | (simp only [Fits]; omega) | assumption | (rw [hanc]; rfl)))) | ((first | refine K_regA hE fun K Kp hK hKp => ?_ | refine K_drwA false mixed hE fun K Kp hK hKp anc hanc => ?_); simp only [go_sem, ge_dec]) | ((first | refine onG_split_t (fun hg => ?_) (fun hg => ?_) | refine onG_split_f (fun hg => ?_) (fun hg => ?_)) <;> simp only [go_sem, ge_dec, hg]) | (refine K_condA (fun hc => ?_) (fun hc => ?_) <;> try (exact absurd hc (by decide))) | (refine K_ret ?_; refine (hQ _ ⟨_, by (try simp only [go_sem, ↓reduceIte, Nat.reduceEqDiff]); rfl, by simp [go_sem], ?_, by first | rfl | assumption⟩).1))
    refine ⟨k + 1, ⟨by omega, fun a v' ha hva => ?_⟩, by omega, fun i => i, by refine ent_mk (by simp [go_sem]) (by simp [go_sem]) (by simp) (by simp [hN])⟩
    by_cases e : a = k
    ·subst e; rw [hv] at hva; cases hva
     unfold dvB
     rw [Bool.and_eq_true, List.all_eq_true]
     refine ⟨by simp; omega, fun t ht => ?_⟩
     obtain ⟨b, hb⟩ := List.getElem?_of_mem ht
     exact hok3 b t (List.getElem?_eq_some_iff.1 hb).1 hb
    ·exact hok2 a v' (by omega) hva
  ·obtain rfl : k = x.vs.length := by omega
   repeat' (first | apply nx | refine Kq_exit_ne (by decide) ?_ | rw [wrap64 (by omega) (by omega)] | ((first | refine hK _ ?_ | refine hKp _ _ ?_); clear hK hKp K Kp; try clear hanc anc) | ((with_reducible refine And.intro ?_ ?_); (focus (first | trivial | omega | (simp only [Fits]; omega) | assumption | (rw [hanc]; rfl)))) | ((first | refine K_regA hE fun K Kp hK hKp => ?_ | refine K_drwA false mixed hE fun K Kp hK hKp anc hanc => ?_); simp only [go_sem, ge_dec, hx, Dd.av, Dd.cs_eq]) | ((first | refine onG_split_t (fun hg => ?_) (fun hg => ?_) | refine onG_split_f (fun hg => ?_) (fun hg => ?_)) <;> simp only [go_sem, ge_dec, hx, Dd.av, Dd.cs_eq, hg]) | (refine K_condA (fun hc => ?_) (fun hc => ?_) <;> try (exact absurd hc (by decide))) | (refine K_ret ?_; refine (hQ _ ⟨_, by (try simp only [go_sem, ↓reduceIte, Nat.reduceEqDiff]); rfl, by simp [go_sem], ?_, by first | rfl | assumption⟩).1))
   refine ⟨i + 1, ⟨by omega, fun a x' ha hxa => ?_⟩, by omega, fun i => i, by refine ent_mk (by simp [go_sem]) (by simp [go_sem]) (by simp) (by simp [hN])⟩
   by_cases e : a = i
   ·subst e; rw [hx] at hxa; cases hxa
    unfold ddB
    rw [Bool.and_eq_true, Bool.and_eq_true, Bool.and_eq_true, List.all_eq_true]
    refine ⟨⟨⟨q2, by simp; omega⟩, by simp; omega⟩, fun v hv => ?_⟩
    obtain ⟨b, hb⟩ := List.getElem?_of_mem hv
    exact hok2 b v (List.getElem?_eq_some_iff.1 hb).1 hb
   ·exact hok a x' (by omega) hxa
 ·obtain rfl : i = d.length := by omega
  have e : r = true := by
   rw [← hr]
   unfold dtB
   rw [Bool.and_eq_true, List.all_eq_true]
   refine ⟨by simp; omega, fun x hx => ?_⟩
   obtain ⟨b, hb⟩ := List.getElem?_of_mem hx
   exact hok b x (List.getElem?_eq_some_iff.1 hb).1 hb
  rw [e] at hQ
  repeat' (first | apply nx | refine Kq_exit_ne (by decide) ?_ | rw [wrap64 (by omega) (by omega)] | ((first | refine hK _ ?_ | refine hKp _ _ ?_); clear hK hKp K Kp; try clear hanc anc) | ((with_reducible refine And.intro ?_ ?_); (focus (first | trivial | omega | (simp only [Fits]; omega) | assumption | (rw [hanc]; rfl)))) | ((first | refine K_regA hE fun K Kp hK hKp => ?_ | refine K_drwA false mixed hE fun K Kp hK hKp anc hanc => ?_); simp only [go_sem, ge_dec]) | ((first | refine onG_split_t (fun hg => ?_) (fun hg => ?_) | refine onG_split_f (fun hg => ?_) (fun hg => ?_)) <;> simp only [go_sem, ge_dec, hg]) | (refine K_condA (fun hc => ?_) (fun hc => ?_) <;> try (exact absurd hc (by decide))) | (refine K_ret ?_; refine (hQ _ ⟨_, by (try simp only [go_sem, ↓reduceIte, Nat.reduceEqDiff]); rfl, by simp [go_sem], ?_, by first | rfl | assumption⟩).1))
  all_goals simp [AV.snap]
theorem rshaped_call (old : Dd) (to : List Dd) (x : Mg) (hv : x.vars.length ≤ 2 ^ 40) (hfl : ∀ f, f ∈ x.fss → f.length ≤ 2 ^ 40) : PCall Try.prog 35 [old.av, .sl (ddl to), x.av] (.bool (decide (ShapP old to x))) := by
 rw [Dd.av_eq, Mg.av_eq]
 refine PCall.intro Try.func35 rfl isf35 (by simp [Try.f35]) (by simp [AV.cloL, AV.clo]) fun E Q hE hN hQ => K_start ?_
 by_cases h1 : 0 ≤ x.data ∧ x.data < to.length
 case neg =>
  have hn : ¬ ShapP old to x := by
   rintro ⟨nd, g, _⟩
   rw [at_none h1] at g; cases g
  rw [decide_eq_false hn] at hQ
  by_cases h0 : 0 ≤ x.data
  ·have q1 : decide (x.data < 0) = false := by simp; omega
   have q2 : decide (x.data ≥ (to.length : Int)) = true := by simp; omega
   repeat' (first | apply nx | refine Kq_exit_ne (by decide) ?_ | rw [wrap64 (by omega) (by omega)] | ((first | refine hK _ ?_ | refine hKp _ _ ?_); clear hK hKp K Kp; try clear hanc anc) | ((with_reducible refine And.intro ?_ ?_); (focus (first | trivial | omega | (simp only [Fits]; omega) | assumption | (rw [hanc]; rfl)))) | ((first | refine K_regA hE fun K Kp hK hKp => ?_ | refine K_drwA false mixed hE fun K Kp hK hKp anc hanc => ?_); simp only [go_sem, q1, q2]) | ((first | refine onG_split_t (fun hg => ?_) (fun hg => ?_) | refine onG_split_f (fun hg => ?_) (fun hg => ?_)) <;> simp only [go_sem, q1, q2, hg]) | (refine K_condA (fun hc => ?_) (fun hc => ?_) <;> try (exact absurd hc (by decide))) | (refine K_ret ?_; refine (hQ _ ⟨_, by (try simp only [go_sem, ↓reduceIte, Nat.reduceEqDiff]); rfl, by simp [go_sem], ?_, by first | rfl | assumption⟩).1))
   all_goals simp [AV.snap]
  ·have q1 : decide (x.data < 0) = true := by simp; omega
   repeat' (first | apply nx | refine Kq_exit_ne (by decide) ?_ | rw [wrap64 (by omega) (by omega)] | ((first | refine hK _ ?_ | refine hKp _ _ ?_); clear hK hKp K Kp; try clear hanc anc) | ((with_reducible refine And.intro ?_ ?_); (focus (first | trivial | omega | (simp only [Fits]; omega) | assumption | (rw [hanc]; rfl)))) | ((first | refine K_regA hE fun K Kp hK hKp => ?_ | refine K_drwA false mixed hE fun K Kp hK hKp anc hanc => ?_); simp only [go_sem, q1]) | ((first | refine onG_split_t (fun hg => ?_) (fun hg => ?_) | refine onG_split_f (fun hg => ?_) (fun hg => ?_)) <;> simp only [go_sem, q1, hg]) | (refine K_condA (fun hc => ?_) (fun hc => ?_) <;> try (exact absurd hc (by decide))) | (refine K_ret ?_; refine (hQ _ ⟨_, by (try simp only [go_sem, ↓reduceIte, Nat.reduceEqDiff]); rfl, by simp [go_sem], ?_, by first | rfl | assumption⟩).1))
   all_goals simp [AV.snap]
 have q1 : decide (x.data < 0) = false := by simp; omega
 have q2 : decide (x.data ≥ (to.length : Int)) = false := by simp; omega
 obtain ⟨nd, hd⟩ := at_in h1.1 h1.2
 by_cases h2 : x.vars.length = old.vs.length
 case neg =>
  have hn : ¬ ShapP old to x := by
   rintro ⟨nd, g, g2, _⟩; exact h2 g2
  rw [decide_eq_false hn] at hQ
  have q3 : ((x.vars.length : Int) != (old.vs.length : Int)) = true := by simp; omega
  repeat' (first | apply nx | refine Kq_exit_ne (by decide) ?_ | rw [wrap64 (by omega) (by omega)] | ((first | refine hK _ ?_ | refine hKp _ _ ?_); clear hK hKp K Kp; try clear hanc anc) | ((with_reducible refine And.intro ?_ ?_); (focus (first | trivial | omega | (simp only [Fits]; omega) | assumption | (rw [hanc]; rfl)))) | ((first | refine K_regA hE fun K Kp hK hKp => ?_ | refine K_drwA false mixed hE fun K Kp hK hKp anc hanc => ?_); simp only [go_sem, q1, q2, q3]) | ((first | refine onG_split_t (fun hg => ?_) (fun hg => ?_) | refine onG_split_f (fun hg => ?_) (fun hg => ?_)) <;> simp only [go_sem, q1, q2, q3, hg]) | (refine K_condA (fun hc => ?_) (fun hc => ?_) <;> try (exact absurd hc (by decide))) | (refine K_ret ?_; refine (hQ _ ⟨_, by (try simp only [go_sem, ↓reduceIte, Nat.reduceEqDiff]); rfl, by simp [go_sem], ?_, by first | rfl | assumption⟩).1))
  all_goals simp [AV.snap]
 have q3 : ((x.vars.length : Int) != (old.vs.length : Int)) = false := by simp [h2]
 by_cases h3 : x.fss.length = old.vs.length
 case neg =>
  have hn : ¬ ShapP old to x := by
   rintro ⟨nd, g, _, g2, _⟩; exact h3 g2
  rw [decide_eq_false hn] at hQ
  have q4 : ((x.fss.length : Int) != (old.vs.length : Int)) = true := by simp; omega
  repeat' (first | apply nx | refine Kq_exit_ne (by decide) ?_ | rw [wrap64 (by omega) (by omega)] | ((first | refine hK _ ?_ | refine hKp _ _ ?_); clear hK hKp K Kp; try clear hanc anc) | ((with_reducible refine And.intro ?_ ?_); (focus (first | trivial | omega | (simp only [Fits]; omega) | assumption | (rw [hanc]; rfl)))) | ((first | refine K_regA hE fun K Kp hK hKp => ?_ | refine K_drwA false mixed hE fun K Kp hK hKp anc hanc => ?_); simp only [go_sem, q1, q2, q3, q4]) | ((first | refine onG_split_t (fun hg => ?_) (fun hg => ?_) | refine onG_split_f (fun hg => ?_) (fun hg => ?_)) <;> simp only [go_sem, q1, q2, q3, q4, hg]) | (refine K_condA (fun hc => ?_) (fun hc => ?_) <;> try (exact absurd hc (by decide))) | (refine K_ret ?_; refine (hQ _ ⟨_, by (try simp only [go_sem, ↓reduceIte, Nat.reduceEqDiff]); rfl, by simp [go_sem], ?_, by first | rfl | assumption⟩).1))
  all_goals simp [AV.snap]
 have q4 : ((x.fss.length : Int) != (old.vs.length : Int)) = false := by simp [h3]
 have hsi := shap_iff hd h2 h3
 obtain ⟨di, hdi, hnd⟩ := at_some hd
 repeat' (first | apply nx | refine Kq_exit_ne (by decide) ?_ | rw [wrap64 (by omega) (by omega)] | ((first | refine hK _ ?_ | refine hKp _ _ ?_); clear hK hKp K Kp; try clear hanc anc) | ((with_reducible refine And.intro ?_ ?_); (focus (first | trivial | omega | (simp only [Fits]; omega) | assumption | (rw [hanc]; rfl)))) | ((first | refine K_regA hE fun K Kp hK hKp => ?_ | refine K_drwA false mixed hE fun K Kp hK hKp anc hanc => ?_); simp only [go_sem, q1, q2, q3, q4]) | ((first | refine onG_split_t (fun hg => ?_) (fun hg => ?_) | refine onG_split_f (fun hg => ?_) (fun hg => ?_)) <;> simp only [go_sem, q1, q2, q3, q4, hg]) | (refine K_condA (fun hc => ?_) (fun hc => ?_) <;> try (exact absurd hc (by decide))) | (refine K_ret ?_; refine (hQ _ ⟨_, by (try simp only [go_sem, ↓reduceIte, Nat.reduceEqDiff]); rfl, by simp [go_sem], ?_, by first | rfl | assumption⟩).1))
 refine K_loop (X := Nat) (fun i => i ≤ x.vars.length ∧ ∀ k, k < i → okV old nd x k) (fun i => mkSt [(1, .sl (ddl to)), (3, .ptr 0 0), (5, .ptr 1 0), (7, AV.i i)] [(0, .cells [.str old.nm, .i old.md, .i old.pr, .sl (dvl old.vs), .i old.dr]), (1, .cells [.i x.data, .sl (il x.vars), .sl (ill x.fss)])] 2) (fun i => x.vars.length - i) 0 ⟨Nat.zero_le _, fun k h => absurd h (Nat.not_lt_zero _)⟩ (fun i => if i = 1 then 1048576 else i) (by refine ent_mk (by simp [go_sem]) (by simp [go_sem]) (by simp) (by simp [hN])) ?_
 rintro i ⟨hi, hok⟩
 by_cases hlt : i < x.vars.length
 ·obtain ⟨v, hv1⟩ := get?_of hlt
  obtain ⟨ov, hov⟩ := get?_of (show i < old.vs.length by omega)
  obtain ⟨f, hf⟩ := get?_of (show i < x.fss.length by omega)
  have hff := hfl f (List.mem_of_getElem? hf)
  have hbad : ¬ okV old nd x i → ¬ ShapP old to x := fun h h' => h (hsi.1 h' i hlt)
  rw [hdi]
  by_cases g1 : 0 ≤ v
  case neg =>
   have r1 : decide (v < 0) = true := by simp; omega
   have hn := hbad (fun h => by
    obtain ⟨nv, k1, _⟩ := h v ov f hv1 hov hf
    rw [at_neg _ (by omega)] at k1; cases k1)
   rw [decide_eq_false hn] at hQ
   repeat' (first | apply nx | refine Kq_exit_ne (by decide) ?_ | rw [wrap64 (by omega) (by omega)] | ((first | refine hK _ ?_ | refine hKp _ _ ?_); clear hK hKp K Kp; try clear hanc anc) | ((with_reducible refine And.intro ?_ ?_); (focus (first | trivial | omega | (simp only [Fits]; omega) | assumption | (rw [hanc]; rfl)))) | ((first | refine K_regA hE fun K Kp hK hKp => ?_ | refine K_drwA false mixed hE fun K Kp hK hKp anc hanc => ?_); simp only [go_sem, lt_dec hlt, hv1, r1]) | ((first | refine onG_split_t (fun hg => ?_) (fun hg => ?_) | refine onG_split_f (fun hg => ?_) (fun hg => ?_)) <;> simp only [go_sem, lt_dec hlt, hv1, r1, hg]) | (refine K_condA (fun hc => ?_) (fun hc => ?_) <;> try (exact absurd hc (by decide))) | (refine K_ret ?_; refine (hQ _ ⟨_, by (try simp only [go_sem, ↓reduceIte, Nat.reduceEqDiff]); rfl, by simp [go_sem], ?_, by first | rfl | assumption⟩).1))
   all_goals simp [AV.snap]
  have r1 : decide (v < 0) = false := by simp; omega
  obtain ⟨m, rfl⟩ := Int.eq_ofNat_of_zero_le g1
  by_cases g2 : m < nd.vs.length
  case neg =>
   have r2 : decide ((m : Int) ≥ (nd.vs.length : Int)) = true := by simp; omega
   have hn := hbad (fun h => by
    obtain ⟨nv, k1, _⟩ := h m ov f hv1 hov hf
    rw [at_nat, List.getElem?_eq_none (by omega)] at k1; cases k1)
   rw [decide_eq_false hn] at hQ
   repeat' (first | apply nx | refine Kq_exit_ne (by decide) ?_ | rw [wrap64 (by omega) (by omega)] | ((first | refine hK _ ?_ | refine hKp _ _ ?_); clear hK hKp K Kp; try clear hanc anc) | ((with_reducible refine And.intro ?_ ?_); (focus (first | trivial | omega | (simp only [Fits]; omega) | assumption | (rw [hanc]; rfl)))) | ((first | refine K_regA hE fun K Kp hK hKp => ?_ | refine K_drwA false mixed hE fun K Kp hK hKp anc hanc => ?_); simp only [go_sem, lt_dec hlt, hv1, r1, r2, hnd, Dd.av, Dd.cs_eq]) | ((first | refine onG_split_t (fun hg => ?_) (fun hg => ?_) | refine onG_split_f (fun hg => ?_) (fun hg => ?_)) <;> simp only [go_sem, lt_dec hlt, hv1, r1, r2, hnd, Dd.av, Dd.cs_eq, hg]) | (refine K_condA (fun hc => ?_) (fun hc => ?_) <;> try (exact absurd hc (by decide))) | (refine K_ret ?_; refine (hQ _ ⟨_, by (try simp only [go_sem, ↓reduceIte, Nat.reduceEqDiff]); rfl, by simp [go_sem], ?_, by first | rfl | assumption⟩).1))
   all_goals simp [AV.snap]
  have r2 : decide ((m : Int) ≥ (nd.vs.length : Int)) = false := by simp; omega
  obtain ⟨nv, hnv⟩ := get?_of g2
  have hkey : okV old nd x i ↔ (f.length = nv.fs.length ∧ (diffB f ov.fs.length && f.all fun j => decide (j ≥ -1000000001)) = true) := by
   constructor
   ·intro h
    obtain ⟨nv', k1, k2, k3, k4⟩ := h m ov f hv1 hov hf
    rw [at_nat, hnv] at k1
    cases k1
    exact ⟨k2, by rw [k3, Bool.true_and, List.all_eq_true]; intro j hj; simpa using k4 j hj⟩
   ·rintro ⟨k2, k3⟩ v' ov' f' a b c
    rw [hv1] at a; rw [hov] at b; rw [hf] at c
    cases a; cases b; cases c
    rw [Bool.and_eq_true, List.all_eq_true] at k3
    exact ⟨nv, by rw [at_nat]; exact hnv, k2, k3.1, fun j hj => by simpa using k3.2 j hj⟩
  by_cases g3 : f.length = nv.fs.length
  case neg =>
   have r3 : ((f.length : Int) != (nv.fs.length : Int)) = true := by simp; omega
   have hn := hbad (fun h => g3 (hkey.1 h).1)
   rw [decide_eq_false hn] at hQ
   repeat' (first | apply nx | refine Kq_exit_ne (by decide) ?_ | rw [wrap64 (by omega) (by omega)] | ((first | refine hK _ ?_ | refine hKp _ _ ?_); clear hK hKp K Kp; try clear hanc anc) | ((with_reducible refine And.intro ?_ ?_); (focus (first | trivial | omega | (simp only [Fits]; omega) | assumption | (rw [hanc]; rfl)))) | ((first | refine K_regA hE fun K Kp hK hKp => ?_ | refine K_drwA false mixed hE fun K Kp hK hKp anc hanc => ?_); simp only [go_sem, lt_dec hlt, hv1, hf, hnv, r1, r2, r3, hnd, Dd.av, Dd.cs_eq, Dv.av, Dv.cs_eq]) | ((first | refine onG_split_t (fun hg => ?_) (fun hg => ?_) | refine onG_split_f (fun hg => ?_) (fun hg => ?_)) <;> simp only [go_sem, lt_dec hlt, hv1, hf, hnv, r1, r2, r3, hnd, Dd.av, Dd.cs_eq, Dv.av, Dv.cs_eq, hg]) | (refine K_condA (fun hc => ?_) (fun hc => ?_) <;> try (exact absurd hc (by decide))) | (refine K_ret ?_; refine (hQ _ ⟨_, by (try simp only [go_sem, ↓reduceIte, Nat.reduceEqDiff]); rfl, by simp [go_sem], ?_, by first | rfl | assumption⟩).1))
   all_goals simp [AV.snap]
  have r3 : ((f.length : Int) != (nv.fs.length : Int)) = false := by simp [g3]
  have hc0 := indices_call f ov.fs.length (-1000000001) hff
  cases g4 : (diffB f ov.fs.length && f.all fun j => decide (j ≥ -1000000001))
  ·rw [g4] at hc0
   have hn := hbad (fun h => by have := (hkey.1 h).2; rw [g4] at this; cases this)
   rw [decide_eq_false hn] at hQ
   repeat' (first | apply nx | refine Kq_exit_ne (by decide) ?_ | rw [wrap64 (by omega) (by omega)] | ((first | refine hK _ ?_ | refine hKp _ _ ?_); clear hK hKp K Kp; try clear hanc anc) | ((with_reducible refine And.intro ?_ ?_); (focus (first | trivial | omega | (simp only [Fits]; omega) | assumption | (rw [hanc]; rfl)))) | ((first | refine K_regA hE fun K Kp hK hKp => ?_ | refine K_drwA false mixed hE fun K Kp hK hKp anc hanc => ?_ | ((first | apply CallP_mk | apply CallB_mk); (focus (simp only [go_sem] <;> rfl)); (focus (exact hc0)); (focus (first | (simp [go_sem]; done) | (simp [go_sem, CloRow, AV.cells, AV.clo]; done))); (focus (first | exact .inl rfl | (right; simp [go_sem]))))); simp only [go_sem, lt_dec hlt, hv1, hf, hnv, hov, r1, r2, r3, hnd, Dd.av, Dd.cs_eq, Dv.av, Dv.cs_eq]) | ((first | refine onG_split_t (fun hg => ?_) (fun hg => ?_) | refine onG_split_f (fun hg => ?_) (fun hg => ?_)) <;> simp only [go_sem, lt_dec hlt, hv1, hf, hnv, hov, r1, r2, r3, hnd, Dd.av, Dd.cs_eq, Dv.av, Dv.cs_eq, hg]) | (refine K_condA (fun hc => ?_) (fun hc => ?_) <;> try (exact absurd hc (by decide))) | (refine K_ret ?_; refine (hQ _ ⟨_, by (try simp only [go_sem, ↓reduceIte, Nat.reduceEqDiff]); rfl, by simp [go_sem], ?_, by first | rfl | assumption⟩).1))
   all_goals simp [AV.snap]
  ·rw [g4] at hc0
   repeat' (first | apply nx | refine Kq_exit_ne (by decide) ?_ | rw [wrap64 (by omega) (by omega)] | ((first | refine hK _ ?_ | refine hKp _ _ ?_); clear hK hKp K Kp; try clear hanc anc) | ((with_reducible refine And.intro ?_ ?_); (focus (first | trivial | omega | (simp only [Fits]; omega) | assumption | (rw [hanc]; rfl)))) | ((first | refine K_regA hE fun K Kp hK hKp => ?_ | refine K_drwA false mixed hE fun K Kp hK hKp anc hanc => ?_ | ((first | apply CallP_mk | apply CallB_mk); (focus (simp only [go_sem] <;> rfl)); (focus (exact hc0)); (focus (first | (simp [go_sem]; done) | (simp [go_sem, CloRow, AV.cells, AV.clo]; done))); (focus (first | exact .inl rfl | (right; simp [go_sem]))))); simp only [go_sem, lt_dec hlt, hv1, hf, hnv, hov, r1, r2, r3, hnd, Dd.av, Dd.cs_eq, Dv.av, Dv.cs_eq]) | ((first | refine onG_split_t (fun hg => ?_) (fun hg => ?_) | refine onG_split_f (fun hg => ?_) (fun hg => ?_)) <;> simp only [go_sem, lt_dec hlt, hv1, hf, hnv, hov, r1, r2, r3, hnd, Dd.av, Dd.cs_eq, Dv.av, Dv.cs_eq, hg]) | (refine K_condA (fun hc => ?_) (fun hc => ?_) <;> try (exact absurd hc (by decide))) | (refine K_ret ?_; refine (hQ _ ⟨_, by (try simp only [go_sem, ↓reduceIte, Nat.reduceEqDiff]); rfl, by simp [go_sem], ?_, by first | rfl | assumption⟩).1))
   refine ⟨i + 1, ⟨by omega, fun k hk => ?_⟩, by omega, fun i => i, by refine ent_mk (by simp [go_sem, hdi]) (by simp [go_sem, hdi]) (by simp) (by simp [hN])⟩
   by_cases e : k = i
   ·subst e; exact hkey.2 ⟨g3, g4⟩
   ·exact hok k (by omega)
 ·obtain rfl : i = x.vars.length := by omega
  have hS : ShapP old to x := hsi.2 hok
  rw [decide_eq_true hS] at hQ
  repeat' (first | apply nx | refine Kq_exit_ne (by decide) ?_ | rw [wrap64 (by omega) (by omega)] | ((first | refine hK _ ?_ | refine hKp _ _ ?_); clear hK hKp K Kp; try clear hanc anc) | ((with_reducible refine And.intro ?_ ?_); (focus (first | trivial | omega | (simp only [Fits]; omega) | assumption | (rw [hanc]; rfl)))) | ((first | refine K_regA hE fun K Kp hK hKp => ?_ | refine K_drwA false mixed hE fun K Kp hK hKp anc hanc => ?_); simp only [go_sem, ge_dec]) | ((first | refine onG_split_t (fun hg => ?_) (fun hg => ?_) | refine onG_split_f (fun hg => ?_) (fun hg => ?_)) <;> simp only [go_sem, ge_dec, hg]) | (refine K_condA (fun hc => ?_) (fun hc => ?_) <;> try (exact absurd hc (by decide))) | (refine K_ret ?_; refine (hQ _ ⟨_, by (try simp only [go_sem, ↓reduceIte, Nat.reduceEqDiff]); rfl, by simp [go_sem], ?_, by first | rfl | assumption⟩).1))
  all_goals simp [AV.snap]
end Go.Proofs.Ytlhhahocjfgmdaa
