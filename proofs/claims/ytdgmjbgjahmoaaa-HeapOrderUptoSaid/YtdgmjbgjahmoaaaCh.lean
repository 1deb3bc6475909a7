/- A part of the proof: an abstract machine for the walks, and what the walked functions compute. -/
import Derived.Test.YtdgmjbgjahmoaaaCg
set_option linter.unusedVariables false
set_option linter.unusedSimpArgs false
set_option linter.unusedSimpArgs false
set_option linter.unusedVariables false
set_option maxHeartbeats 4000000
set_option maxRecDepth 100000
namespace Go.Proofs.Ytdgmjbgjahmoaaa
open Nat (reduceAdd reduceMul reduceEqDiff reduceLT reduceLeDiff reduceSub reduceDiv)
open Int (reduceBNe reduceLE reduceEq)
open Go.Am Go.Proofs Go.Hv
open Classical
attribute [local irreducible] AW CallP CallB CallY
theorem fd_live : ∀ (l : List Cl) (i : Nat), i < firstDead l → ∃ c, l[i]? = some c ∧ c.live = true
 | [], i, h => absurd h (Nat.not_lt_zero _)
 | c :: l, i, h => by
  rw [firstDead] at h
  split at h
  ·rename_i hc
   cases i with
   | zero => exact ⟨c, rfl, hc⟩
   | succ i => simpa using fd_live l i (by omega)
  ·exact absurd h (Nat.not_lt_zero _)
theorem fd_dead : ∀ (l : List Cl), firstDead l < l.length → ∃ c, l[firstDead l]? = some c ∧ c.live = false
 | [], h => absurd h (Nat.not_lt_zero _)
 | c :: l, h => by
  rw [firstDead] at h ⊢
  split at h
  ·rename_i hc
   rw [if_pos hc, Nat.add_comm]
   simpa using fd_dead l (by simp only [List.length_cons] at h; omega)
  ·rename_i hc
   rw [if_neg hc]
   exact ⟨c, rfl, by simpa using hc⟩
theorem putC_get (l : List Cl) (x : Cl) (j : Nat) : (putC l (firstDead l) x)[j]? = if j = firstDead l then some x else l[j]? := by
 have hle := firstDead_le l
 unfold putC
 by_cases h : firstDead l = l.length
 ·rw [if_pos h]
  by_cases hj : j = l.length
  ·subst hj; rw [if_pos h.symm]; simp
  ·rw [if_neg (by omega)]
   rcases Nat.lt_or_ge j l.length with h1 | h1
   ·rw [List.getElem?_append_left h1]
   ·rw [List.getElem?_eq_none (by simp; omega), List.getElem?_eq_none (by omega)]
 ·rw [if_neg h, List.getElem?_set]
  by_cases hj : j = firstDead l
  ·subst hj; rw [if_pos rfl, if_pos rfl, if_pos (by omega)]
  ·rw [if_neg (fun e => hj e.symm), if_neg hj]
theorem putC_len (l : List Cl) (x : Cl) : (putC l (firstDead l) x).length = max l.length (firstDead l + 1) := by
 have hle := firstDead_le l
 unfold putC
 split
 ·simp; omega
 ·simp; omega
theorem live_app (a b : List Cl) : liveN (a ++ b) = liveN a + liveN b := by
 induction a with
 | nil => simp [liveN]
 | cons c a ih => rw [List.cons_append, liveN, liveN, ih]; omega
theorem live_split {l : List Cl} {n : Nat} {c : Cl} (h : l[n]? = some c) : liveN l = liveN (l.take n) + (if c.live then 1 else 0) + liveN (l.drop (n + 1)) := by
 conv => lhs; rw [← List.take_append_drop n l, live_app, drop_of h, liveN]
 omega
theorem live_set {l : List Cl} {n : Nat} {c : Cl} (h : l[n]? = some c) (x : Cl) : liveN (l.set n x) + (if c.live then 1 else 0) = liveN l + (if x.live then 1 else 0) := by
 have hn := (List.getElem?_eq_some_iff.1 h).1
 have h2 : (l.set n x)[n]? = some x := by rw [List.getElem?_set, if_pos rfl, if_pos hn]
 rw [live_split h, live_split h2, List.take_set_of_le (Nat.le_refl _), List.drop_set_of_lt (by omega)]
 omega
theorem live_put (l : List Cl) (x : Cl) (hx : x.live = true) : liveN (putC l (firstDead l) x) = liveN l + 1 := by
 have hle := firstDead_le l
 unfold putC
 split
 ·rw [live_app, liveN, liveN, if_pos hx]
 ·obtain ⟨c, h1, h2⟩ := fd_dead l (by omega)
  have := live_set h1 x
  rw [if_neg (by simp [h2]), if_pos hx] at this
  omega
theorem live_unput (l : List Cl) (x : Cl) (hx : x.live = true) : liveN ((putC l (firstDead l) x).set (firstDead l) Cl.zero) = liveN l := by
 have h1 : (putC l (firstDead l) x)[firstDead l]? = some x := by rw [putC_get, if_pos rfl]
 have := live_set h1 Cl.zero
 rw [if_pos hx, if_neg (by simp [Cl.zero]), live_put l x hx] at this
 omega
theorem alloc_err (h : Hp) (ar : Int) (v : Vl) (he : (allocS h ar v).2.2 ≠ 0) : (allocS h ar v).1 = hp0 ∧ (allocS h ar v).2.1 = 0 ∧ (((allocS h ar v).2.2 = 1) ↔ (ar < -1 ∨ ar ≥ h.arenas.length)) := by
 by_cases h1 : ar < -1 ∨ ar ≥ h.arenas.length
 ·have e : allocS h ar v = (hp0, 0, 1) := by rw [allocS, if_pos h1]
  rw [e]; exact ⟨rfl, rfl, by simp [h1]⟩
 by_cases h2 : 0 ≤ ar ∧ h.arenas[ar.toNat]? = some false
 ·have e : allocS h ar v = (hp0, 0, 18) := by rw [allocS, if_neg h1, if_pos h2]
  rw [e]; exact ⟨rfl, rfl, by simp [h1]⟩
 by_cases h3 : 4000 ≤ liveN h.cells
 ·have e : allocS h ar v = (hp0, 0, 19) := by rw [allocS, if_neg h1, if_neg h2, if_pos h3]
  rw [e]; exact ⟨rfl, rfl, by simp [h1]⟩
 rw [allocS, if_neg h1, if_neg h2, if_neg h3] at he
 exact absurd rfl he
theorem alloc_ok (h : Hp) (ar : Int) (v : Vl) (he : (allocS h ar v).2.2 = 0) : allocS h ar v = (Hp.mk (putC h.cells (firstDead h.cells) (Cl.mk true ar v)) h.arenas, ((firstDead h.cells : Nat) : Int), 0) ∧ -1 ≤ ar := by
 by_cases h1 : ar < -1 ∨ ar ≥ h.arenas.length
 ·have e : allocS h ar v = (hp0, 0, 1) := by rw [allocS, if_pos h1]
  rw [e] at he; cases he
 by_cases h2 : 0 ≤ ar ∧ h.arenas[ar.toNat]? = some false
 ·have e : allocS h ar v = (hp0, 0, 18) := by rw [allocS, if_neg h1, if_pos h2]
  rw [e] at he; cases he
 by_cases h3 : 4000 ≤ liveN h.cells
 ·have e : allocS h ar v = (hp0, 0, 19) := by rw [allocS, if_neg h1, if_neg h2, if_pos h3]
  rw [e] at he; cases he
 rw [allocS, if_neg h1, if_neg h2, if_neg h3]
 exact ⟨rfl, by omega⟩
theorem zav : Cl.zero.av = .agg [.bool false, .i 0, .i 0, .i 0, .i 0, .i 0, .sl [], .bool false, .sl [], .sl []] := rfl
theorem alloc_pc (h : Hp) (v : Vl) (ar : Int) (hb : HB h) (hv : v.sz ≤ 2 ^ 20) : PCall Try.prog 3 [h.av, v.av, .i ar] (.bool true) := by
 have hhd := head_pc
 have hfw := few_call h v (by omega) hb.z hb.l
 by_cases hf : fewB h v
 case neg =>
  rw [decide_eq_false hf] at hfw
  rw [Hp.av_eq, Vl.av_eq] at hfw ⊢
  refine PCall.intro Try.func3 rfl isf3 (by simp [Try.f3]) (by simp [AV.cloL, AV.clo]) fun E Q hE hN hQ => K_start ?_
  repeat' (first | apply nx | refine Kq_exit_ne (by decide) ?_ | rw [wrap64 (by omega) (by omega)] | ((first | refine hK _ ?_ | refine hKp _ _ ?_); clear hK hKp K Kp; try clear hanc anc) | ((with_reducible refine And.intro ?_ ?_); (focus (first | trivial | omega | (simp only [Fits]; omega) | assumption | (rw [hanc]; rfl)))) | ((first | refine K_regA hE fun K Kp hK hKp => ?_ | refine K_drwA false mixed hE fun K Kp hK hKp anc hanc => ?_ | ((first | apply CallP_mk | apply CallB_mk); (focus (simp only [go_sem] <;> rfl)); (focus (first | exact hhd | exact hfw)); (focus (first | (simp [go_sem]; done) | (simp [go_sem, CloRow, AV.cells, AV.clo]; done))); (focus (first | exact .inl rfl | (right; simp [go_sem]))))); simp only [go_sem]) | ((first | refine onG_split_t (fun hg => ?_) (fun hg => ?_) | refine onG_split_f (fun hg => ?_) (fun hg => ?_)) <;> simp only [go_sem, hg]) | (refine K_condA (fun hc => ?_) (fun hc => ?_) <;> try (exact absurd hc (by decide))) | (refine K_ret ?_; refine (hQ _ ⟨_, by (try simp only [go_sem, ↓reduceIte, Nat.reduceEqDiff]); rfl, by simp [go_sem], ?_, by first | rfl | assumption⟩).1))
  rfl
 rw [decide_eq_true hf] at hfw
 obtain ⟨f1, f2⟩ := few_lt hf
 have a1 := alloc_call h ar v hb.l hb.a
 by_cases he : (allocS h ar v).2.2 = 0
 case neg =>
  obtain ⟨g1, g2, g3⟩ := alloc_err h ar v he
  generalize allocS h ar v = A at *
  obtain ⟨A1, An, Ae⟩ := A
  simp only at he g1 g2 g3
  subst g1 g2
  simp only [resH, Hp.av_eq, Vl.av_eq, hp0, cl_nil] at *
  have q1 : (Ae != 0) = true := by simpa using he
  refine PCall.intro Try.func3 rfl isf3 (by simp [Try.f3]) (by simp [AV.cloL, AV.clo]) fun E Q hE hN hQ => K_start ?_
  by_cases h1 : ar < -1
  ·have q2 : (Ae == 1) = true := by simp [g3, h1]
   have q3 : decide (ar < -1) = true := by simpa using h1
   repeat' (first | apply nx | refine Kq_exit_ne (by decide) ?_ | rw [wrap64 (by omega) (by omega)] | ((first | refine hK _ ?_ | refine hKp _ _ ?_); clear hK hKp K Kp; try clear hanc anc) | ((with_reducible refine And.intro ?_ ?_); (focus (first | trivial | omega | (simp only [Fits]; omega) | assumption | (rw [hanc]; rfl)))) | ((first | refine K_regA hE fun K Kp hK hKp => ?_ | refine K_drwA false mixed hE fun K Kp hK hKp anc hanc => ?_ | ((first | apply CallP_mk | apply CallB_mk); (focus (simp only [go_sem] <;> rfl)); (focus (first | exact hhd | exact hfw | exact a1)); (focus (first | (simp [go_sem]; done) | (simp [go_sem, CloRow, AV.cells, AV.clo]; done))); (focus (first | exact .inl rfl | (right; simp [go_sem]))))); simp only [go_sem, q1, q2, q3, List.length_nil, nc0, Int.reduceBEq]) | ((first | refine onG_split_t (fun hg => ?_) (fun hg => ?_) | refine onG_split_f (fun hg => ?_) (fun hg => ?_)) <;> simp only [go_sem, q1, q2, q3, List.length_nil, nc0, Int.reduceBEq, hg]) | (refine K_condA (fun hc => ?_) (fun hc => ?_) <;> try (exact absurd hc (by decide))) | (refine K_ret ?_; refine (hQ _ ⟨_, by (try simp only [go_sem, ↓reduceIte, Nat.reduceEqDiff]); rfl, by simp [go_sem], ?_, by first | rfl | assumption⟩).1))
   all_goals rfl
  ·have q3 : decide (ar < -1) = false := by simpa using h1
   by_cases h2 : ar ≥ h.arenas.length
   ·have q2 : (Ae == 1) = true := by simp [g3, h2]
    have q4 : decide ((h.arenas.length : Int) ≤ ar) = true := by simpa using h2
    repeat' (first | apply nx | refine Kq_exit_ne (by decide) ?_ | rw [wrap64 (by omega) (by omega)] | ((first | refine hK _ ?_ | refine hKp _ _ ?_); clear hK hKp K Kp; try clear hanc anc) | ((with_reducible refine And.intro ?_ ?_); (focus (first | trivial | omega | (simp only [Fits]; omega) | assumption | (rw [hanc]; rfl)))) | ((first | refine K_regA hE fun K Kp hK hKp => ?_ | refine K_drwA false mixed hE fun K Kp hK hKp anc hanc => ?_ | ((first | apply CallP_mk | apply CallB_mk); (focus (simp only [go_sem] <;> rfl)); (focus (first | exact hhd | exact hfw | exact a1)); (focus (first | (simp [go_sem]; done) | (simp [go_sem, CloRow, AV.cells, AV.clo]; done))); (focus (first | exact .inl rfl | (right; simp [go_sem]))))); simp only [go_sem, q1, q2, q3, q4, List.length_nil, nc0]) | ((first | refine onG_split_t (fun hg => ?_) (fun hg => ?_) | refine onG_split_f (fun hg => ?_) (fun hg => ?_)) <;> simp only [go_sem, q1, q2, q3, q4, List.length_nil, nc0, hg]) | (refine K_condA (fun hc => ?_) (fun hc => ?_) <;> try (exact absurd hc (by decide))) | (refine K_ret ?_; refine (hQ _ ⟨_, by (try simp only [go_sem, ↓reduceIte, Nat.reduceEqDiff]); rfl, by simp [go_sem], ?_, by first | rfl | assumption⟩).1))
    all_goals rfl
   ·have q2 : (Ae == 1) = false := by simp [g3]; omega
    have q4 : decide ((h.arenas.length : Int) ≤ ar) = false := by simpa using h2
    repeat' (first | apply nx | refine Kq_exit_ne (by decide) ?_ | rw [wrap64 (by omega) (by omega)] | ((first | refine hK _ ?_ | refine hKp _ _ ?_); clear hK hKp K Kp; try clear hanc anc) | ((with_reducible refine And.intro ?_ ?_); (focus (first | trivial | omega | (simp only [Fits]; omega) | assumption | (rw [hanc]; rfl)))) | ((first | refine K_regA hE fun K Kp hK hKp => ?_ | refine K_drwA false mixed hE fun K Kp hK hKp anc hanc => ?_ | ((first | apply CallP_mk | apply CallB_mk); (focus (simp only [go_sem] <;> rfl)); (focus (first | exact hhd | exact hfw | exact a1)); (focus (first | (simp [go_sem]; done) | (simp [go_sem, CloRow, AV.cells, AV.clo]; done))); (focus (first | exact .inl rfl | (right; simp [go_sem]))))); simp only [go_sem, q1, q2, q3, q4, List.length_nil, nc0]) | ((first | refine onG_split_t (fun hg => ?_) (fun hg => ?_) | refine onG_split_f (fun hg => ?_) (fun hg => ?_)) <;> simp only [go_sem, q1, q2, q3, q4, List.length_nil, nc0, hg]) | (refine K_condA (fun hc => ?_) (fun hc => ?_) <;> try (exact absurd hc (by decide))) | (refine K_ret ?_; refine (hQ _ ⟨_, by (try simp only [go_sem, ↓reduceIte, Nat.reduceEqDiff]); rfl, by simp [go_sem], ?_, by first | rfl | assumption⟩).1))
    all_goals rfl
 obtain ⟨e1, har⟩ := alloc_ok h ar v he
 have hba := hb.alloc (by omega) ar hv
 have hfd := firstDead_le h.cells
 rw [e1] at a1 hba
 generalize hn : firstDead h.cells = n at *
 have hlen : (putC h.cells n ⟨true, ar, v⟩).length = max h.cells.length (n + 1) := by rw [← hn]; exact putC_len _ _
 have hget : (putC h.cells n ⟨true, ar, v⟩)[n]? = some ⟨true, ar, v⟩ := by rw [← hn, putC_get, if_pos rfl]
 have hget' : ∀ j, j ≠ n → (putC h.cells n ⟨true, ar, v⟩)[j]? = h.cells[j]? := fun j hj => by rw [← hn, putC_get, if_neg (by rw [hn]; exact hj)]
 have hlv : liveN (putC h.cells n ⟨true, ar, v⟩) = liveN h.cells + 1 := by rw [← hn]; exact live_put _ _ rfl
 have hun : liveN ((putC h.cells n ⟨true, ar, v⟩).set n Cl.zero) = liveN h.cells := by rw [← hn]; exact live_unput _ _ rfl
 have hlive : ∀ i, i < n → ∃ c, h.cells[i]? = some c ∧ c.live = true := fun i hi => fd_live _ _ (by rw [hn]; exact hi)
 have hdead : n < h.cells.length → ∃ c, h.cells[n]? = some c ∧ c.live = false := fun hh => by have := fd_dead h.cells (by rw [hn]; exact hh); rwa [hn] at this
 have hll := liveN_le h.cells
 clear hn
 generalize putC h.cells n ⟨true, ar, v⟩ = L at *
 have s1 := sameC_call ⟨true, ar, v⟩ ⟨true, ar, v⟩ (by show v.sz < 2 ^ 40; omega)
 have l1 := live_call ⟨L, h.arenas⟩ (by have := hba.l; simp only at this ⊢; omega)
 have l2 := live_call h (by omega)
 have k1 := kept_call h ⟨L, h.arenas⟩ n hb.l hb.z
 rw [decide_eq_true (by
  refine ⟨by simp only; omega, fun i hi c hc => ?_⟩
  simp only
  rw [hget' i (by omega)]; exact hc)] at k1
 have fr1 := free_call ⟨L, h.arenas⟩ n hba.l hba.a
 have e2 : freeS ⟨L, h.arenas⟩ n = if ar = -1 then (⟨L.set n Cl.zero, h.arenas⟩, v, 0) else (hp0, zeroV, 18) := by
  rw [freeS, if_neg (by simp only; omega), Int.toNat_natCast]
  simp only [hget, true_and]
 rw [e2] at fr1
 have l3 := live_call ⟨L.set n Cl.zero, h.arenas⟩ (by have := hba.l; simp only [List.length_set] at this ⊢; omega)
 have k2 := kept_call h ⟨L.set n Cl.zero, h.arenas⟩ n hb.l hb.z
 rw [decide_eq_true (by
  refine ⟨by simp only [List.length_set]; omega, fun i hi c hc => ?_⟩
  simp only
  rw [List.getElem?_set, if_neg (by omega), hget' i (by omega)]; exact hc)] at k2
 have v1 := sameV_call (2 ^ 40) v v (by omega) (by omega)
 have hz : (L.set n Cl.zero)[n]? = some Cl.zero := by rw [List.getElem?_set, if_pos rfl, if_pos (by omega)]
 rw [decide_refl] at s1 v1
 have q1 : decide ((n : Int) < 0) = false := by simp
 have q2 : decide ((L.length : Int) ≤ (n : Int)) = false := by rw [decide_eq_false_iff_not]; omega
 have q3 : (((liveN L : Nat) : Int) != ((liveN h.cells : Nat) : Int) + 1) = false := by simp [hlv]
 have q4 : ((L.length : Int) != max (h.cells.length : Int) ((n : Int) + 1)) = false := by simp; omega
 have q5 : decide ((h.cells.length : Int) < (n : Int)) = false := by rw [decide_eq_false_iff_not]; omega
 have q6 : (((liveN (L.set n Cl.zero) : Nat) : Int) != ((liveN h.cells : Nat) : Int)) = false := by simp [hun]
 clear e1 e2 he hba hget' hf hlv hun
 simp only [resH, resF, Hp.av_eq, Vl.av_eq, hp0, cl_nil, Cl.cs_eq] at *
 have u1 : IntKind.i64.wrap (((liveN h.cells : Nat) : Int) + 1) = ((liveN h.cells : Nat) : Int) + 1 := wrap64 (by omega) (by omega)
 have u2 : IntKind.i64.wrap ((n : Int) + 1) = (n : Int) + 1 := wrap64 (by omega) (by omega)
 refine PCall.intro Try.func3 rfl isf3 (by simp [Try.f3]) (by simp [AV.cloL, AV.clo]) fun E Q hE hN hQ => K_start ?_
 repeat' (first | apply nx | refine Kq_exit_ne (by decide) ?_ | rw [wrap64 (by omega) (by omega)] | ((first | refine hK _ ?_ | refine hKp _ _ ?_); clear hK hKp K Kp; try clear hanc anc) | ((with_reducible refine And.intro ?_ ?_); (focus (first | trivial | omega | (simp only [Fits]; omega) | assumption | (rw [hanc]; rfl)))) | ((fail_if_success refine K_stop 9 ?_); (first | refine K_regA hE fun K Kp hK hKp => ?_ | refine K_drwA true mixed hE fun K Kp hK hKp anc hanc => ?_ | refine K_drwA false mixed hE fun K Kp hK hKp anc hanc => ?_ | ((first | apply CallP_mk | apply CallB_mk); (focus (simp only [go_sem] <;> rfl)); (focus (first | exact hhd | exact hfw | exact a1 | exact s1 | exact l1 | exact l2)); (focus (first | (simp [go_sem]; done) | (simp [go_sem, CloRow, AV.cells, AV.clo]; done))); (focus (first | exact .inl rfl | (right; simp [go_sem]))))); simp only [go_sem, u1, q1, q2, q3, hget, Cl.av, Cl.cs_eq, bne_self_eq_false]) | ((first | refine onG_split_t (fun hg => ?_) (fun hg => ?_) | refine onG_split_f (fun hg => ?_) (fun hg => ?_)) <;> simp only [go_sem, u1, q1, q2, q3, hget, Cl.av, Cl.cs_eq, bne_self_eq_false, hg]) | (refine K_condA (fun hc => ?_) (fun hc => ?_) <;> try (exact absurd hc (by decide))))
 have hcase : (∃ (_ : n < h.cells.length) (c : Cl), h.cells[n]? = some c ∧ c.live = false) ∨ decide ((n : Int) < (h.cells.length : Int)) = false := by
  by_cases h1 : n < h.cells.length
  ·obtain ⟨c, hc1, hc2⟩ := hdead h1
   exact .inl ⟨h1, c, hc1, hc2⟩
  ·right; rw [decide_eq_false_iff_not]; omega
 rcases hcase with ⟨h1, c, hc1, hc2⟩ | q7
 rotate_left
 repeat' (first | apply nx | refine Kq_exit_ne (by decide) ?_ | rw [wrap64 (by omega) (by omega)] | ((first | refine hK _ ?_ | refine hKp _ _ ?_); clear hK hKp K Kp; try clear hanc anc) | ((with_reducible refine And.intro ?_ ?_); (focus (first | trivial | omega | (simp only [Fits]; omega) | assumption | (rw [hanc]; rfl)))) | ((first | refine K_regA hE fun K Kp hK hKp => ?_ | refine K_drwA true mixed hE fun K Kp hK hKp anc hanc => ?_ | refine K_drwA false mixed hE fun K Kp hK hKp anc hanc => ?_ | ((first | apply CallP_mk | apply CallB_mk); (focus (simp only [go_sem] <;> rfl)); (focus (exact k1)); (focus (first | (simp [go_sem]; done) | (simp [go_sem, CloRow, AV.cells, AV.clo]; done))); (focus (first | exact .inl rfl | (right; simp [go_sem]))))); simp only [go_sem, u2, q4, q5, q7]) | ((first | refine onG_split_t (fun hg => ?_) (fun hg => ?_) | refine onG_split_f (fun hg => ?_) (fun hg => ?_)) <;> simp only [go_sem, u2, q4, q5, q7, hg]) | (refine K_condA (fun hc => ?_) (fun hc => ?_) <;> try (exact absurd hc (by decide))))
 rotate_left
 repeat' (first | apply nx | refine Kq_exit_ne (by decide) ?_ | rw [wrap64 (by omega) (by omega)] | ((first | refine hK _ ?_ | refine hKp _ _ ?_); clear hK hKp K Kp; try clear hanc anc) | ((with_reducible refine And.intro ?_ ?_); (focus (first | trivial | omega | (simp only [Fits]; omega) | assumption | (rw [hanc]; rfl)))) | ((first | refine K_regA hE fun K Kp hK hKp => ?_ | refine K_drwA true mixed hE fun K Kp hK hKp anc hanc => ?_ | refine K_drwA false mixed hE fun K Kp hK hKp anc hanc => ?_ | ((first | apply CallP_mk | apply CallB_mk); (focus (simp only [go_sem] <;> rfl)); (focus (exact k1)); (focus (first | (simp [go_sem]; done) | (simp [go_sem, CloRow, AV.cells, AV.clo]; done))); (focus (first | exact .inl rfl | (right; simp [go_sem]))))); simp only [go_sem, u2, q4, q5, lt_dec h1, hc1, Cl.av, Cl.cs_eq, hc2]) | ((first | refine onG_split_t (fun hg => ?_) (fun hg => ?_) | refine onG_split_f (fun hg => ?_) (fun hg => ?_)) <;> simp only [go_sem, u2, q4, q5, lt_dec h1, hc1, Cl.av, Cl.cs_eq, hc2, hg]) | (refine K_condA (fun hc => ?_) (fun hc => ?_) <;> try (exact absurd hc (by decide))))
 all_goals
  refine K_loop (X := Nat) (fun x => x ≤ n) (fun x => mkSt [(2, .i ar), (3, .ptr 0 0), (4, .ptr 1 0), (7, .bool true), (8, .ptr 2 0), (9, .i n), (11, .i x)] [(0, .cells [.sl (cl h.cells), .sl (bl h.arenas)]), (1, vC8 v), (2, .cells [.sl (cl L), .sl (bl h.arenas)])] 3) (fun x => n - x) 0 (Nat.zero_le _) (fun i => if i = 0 then 0 else if i = 1 then 1048576 else 17825792) (by refine ent_mk (by simp [go_sem]) (by simp [go_sem]) (by simp) (by simp [hN])) ?_
  intro i hi
  by_cases hlt : i < n
  ·obtain ⟨x, hx, hxl⟩ := hlive i hlt
   have hil := (List.getElem?_eq_some_iff.1 hx).1
   repeat' (first | apply nx | refine Kq_exit_ne (by decide) ?_ | rw [wrap64 (by omega) (by omega)] | ((first | refine hK _ ?_ | refine hKp _ _ ?_); clear hK hKp K Kp; try clear hanc anc) | ((with_reducible refine And.intro ?_ ?_); (focus (first | trivial | omega | (simp only [Fits]; omega) | assumption | (rw [hanc]; rfl)))) | ((first | refine K_regA hE fun K Kp hK hKp => ?_ | refine K_drwA true mixed hE fun K Kp hK hKp anc hanc => ?_ | refine K_drwA false mixed hE fun K Kp hK hKp anc hanc => ?_); simp only [go_sem, lt_dec hlt, hx, Cl.av, Cl.cs_eq, hxl]) | ((first | refine onG_split_t (fun hg => ?_) (fun hg => ?_) | refine onG_split_f (fun hg => ?_) (fun hg => ?_)) <;> simp only [go_sem, lt_dec hlt, hx, Cl.av, Cl.cs_eq, hxl, hg]) | (refine K_condA (fun hc => ?_) (fun hc => ?_) <;> try (exact absurd hc (by decide))))
   refine ⟨i + 1, hlt, by omega, fun i => i, by refine ent_mk (by simp [go_sem]) (by simp [go_sem]) (by simp) (by simp [hN])⟩
  ·obtain rfl : i = n := by omega
   have q8 : decide ((i : Int) < (i : Int)) = false := by simp
   by_cases h2 : ar = -1
   ·rw [if_pos h2] at fr1
    simp only [resF, Hp.av_eq, Vl.av_eq] at fr1
    have q9 : decide (0 ≤ ar) = false := by rw [decide_eq_false_iff_not]; omega
    repeat' (first | apply nx | refine Kq_exit_ne (by decide) ?_ | rw [wrap64 (by omega) (by omega)] | ((first | refine hK _ ?_ | refine hKp _ _ ?_); clear hK hKp K Kp; try clear hanc anc) | ((with_reducible refine And.intro ?_ ?_); (focus (first | trivial | omega | (simp only [Fits]; omega) | assumption | (rw [hanc]; rfl)))) | ((first | refine K_regA hE fun K Kp hK hKp => ?_ | refine K_drwA false mixed hE fun K Kp hK hKp anc hanc => ?_ | ((first | apply CallP_mk | apply CallB_mk); (focus (simp only [go_sem] <;> rfl)); (focus (first | exact fr1 | exact v1 | exact l3 | exact l2 | exact k2)); (focus (first | (simp [go_sem]; done) | (simp [go_sem, CloRow, AV.cells, AV.clo]; done))); (focus (first | exact .inl rfl | (right; simp [go_sem]))))); simp only [go_sem, q8, q9, q6, bne_self_eq_false, beq_self_eq_true, hz, zav, List.length_set]) | ((first | refine onG_split_t (fun hg => ?_) (fun hg => ?_) | refine onG_split_f (fun hg => ?_) (fun hg => ?_)) <;> simp only [go_sem, q8, q9, q6, bne_self_eq_false, beq_self_eq_true, hz, zav, List.length_set, hg]) | (refine K_condA (fun hc => ?_) (fun hc => ?_) <;> try (exact absurd hc (by decide))) | (refine K_ret ?_; refine (hQ _ ⟨_, by (try simp only [go_sem, ↓reduceIte, Nat.reduceEqDiff]); rfl, by simp [go_sem], ?_, by first | rfl | assumption⟩).1))
    all_goals rfl
   ·rw [if_neg h2] at fr1
    simp only [resF, Hp.av_eq, Vl.av_eq] at fr1
    have q9 : decide (0 ≤ ar) = true := by rw [decide_eq_true_eq]; omega
    repeat' (first | apply nx | refine Kq_exit_ne (by decide) ?_ | rw [wrap64 (by omega) (by omega)] | ((first | refine hK _ ?_ | refine hKp _ _ ?_); clear hK hKp K Kp; try clear hanc anc) | ((with_reducible refine And.intro ?_ ?_); (focus (first | trivial | omega | (simp only [Fits]; omega) | assumption | (rw [hanc]; rfl)))) | ((first | refine K_regA hE fun K Kp hK hKp => ?_ | refine K_drwA false mixed hE fun K Kp hK hKp anc hanc => ?_ | ((first | apply CallP_mk | apply CallB_mk); (focus (simp only [go_sem] <;> rfl)); (focus (exact fr1)); (focus (first | (simp [go_sem]; done) | (simp [go_sem, CloRow, AV.cells, AV.clo]; done))); (focus (first | exact .inl rfl | (right; simp [go_sem]))))); simp only [go_sem, q8, q9, bne_self_eq_false, beq_self_eq_true]) | ((first | refine onG_split_t (fun hg => ?_) (fun hg => ?_) | refine onG_split_f (fun hg => ?_) (fun hg => ?_)) <;> simp only [go_sem, q8, q9, bne_self_eq_false, beq_self_eq_true, hg]) | (refine K_condA (fun hc => ?_) (fun hc => ?_) <;> try (exact absurd hc (by decide))) | (refine K_ret ?_; refine (hQ _ ⟨_, by (try simp only [go_sem, ↓reduceIte, Nat.reduceEqDiff]); rfl, by simp [go_sem], ?_, by first | rfl | assumption⟩).1))
    all_goals rfl
end Go.Proofs.Ytdgmjbgjahmoaaa
