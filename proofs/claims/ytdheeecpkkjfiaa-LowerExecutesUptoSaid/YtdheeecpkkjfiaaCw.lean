/- A part of the proof: an abstract machine for the walks, and what the walked functions compute. -/
import Derived.Test.YtdheeecpkkjfiaaCv
import Derived.Test.YtdheeecpkkjfiaaMi
set_option linter.unusedVariables false
set_option linter.unusedSimpArgs false
/- Chapter 10: the nodes of a run. -/
set_option linter.unusedSimpArgs false
set_option linter.unusedVariables false
set_option maxHeartbeats 4000000
set_option maxRecDepth 100000
namespace Go.Proofs.Ytdheeecpkkjfiaa
open Nat (reduceAdd reduceMul reduceEqDiff reduceLT reduceLeDiff reduceSub reduceDiv)
open Int (reduceBNe reduceLE reduceEq)
open Go.Am Go.Proofs Go.Low
attribute [local irreducible] AW CallP CallB

theorem node_rc1 (N : Nat) (hL : ∀ (l : List Nd) (d : Int) (s : RS), Nd.szL l < N → d ≤ 60 → formedL l d = true → Okd d s → RCall 14 [.sl (Nd.avL l)] s (fun _ t => Ex (.l l) s t ∧ Okd d t)) (n : Nd) (d : Int) (s : RS) (hn : n.sz ≤ N) (hN2 : N ≤ 2 ^ 30) (hd6 : d ≤ 60) (hf : formedN n d = true) (hs : Okd d s) (hov : s.ov = false) (hk : n.kind = 1) : RCall 36 [n.av] s (fun _ t => Ex (.n n) s t ∧ Okd d t) := by
  rw [formedN_eq] at hf
  simp only [Bool.and_eq_true, Bool.not_eq_true', Bool.or_eq_false_iff, decide_eq_false_iff_not, Bool.and_eq_false_iff, beq_eq_false_iff_ne] at hf
  obtain ⟨⟨⟨⟨⟨⟨hd, hk1⟩, hk6⟩, hk4⟩, hft⟩, hfe⟩, hfa⟩ := hf
  rw [Nd.sz_eq] at hn
  have hln := hs.1.1
  rw [Nd.av_eq]
  refine RCall.intro Try.func36 rfl isf36 (by simp [Try.f36]) fun E Q hE hN hQ => K_start ?_
  unfold runHp rcs
  have hcl := note_rc (.ins n.ins) s (by omega)
  unfold Ev.av at hcl
  repeat' (first | apply w1 | apply w2 | apply w3 | apply w4 | apply w5 | apply w6 | apply w7 | refine Kq_exit_ne (by decide) ?_ | apply w8 | apply w9 | apply w0 | rw [wrap64 (by omega) (by omega)] | ((first | refine hK _ ?_ | refine hKp _ _ ?_); clear hK hKp K Kp; try clear hanc anc) | ((with_reducible refine And.intro ?_ ?_); (focus (first | trivial | omega | (simp only [Fits]; omega) | assumption | (rw [hanc]; rfl)))) | ((first | refine K_regA hE fun K Kp hK hKp => ?_ | refine K_drwA true mixed hE fun K Kp hK hKp anc hanc => ?_ | refine K_drwA false mixed hE fun K Kp hK hKp anc hanc => ?_); simp only [go_sem, ↓reduceIte, reduceCtorEq, reduceAdd, reduceMul, reduceEqDiff, reduceLT, reduceLeDiff, reduceSub, reduceDiv, Nat.reduceBEq, Int.reduceBEq, reduceBNe, Int.reduceLT, reduceLE, reduceEq, hk, hov]) | ((first | refine onG_split_t (fun hg => ?_) (fun hg => ?_) | refine onG_split_f (fun hg => ?_) (fun hg => ?_)) <;> simp only [go_sem, ↓reduceIte, reduceCtorEq, reduceAdd, reduceMul, reduceEqDiff, reduceLT, reduceLeDiff, reduceSub, reduceDiv, Nat.reduceBEq, Int.reduceBEq, reduceBNe, Int.reduceLT, reduceLE, reduceEq, hk, hov, hg]) | (refine K_condA (fun hc => ?_) (fun hc => ?_) <;> try (exact absurd hc (by decide))))
  refine Hold.mk (RCall.use (hcl) rfl (A := 0) (e := 1) (by decide) (by first | rfl | (simp [go_sem, rcs, hov]; done)) (by first | rfl | (simp [go_sem, hov]; done)) ?_)
  rintro r s' ⟨fr', hp', nx'⟩ e' he' hse _ hnx hfr hp0 hp1 hold
  simp only at he' hnx hfr hp0 hp1 hold
  have hne0 : e' ≠ 0 := by omega
  have hne2 : e' ≠ 2 := by omega
  subst hnx hfr
  simp only [go_sem, ↓reduceIte, reduceCtorEq, reduceAdd, reduceMul, reduceEqDiff, reduceLT, reduceLeDiff, reduceSub, reduceDiv, Nat.reduceBEq, Int.reduceBEq, reduceBNe, Int.reduceLT, reduceLE, reduceEq, hov]
  refine hK _ ?_; clear hK hKp K Kp; try clear hanc anc
  repeat (first | refine Kq_norm_code ?_ | refine Kq_norm_blk ?_ | refine Kq_norm_lp ?_)
  subst hse
  rw [Kq_nil]
  exact (hQ _ (.tup []) _ e' (by simp only [go_sem, ↓reduceIte, reduceCtorEq, reduceAdd, reduceMul, reduceEqDiff, reduceLT, reduceLeDiff, reduceSub, reduceDiv, Nat.reduceBEq, Int.reduceBEq, reduceBNe, Int.reduceLT, reduceLE, reduceEq]; rfl) ⟨.k1 hk, hs.note hov _⟩ rfl hne0 hp0 hp1).2
theorem node_rc2 (N : Nat) (hL : ∀ (l : List Nd) (d : Int) (s : RS), Nd.szL l < N → d ≤ 60 → formedL l d = true → Okd d s → RCall 14 [.sl (Nd.avL l)] s (fun _ t => Ex (.l l) s t ∧ Okd d t)) (n : Nd) (d : Int) (s : RS) (hn : n.sz ≤ N) (hN2 : N ≤ 2 ^ 30) (hd6 : d ≤ 60) (hf : formedN n d = true) (hs : Okd d s) (hov : s.ov = false) (hk : n.kind = 2) : RCall 36 [n.av] s (fun _ t => Ex (.n n) s t ∧ Okd d t) := by
  rw [formedN_eq] at hf
  simp only [Bool.and_eq_true, Bool.not_eq_true', Bool.or_eq_false_iff, decide_eq_false_iff_not, Bool.and_eq_false_iff, beq_eq_false_iff_ne] at hf
  obtain ⟨⟨⟨⟨⟨⟨hd, hk1⟩, hk6⟩, hk4⟩, hft⟩, hfe⟩, hfa⟩ := hf
  rw [Nd.sz_eq] at hn
  have hln := hs.1.1
  rw [Nd.av_eq]
  refine RCall.intro Try.func36 rfl isf36 (by simp [Try.f36]) fun E Q hE hN hQ => K_start ?_
  unfold runHp rcs
  have hcl := note_rc (.mark 2 n.a) s (by omega)
  unfold Ev.av at hcl
  repeat' (first | apply w1 | apply w2 | apply w3 | apply w4 | apply w5 | apply w6 | apply w7 | refine Kq_exit_ne (by decide) ?_ | apply w8 | apply w9 | apply w0 | rw [wrap64 (by omega) (by omega)] | ((first | refine hK _ ?_ | refine hKp _ _ ?_); clear hK hKp K Kp; try clear hanc anc) | ((with_reducible refine And.intro ?_ ?_); (focus (first | trivial | omega | (simp only [Fits]; omega) | assumption | (rw [hanc]; rfl)))) | ((first | refine K_regA hE fun K Kp hK hKp => ?_ | refine K_drwA true mixed hE fun K Kp hK hKp anc hanc => ?_ | refine K_drwA false mixed hE fun K Kp hK hKp anc hanc => ?_); simp only [go_sem, ↓reduceIte, reduceCtorEq, reduceAdd, reduceMul, reduceEqDiff, reduceLT, reduceLeDiff, reduceSub, reduceDiv, Nat.reduceBEq, Int.reduceBEq, reduceBNe, Int.reduceLT, reduceLE, reduceEq, hk, hov]) | ((first | refine onG_split_t (fun hg => ?_) (fun hg => ?_) | refine onG_split_f (fun hg => ?_) (fun hg => ?_)) <;> simp only [go_sem, ↓reduceIte, reduceCtorEq, reduceAdd, reduceMul, reduceEqDiff, reduceLT, reduceLeDiff, reduceSub, reduceDiv, Nat.reduceBEq, Int.reduceBEq, reduceBNe, Int.reduceLT, reduceLE, reduceEq, hk, hov, hg]) | (refine K_condA (fun hc => ?_) (fun hc => ?_) <;> try (exact absurd hc (by decide))))
  refine Hold.mk (RCall.use (hcl) rfl (A := 0) (e := 1) (by decide) (by first | rfl | (simp [go_sem, rcs, hov, Nd.cs, hk]; done)) (by first | rfl | (simp [go_sem, hov, Nd.cs, hk]; done)) ?_)
  rintro r s' ⟨fr', hp', nx'⟩ e' he' hse _ hnx hfr hp0 hp1 hold
  simp only at he' hnx hfr hp0 hp1 hold
  have hne0 : e' ≠ 0 := by omega
  have hne2 : e' ≠ 2 := by omega
  subst hnx hfr
  have hp2 := hold 2 _ (by simp [go_sem, hov, Nd.cs, hk]; rfl) (by decide) (by first | decide | omega)
  simp only [go_sem, ↓reduceIte, reduceCtorEq, reduceAdd, reduceMul, reduceEqDiff, reduceLT, reduceLeDiff, reduceSub, reduceDiv, Nat.reduceBEq, Int.reduceBEq, reduceBNe, Int.reduceLT, reduceLE, reduceEq, hov, Nd.cs, hk]
  refine hK _ ?_; clear hK hKp K Kp; try clear hanc anc
  repeat (first | refine Kq_norm_code ?_ | refine Kq_norm_blk ?_ | refine Kq_norm_lp ?_)
  refine AW.entR _ hp1 (σ' := mkSt [(0, .ptr 0 0), (3, .ptr 2 0)] [(0, .cells (rcs s' 1)), (1, .row 9 (evs s'.ev)), (2, .cells n.cs)] 3) (ent_mk (by simp [go_sem]) (by simp [go_sem, rcs, hp0, hp1, hp2, hov, Nd.cs, hk]) (by simp [hne0, hne2, Ne.symm hne0, Ne.symm hne2]) (by simp [hN])) ?_
  subst hse
  have hs1 := hs.note (e := d - 1) hov (.mark 2 n.a)
  have hs2 := hs.noteNext (e := d - 1) hov (.mark 2 n.a)
  have hch := choose_rc 2 (s.note (.mark 2 n.a)) (by omega) (by have := hs1.2.2.1; have := hs1.1.1; omega) hs1.2.2.2.2 hs1.2.2.2.1
  generalize hs1e : s.note (.mark 2 n.a) = s1 at *
  have hpk := s1.pick_lt (n := 2) (by omega)
  unfold rcs
  by_cases hpz : s1.pick 2 = 0
  · have q0 : ((s1.pick 2 : Int) == 0) = true := by simp [hpz]
    repeat' (first | apply w1 | apply w2 | apply w3 | apply w4 | apply w5 | apply w6 | apply w7 | refine Kq_exit_ne (by decide) ?_ | apply w8 | apply w9 | apply w0 | rw [wrap64 (by omega) (by omega)] | ((first | refine hK _ ?_ | refine hKp _ _ ?_); clear hK hKp K Kp; try clear hanc anc) | ((with_reducible refine And.intro ?_ ?_); (focus (first | trivial | omega | (simp only [Fits]; omega) | assumption | (rw [hanc]; rfl)))) | ((first | refine K_regA hE fun K Kp hK hKp => ?_ | refine K_drwA true mixed hE fun K Kp hK hKp anc hanc => ?_ | refine K_drwA false mixed hE fun K Kp hK hKp anc hanc => ?_); simp only [go_sem, ↓reduceIte, reduceCtorEq, reduceAdd, reduceMul, reduceEqDiff, reduceLT, reduceLeDiff, reduceSub, reduceDiv, Nat.reduceBEq, Int.reduceBEq, reduceBNe, Int.reduceLT, reduceLE, reduceEq, Nd.cs]) | ((first | refine onG_split_t (fun hg => ?_) (fun hg => ?_) | refine onG_split_f (fun hg => ?_) (fun hg => ?_)) <;> simp only [go_sem, ↓reduceIte, reduceCtorEq, reduceAdd, reduceMul, reduceEqDiff, reduceLT, reduceLeDiff, reduceSub, reduceDiv, Nat.reduceBEq, Int.reduceBEq, reduceBNe, Int.reduceLT, reduceLE, reduceEq, Nd.cs, hg]) | (refine K_condA (fun hc => ?_) (fun hc => ?_) <;> try (exact absurd hc (by decide))))
    refine Hold.mk (RCall.use (hch) rfl (A := 0) (e := 1) (by decide) (by first | rfl | (simp [go_sem, rcs, Nd.cs, q0]; done)) (by first | rfl | (simp [go_sem, Nd.cs, q0]; done)) ?_)
    rintro r s' ⟨fr', hp', nx'⟩ e' he' ⟨rfl, hse⟩ _ hnx hfr hp0 hp1 hold
    simp only at he' hnx hfr hp0 hp1 hold
    have hne0 : e' ≠ 0 := by omega
    have hne2 : e' ≠ 2 := by omega
    subst hnx hfr
    have hp2 := hold 2 _ (by simp [go_sem, Nd.cs, q0]; rfl) (by decide) (by first | decide | omega)
    simp only [go_sem, ↓reduceIte, reduceCtorEq, reduceAdd, reduceMul, reduceEqDiff, reduceLT, reduceLeDiff, reduceSub, reduceDiv, Nat.reduceBEq, Int.reduceBEq, reduceBNe, Int.reduceLT, reduceLE, reduceEq, Nd.cs, q0]
    refine hK _ ?_; clear hK hKp K Kp; try clear hanc anc
    repeat (first | refine Kq_norm_code ?_ | refine Kq_norm_blk ?_ | refine Kq_norm_lp ?_)
    refine AW.entR _ hp1 (σ' := mkSt [(0, .ptr 0 0), (3, .ptr 2 0), (22, .bool true)] [(0, .cells (rcs s' 1)), (1, .row 9 (evs s'.ev)), (2, .cells n.cs)] 3) (ent_mk (by simp [go_sem]) (by simp [go_sem, rcs, hp0, hp1, hp2, Nd.cs, q0]) (by simp [hne0, hne2, Ne.symm hne0, Ne.symm hne2]) (by simp [hN])) ?_
    subst hse
    unfold rcs
    repeat' (first | apply w1 | apply w2 | apply w3 | apply w4 | apply w5 | apply w6 | apply w7 | refine Kq_exit_ne (by decide) ?_ | apply w8 | apply w9 | apply w0 | rw [wrap64 (by omega) (by omega)] | ((first | refine hK _ ?_ | refine hKp _ _ ?_); clear hK hKp K Kp; try clear hanc anc) | ((with_reducible refine And.intro ?_ ?_); (focus (first | trivial | omega | (simp only [Fits]; omega) | assumption | (rw [hanc]; rfl)))) | ((first | refine K_regA hE fun K Kp hK hKp => ?_ | refine K_drwA true mixed hE fun K Kp hK hKp anc hanc => ?_ | refine K_drwA false mixed hE fun K Kp hK hKp anc hanc => ?_); simp only [go_sem, ↓reduceIte, reduceCtorEq, reduceAdd, reduceMul, reduceEqDiff, reduceLT, reduceLeDiff, reduceSub, reduceDiv, Nat.reduceBEq, Int.reduceBEq, reduceBNe, Int.reduceLT, reduceLE, reduceEq, Nd.cs]) | ((first | refine onG_split_t (fun hg => ?_) (fun hg => ?_) | refine onG_split_f (fun hg => ?_) (fun hg => ?_)) <;> simp only [go_sem, ↓reduceIte, reduceCtorEq, reduceAdd, reduceMul, reduceEqDiff, reduceLT, reduceLeDiff, reduceSub, reduceDiv, Nat.reduceBEq, Int.reduceBEq, reduceBNe, Int.reduceLT, reduceLE, reduceEq, Nd.cs, hg]) | (refine K_condA (fun hc => ?_) (fun hc => ?_) <;> try (exact absurd hc (by decide))))
    refine Hold.mk (RCall.use (hL n.thn (d - 1) s1.next (by omega) (by omega) hft hs2) rfl (A := 0) (e := 1) (by decide) (by first | rfl | (simp [go_sem, rcs, Nd.cs]; done)) (by first | rfl | (simp [go_sem, Nd.cs]; done)) ?_)
    rintro r s' ⟨fr', hp', nx'⟩ e' he' ⟨hex, hok⟩ _ hnx hfr hp0 hp1 hold
    simp only at he' hnx hfr hp0 hp1 hold
    have hne0 : e' ≠ 0 := by omega
    have hne2 : e' ≠ 2 := by omega
    subst hnx hfr
    simp only [go_sem, ↓reduceIte, reduceCtorEq, reduceAdd, reduceMul, reduceEqDiff, reduceLT, reduceLeDiff, reduceSub, reduceDiv, Nat.reduceBEq, Int.reduceBEq, reduceBNe, Int.reduceLT, reduceLE, reduceEq, Nd.cs]
    refine hK _ ?_; clear hK hKp K Kp; try clear hanc anc
    repeat (first | refine Kq_norm_code ?_ | refine Kq_norm_blk ?_ | refine Kq_norm_lp ?_)
    rw [Kq_nil]
    exact (hQ _ (.tup []) s' e' (by simp only [go_sem, ↓reduceIte, reduceCtorEq, reduceAdd, reduceMul, reduceEqDiff, reduceLT, reduceLeDiff, reduceSub, reduceDiv, Nat.reduceBEq, Int.reduceBEq, reduceBNe, Int.reduceLT, reduceLE, reduceEq]; rfl) ⟨.k2 hk (by rw [hs1e, if_pos hpz]; exact hex), hok.mono (by omega)⟩ rfl hne0 hp0 hp1).2
  · have q0 : ((s1.pick 2 : Int) == 0) = false := by simp [hpz]
    repeat' (first | apply w1 | apply w2 | apply w3 | apply w4 | apply w5 | apply w6 | apply w7 | refine Kq_exit_ne (by decide) ?_ | apply w8 | apply w9 | apply w0 | rw [wrap64 (by omega) (by omega)] | ((first | refine hK _ ?_ | refine hKp _ _ ?_); clear hK hKp K Kp; try clear hanc anc) | ((with_reducible refine And.intro ?_ ?_); (focus (first | trivial | omega | (simp only [Fits]; omega) | assumption | (rw [hanc]; rfl)))) | ((first | refine K_regA hE fun K Kp hK hKp => ?_ | refine K_drwA true mixed hE fun K Kp hK hKp anc hanc => ?_ | refine K_drwA false mixed hE fun K Kp hK hKp anc hanc => ?_); simp only [go_sem, ↓reduceIte, reduceCtorEq, reduceAdd, reduceMul, reduceEqDiff, reduceLT, reduceLeDiff, reduceSub, reduceDiv, Nat.reduceBEq, Int.reduceBEq, reduceBNe, Int.reduceLT, reduceLE, reduceEq, Nd.cs]) | ((first | refine onG_split_t (fun hg => ?_) (fun hg => ?_) | refine onG_split_f (fun hg => ?_) (fun hg => ?_)) <;> simp only [go_sem, ↓reduceIte, reduceCtorEq, reduceAdd, reduceMul, reduceEqDiff, reduceLT, reduceLeDiff, reduceSub, reduceDiv, Nat.reduceBEq, Int.reduceBEq, reduceBNe, Int.reduceLT, reduceLE, reduceEq, Nd.cs, hg]) | (refine K_condA (fun hc => ?_) (fun hc => ?_) <;> try (exact absurd hc (by decide))))
    refine Hold.mk (RCall.use (hch) rfl (A := 0) (e := 1) (by decide) (by first | rfl | (simp [go_sem, rcs, Nd.cs, q0]; done)) (by first | rfl | (simp [go_sem, Nd.cs, q0]; done)) ?_)
    rintro r s' ⟨fr', hp', nx'⟩ e' he' ⟨rfl, hse⟩ _ hnx hfr hp0 hp1 hold
    simp only at he' hnx hfr hp0 hp1 hold
    have hne0 : e' ≠ 0 := by omega
    have hne2 : e' ≠ 2 := by omega
    subst hnx hfr
    have hp2 := hold 2 _ (by simp [go_sem, Nd.cs, q0]; rfl) (by decide) (by first | decide | omega)
    simp only [go_sem, ↓reduceIte, reduceCtorEq, reduceAdd, reduceMul, reduceEqDiff, reduceLT, reduceLeDiff, reduceSub, reduceDiv, Nat.reduceBEq, Int.reduceBEq, reduceBNe, Int.reduceLT, reduceLE, reduceEq, Nd.cs, q0]
    refine hK _ ?_; clear hK hKp K Kp; try clear hanc anc
    repeat (first | refine Kq_norm_code ?_ | refine Kq_norm_blk ?_ | refine Kq_norm_lp ?_)
    refine AW.entR _ hp1 (σ' := mkSt [(0, .ptr 0 0), (3, .ptr 2 0), (22, .bool false)] [(0, .cells (rcs s' 1)), (1, .row 9 (evs s'.ev)), (2, .cells n.cs)] 3) (ent_mk (by simp [go_sem]) (by simp [go_sem, rcs, hp0, hp1, hp2, Nd.cs, q0]) (by simp [hne0, hne2, Ne.symm hne0, Ne.symm hne2]) (by simp [hN])) ?_
    subst hse
    unfold rcs
    repeat' (first | apply w1 | apply w2 | apply w3 | apply w4 | apply w5 | apply w6 | apply w7 | refine Kq_exit_ne (by decide) ?_ | apply w8 | apply w9 | apply w0 | rw [wrap64 (by omega) (by omega)] | ((first | refine hK _ ?_ | refine hKp _ _ ?_); clear hK hKp K Kp; try clear hanc anc) | ((with_reducible refine And.intro ?_ ?_); (focus (first | trivial | omega | (simp only [Fits]; omega) | assumption | (rw [hanc]; rfl)))) | ((first | refine K_regA hE fun K Kp hK hKp => ?_ | refine K_drwA true mixed hE fun K Kp hK hKp anc hanc => ?_ | refine K_drwA false mixed hE fun K Kp hK hKp anc hanc => ?_); simp only [go_sem, ↓reduceIte, reduceCtorEq, reduceAdd, reduceMul, reduceEqDiff, reduceLT, reduceLeDiff, reduceSub, reduceDiv, Nat.reduceBEq, Int.reduceBEq, reduceBNe, Int.reduceLT, reduceLE, reduceEq, Nd.cs]) | ((first | refine onG_split_t (fun hg => ?_) (fun hg => ?_) | refine onG_split_f (fun hg => ?_) (fun hg => ?_)) <;> simp only [go_sem, ↓reduceIte, reduceCtorEq, reduceAdd, reduceMul, reduceEqDiff, reduceLT, reduceLeDiff, reduceSub, reduceDiv, Nat.reduceBEq, Int.reduceBEq, reduceBNe, Int.reduceLT, reduceLE, reduceEq, Nd.cs, hg]) | (refine K_condA (fun hc => ?_) (fun hc => ?_) <;> try (exact absurd hc (by decide))))
    refine Hold.mk (RCall.use (hL n.els (d - 1) s1.next (by omega) (by omega) hfe hs2) rfl (A := 0) (e := 1) (by decide) (by first | rfl | (simp [go_sem, rcs, Nd.cs]; done)) (by first | rfl | (simp [go_sem, Nd.cs]; done)) ?_)
    rintro r s' ⟨fr', hp', nx'⟩ e' he' ⟨hex, hok⟩ _ hnx hfr hp0 hp1 hold
    simp only at he' hnx hfr hp0 hp1 hold
    have hne0 : e' ≠ 0 := by omega
    have hne2 : e' ≠ 2 := by omega
    subst hnx hfr
    simp only [go_sem, ↓reduceIte, reduceCtorEq, reduceAdd, reduceMul, reduceEqDiff, reduceLT, reduceLeDiff, reduceSub, reduceDiv, Nat.reduceBEq, Int.reduceBEq, reduceBNe, Int.reduceLT, reduceLE, reduceEq, Nd.cs]
    refine hK _ ?_; clear hK hKp K Kp; try clear hanc anc
    repeat (first | refine Kq_norm_code ?_ | refine Kq_norm_blk ?_ | refine Kq_norm_lp ?_)
    rw [Kq_nil]
    exact (hQ _ (.tup []) s' e' (by simp only [go_sem, ↓reduceIte, reduceCtorEq, reduceAdd, reduceMul, reduceEqDiff, reduceLT, reduceLeDiff, reduceSub, reduceDiv, Nat.reduceBEq, Int.reduceBEq, reduceBNe, Int.reduceLT, reduceLE, reduceEq]; rfl) ⟨.k2 hk (by rw [hs1e, if_neg hpz]; exact hex), hok.mono (by omega)⟩ rfl hne0 hp0 hp1).2
theorem node_rc5 (N : Nat) (hL : ∀ (l : List Nd) (d : Int) (s : RS), Nd.szL l < N → d ≤ 60 → formedL l d = true → Okd d s → RCall 14 [.sl (Nd.avL l)] s (fun _ t => Ex (.l l) s t ∧ Okd d t)) (n : Nd) (d : Int) (s : RS) (hn : n.sz ≤ N) (hN2 : N ≤ 2 ^ 30) (hd6 : d ≤ 60) (hf : formedN n d = true) (hs : Okd d s) (hov : s.ov = false) (hk : n.kind = 5) : RCall 36 [n.av] s (fun _ t => Ex (.n n) s t ∧ Okd d t) := by
  rw [formedN_eq] at hf
  simp only [Bool.and_eq_true, Bool.not_eq_true', Bool.or_eq_false_iff, decide_eq_false_iff_not, Bool.and_eq_false_iff, beq_eq_false_iff_ne] at hf
  obtain ⟨⟨⟨⟨⟨⟨hd, hk1⟩, hk6⟩, hk4⟩, hft⟩, hfe⟩, hfa⟩ := hf
  rw [Nd.sz_eq] at hn
  have hln := hs.1.1
  rw [Nd.av_eq]
  refine RCall.intro Try.func36 rfl isf36 (by simp [Try.f36]) fun E Q hE hN hQ => K_start ?_
  unfold runHp rcs
  have hcl := note_rc (.mark 4 n.a) s (by omega)
  unfold Ev.av at hcl
  repeat' (first | apply w1 | apply w2 | apply w3 | apply w4 | apply w5 | apply w6 | apply w7 | refine Kq_exit_ne (by decide) ?_ | apply w8 | apply w9 | apply w0 | rw [wrap64 (by omega) (by omega)] | ((first | refine hK _ ?_ | refine hKp _ _ ?_); clear hK hKp K Kp; try clear hanc anc) | ((with_reducible refine And.intro ?_ ?_); (focus (first | trivial | omega | (simp only [Fits]; omega) | assumption | (rw [hanc]; rfl)))) | ((first | refine K_regA hE fun K Kp hK hKp => ?_ | refine K_drwA true mixed hE fun K Kp hK hKp anc hanc => ?_ | refine K_drwA false mixed hE fun K Kp hK hKp anc hanc => ?_); simp only [go_sem, ↓reduceIte, reduceCtorEq, reduceAdd, reduceMul, reduceEqDiff, reduceLT, reduceLeDiff, reduceSub, reduceDiv, Nat.reduceBEq, Int.reduceBEq, reduceBNe, Int.reduceLT, reduceLE, reduceEq, hk, hov]) | ((first | refine onG_split_t (fun hg => ?_) (fun hg => ?_) | refine onG_split_f (fun hg => ?_) (fun hg => ?_)) <;> simp only [go_sem, ↓reduceIte, reduceCtorEq, reduceAdd, reduceMul, reduceEqDiff, reduceLT, reduceLeDiff, reduceSub, reduceDiv, Nat.reduceBEq, Int.reduceBEq, reduceBNe, Int.reduceLT, reduceLE, reduceEq, hk, hov, hg]) | (refine K_condA (fun hc => ?_) (fun hc => ?_) <;> try (exact absurd hc (by decide))))
  refine Hold.mk (RCall.use (hcl) rfl (A := 0) (e := 1) (by decide) (by first | rfl | (simp [go_sem, rcs, hov, Nd.cs, hk]; done)) (by first | rfl | (simp [go_sem, hov, Nd.cs, hk]; done)) ?_)
  rintro r s' ⟨fr', hp', nx'⟩ e' he' hse _ hnx hfr hp0 hp1 hold
  simp only at he' hnx hfr hp0 hp1 hold
  have hne0 : e' ≠ 0 := by omega
  have hne2 : e' ≠ 2 := by omega
  subst hnx hfr
  simp only [go_sem, ↓reduceIte, reduceCtorEq, reduceAdd, reduceMul, reduceEqDiff, reduceLT, reduceLeDiff, reduceSub, reduceDiv, Nat.reduceBEq, Int.reduceBEq, reduceBNe, Int.reduceLT, reduceLE, reduceEq, hov, Nd.cs, hk]
  refine hK _ ?_; clear hK hKp K Kp; try clear hanc anc
  repeat (first | refine Kq_norm_code ?_ | refine Kq_norm_blk ?_ | refine Kq_norm_lp ?_)
  refine AW.entR _ hp1 (σ' := mkSt [(0, .ptr 0 0)] [(0, .cells (rcs s' 1)), (1, .row 9 (evs s'.ev))] 2) (ent_mk (by simp [go_sem]) (by simp [go_sem, rcs, hp0, hp1, hov, Nd.cs, hk]) (by simp [hne0, hne2, Ne.symm hne0, Ne.symm hne2]) (by simp [hN])) ?_
  subst hse
  unfold rcs
  repeat' (first | apply w1 | apply w2 | apply w3 | apply w4 | apply w5 | apply w6 | apply w7 | refine Kq_exit_ne (by decide) ?_ | apply w8 | apply w9 | apply w0 | rw [wrap64 (by omega) (by omega)] | ((first | refine hK _ ?_ | refine hKp _ _ ?_); clear hK hKp K Kp; try clear hanc anc) | ((with_reducible refine And.intro ?_ ?_); (focus (first | trivial | omega | (simp only [Fits]; omega) | assumption | (rw [hanc]; rfl)))) | ((first | refine K_regA hE fun K Kp hK hKp => ?_ | refine K_drwA true mixed hE fun K Kp hK hKp anc hanc => ?_ | refine K_drwA false mixed hE fun K Kp hK hKp anc hanc => ?_); simp only [go_sem, ↓reduceIte, reduceCtorEq, reduceAdd, reduceMul, reduceEqDiff, reduceLT, reduceLeDiff, reduceSub, reduceDiv, Nat.reduceBEq, Int.reduceBEq, reduceBNe, Int.reduceLT, reduceLE, reduceEq]) | ((first | refine onG_split_t (fun hg => ?_) (fun hg => ?_) | refine onG_split_f (fun hg => ?_) (fun hg => ?_)) <;> simp only [go_sem, ↓reduceIte, reduceCtorEq, reduceAdd, reduceMul, reduceEqDiff, reduceLT, reduceLeDiff, reduceSub, reduceDiv, Nat.reduceBEq, Int.reduceBEq, reduceBNe, Int.reduceLT, reduceLE, reduceEq, hg]) | (refine K_condA (fun hc => ?_) (fun hc => ?_) <;> try (exact absurd hc (by decide))))
  rw [Kq_nil]
  refine (hQ _ (.tup []) (s.note (.mark 4 n.a)).over 1 (by simp only [go_sem, ↓reduceIte, reduceCtorEq, reduceAdd, reduceMul, reduceEqDiff, reduceLT, reduceLeDiff, reduceSub, reduceDiv, Nat.reduceBEq, Int.reduceBEq, reduceBNe, Int.reduceLT, reduceLE, reduceEq]; rfl) ⟨.k5 hk, (hs.note hov _).over⟩ rfl (by decide) ?_ ?_).2
  · simp [go_sem, rcs, RS.over]
  · simp [go_sem]
theorem node_rc6 (N : Nat) (hL : ∀ (l : List Nd) (d : Int) (s : RS), Nd.szL l < N → d ≤ 60 → formedL l d = true → Okd d s → RCall 14 [.sl (Nd.avL l)] s (fun _ t => Ex (.l l) s t ∧ Okd d t)) (n : Nd) (d : Int) (s : RS) (hn : n.sz ≤ N) (hN2 : N ≤ 2 ^ 30) (hd6 : d ≤ 60) (hf : formedN n d = true) (hs : Okd d s) (hov : s.ov = false) (hk : n.kind = 6) : RCall 36 [n.av] s (fun _ t => Ex (.n n) s t ∧ Okd d t) := by
  rw [formedN_eq] at hf
  simp only [Bool.and_eq_true, Bool.not_eq_true', Bool.or_eq_false_iff, decide_eq_false_iff_not, Bool.and_eq_false_iff, beq_eq_false_iff_ne] at hf
  obtain ⟨⟨⟨⟨⟨⟨hd, hk1⟩, hk6⟩, hk4⟩, hft⟩, hfe⟩, hfa⟩ := hf
  rw [Nd.sz_eq] at hn
  have hln := hs.1.1
  rw [Nd.av_eq]
  refine RCall.intro Try.func36 rfl isf36 (by simp [Try.f36]) fun E Q hE hN hQ => K_start ?_
  unfold runHp rcs
  have hcl := note_rc (.mark 5 0) s (by omega)
  unfold Ev.av at hcl
  repeat' (first | apply w1 | apply w2 | apply w3 | apply w4 | apply w5 | apply w6 | apply w7 | refine Kq_exit_ne (by decide) ?_ | apply w8 | apply w9 | apply w0 | rw [wrap64 (by omega) (by omega)] | ((first | refine hK _ ?_ | refine hKp _ _ ?_); clear hK hKp K Kp; try clear hanc anc) | ((with_reducible refine And.intro ?_ ?_); (focus (first | trivial | omega | (simp only [Fits]; omega) | assumption | (rw [hanc]; rfl)))) | ((first | refine K_regA hE fun K Kp hK hKp => ?_ | refine K_drwA true mixed hE fun K Kp hK hKp anc hanc => ?_ | refine K_drwA false mixed hE fun K Kp hK hKp anc hanc => ?_); simp only [go_sem, ↓reduceIte, reduceCtorEq, reduceAdd, reduceMul, reduceEqDiff, reduceLT, reduceLeDiff, reduceSub, reduceDiv, Nat.reduceBEq, Int.reduceBEq, reduceBNe, Int.reduceLT, reduceLE, reduceEq, hk, hov]) | ((first | refine onG_split_t (fun hg => ?_) (fun hg => ?_) | refine onG_split_f (fun hg => ?_) (fun hg => ?_)) <;> simp only [go_sem, ↓reduceIte, reduceCtorEq, reduceAdd, reduceMul, reduceEqDiff, reduceLT, reduceLeDiff, reduceSub, reduceDiv, Nat.reduceBEq, Int.reduceBEq, reduceBNe, Int.reduceLT, reduceLE, reduceEq, hk, hov, hg]) | (refine K_condA (fun hc => ?_) (fun hc => ?_) <;> try (exact absurd hc (by decide))))
  refine Hold.mk (RCall.use (hcl) rfl (A := 0) (e := 1) (by decide) (by first | rfl | (simp [go_sem, rcs, hov, Nd.cs, hk]; done)) (by first | rfl | (simp [go_sem, hov, Nd.cs, hk]; done)) ?_)
  rintro r s' ⟨fr', hp', nx'⟩ e' he' hse _ hnx hfr hp0 hp1 hold
  simp only at he' hnx hfr hp0 hp1 hold
  have hne0 : e' ≠ 0 := by omega
  have hne2 : e' ≠ 2 := by omega
  subst hnx hfr
  simp only [go_sem, ↓reduceIte, reduceCtorEq, reduceAdd, reduceMul, reduceEqDiff, reduceLT, reduceLeDiff, reduceSub, reduceDiv, Nat.reduceBEq, Int.reduceBEq, reduceBNe, Int.reduceLT, reduceLE, reduceEq, hov, Nd.cs, hk]
  refine hK _ ?_; clear hK hKp K Kp; try clear hanc anc
  repeat (first | refine Kq_norm_code ?_ | refine Kq_norm_blk ?_ | refine Kq_norm_lp ?_)
  refine AW.entR _ hp1 (σ' := mkSt [(0, .ptr 0 0)] [(0, .cells (rcs s' 1)), (1, .row 9 (evs s'.ev))] 2) (ent_mk (by simp [go_sem]) (by simp [go_sem, rcs, hp0, hp1, hov, Nd.cs, hk]) (by simp [hne0, hne2, Ne.symm hne0, Ne.symm hne2]) (by simp [hN])) ?_
  subst hse
  unfold rcs
  repeat' (first | apply w1 | apply w2 | apply w3 | apply w4 | apply w5 | apply w6 | apply w7 | refine Kq_exit_ne (by decide) ?_ | apply w8 | apply w9 | apply w0 | rw [wrap64 (by omega) (by omega)] | ((first | refine hK _ ?_ | refine hKp _ _ ?_); clear hK hKp K Kp; try clear hanc anc) | ((with_reducible refine And.intro ?_ ?_); (focus (first | trivial | omega | (simp only [Fits]; omega) | assumption | (rw [hanc]; rfl)))) | ((first | refine K_regA hE fun K Kp hK hKp => ?_ | refine K_drwA true mixed hE fun K Kp hK hKp anc hanc => ?_ | refine K_drwA false mixed hE fun K Kp hK hKp anc hanc => ?_); simp only [go_sem, ↓reduceIte, reduceCtorEq, reduceAdd, reduceMul, reduceEqDiff, reduceLT, reduceLeDiff, reduceSub, reduceDiv, Nat.reduceBEq, Int.reduceBEq, reduceBNe, Int.reduceLT, reduceLE, reduceEq]) | ((first | refine onG_split_t (fun hg => ?_) (fun hg => ?_) | refine onG_split_f (fun hg => ?_) (fun hg => ?_)) <;> simp only [go_sem, ↓reduceIte, reduceCtorEq, reduceAdd, reduceMul, reduceEqDiff, reduceLT, reduceLeDiff, reduceSub, reduceDiv, Nat.reduceBEq, Int.reduceBEq, reduceBNe, Int.reduceLT, reduceLE, reduceEq, hg]) | (refine K_condA (fun hc => ?_) (fun hc => ?_) <;> try (exact absurd hc (by decide))))
  rw [Kq_nil]
  refine (hQ _ (.tup []) (s.note (.mark 5 0)).over 1 (by simp only [go_sem, ↓reduceIte, reduceCtorEq, reduceAdd, reduceMul, reduceEqDiff, reduceLT, reduceLeDiff, reduceSub, reduceDiv, Nat.reduceBEq, Int.reduceBEq, reduceBNe, Int.reduceLT, reduceLE, reduceEq]; rfl) ⟨.k6 hk, (hs.note hov _).over⟩ rfl (by decide) ?_ ?_).2
  · simp [go_sem, rcs, RS.over]
  · simp [go_sem]

end Go.Proofs.Ytdheeecpkkjfiaa


/- Chapter 10: the nodes of a run. -/
set_option linter.unusedSimpArgs false
set_option linter.unusedVariables false
set_option maxHeartbeats 4000000
set_option maxRecDepth 100000
namespace Go.Proofs.Ytdheeecpkkjfiaa
open Nat (reduceAdd reduceMul reduceEqDiff reduceLT reduceLeDiff reduceSub reduceDiv)
open Int (reduceBNe reduceLE reduceEq)
open Go.Am Go.Proofs Go.Low
attribute [local irreducible] AW CallP CallB

theorem node_rc3 (N : Nat) (hL : ∀ (l : List Nd) (d : Int) (s : RS), Nd.szL l < N → d ≤ 60 → formedL l d = true → Okd d s → RCall 14 [.sl (Nd.avL l)] s (fun _ t => Ex (.l l) s t ∧ Okd d t)) (n : Nd) (d : Int) (s : RS) (hn : n.sz ≤ N) (hN2 : N ≤ 2 ^ 30) (hd6 : d ≤ 60) (hf : formedN n d = true) (hs : Okd d s) (hov : s.ov = false) (hk : n.kind = 3) : RCall 36 [n.av] s (fun _ t => Ex (.n n) s t ∧ Okd d t) := by
  rw [formedN_eq] at hf
  simp only [Bool.and_eq_true, Bool.not_eq_true', Bool.or_eq_false_iff, decide_eq_false_iff_not, Bool.and_eq_false_iff, beq_eq_false_iff_ne] at hf
  obtain ⟨⟨⟨⟨⟨⟨hd, hk1⟩, hk6⟩, hk4⟩, hft⟩, hfe⟩, hfa⟩ := hf
  rw [Nd.sz_eq] at hn
  have hln := hs.1.1
  rw [Nd.av_eq]
  refine RCall.intro Try.func36 rfl isf36 (by simp [Try.f36]) fun E Q hE hN hQ => K_start ?_
  unfold runHp rcs
  have hcl := note_rc (.mark 2 n.a) s (by omega)
  unfold Ev.av at hcl
  repeat' (first | apply w1 | apply w2 | apply w3 | apply w4 | apply w5 | apply w6 | apply w7 | refine Kq_exit_ne (by decide) ?_ | apply w8 | apply w9 | apply w0 | rw [wrap64 (by omega) (by omega)] | ((first | refine hK _ ?_ | refine hKp _ _ ?_); clear hK hKp K Kp; try clear hanc anc) | ((with_reducible refine And.intro ?_ ?_); (focus (first | trivial | omega | (simp only [Fits]; omega) | assumption | (rw [hanc]; rfl)))) | ((first | refine K_regA hE fun K Kp hK hKp => ?_ | refine K_drwA true mixed hE fun K Kp hK hKp anc hanc => ?_ | refine K_drwA false mixed hE fun K Kp hK hKp anc hanc => ?_); simp only [go_sem, ↓reduceIte, reduceCtorEq, reduceAdd, reduceMul, reduceEqDiff, reduceLT, reduceLeDiff, reduceSub, reduceDiv, Nat.reduceBEq, Int.reduceBEq, reduceBNe, Int.reduceLT, reduceLE, reduceEq, hk, hov]) | ((first | refine onG_split_t (fun hg => ?_) (fun hg => ?_) | refine onG_split_f (fun hg => ?_) (fun hg => ?_)) <;> simp only [go_sem, ↓reduceIte, reduceCtorEq, reduceAdd, reduceMul, reduceEqDiff, reduceLT, reduceLeDiff, reduceSub, reduceDiv, Nat.reduceBEq, Int.reduceBEq, reduceBNe, Int.reduceLT, reduceLE, reduceEq, hk, hov, hg]) | (refine K_condA (fun hc => ?_) (fun hc => ?_) <;> try (exact absurd hc (by decide))))
  refine Hold.mk (RCall.use (hcl) rfl (A := 0) (e := 1) (by decide) (by first | rfl | (simp [go_sem, rcs, hov, Nd.cs, hk]; done)) (by first | rfl | (simp [go_sem, hov, Nd.cs, hk]; done)) ?_)
  rintro r s' ⟨fr', hp', nx'⟩ e' he' hse _ hnx hfr hp0 hp1 hold
  simp only at he' hnx hfr hp0 hp1 hold
  have hne0 : e' ≠ 0 := by omega
  have hne2 : e' ≠ 2 := by omega
  subst hnx hfr
  have hp2 := hold 2 _ (by simp [go_sem, hov, Nd.cs, hk]; rfl) (by decide) (by first | decide | omega)
  simp only [go_sem, ↓reduceIte, reduceCtorEq, reduceAdd, reduceMul, reduceEqDiff, reduceLT, reduceLeDiff, reduceSub, reduceDiv, Nat.reduceBEq, Int.reduceBEq, reduceBNe, Int.reduceLT, reduceLE, reduceEq, hov, Nd.cs, hk]
  refine hK _ ?_; clear hK hKp K Kp; try clear hanc anc
  repeat (first | refine Kq_norm_code ?_ | refine Kq_norm_blk ?_ | refine Kq_norm_lp ?_)
  refine AW.entR _ hp1 (σ' := mkSt [(0, .ptr 0 0), (3, .ptr 2 0)] [(0, .cells (rcs s' 1)), (1, .row 9 (evs s'.ev)), (2, .cells n.cs)] 3) (ent_mk (by simp [go_sem]) (by simp [go_sem, rcs, hp0, hp1, hp2, hov, Nd.cs, hk]) (by simp [hne0, hne2, Ne.symm hne0, Ne.symm hne2]) (by simp [hN])) ?_
  subst hse
  have hs1 := hs.note (e := d) hov (.mark 2 n.a)
  have hat := hs.2.1 hov
  have hat1 : (s.note (.mark 2 n.a)).at_ + 2 ≤ 2 * (s.note (.mark 2 n.a)).ev.length := by
    show s.at_ + 2 ≤ _
    rw [RS.note_ev, List.length_append, List.length_singleton]; omega
  unfold rcs
  repeat' (first | apply w1 | apply w2 | apply w3 | apply w4 | apply w5 | apply w6 | apply w7 | refine Kq_exit_ne (by decide) ?_ | apply w8 | apply w9 | apply w0 | rw [wrap64 (by omega) (by omega)] | ((first | refine hK _ ?_ | refine hKp _ _ ?_); clear hK hKp K Kp; try clear hanc anc) | ((with_reducible refine And.intro ?_ ?_); (focus (first | trivial | omega | (simp only [Fits]; omega) | assumption | (rw [hanc]; rfl)))) | ((first | refine K_regA hE fun K Kp hK hKp => ?_ | refine K_drwA true mixed hE fun K Kp hK hKp anc hanc => ?_ | refine K_drwA false mixed hE fun K Kp hK hKp anc hanc => ?_); simp only [go_sem, ↓reduceIte, reduceCtorEq, reduceAdd, reduceMul, reduceEqDiff, reduceLT, reduceLeDiff, reduceSub, reduceDiv, Nat.reduceBEq, Int.reduceBEq, reduceBNe, Int.reduceLT, reduceLE, reduceEq]) | ((first | refine onG_split_t (fun hg => ?_) (fun hg => ?_) | refine onG_split_f (fun hg => ?_) (fun hg => ?_)) <;> simp only [go_sem, ↓reduceIte, reduceCtorEq, reduceAdd, reduceMul, reduceEqDiff, reduceLT, reduceLeDiff, reduceSub, reduceDiv, Nat.reduceBEq, Int.reduceBEq, reduceBNe, Int.reduceLT, reduceLE, reduceEq, hg]) | (refine K_condA (fun hc => ?_) (fun hc => ?_) <;> try (exact absurd hc (by decide))))
  refine K_loop (X := RS) (fun t => Inv t ∧ (t.ov = false → t.at_ + 2 ≤ 2 * t.ev.length) ∧ t.at_ ≤ 2 * t.ev.length + (d - 1).toNat ∧ (t.ch.length ≤ 1000000 ∧ ∀ c, c ∈ t.ch → c < 256) ∧ ∀ u, Ex (.w n.a n.thn) t u → Ex (.w n.a n.thn) (s.note (.mark 2 n.a)) u) (fun t => mkSt [(0, .ptr 0 0), (3, .ptr 2 0)] [(0, .cells (rcs t 1)), (1, .row 9 (evs t.ev)), (2, .cells n.cs)] 3) (fun t => (201 - t.ev.length) + (if t.ov then 0 else 1)) (s.note (.mark 2 n.a)) ⟨hs1.1, fun _ => hat1, by omega, hs1.2.2.2, fun u hu => hu⟩ (fun i => i) (by refine ent_mk (by simp [go_sem, rcs, Nd.cs]) (by simp [go_sem, rcs, Nd.cs]) (by simp) (by simp [hN])) ?_
  rintro t ⟨ht1, ht2, ht3, ht4, hex⟩
  have hl1 := ht1.1
  have hch := choose_rc 2 t (by omega) (by omega) ht4.2 ht4.1
  have hpk := t.pick_lt (n := 2) (by omega)
  unfold rcs
  by_cases hpz : t.pick 2 = 0
  · have q0 : ((t.pick 2 : Int) == 0) = true := by simp [hpz]
    cases htv : t.ov
    · repeat' (first | apply w1 | apply w2 | apply w3 | apply w4 | apply w5 | apply w6 | apply w7 | refine Kq_exit_ne (by decide) ?_ | apply w8 | apply w9 | apply w0 | rw [wrap64 (by omega) (by omega)] | ((first | refine hK _ ?_ | refine hKp _ _ ?_); clear hK hKp K Kp; try clear hanc anc) | ((with_reducible refine And.intro ?_ ?_); (focus (first | trivial | omega | (simp only [Fits]; omega) | assumption | (rw [hanc]; rfl)))) | ((first | refine K_regA hE fun K Kp hK hKp => ?_ | refine K_drwA true mixed hE fun K Kp hK hKp anc hanc => ?_ | refine K_drwA false mixed hE fun K Kp hK hKp anc hanc => ?_); simp only [go_sem, ↓reduceIte, reduceCtorEq, reduceAdd, reduceMul, reduceEqDiff, reduceLT, reduceLeDiff, reduceSub, reduceDiv, Nat.reduceBEq, Int.reduceBEq, reduceBNe, Int.reduceLT, reduceLE, reduceEq, Nd.cs]) | ((first | refine onG_split_t (fun hg => ?_) (fun hg => ?_) | refine onG_split_f (fun hg => ?_) (fun hg => ?_)) <;> simp only [go_sem, ↓reduceIte, reduceCtorEq, reduceAdd, reduceMul, reduceEqDiff, reduceLT, reduceLeDiff, reduceSub, reduceDiv, Nat.reduceBEq, Int.reduceBEq, reduceBNe, Int.reduceLT, reduceLE, reduceEq, Nd.cs, hg]) | (refine K_condA (fun hc => ?_) (fun hc => ?_) <;> try (exact absurd hc (by decide))))
      refine Hold.mk (RCall.use (hch) rfl (A := 0) (e := 1) (by decide) (by first | rfl | (simp [go_sem, rcs, Nd.cs, q0, htv]; done)) (by first | rfl | (simp [go_sem, Nd.cs, q0, htv]; done)) ?_)
      rintro r s' ⟨fr', hp', nx'⟩ e' he' ⟨rfl, hse⟩ _ hnx hfr hp0 hp1 hold
      simp only at he' hnx hfr hp0 hp1 hold
      have hne0 : e' ≠ 0 := by omega
      have hne2 : e' ≠ 2 := by omega
      subst hnx hfr
      have hp2 := hold 2 _ (by simp [go_sem, Nd.cs, q0, htv]; rfl) (by decide) (by first | decide | omega)
      simp only [go_sem, ↓reduceIte, reduceCtorEq, reduceAdd, reduceMul, reduceEqDiff, reduceLT, reduceLeDiff, reduceSub, reduceDiv, Nat.reduceBEq, Int.reduceBEq, reduceBNe, Int.reduceLT, reduceLE, reduceEq, Nd.cs, q0, htv, hp0, rcs, hse, RS.next_ov]
      refine hK _ ?_; clear hK hKp K Kp; try clear hanc anc
      repeat (first | refine Kq_norm_code ?_ | refine Kq_norm_blk ?_ | refine Kq_norm_lp ?_)
      refine AW.entR _ hp1 (σ' := mkSt [(0, .ptr 0 0), (3, .ptr 2 0), (47, .bool true)] [(0, .cells (rcs s' 1)), (1, .row 9 (evs s'.ev)), (2, .cells n.cs)] 3) (ent_mk (by simp [go_sem]) (by simp [go_sem, rcs, hp0, hp1, hp2, Nd.cs, q0, htv]) (by simp [hne0, hne2, Ne.symm hne0, Ne.symm hne2]) (by simp [hN])) ?_
      subst hse
      unfold rcs
      have ht2v := ht2 htv
      have hn1 := next_at t
      have hok0 : Okd (d - 1) t.next := ⟨ht1.next, fun _ => (by rw [RS.next_ev]; omega), (by rw [RS.next_ev]; omega), by rw [next_ch]; exact ht4⟩
      repeat' (first | apply w1 | apply w2 | apply w3 | apply w4 | apply w5 | apply w6 | apply w7 | refine Kq_exit_ne (by decide) ?_ | apply w8 | apply w9 | apply w0 | rw [wrap64 (by omega) (by omega)] | ((first | refine hK _ ?_ | refine hKp _ _ ?_); clear hK hKp K Kp; try clear hanc anc) | ((with_reducible refine And.intro ?_ ?_); (focus (first | trivial | omega | (simp only [Fits]; omega) | assumption | (rw [hanc]; rfl)))) | ((first | refine K_regA hE fun K Kp hK hKp => ?_ | refine K_drwA true mixed hE fun K Kp hK hKp anc hanc => ?_ | refine K_drwA false mixed hE fun K Kp hK hKp anc hanc => ?_); simp only [go_sem, ↓reduceIte, reduceCtorEq, reduceAdd, reduceMul, reduceEqDiff, reduceLT, reduceLeDiff, reduceSub, reduceDiv, Nat.reduceBEq, Int.reduceBEq, reduceBNe, Int.reduceLT, reduceLE, reduceEq, Nd.cs]) | ((first | refine onG_split_t (fun hg => ?_) (fun hg => ?_) | refine onG_split_f (fun hg => ?_) (fun hg => ?_)) <;> simp only [go_sem, ↓reduceIte, reduceCtorEq, reduceAdd, reduceMul, reduceEqDiff, reduceLT, reduceLeDiff, reduceSub, reduceDiv, Nat.reduceBEq, Int.reduceBEq, reduceBNe, Int.reduceLT, reduceLE, reduceEq, Nd.cs, hg]) | (refine K_condA (fun hc => ?_) (fun hc => ?_) <;> try (exact absurd hc (by decide))))
      refine Hold.mk (RCall.use (hL n.thn (d - 1) t.next (by omega) (by omega) hft hok0) rfl (A := 0) (e := 1) (by decide) (by first | rfl | (simp [go_sem, rcs, Nd.cs]; done)) (by first | rfl | (simp [go_sem, Nd.cs]; done)) ?_)
      rintro r s' ⟨fr', hp', nx'⟩ e' he' ⟨hex2, hok⟩ _ hnx hfr hp0 hp1 hold
      simp only at he' hnx hfr hp0 hp1 hold
      have hne0 : e' ≠ 0 := by omega
      have hne2 : e' ≠ 2 := by omega
      subst hnx hfr
      have hp2 := hold 2 _ (by simp [go_sem, Nd.cs]; rfl) (by decide) (by first | decide | omega)
      simp only [go_sem, ↓reduceIte, reduceCtorEq, reduceAdd, reduceMul, reduceEqDiff, reduceLT, reduceLeDiff, reduceSub, reduceDiv, Nat.reduceBEq, Int.reduceBEq, reduceBNe, Int.reduceLT, reduceLE, reduceEq, Nd.cs]
      refine hK _ ?_; clear hK hKp K Kp; try clear hanc anc
      repeat (first | refine Kq_norm_code ?_ | refine Kq_norm_blk ?_ | refine Kq_norm_lp ?_)
      refine AW.entR _ hp1 (σ' := mkSt [(0, .ptr 0 0), (3, .ptr 2 0)] [(0, .cells (rcs s' 1)), (1, .row 9 (evs s'.ev)), (2, .cells n.cs)] 3) (ent_mk (by simp [go_sem]) (by simp [go_sem, rcs, hp0, hp1, hp2, Nd.cs]) (by simp [hne0, hne2, Ne.symm hne0, Ne.symm hne2]) (by simp [hN])) ?_
      have hmo := ex_mono hex2
      rw [RS.next_ev] at hmo
      have hsi := hok.1
      unfold rcs
      cases hsv : s'.ov
      · have hcl2 := note_rc (.mark 2 n.a) s' (by have := hsi.1; omega)
        unfold Ev.av at hcl2
        have hok2 := hok.2.1 hsv
        generalize hse0 : s' = s0 at *
        repeat' (first | apply w1 | apply w2 | apply w3 | apply w4 | apply w5 | apply w6 | apply w7 | refine Kq_exit_ne (by decide) ?_ | apply w8 | apply w9 | apply w0 | rw [wrap64 (by omega) (by omega)] | ((first | refine hK _ ?_ | refine hKp _ _ ?_); clear hK hKp K Kp; try clear hanc anc) | ((with_reducible refine And.intro ?_ ?_); (focus (first | trivial | omega | (simp only [Fits]; omega) | assumption | (rw [hanc]; rfl)))) | ((first | refine K_regA hE fun K Kp hK hKp => ?_ | refine K_drwA true mixed hE fun K Kp hK hKp anc hanc => ?_ | refine K_drwA false mixed hE fun K Kp hK hKp anc hanc => ?_); simp only [go_sem, ↓reduceIte, reduceCtorEq, reduceAdd, reduceMul, reduceEqDiff, reduceLT, reduceLeDiff, reduceSub, reduceDiv, Nat.reduceBEq, Int.reduceBEq, reduceBNe, Int.reduceLT, reduceLE, reduceEq, Nd.cs, hsv]) | ((first | refine onG_split_t (fun hg => ?_) (fun hg => ?_) | refine onG_split_f (fun hg => ?_) (fun hg => ?_)) <;> simp only [go_sem, ↓reduceIte, reduceCtorEq, reduceAdd, reduceMul, reduceEqDiff, reduceLT, reduceLeDiff, reduceSub, reduceDiv, Nat.reduceBEq, Int.reduceBEq, reduceBNe, Int.reduceLT, reduceLE, reduceEq, Nd.cs, hsv, hg]) | (refine K_condA (fun hc => ?_) (fun hc => ?_) <;> try (exact absurd hc (by decide))))
        refine Hold.mk (RCall.use (hcl2) rfl (A := 0) (e := 1) (by decide) (by first | rfl | (simp [go_sem, rcs, hsv, Nd.cs]; done)) (by first | rfl | (simp [go_sem, hsv, Nd.cs]; done)) ?_)
        rintro r s' ⟨fr', hp', nx'⟩ e' he' hse _ hnx hfr hp0 hp1 hold
        simp only at he' hnx hfr hp0 hp1 hold
        have hne0 : e' ≠ 0 := by omega
        have hne2 : e' ≠ 2 := by omega
        subst hnx hfr
        have hp2 := hold 2 _ (by simp [go_sem, hsv, Nd.cs]; rfl) (by decide) (by first | decide | omega)
        simp only [go_sem, ↓reduceIte, reduceCtorEq, reduceAdd, reduceMul, reduceEqDiff, reduceLT, reduceLeDiff, reduceSub, reduceDiv, Nat.reduceBEq, Int.reduceBEq, reduceBNe, Int.reduceLT, reduceLE, reduceEq, hsv, Nd.cs]
        refine hK _ ?_; clear hK hKp K Kp; try clear hanc anc
        repeat (first | refine Kq_norm_code ?_ | refine Kq_norm_blk ?_ | refine Kq_norm_lp ?_)
        subst hse
        have hon := fun u hu => hex u (.on hpz htv hex2 (by rw [hsv]; exact hu))
        exact ⟨s0.note (.mark 2 n.a), ⟨hsi.note hsv _, fun _ => (by show s0.at_ + 2 ≤ _; rw [RS.note_ev, List.length_append, List.length_singleton]; omega), (by show s0.at_ ≤ _; rw [RS.note_ev, List.length_append]; omega), hok.2.2.2, hon⟩, by (simp only [RS.note_ev, List.length_append, List.length_singleton, htv]; split <;> simp <;> omega), fun i => if i = 1 then e' else i, (by refine ent_mk (by simp [go_sem]) (by simp [go_sem, rcs, Nd.cs, hp0, hp1, hp2]) (by simp [hne0, hne2, Ne.symm hne0, Ne.symm hne2]) (by simp [hN]))⟩
      · repeat' (first | apply w1 | apply w2 | apply w3 | apply w4 | apply w5 | apply w6 | apply w7 | refine Kq_exit_ne (by decide) ?_ | apply w8 | apply w9 | apply w0 | rw [wrap64 (by omega) (by omega)] | ((first | refine hK _ ?_ | refine hKp _ _ ?_); clear hK hKp K Kp; try clear hanc anc) | ((with_reducible refine And.intro ?_ ?_); (focus (first | trivial | omega | (simp only [Fits]; omega) | assumption | (rw [hanc]; rfl)))) | ((first | refine K_regA hE fun K Kp hK hKp => ?_ | refine K_drwA true mixed hE fun K Kp hK hKp anc hanc => ?_ | refine K_drwA false mixed hE fun K Kp hK hKp anc hanc => ?_); simp only [go_sem, ↓reduceIte, reduceCtorEq, reduceAdd, reduceMul, reduceEqDiff, reduceLT, reduceLeDiff, reduceSub, reduceDiv, Nat.reduceBEq, Int.reduceBEq, reduceBNe, Int.reduceLT, reduceLE, reduceEq, Nd.cs, hsv]) | ((first | refine onG_split_t (fun hg => ?_) (fun hg => ?_) | refine onG_split_f (fun hg => ?_) (fun hg => ?_)) <;> simp only [go_sem, ↓reduceIte, reduceCtorEq, reduceAdd, reduceMul, reduceEqDiff, reduceLT, reduceLeDiff, reduceSub, reduceDiv, Nat.reduceBEq, Int.reduceBEq, reduceBNe, Int.reduceLT, reduceLE, reduceEq, Nd.cs, hsv, hg]) | (refine K_condA (fun hc => ?_) (fun hc => ?_) <;> try (exact absurd hc (by decide))))
        have hon := fun u hu => hex u (.on hpz htv hex2 (by rw [hsv]; exact hu))
        exact ⟨s', ⟨hsi, fun h => absurd h (by rw [hsv]; simp), hok.2.2.1, hok.2.2.2, hon⟩, by simp only [htv, hsv]; simp; omega, fun i => i, by refine ent_mk (by simp [go_sem, rcs, Nd.cs, hsv]) (by simp [go_sem, rcs, Nd.cs, hsv]) (by simp) (by simp [hN])⟩
    · repeat' (first | apply w1 | apply w2 | apply w3 | apply w4 | apply w5 | apply w6 | apply w7 | refine Kq_exit_ne (by decide) ?_ | apply w8 | apply w9 | apply w0 | rw [wrap64 (by omega) (by omega)] | ((first | refine hK _ ?_ | refine hKp _ _ ?_); clear hK hKp K Kp; try clear hanc anc) | ((with_reducible refine And.intro ?_ ?_); (focus (first | trivial | omega | (simp only [Fits]; omega) | assumption | (rw [hanc]; rfl)))) | ((first | refine K_regA hE fun K Kp hK hKp => ?_ | refine K_drwA true mixed hE fun K Kp hK hKp anc hanc => ?_ | refine K_drwA false mixed hE fun K Kp hK hKp anc hanc => ?_); simp only [go_sem, ↓reduceIte, reduceCtorEq, reduceAdd, reduceMul, reduceEqDiff, reduceLT, reduceLeDiff, reduceSub, reduceDiv, Nat.reduceBEq, Int.reduceBEq, reduceBNe, Int.reduceLT, reduceLE, reduceEq, Nd.cs]) | ((first | refine onG_split_t (fun hg => ?_) (fun hg => ?_) | refine onG_split_f (fun hg => ?_) (fun hg => ?_)) <;> simp only [go_sem, ↓reduceIte, reduceCtorEq, reduceAdd, reduceMul, reduceEqDiff, reduceLT, reduceLeDiff, reduceSub, reduceDiv, Nat.reduceBEq, Int.reduceBEq, reduceBNe, Int.reduceLT, reduceLE, reduceEq, Nd.cs, hg]) | (refine K_condA (fun hc => ?_) (fun hc => ?_) <;> try (exact absurd hc (by decide))))
      refine Hold.mk (RCall.use (hch) rfl (A := 0) (e := 1) (by decide) (by first | rfl | (simp [go_sem, rcs, Nd.cs, q0, htv]; done)) (by first | rfl | (simp [go_sem, Nd.cs, q0, htv]; done)) ?_)
      rintro r s' ⟨fr', hp', nx'⟩ e' he' ⟨rfl, hse⟩ _ hnx hfr hp0 hp1 hold
      simp only at he' hnx hfr hp0 hp1 hold
      have hne0 : e' ≠ 0 := by omega
      have hne2 : e' ≠ 2 := by omega
      subst hnx hfr
      have hp2 := hold 2 _ (by simp [go_sem, Nd.cs, q0, htv]; rfl) (by decide) (by first | decide | omega)
      simp only [go_sem, ↓reduceIte, reduceCtorEq, reduceAdd, reduceMul, reduceEqDiff, reduceLT, reduceLeDiff, reduceSub, reduceDiv, Nat.reduceBEq, Int.reduceBEq, reduceBNe, Int.reduceLT, reduceLE, reduceEq, Nd.cs, q0, htv, hp0, rcs, hse, RS.next_ov]
      refine hK _ ?_; clear hK hKp K Kp; try clear hanc anc
      repeat (first | refine Kq_norm_code ?_ | refine Kq_norm_blk ?_ | refine Kq_norm_lp ?_)
      refine AW.entR _ hp1 (σ' := mkSt [(0, .ptr 0 0), (3, .ptr 2 0), (47, .bool false)] [(0, .cells (rcs s' 1)), (1, .row 9 (evs s'.ev)), (2, .cells n.cs)] 3) (ent_mk (by simp [go_sem]) (by simp [go_sem, rcs, hp0, hp1, hp2, Nd.cs, q0, htv]) (by simp [hne0, hne2, Ne.symm hne0, Ne.symm hne2]) (by simp [hN])) ?_
      subst hse
      unfold rcs
      repeat' (first | apply w1 | apply w2 | apply w3 | apply w4 | apply w5 | apply w6 | apply w7 | refine Kq_exit_ne (by decide) ?_ | apply w8 | apply w9 | apply w0 | rw [wrap64 (by omega) (by omega)] | ((first | refine hK _ ?_ | refine hKp _ _ ?_); clear hK hKp K Kp; try clear hanc anc) | ((with_reducible refine And.intro ?_ ?_); (focus (first | trivial | omega | (simp only [Fits]; omega) | assumption | (rw [hanc]; rfl)))) | ((first | refine K_regA hE fun K Kp hK hKp => ?_ | refine K_drwA true mixed hE fun K Kp hK hKp anc hanc => ?_ | refine K_drwA false mixed hE fun K Kp hK hKp anc hanc => ?_); simp only [go_sem, ↓reduceIte, reduceCtorEq, reduceAdd, reduceMul, reduceEqDiff, reduceLT, reduceLeDiff, reduceSub, reduceDiv, Nat.reduceBEq, Int.reduceBEq, reduceBNe, Int.reduceLT, reduceLE, reduceEq, Nd.cs]) | ((first | refine onG_split_t (fun hg => ?_) (fun hg => ?_) | refine onG_split_f (fun hg => ?_) (fun hg => ?_)) <;> simp only [go_sem, ↓reduceIte, reduceCtorEq, reduceAdd, reduceMul, reduceEqDiff, reduceLT, reduceLeDiff, reduceSub, reduceDiv, Nat.reduceBEq, Int.reduceBEq, reduceBNe, Int.reduceLT, reduceLE, reduceEq, Nd.cs, hg]) | (refine K_condA (fun hc => ?_) (fun hc => ?_) <;> try (exact absurd hc (by decide))))
      rw [Kq_nil]
      refine (hQ _ (.tup []) t.next 1 (by simp only [go_sem, ↓reduceIte, reduceCtorEq, reduceAdd, reduceMul, reduceEqDiff, reduceLT, reduceLeDiff, reduceSub, reduceDiv, Nat.reduceBEq, Int.reduceBEq, reduceBNe, Int.reduceLT, reduceLE, reduceEq]; rfl) ⟨.k3 hk (hex _ (.out (.inr htv))), ⟨ht1.next, fun h => (by rw [RS.next_ov] at h; have := ht2 h; have := next_at t; rw [RS.next_ev]; omega), (by have := next_at t; rw [RS.next_ev]; omega), by rw [next_ch]; exact ht4⟩⟩ rfl (by decide) ?_ ?_).2
      · simp [go_sem, rcs]
      · simp [go_sem]
  · have q0 : ((t.pick 2 : Int) == 0) = false := by simp [hpz]
    repeat' (first | apply w1 | apply w2 | apply w3 | apply w4 | apply w5 | apply w6 | apply w7 | refine Kq_exit_ne (by decide) ?_ | apply w8 | apply w9 | apply w0 | rw [wrap64 (by omega) (by omega)] | ((first | refine hK _ ?_ | refine hKp _ _ ?_); clear hK hKp K Kp; try clear hanc anc) | ((with_reducible refine And.intro ?_ ?_); (focus (first | trivial | omega | (simp only [Fits]; omega) | assumption | (rw [hanc]; rfl)))) | ((first | refine K_regA hE fun K Kp hK hKp => ?_ | refine K_drwA true mixed hE fun K Kp hK hKp anc hanc => ?_ | refine K_drwA false mixed hE fun K Kp hK hKp anc hanc => ?_); simp only [go_sem, ↓reduceIte, reduceCtorEq, reduceAdd, reduceMul, reduceEqDiff, reduceLT, reduceLeDiff, reduceSub, reduceDiv, Nat.reduceBEq, Int.reduceBEq, reduceBNe, Int.reduceLT, reduceLE, reduceEq, Nd.cs]) | ((first | refine onG_split_t (fun hg => ?_) (fun hg => ?_) | refine onG_split_f (fun hg => ?_) (fun hg => ?_)) <;> simp only [go_sem, ↓reduceIte, reduceCtorEq, reduceAdd, reduceMul, reduceEqDiff, reduceLT, reduceLeDiff, reduceSub, reduceDiv, Nat.reduceBEq, Int.reduceBEq, reduceBNe, Int.reduceLT, reduceLE, reduceEq, Nd.cs, hg]) | (refine K_condA (fun hc => ?_) (fun hc => ?_) <;> try (exact absurd hc (by decide))))
    refine Hold.mk (RCall.use (hch) rfl (A := 0) (e := 1) (by decide) (by first | rfl | (simp [go_sem, rcs, Nd.cs, q0]; done)) (by first | rfl | (simp [go_sem, Nd.cs, q0]; done)) ?_)
    rintro r s' ⟨fr', hp', nx'⟩ e' he' ⟨rfl, hse⟩ _ hnx hfr hp0 hp1 hold
    simp only at he' hnx hfr hp0 hp1 hold
    have hne0 : e' ≠ 0 := by omega
    have hne2 : e' ≠ 2 := by omega
    subst hnx hfr
    have hp2 := hold 2 _ (by simp [go_sem, Nd.cs, q0]; rfl) (by decide) (by first | decide | omega)
    simp only [go_sem, ↓reduceIte, reduceCtorEq, reduceAdd, reduceMul, reduceEqDiff, reduceLT, reduceLeDiff, reduceSub, reduceDiv, Nat.reduceBEq, Int.reduceBEq, reduceBNe, Int.reduceLT, reduceLE, reduceEq, Nd.cs, q0, hp0, rcs, hse, RS.next_ov]
    refine hK _ ?_; clear hK hKp K Kp; try clear hanc anc
    repeat (first | refine Kq_norm_code ?_ | refine Kq_norm_blk ?_ | refine Kq_norm_lp ?_)
    refine AW.entR _ hp1 (σ' := mkSt [(0, .ptr 0 0), (3, .ptr 2 0), (47, .bool false)] [(0, .cells (rcs s' 1)), (1, .row 9 (evs s'.ev)), (2, .cells n.cs)] 3) (ent_mk (by simp [go_sem]) (by simp [go_sem, rcs, hp0, hp1, hp2, Nd.cs, q0]) (by simp [hne0, hne2, Ne.symm hne0, Ne.symm hne2]) (by simp [hN])) ?_
    subst hse
    unfold rcs
    repeat' (first | apply w1 | apply w2 | apply w3 | apply w4 | apply w5 | apply w6 | apply w7 | refine Kq_exit_ne (by decide) ?_ | apply w8 | apply w9 | apply w0 | rw [wrap64 (by omega) (by omega)] | ((first | refine hK _ ?_ | refine hKp _ _ ?_); clear hK hKp K Kp; try clear hanc anc) | ((with_reducible refine And.intro ?_ ?_); (focus (first | trivial | omega | (simp only [Fits]; omega) | assumption | (rw [hanc]; rfl)))) | ((first | refine K_regA hE fun K Kp hK hKp => ?_ | refine K_drwA true mixed hE fun K Kp hK hKp anc hanc => ?_ | refine K_drwA false mixed hE fun K Kp hK hKp anc hanc => ?_); simp only [go_sem, ↓reduceIte, reduceCtorEq, reduceAdd, reduceMul, reduceEqDiff, reduceLT, reduceLeDiff, reduceSub, reduceDiv, Nat.reduceBEq, Int.reduceBEq, reduceBNe, Int.reduceLT, reduceLE, reduceEq, Nd.cs]) | ((first | refine onG_split_t (fun hg => ?_) (fun hg => ?_) | refine onG_split_f (fun hg => ?_) (fun hg => ?_)) <;> simp only [go_sem, ↓reduceIte, reduceCtorEq, reduceAdd, reduceMul, reduceEqDiff, reduceLT, reduceLeDiff, reduceSub, reduceDiv, Nat.reduceBEq, Int.reduceBEq, reduceBNe, Int.reduceLT, reduceLE, reduceEq, Nd.cs, hg]) | (refine K_condA (fun hc => ?_) (fun hc => ?_) <;> try (exact absurd hc (by decide))))
    rw [Kq_nil]
    refine (hQ _ (.tup []) t.next 1 (by simp only [go_sem, ↓reduceIte, reduceCtorEq, reduceAdd, reduceMul, reduceEqDiff, reduceLT, reduceLeDiff, reduceSub, reduceDiv, Nat.reduceBEq, Int.reduceBEq, reduceBNe, Int.reduceLT, reduceLE, reduceEq]; rfl) ⟨.k3 hk (hex _ (.out (.inl hpz))), ⟨ht1.next, fun h => (by rw [RS.next_ov] at h; have := ht2 h; have := next_at t; rw [RS.next_ev]; omega), (by have := next_at t; rw [RS.next_ev]; omega), by rw [next_ch]; exact ht4⟩⟩ rfl (by decide) ?_ ?_).2
    · simp [go_sem, rcs]
    · simp [go_sem]
end Go.Proofs.Ytdheeecpkkjfiaa


/- Chapter 10: the nodes of a run. -/
set_option linter.unusedSimpArgs false
set_option linter.unusedVariables false
set_option maxHeartbeats 4000000
set_option maxRecDepth 100000
namespace Go.Proofs.Ytdheeecpkkjfiaa
open Nat (reduceAdd reduceMul reduceEqDiff reduceLT reduceLeDiff reduceSub reduceDiv)
open Int (reduceBNe reduceLE reduceEq)
open Go.Am Go.Proofs Go.Low
attribute [local irreducible] AW CallP CallB

theorem formedP_mem {x : List Nd} {d : Int} : ∀ {l : List (List Nd)}, formedP l d = true → x ∈ l → formedL x d = true
  | y :: l, h, hm => by
    rw [formedP, Bool.and_eq_true] at h
    rcases List.mem_cons.1 hm with e | e
    · subst e; exact h.1
    · exact formedP_mem h.2 e

def I4 (n : Nd) (s1 : RS) (p : List Nd) (d : Int) (D : Nat → Bool) (σ : St) : Prop :=
  σ.nx = 3 ∧ σ.fr 0 = some (.ptr 0 0) ∧ σ.fr 3 = some (.ptr 2 0) ∧ σ.hp 2 = some (.cells n.cs) ∧ (D 8 = true → D 7 = true) ∧ (D 9 = true → D 7 = true) ∧ (D 10 = true → D 7 = true) ∧ (D 0 = true → σ.fr 69 = some (.ptr 0 0)) ∧ (D 1 = true → σ.fr 70 = some (.ptr 2 11)) ∧ (D 2 = true → σ.fr 71 = some (.sl (Nd.avLL n.arms))) ∧ (D 3 = true → σ.fr 72 = some (.ptr 0 0)) ∧ (D 4 = true → σ.fr 73 = some (.ptr 2 11)) ∧ (D 5 = true → σ.fr 74 = some (.sl (Nd.avLL n.arms))) ∧ (D 6 = true → σ.fr 75 = some (.i n.arms.length)) ∧ (D 7 = true → σ.fr 76 = some (.i (s1.pick n.arms.length))) ∧ (D 8 = true → σ.fr 77 = some (.eptr (.sl (Nd.avL p)) 0)) ∧ (D 9 = true → σ.fr 78 = some (.sl (Nd.avL p))) ∧ (D 7 = false → σ.hp 0 = some (.cells (rcs s1 1)) ∧ σ.hp 1 = some (.row 9 (evs s1.ev))) ∧ (D 7 = true → D 10 = false → ∃ e', e' ≠ 0 ∧ e' ≠ 2 ∧ σ.hp 0 = some (.cells (rcs s1.next e')) ∧ σ.hp e' = some (.row 9 (evs s1.next.ev))) ∧ (D 10 = true → ∃ s' e', (Ex (.l p) s1.next s' ∧ Okd (d - 1) s') ∧ e' ≠ 0 ∧ σ.hp 0 = some (.cells (rcs s' e')) ∧ σ.hp e' = some (.row 9 (evs s'.ev)))

theorem node_rc4 (N : Nat) (hL : ∀ (l : List Nd) (d : Int) (s : RS), Nd.szL l < N → d ≤ 60 → formedL l d = true → Okd d s → RCall 14 [.sl (Nd.avL l)] s (fun _ t => Ex (.l l) s t ∧ Okd d t)) (n : Nd) (d : Int) (s : RS) (hn : n.sz ≤ N) (hN2 : N ≤ 2 ^ 30) (hd6 : d ≤ 60) (hf : formedN n d = true) (hs : Okd d s) (hov : s.ov = false) (hk : n.kind = 4) : RCall 36 [n.av] s (fun _ t => Ex (.n n) s t ∧ Okd d t) := by
  rw [formedN_eq] at hf
  simp only [Bool.and_eq_true, Bool.not_eq_true', Bool.or_eq_false_iff, decide_eq_false_iff_not, Bool.and_eq_false_iff, beq_eq_false_iff_ne] at hf
  obtain ⟨⟨⟨⟨⟨⟨hd, hk1⟩, hk6⟩, hk4⟩, hft⟩, hfe⟩, hfa⟩ := hf
  rw [Nd.sz_eq] at hn
  have hln := hs.1.1
  rw [Nd.av_eq]
  refine RCall.intro Try.func36 rfl isf36 (by simp [Try.f36]) fun E Q hE hN hQ => K_start ?_
  unfold runHp rcs
  have hcl := note_rc (.mark 3 n.a) s (by omega)
  unfold Ev.av at hcl
  repeat' (first | apply w1 | apply w2 | apply w3 | apply w4 | apply w5 | apply w6 | apply w7 | refine Kq_exit_ne (by decide) ?_ | apply w8 | apply w9 | apply w0 | rw [wrap64 (by omega) (by omega)] | ((first | refine hK _ ?_ | refine hKp _ _ ?_); clear hK hKp K Kp; try clear hanc anc) | ((with_reducible refine And.intro ?_ ?_); (focus (first | trivial | omega | (simp only [Fits]; omega) | assumption | (rw [hanc]; rfl)))) | ((first | refine K_regA hE fun K Kp hK hKp => ?_ | refine K_drwA true mixed hE fun K Kp hK hKp anc hanc => ?_ | refine K_drwA false mixed hE fun K Kp hK hKp anc hanc => ?_); simp only [go_sem, ↓reduceIte, reduceCtorEq, reduceAdd, reduceMul, reduceEqDiff, reduceLT, reduceLeDiff, reduceSub, reduceDiv, Nat.reduceBEq, Int.reduceBEq, reduceBNe, Int.reduceLT, reduceLE, reduceEq, hk, hov]) | ((first | refine onG_split_t (fun hg => ?_) (fun hg => ?_) | refine onG_split_f (fun hg => ?_) (fun hg => ?_)) <;> simp only [go_sem, ↓reduceIte, reduceCtorEq, reduceAdd, reduceMul, reduceEqDiff, reduceLT, reduceLeDiff, reduceSub, reduceDiv, Nat.reduceBEq, Int.reduceBEq, reduceBNe, Int.reduceLT, reduceLE, reduceEq, hk, hov, hg]) | (refine K_condA (fun hc => ?_) (fun hc => ?_) <;> try (exact absurd hc (by decide))))
  refine Hold.mk (RCall.use (hcl) rfl (A := 0) (e := 1) (by decide) (by first | rfl | (simp [go_sem, rcs, hov, Nd.cs, hk]; done)) (by first | rfl | (simp [go_sem, hov, Nd.cs, hk]; done)) ?_)
  rintro r s' ⟨fr', hp', nx'⟩ e' he' hse _ hnx hfr hp0 hp1 hold
  simp only at he' hnx hfr hp0 hp1 hold
  have hne0 : e' ≠ 0 := by omega
  have hne2 : e' ≠ 2 := by omega
  subst hnx hfr
  have hp2 := hold 2 _ (by simp [go_sem, hov, Nd.cs, hk]; rfl) (by decide) (by first | decide | omega)
  simp only [go_sem, ↓reduceIte, reduceCtorEq, reduceAdd, reduceMul, reduceEqDiff, reduceLT, reduceLeDiff, reduceSub, reduceDiv, Nat.reduceBEq, Int.reduceBEq, reduceBNe, Int.reduceLT, reduceLE, reduceEq, hov, Nd.cs, hk]
  refine hK _ ?_; clear hK hKp K Kp; try clear hanc anc
  repeat (first | refine Kq_norm_code ?_ | refine Kq_norm_blk ?_ | refine Kq_norm_lp ?_)
  refine AW.entR _ hp1 (σ' := mkSt [(0, .ptr 0 0), (3, .ptr 2 0)] [(0, .cells (rcs s' 1)), (1, .row 9 (evs s'.ev)), (2, .cells n.cs)] 3) (ent_mk (by simp [go_sem]) (by simp [go_sem, rcs, hp0, hp1, hp2, hov, Nd.cs, hk]) (by simp [hne0, hne2, Ne.symm hne0, Ne.symm hne2]) (by simp [hN])) ?_
  subst hse
  have hs1 := hs.note (e := d - 1) hov (.mark 3 n.a)
  have hs2 := hs.noteNext (e := d - 1) hov (.mark 3 n.a)
  have hex1 : ∀ p u, n.arms[(s.note (.mark 3 n.a)).pick n.arms.length]? = some p → Ex (.l p) (s.note (.mark 3 n.a)).next u → Ex (.n n) s u := fun p u h1 h2 => .k4 hk h1 h2
  have hal := Nd.lenL_le n.arms
  have harm : 0 < n.arms.length ∧ n.arms.length ≤ 2 ^ 30 := by
    refine ⟨?_, by omega⟩
    rcases hk4 with h | h
    · exact absurd hk h
    · exact List.length_pos_iff.2 h
  have hch := choose_rc n.arms.length (s.note (.mark 3 n.a)) harm (by have := hs1.2.2.1; have := hs1.1.1; omega) hs1.2.2.2.2 hs1.2.2.2.1
  have hpk := (s.note (.mark 3 n.a)).pick_lt (n := n.arms.length) (by omega)
  generalize hs1e : s.note (.mark 3 n.a) = s1 at *
  obtain ⟨p, hpp⟩ := get?_of hpk
  have hL4 := hL p (d - 1) s1.next (by have := Nd.szL_mem (List.mem_of_getElem? hpp); omega) (by omega) (formedP_mem hfa (List.mem_of_getElem? hpp)) hs2
  unfold rcs
  repeat' (first | apply w1 | apply w2 | apply w3 | apply w4 | apply w5 | apply w6 | apply w7 | refine Kq_exit_ne (by decide) ?_ | apply w8 | apply w9 | apply w0 | rw [wrap64 (by omega) (by omega)] | ((first | refine hK _ ?_ | refine hKp _ _ ?_); clear hK hKp K Kp; try clear hanc anc) | ((with_reducible refine And.intro ?_ ?_); (focus (first | trivial | omega | (simp only [Fits]; omega) | assumption | (rw [hanc]; rfl)))) | ((first | refine K_regA hE fun K Kp hK hKp => ?_); simp only [go_sem, ↓reduceIte, reduceCtorEq, reduceAdd, reduceMul, reduceEqDiff, reduceLT, reduceLeDiff, reduceSub, reduceDiv, Nat.reduceBEq, Int.reduceBEq, reduceBNe, Int.reduceLT, reduceLE, reduceEq]) | ((first | refine onG_split_t (fun hg => ?_) (fun hg => ?_) | refine onG_split_f (fun hg => ?_) (fun hg => ?_)) <;> simp only [go_sem, ↓reduceIte, reduceCtorEq, reduceAdd, reduceMul, reduceEqDiff, reduceLT, reduceLeDiff, reduceSub, reduceDiv, Nat.reduceBEq, Int.reduceBEq, reduceBNe, Int.reduceLT, reduceLE, reduceEq, hg]) | (refine K_condA (fun hc => ?_) (fun hc => ?_) <;> try (exact absurd hc (by decide))) | (refine K_ret ?_; refine (hQ _ ⟨_, by (try simp only [go_sem, ↓reduceIte, Nat.reduceEqDiff]); rfl, by simp [go_sem], ?_, by first | rfl | assumption⟩).1))
  refine K_inv (n := 11) (I4 n s1 p d) mixed hE ?_ ?_ (fun Kp hKp => ?_) ?_ rfl
  · intro D D' σ h
    have := fun j => (h j).symm
    unfold I4
    simp only [this]
    exact fun h => h
  · simp [I4, go_sem, rcs, Nd.cs]
  · refine ⟨?_, ?_, ?_, ?_, ?_, ?_, ?_, ?_, ?_, ?_, ?_, trivial⟩
    all_goals rintro D ⟨fr, hp, nx⟩ hD hr ⟨hn3, f0, f3, h2, x8, x9, x10, d0, d1, d2, d3, d4, d5, d6, d7, d8, d9, hA, hB, hC⟩
    all_goals simp [Region.binds] at hn3 f0 f3 h2 d0 d1 d2 d3 d4 d5 d6 d7 d8 d9 hA hD hr
    all_goals try clear hQ hs hs1 hs2 hold hp2 hp0 hp1
    · simp only [go_sem, ↓reduceIte, reduceCtorEq, reduceAdd, reduceMul, reduceEqDiff, reduceLT, reduceLeDiff, reduceSub, reduceDiv, Nat.reduceBEq, Int.reduceBEq, reduceBNe, Int.reduceLT, reduceLE, reduceEq, f0]
      exact ⟨hn3, by simpa [upd] using f0, by simpa [upd] using f3, h2, by simpa using x8, by simpa using x9, by simpa using x10, by simp [upd], by simpa [upd] using d1, by simpa [upd] using d2, by simpa [upd] using d3, by simpa [upd] using d4, by simpa [upd] using d5, by simpa [upd] using d6, by simpa [upd] using d7, by simpa [upd] using d8, by simpa [upd] using d9, by simpa using hA, by simpa using hB, by simpa using hC⟩
    · simp only [go_sem, ↓reduceIte, reduceCtorEq, reduceAdd, reduceMul, reduceEqDiff, reduceLT, reduceLeDiff, reduceSub, reduceDiv, Nat.reduceBEq, Int.reduceBEq, reduceBNe, Int.reduceLT, reduceLE, reduceEq, f3]
      exact ⟨hn3, by simpa [upd] using f0, by simpa [upd] using f3, h2, by simpa using x8, by simpa using x9, by simpa using x10, by simpa [upd] using d0, by simp [upd], by simpa [upd] using d2, by simpa [upd] using d3, by simpa [upd] using d4, by simpa [upd] using d5, by simpa [upd] using d6, by simpa [upd] using d7, by simpa [upd] using d8, by simpa [upd] using d9, by simpa using hA, by simpa using hB, by simpa using hC⟩
    · simp only [go_sem, ↓reduceIte, reduceCtorEq, reduceAdd, reduceMul, reduceEqDiff, reduceLT, reduceLeDiff, reduceSub, reduceDiv, Nat.reduceBEq, Int.reduceBEq, reduceBNe, Int.reduceLT, reduceLE, reduceEq, d1 hr, h2, Nd.cs]
      exact ⟨hn3, by simpa [upd] using f0, by simpa [upd] using f3, h2, by simpa using x8, by simpa using x9, by simpa using x10, by simpa [upd] using d0, by simpa [upd] using d1, by simp [upd], by simpa [upd] using d3, by simpa [upd] using d4, by simpa [upd] using d5, by simpa [upd] using d6, by simpa [upd] using d7, by simpa [upd] using d8, by simpa [upd] using d9, by simpa using hA, by simpa using hB, by simpa using hC⟩
    · simp only [go_sem, ↓reduceIte, reduceCtorEq, reduceAdd, reduceMul, reduceEqDiff, reduceLT, reduceLeDiff, reduceSub, reduceDiv, Nat.reduceBEq, Int.reduceBEq, reduceBNe, Int.reduceLT, reduceLE, reduceEq, f0]
      exact ⟨hn3, by simpa [upd] using f0, by simpa [upd] using f3, h2, by simpa using x8, by simpa using x9, by simpa using x10, by simpa [upd] using d0, by simpa [upd] using d1, by simpa [upd] using d2, by simp [upd], by simpa [upd] using d4, by simpa [upd] using d5, by simpa [upd] using d6, by simpa [upd] using d7, by simpa [upd] using d8, by simpa [upd] using d9, by simpa using hA, by simpa using hB, by simpa using hC⟩
    · simp only [go_sem, ↓reduceIte, reduceCtorEq, reduceAdd, reduceMul, reduceEqDiff, reduceLT, reduceLeDiff, reduceSub, reduceDiv, Nat.reduceBEq, Int.reduceBEq, reduceBNe, Int.reduceLT, reduceLE, reduceEq, f3]
      exact ⟨hn3, by simpa [upd] using f0, by simpa [upd] using f3, h2, by simpa using x8, by simpa using x9, by simpa using x10, by simpa [upd] using d0, by simpa [upd] using d1, by simpa [upd] using d2, by simpa [upd] using d3, by simp [upd], by simpa [upd] using d5, by simpa [upd] using d6, by simpa [upd] using d7, by simpa [upd] using d8, by simpa [upd] using d9, by simpa using hA, by simpa using hB, by simpa using hC⟩
    · simp only [go_sem, ↓reduceIte, reduceCtorEq, reduceAdd, reduceMul, reduceEqDiff, reduceLT, reduceLeDiff, reduceSub, reduceDiv, Nat.reduceBEq, Int.reduceBEq, reduceBNe, Int.reduceLT, reduceLE, reduceEq, d4 hr, h2, Nd.cs]
      exact ⟨hn3, by simpa [upd] using f0, by simpa [upd] using f3, h2, by simpa using x8, by simpa using x9, by simpa using x10, by simpa [upd] using d0, by simpa [upd] using d1, by simpa [upd] using d2, by simpa [upd] using d3, by simpa [upd] using d4, by simp [upd], by simpa [upd] using d6, by simpa [upd] using d7, by simpa [upd] using d8, by simpa [upd] using d9, by simpa using hA, by simpa using hB, by simpa using hC⟩
    · simp only [go_sem, ↓reduceIte, reduceCtorEq, reduceAdd, reduceMul, reduceEqDiff, reduceLT, reduceLeDiff, reduceSub, reduceDiv, Nat.reduceBEq, Int.reduceBEq, reduceBNe, Int.reduceLT, reduceLE, reduceEq, d5 hr]
      exact ⟨hn3, by simpa [upd] using f0, by simpa [upd] using f3, h2, by simpa using x8, by simpa using x9, by simpa using x10, by simpa [upd] using d0, by simpa [upd] using d1, by simpa [upd] using d2, by simpa [upd] using d3, by simpa [upd] using d4, by simpa [upd] using d5, by simp [upd], by simpa [upd] using d7, by simpa [upd] using d8, by simpa [upd] using d9, by simpa using hA, by simpa using hB, by simpa using hC⟩
    · obtain ⟨h0, h1⟩ := hA hD
      simp only [go_sem, ↓reduceIte, reduceCtorEq, reduceAdd, reduceMul, reduceEqDiff, reduceLT, reduceLeDiff, reduceSub, reduceDiv, Nat.reduceBEq, Int.reduceBEq, reduceBNe, Int.reduceLT, reduceLE, reduceEq, d3 hr.1, d6 hr.2]
      refine Hold.mk (RCall.use hch rfl (A := 0) (e := 1) (by decide) h0 h1 ?_)
      rintro r s' ⟨fr', hp', nx'⟩ e' he' ⟨rfl, hse⟩ _ hnx hfr hp0 hp1 hold
      simp only at he' hnx hfr hp0 hp1 hold
      subst hnx hfr hse
      simp only [go_sem, ↓reduceIte, reduceCtorEq, reduceAdd, reduceMul, reduceEqDiff, reduceLT, reduceLeDiff, reduceSub, reduceDiv, Nat.reduceBEq, Int.reduceBEq, reduceBNe, Int.reduceLT, reduceLE, reduceEq]
      exact ⟨hn3, by simpa [upd] using f0, by simpa [upd] using f3, hold 2 _ h2 (by decide) (by decide), fun _ => by simp, fun _ => by simp, fun _ => by simp, by simpa [upd] using d0, by simpa [upd] using d1, by simpa [upd] using d2, by simpa [upd] using d3, by simpa [upd] using d4, by simpa [upd] using d5, by simpa [upd] using d6, by simp [upd], by simpa [upd] using d8, by simpa [upd] using d9, fun h => by simp at h, fun _ _ => ⟨e', by omega, by omega, hp0, hp1⟩, fun h => absurd (x10 (by simpa using h)) (by rw [hD]; simp)⟩
    · simp only [go_sem, ↓reduceIte, reduceCtorEq, reduceAdd, reduceMul, reduceEqDiff, reduceLT, reduceLeDiff, reduceSub, reduceDiv, Nat.reduceBEq, Int.reduceBEq, reduceBNe, Int.reduceLT, reduceLE, reduceEq, d2 hr.1, d7 hr.2, hpp]
      have X7 := hr.2
      refine ⟨by omega, ?_⟩
      exact ⟨hn3, by simpa [upd] using f0, by simpa [upd] using f3, h2, fun _ => by simp [X7], by simpa using x9, by simpa using x10, by simpa [upd] using d0, by simpa [upd] using d1, by simpa [upd] using d2, by simpa [upd] using d3, by simpa [upd] using d4, by simpa [upd] using d5, by simpa [upd] using d6, by simpa [upd] using d7, by simp [upd], by simpa [upd] using d9, by simpa using hA, by simpa using hB, by simpa using hC⟩
    · simp only [go_sem, ↓reduceIte, reduceCtorEq, reduceAdd, reduceMul, reduceEqDiff, reduceLT, reduceLeDiff, reduceSub, reduceDiv, Nat.reduceBEq, Int.reduceBEq, reduceBNe, Int.reduceLT, reduceLE, reduceEq, d8 hr]
      have X7 := x8 hr
      exact ⟨hn3, by simpa [upd] using f0, by simpa [upd] using f3, h2, by simpa using x8, fun _ => by simp [X7], by simpa using x10, by simpa [upd] using d0, by simpa [upd] using d1, by simpa [upd] using d2, by simpa [upd] using d3, by simpa [upd] using d4, by simpa [upd] using d5, by simpa [upd] using d6, by simpa [upd] using d7, by simpa [upd] using d8, by simp [upd], by simpa using hA, by simpa using hB, by simpa using hC⟩
    · have X7 := hr.2.2
      obtain ⟨e1, q0, q2, h0, h1⟩ := hB X7 hD
      simp only at h0 h1
      simp only [go_sem, ↓reduceIte, reduceCtorEq, reduceAdd, reduceMul, reduceEqDiff, reduceLT, reduceLeDiff, reduceSub, reduceDiv, Nat.reduceBEq, Int.reduceBEq, reduceBNe, Int.reduceLT, reduceLE, reduceEq, d0 hr.1, d9 hr.2.1]
      refine Hold.mk (RCall.use hL4 rfl (A := 0) (e := e1) (Ne.symm q0) h0 h1 ?_)
      rintro r s' ⟨fr', hp', nx'⟩ e' he' ⟨hex2, hok2⟩ _ hnx hfr hp0 hp1 hold
      simp only at he' hnx hfr hp0 hp1 hold
      subst hnx hfr
      simp only [go_sem, ↓reduceIte, reduceCtorEq, reduceAdd, reduceMul, reduceEqDiff, reduceLT, reduceLeDiff, reduceSub, reduceDiv, Nat.reduceBEq, Int.reduceBEq, reduceBNe, Int.reduceLT, reduceLE, reduceEq]
      exact ⟨hn3, by simpa [upd] using f0, by simpa [upd] using f3, hold 2 _ h2 (by decide) (Ne.symm q2), by simpa using x8, by simpa using x9, fun _ => by simp [X7], by simpa [upd] using d0, by simpa [upd] using d1, by simpa [upd] using d2, by simpa [upd] using d3, by simpa [upd] using d4, by simpa [upd] using d5, by simpa [upd] using d6, by simpa [upd] using d7, by simpa [upd] using d8, by simpa [upd] using d9, fun h => by simp [X7] at h, fun _ h => by simp at h, fun _ => ⟨s', e', ⟨hex2, hok2⟩, by omega, hp0, hp1⟩⟩
  · rintro ⟨fr, hp, nx⟩ D hD ⟨rfl, f0, f3, h2, x8, x9, x10, d0, d1, d2, d3, d4, d5, d6, d7, d8, d9, hA, hB, hC⟩
    obtain ⟨s', e', ⟨hex2, hok2⟩, he0, hp0, hp1⟩ := hC (hD 10)
    repeat (first | refine Kq_norm_code ?_ | refine Kq_norm_blk ?_ | refine Kq_norm_lp ?_)
    rw [Kq_nil]
    exact (hQ ⟨fr, hp, 3 + 1048576 * 11⟩ (.tup []) s' e' (by simp only [go_sem, ↓reduceIte, reduceCtorEq, reduceAdd, reduceMul, reduceEqDiff, reduceLT, reduceLeDiff, reduceSub, reduceDiv, Nat.reduceBEq, Int.reduceBEq, reduceBNe, Int.reduceLT, reduceLE, reduceEq]; rfl) ⟨hex1 p s' hpp hex2, hok2.mono (by omega)⟩ rfl he0 hp0 hp1).2
end Go.Proofs.Ytdheeecpkkjfiaa


/- Chapter 10: a run executes a list of nodes. -/
namespace Go.Proofs.Ytdheeecpkkjfiaa
open Go.Am Go.Proofs Go.Low

theorem node_rc (N : Nat) (hL : ∀ (l : List Nd) (d : Int) (s : RS), Nd.szL l < N → d ≤ 60 → formedL l d = true → Okd d s → RCall 14 [.sl (Nd.avL l)] s (fun _ t => Ex (.l l) s t ∧ Okd d t)) (n : Nd) (d : Int) (s : RS) (hn : n.sz ≤ N) (hN2 : N ≤ 2 ^ 30) (hd6 : d ≤ 60) (hf : formedN n d = true) (hs : Okd d s) (hov : s.ov = false) : RCall 36 [n.av] s (fun _ t => Ex (.n n) s t ∧ Okd d t) := by
  have hk : n.kind = 1 ∨ n.kind = 2 ∨ n.kind = 3 ∨ n.kind = 4 ∨ n.kind = 5 ∨ n.kind = 6 := by
    have hf' := hf
    rw [formedN_eq] at hf'
    simp only [Bool.and_eq_true, Bool.not_eq_true', Bool.or_eq_false_iff, decide_eq_false_iff_not, Bool.and_eq_false_iff, beq_eq_false_iff_ne] at hf'
    obtain ⟨⟨⟨⟨⟨⟨_, hk1⟩, hk6⟩, _⟩, _⟩, _⟩, _⟩ := hf'
    omega
  rcases hk with hk | hk | hk | hk | hk | hk
  · exact node_rc1 N hL n d s hn hN2 hd6 hf hs hov hk
  · exact node_rc2 N hL n d s hn hN2 hd6 hf hs hov hk
  · exact node_rc3 N hL n d s hn hN2 hd6 hf hs hov hk
  · exact node_rc4 N hL n d s hn hN2 hd6 hf hs hov hk
  · exact node_rc5 N hL n d s hn hN2 hd6 hf hs hov hk
  · exact node_rc6 N hL n d s hn hN2 hd6 hf hs hov hk

theorem run_rc : ∀ (N : Nat), N ≤ 2 ^ 30 → ∀ (l : List Nd) (d : Int) (s : RS), Nd.szL l ≤ N → d ≤ 60 → formedL l d = true → Okd d s → RCall 14 [.sl (Nd.avL l)] s (fun _ t => Ex (.l l) s t ∧ Okd d t)
  | 0, hN, l, d, s, hl, hd, hf, hs => list_rc 0 (fun n d s hn => by rw [Nd.sz_eq] at hn; omega) l d s hl (by omega) hd hf hs
  | N + 1, hN, l, d, s, hl, hd, hf, hs => list_rc (N + 1) (fun n d s hn hd6 hf hs hov => node_rc (N + 1) (fun l d s hl => run_rc N (by omega) l d s (by omega)) n d s hn hN hd6 hf hs hov) l d s hl (by omega) hd hf hs
end Go.Proofs.Ytdheeecpkkjfiaa
