/- A part of the proof: an abstract machine for the walks, and what the walked functions compute. -/
import Derived.Test.YtdheeecpkkjfiaaCv
import Derived.Test.YtdheeecpkkjfiaaMi
set_option linter.unusedVariables false
set_option linter.unusedSimpArgs false
/- Chapter 10: follow. -/
set_option linter.unusedSimpArgs false
set_option linter.unusedVariables false
set_option maxHeartbeats 4000000
set_option maxRecDepth 100000
namespace Go.Proofs.Ytdheeecpkkjfiaa
open Nat (reduceAdd reduceMul reduceEqDiff reduceLT reduceLeDiff reduceSub reduceDiv)
open Int (reduceBNe reduceLE reduceEq)
open Go.Am Go.Proofs Go.Low
attribute [local irreducible] AW CallP CallB

def FOk (s : RS) : Prop := Inv s ∧ s.at_ ≤ s.ev.length ∧ s.ch.length ≤ 1000000 ∧ ∀ c, c ∈ s.ch → c < 256
theorem FOk.note {s : RS} (h : FOk s) (hs : s.ov = false) (e : Ev) : FOk (s.note e) ∧ s.at_ + 1 ≤ (s.note e).ev.length := by
  obtain ⟨h1, h2, h3⟩ := h
  have h4 : s.at_ + 1 ≤ (s.ev ++ [e]).length := by simp only [List.length_append, List.length_singleton]; omega
  exact ⟨⟨h1.note hs e, by show s.at_ ≤ (s.ev ++ [e]).length; omega, h3⟩, h4⟩
theorem FOk.over {s : RS} (h : FOk s) : FOk s.over := ⟨h.1.over, h.2⟩
theorem FOk.noteNext {s : RS} (h : FOk s) (hs : s.ov = false) (e : Ev) : FOk (s.note e).next := by
  obtain ⟨h1, h2⟩ := h.note hs e
  refine ⟨h1.1.next, ?_, ?_⟩
  · rw [RS.next_ev]
    have : (s.note e).next.at_ ≤ s.at_ + 1 := by
      unfold RS.next
      split
      · exact Nat.le_succ _
      · exact Nat.le_refl _
    omega
  · have : (s.note e).next.ch = (s.note e).ch := by unfold RS.next; split <;> rfl
    rw [this]; exact h1.2.2

theorem fol_ov {B : List Bk} {n b : Nat} {t : RS} (h : t.ov = true) : fol B n b t = t := by
  cases n with
  | zero => rfl
  | succ n => rw [fol, if_pos h]

def I5 (B : List Bk) (s1 : RS) (k a : Int) (tg : List Int) (m : Nat) (v : Nat) (D : Nat → Bool) (σ : St) : Prop :=
  σ.nx = 3 ∧ σ.fr 0 = some (.ptr 0 0) ∧ σ.fr 1 = some (.sl (B.map Bk.av)) ∧ σ.fr 6 = some (.i m) ∧ σ.fr 8 = some (.ptr 2 0) ∧ σ.hp 2 = some (.cells [.i k, .i a, .sl (tg.map AV.i)]) ∧ (D 0 = true → σ.fr 101 = some (.ptr 2 2)) ∧ (D 1 = true → σ.fr 102 = some (.sl (tg.map AV.i))) ∧ (D 2 = true → σ.fr 103 = some (.ptr 0 0)) ∧ (D 3 = true → σ.fr 104 = some (.ptr 2 2)) ∧ (D 4 = true → σ.fr 105 = some (.sl (tg.map AV.i))) ∧ (D 5 = true → σ.fr 106 = some (.i tg.length)) ∧ (D 6 = true → σ.fr 107 = some (.i (s1.pick tg.length))) ∧ (D 7 = true → σ.fr 108 = some (.eptr (.i v) 0)) ∧ (D 8 = true → σ.fr 109 = some (.i v)) ∧ (D 9 = true → σ.fr 5 = some (.i v)) ∧ (D 6 = false → σ.hp 0 = some (.cells (rcs s1 1)) ∧ σ.hp 1 = some (.row 9 (evs s1.ev))) ∧ (D 6 = true → ∃ e', e' ≠ 0 ∧ e' ≠ 2 ∧ σ.hp 0 = some (.cells (rcs s1.next e')) ∧ σ.hp e' = some (.row 9 (evs s1.next.ev)))

theorem follow_rc {B : List Bk} {n : Nat} (hB : BOk B n) (hok : ∀ x, x ∈ B → x.ok) (hl : B.length ≤ 200) (s : RS) (hs : FOk s) : RCall 15 [.sl (B.map Bk.av)] s (fun r t => r = .bool true ∧ t = fol B 2000 0 s) := by
  have hpos := hB.pos
  refine RCall.intro Try.func15 rfl isf15 (by simp [Try.f15]) fun E Q hE hN hQ => K_start ?_
  unfold runHp rcs
  repeat' (first | apply w1 | apply w2 | apply w3 | apply w4 | apply w5 | apply w6 | apply w7 | refine Kq_exit_ne (by decide) ?_ | apply w8 | apply w9 | apply w0 | rw [wrap64 (by omega) (by omega)] | ((first | refine hK _ ?_ | refine hKp _ _ ?_); clear hK hKp K Kp; try clear hanc anc) | ((with_reducible refine And.intro ?_ ?_); (focus (first | trivial | omega | (simp only [Fits]; omega) | assumption | (rw [hanc]; rfl)))) | ((first | refine K_regA hE fun K Kp hK hKp => ?_ | refine K_drwA true mixed hE fun K Kp hK hKp anc hanc => ?_ | refine K_drwA false mixed hE fun K Kp hK hKp anc hanc => ?_); simp only [go_sem, ↓reduceIte, reduceCtorEq, reduceAdd, reduceMul, reduceEqDiff, reduceLT, reduceLeDiff, reduceSub, reduceDiv, Nat.reduceBEq, Int.reduceBEq, reduceBNe, Int.reduceLT, reduceLE, reduceEq]) | ((first | refine onG_split_t (fun hg => ?_) (fun hg => ?_) | refine onG_split_f (fun hg => ?_) (fun hg => ?_)) <;> simp only [go_sem, ↓reduceIte, reduceCtorEq, reduceAdd, reduceMul, reduceEqDiff, reduceLT, reduceLeDiff, reduceSub, reduceDiv, Nat.reduceBEq, Int.reduceBEq, reduceBNe, Int.reduceLT, reduceLE, reduceEq, hg]) | (refine K_condA (fun hc => ?_) (fun hc => ?_) <;> try (exact absurd hc (by decide))))
  refine K_loop (X := Nat × Nat × RS) (fun x => x.1 ≤ 2000 ∧ x.2.1 < B.length ∧ FOk x.2.2 ∧ fol B (2000 - x.1) x.2.1 x.2.2 = fol B 2000 0 s) (fun x => mkSt [(0, .ptr 0 0), (1, .sl (B.map Bk.av)), (5, AV.i x.2.1), (6, AV.i x.1)] [(0, .cells (rcs x.2.2 1)), (1, .row 9 (evs x.2.2.ev))] 2) (fun x => 2000 - x.1) (0, 0, s) ⟨Nat.zero_le _, hpos, hs, rfl⟩ (fun i => i) (by refine ent_mk (by simp [go_sem, rcs]) (by simp [go_sem, rcs]) (by simp) (by simp [hN])) ?_
  rintro ⟨m, b, t⟩ ⟨hm, hb, ht, hf⟩
  simp only at hm hb ht hf
  unfold rcs
  cases hov : t.ov
  · by_cases hlt : m < 2000
    · have q0 : decide ((m : Int) < 2000) = true := by simp; omega
      obtain ⟨x, hx⟩ := get?_of hb
      have hxo := hok x (List.mem_of_getElem? hx)
      obtain ⟨hshp, htg⟩ := hB.good b x hx
      have hxl := hxo.1
      have hf1 : fol B (2000 - m) b t = blkRun B (fol B (1999 - m)) b 0 t := by
        rw [show 2000 - m = (1999 - m) + 1 by omega, fol, if_neg (by rw [hov]; simp)]
      rw [hf1] at hf
      have p1 : decide ((b : Int) < 0) = false := by simp
      have p2 : decide ((B.length : Int) ≤ (b : Int)) = false := by simp; omega
      repeat' (first | apply w1 | apply w2 | apply w3 | apply w4 | apply w5 | apply w6 | apply w7 | refine Kq_exit_ne (by decide) ?_ | apply w8 | apply w9 | apply w0 | rw [wrap64 (by omega) (by omega)] | ((first | refine hK _ ?_ | refine hKp _ _ ?_); clear hK hKp K Kp; try clear hanc anc) | ((with_reducible refine And.intro ?_ ?_); (focus (first | trivial | omega | (simp only [Fits]; omega) | assumption | (rw [hanc]; rfl)))) | ((first | refine K_regA hE fun K Kp hK hKp => ?_ | refine K_drwA true mixed hE fun K Kp hK hKp anc hanc => ?_ | refine K_drwA false mixed hE fun K Kp hK hKp anc hanc => ?_); simp only [go_sem, ↓reduceIte, reduceCtorEq, reduceAdd, reduceMul, reduceEqDiff, reduceLT, reduceLeDiff, reduceSub, reduceDiv, Nat.reduceBEq, Int.reduceBEq, reduceBNe, Int.reduceLT, reduceLE, reduceEq, hov, q0, p1, p2, hx, Bk.av]) | ((first | refine onG_split_t (fun hg => ?_) (fun hg => ?_) | refine onG_split_f (fun hg => ?_) (fun hg => ?_)) <;> simp only [go_sem, ↓reduceIte, reduceCtorEq, reduceAdd, reduceMul, reduceEqDiff, reduceLT, reduceLeDiff, reduceSub, reduceDiv, Nat.reduceBEq, Int.reduceBEq, reduceBNe, Int.reduceLT, reduceLE, reduceEq, hov, q0, p1, p2, hx, Bk.av, hg]) | (refine K_condA (fun hc => ?_) (fun hc => ?_) <;> try (exact absurd hc (by decide))))
      refine K_loop (X := Nat × RS) (fun y => y.1 ≤ x.code.length ∧ FOk y.2 ∧ codeRun (x.code.drop y.1) y.2 = codeRun x.code t) (fun y => mkSt [(0, .ptr 0 0), (1, .sl (B.map Bk.av)), (5, AV.i b), (6, AV.i m), (7, AV.i y.1)] [(0, .cells (rcs y.2 1)), (1, .row 9 (evs y.2.ev))] 2) (fun y => x.code.length - y.1) (0, t) ⟨Nat.zero_le _, ht, rfl⟩ (fun i => i) (by refine ent_mk (by simp [go_sem, rcs, hov]) (by simp [go_sem, rcs, hov]) (by simp) (by simp [hN])) ?_
      rintro ⟨i, u⟩ ⟨hi, hu, hcr⟩
      simp only at hi hu hcr
      unfold rcs
      by_cases hil : i < x.code.length
      · obtain ⟨c, hcc⟩ := get?_of hil
        rw [drop_of hcc] at hcr
        cases huv : u.ov
        · have hcl := note_rc (.ins c) u (by have := hu.1.1; omega)
          unfold Ev.av at hcl
          repeat' (first | apply w1 | apply w2 | apply w3 | apply w4 | apply w5 | apply w6 | apply w7 | refine Kq_exit_ne (by decide) ?_ | apply w8 | apply w9 | apply w0 | rw [wrap64 (by omega) (by omega)] | ((first | refine hK _ ?_ | refine hKp _ _ ?_); clear hK hKp K Kp; try clear hanc anc) | ((with_reducible refine And.intro ?_ ?_); (focus (first | trivial | omega | (simp only [Fits]; omega) | assumption | (rw [hanc]; rfl)))) | ((first | refine K_regA hE fun K Kp hK hKp => ?_ | refine K_drwA true mixed hE fun K Kp hK hKp anc hanc => ?_ | refine K_drwA false mixed hE fun K Kp hK hKp anc hanc => ?_); simp only [go_sem, ↓reduceIte, reduceCtorEq, reduceAdd, reduceMul, reduceEqDiff, reduceLT, reduceLeDiff, reduceSub, reduceDiv, Nat.reduceBEq, Int.reduceBEq, reduceBNe, Int.reduceLT, reduceLE, reduceEq, lt_dec hil, huv, hx, hcc, Bk.av, Ins.av]) | ((first | refine onG_split_t (fun hg => ?_) (fun hg => ?_) | refine onG_split_f (fun hg => ?_) (fun hg => ?_)) <;> simp only [go_sem, ↓reduceIte, reduceCtorEq, reduceAdd, reduceMul, reduceEqDiff, reduceLT, reduceLeDiff, reduceSub, reduceDiv, Nat.reduceBEq, Int.reduceBEq, reduceBNe, Int.reduceLT, reduceLE, reduceEq, lt_dec hil, huv, hx, hcc, Bk.av, Ins.av, hg]) | (refine K_condA (fun hc => ?_) (fun hc => ?_) <;> try (exact absurd hc (by decide))))
          refine Hold.mk (RCall.use (hcl) rfl (A := 0) (e := 1) (by decide) (by first | rfl | (simp [go_sem, rcs, huv, hx, hcc, Bk.av, Ins.av]; done)) (by first | rfl | (simp [go_sem, huv, hx, hcc, Bk.av, Ins.av]; done)) ?_)
          rintro r s' ⟨fr', hp', nx'⟩ e' he' hse _ hnx hfr hp0 hp1 hold
          simp only at he' hnx hfr hp0 hp1 hold
          have hne0 : e' ≠ 0 := by omega
          have hne2 : e' ≠ 2 := by omega
          subst hnx hfr
          simp only [go_sem, ↓reduceIte, reduceCtorEq, reduceAdd, reduceMul, reduceEqDiff, reduceLT, reduceLeDiff, reduceSub, reduceDiv, Nat.reduceBEq, Int.reduceBEq, reduceBNe, Int.reduceLT, reduceLE, reduceEq, huv, hx, hcc, Bk.av, Ins.av]
          refine hK _ ?_; clear hK hKp K Kp; try clear hanc anc
          repeat (first | refine Kq_norm_code ?_ | refine Kq_norm_blk ?_ | refine Kq_norm_lp ?_)
          refine AW.entR _ hp1 (σ' := mkSt [(0, .ptr 0 0), (1, .sl (B.map Bk.av)), (5, AV.i b), (6, AV.i m), (7, AV.i i)] [(0, .cells (rcs s' 1)), (1, .row 9 (evs s'.ev))] 2) (ent_mk (by simp [go_sem]) (by simp [go_sem, rcs, hp0, hp1, huv, hx, hcc, Bk.av, Ins.av]) (by simp [hne0, hne2, Ne.symm hne0, Ne.symm hne2]) (by simp [hN])) ?_
          subst hse
          repeat' (first | apply w1 | apply w2 | apply w3 | apply w4 | apply w5 | apply w6 | apply w7 | refine Kq_exit_ne (by decide) ?_ | apply w8 | apply w9 | apply w0 | rw [wrap64 (by omega) (by omega)] | ((first | refine hK _ ?_ | refine hKp _ _ ?_); clear hK hKp K Kp; try clear hanc anc) | ((with_reducible refine And.intro ?_ ?_); (focus (first | trivial | omega | (simp only [Fits]; omega) | assumption | (rw [hanc]; rfl)))) | ((first | refine K_regA hE fun K Kp hK hKp => ?_ | refine K_drwA true mixed hE fun K Kp hK hKp anc hanc => ?_ | refine K_drwA false mixed hE fun K Kp hK hKp anc hanc => ?_); simp only [go_sem, ↓reduceIte, reduceCtorEq, reduceAdd, reduceMul, reduceEqDiff, reduceLT, reduceLeDiff, reduceSub, reduceDiv, Nat.reduceBEq, Int.reduceBEq, reduceBNe, Int.reduceLT, reduceLE, reduceEq]) | ((first | refine onG_split_t (fun hg => ?_) (fun hg => ?_) | refine onG_split_f (fun hg => ?_) (fun hg => ?_)) <;> simp only [go_sem, ↓reduceIte, reduceCtorEq, reduceAdd, reduceMul, reduceEqDiff, reduceLT, reduceLeDiff, reduceSub, reduceDiv, Nat.reduceBEq, Int.reduceBEq, reduceBNe, Int.reduceLT, reduceLE, reduceEq, hg]) | (refine K_condA (fun hc => ?_) (fun hc => ?_) <;> try (exact absurd hc (by decide))))
          rw [codeRun, if_neg (by rw [huv]; simp)] at hcr
          exact ⟨(i + 1, u.note (.ins c)), ⟨by simp only; omega, (hu.note huv _).1, hcr⟩, by simp only; omega, fun i => i, by refine ent_mk (by simp [go_sem, rcs]) (by simp [go_sem, rcs]) (by simp) (by simp [hN])⟩
        · repeat' (first | apply w1 | apply w2 | apply w3 | apply w4 | apply w5 | apply w6 | apply w7 | refine Kq_exit_ne (by decide) ?_ | apply w8 | apply w9 | apply w0 | rw [wrap64 (by omega) (by omega)] | ((first | refine hK _ ?_ | refine hKp _ _ ?_); clear hK hKp K Kp; try clear hanc anc) | ((with_reducible refine And.intro ?_ ?_); (focus (first | trivial | omega | (simp only [Fits]; omega) | assumption | (rw [hanc]; rfl)))) | ((first | refine K_regA hE fun K Kp hK hKp => ?_ | refine K_drwA true mixed hE fun K Kp hK hKp anc hanc => ?_ | refine K_drwA false mixed hE fun K Kp hK hKp anc hanc => ?_); simp only [go_sem, ↓reduceIte, reduceCtorEq, reduceAdd, reduceMul, reduceEqDiff, reduceLT, reduceLeDiff, reduceSub, reduceDiv, Nat.reduceBEq, Int.reduceBEq, reduceBNe, Int.reduceLT, reduceLE, reduceEq, lt_dec hil, huv, hx, Bk.av]) | ((first | refine onG_split_t (fun hg => ?_) (fun hg => ?_) | refine onG_split_f (fun hg => ?_) (fun hg => ?_)) <;> simp only [go_sem, ↓reduceIte, reduceCtorEq, reduceAdd, reduceMul, reduceEqDiff, reduceLT, reduceLeDiff, reduceSub, reduceDiv, Nat.reduceBEq, Int.reduceBEq, reduceBNe, Int.reduceLT, reduceLE, reduceEq, lt_dec hil, huv, hx, Bk.av, hg]) | (refine K_condA (fun hc => ?_) (fun hc => ?_) <;> try (exact absurd hc (by decide))))
          rw [codeRun_ov huv] at hcr
          refine K_ret (hQ _ (.bool true) u 1 (by simp only [go_sem, ↓reduceIte, reduceCtorEq, reduceAdd, reduceMul, reduceEqDiff, reduceLT, reduceLeDiff, reduceSub, reduceDiv, Nat.reduceBEq, Int.reduceBEq, reduceBNe, Int.reduceLT, reduceLE, reduceEq]; rfl) ⟨rfl, ?_⟩ rfl (by decide) ?_ ?_).1
          · rw [← hf, hcr]
            unfold blkRun
            simp only [hx, List.drop_zero]
            rw [if_pos (by rw [← hcr]; exact huv)]
          · simp [go_sem, rcs, huv]
          · simp [go_sem]
      · obtain rfl : i = x.code.length := by omega
        rw [List.drop_length, codeRun] at hcr
        cases huv : u.ov
        · have hun := hu.1.1
          have hf2 := hf
          unfold blkRun at hf2
          simp only [hx, List.drop_zero, ← hcr] at hf2
          rw [if_neg (by rw [huv]; simp)] at hf2
          rcases hshp with ⟨hk, hn⟩ | ⟨hk, hn⟩ | ⟨hk, hn⟩ | ⟨hk, hn⟩ | ⟨hk, hn⟩
          · obtain ⟨w, hw⟩ := List.length_eq_one_iff.1 hn
            obtain ⟨v1, v2, _⟩ := htg w (by rw [hw]; simp)
            obtain ⟨v, rfl⟩ := Int.eq_ofNat_of_zero_le (show 0 ≤ w by omega)
            rw [if_pos hk, hw] at hf2
            repeat' (first | apply w1 | apply w2 | apply w3 | apply w4 | apply w5 | apply w6 | apply w7 | refine Kq_exit_ne (by decide) ?_ | apply w8 | apply w9 | apply w0 | rw [wrap64 (by omega) (by omega)] | ((first | refine hK _ ?_ | refine hKp _ _ ?_); clear hK hKp K Kp; try clear hanc anc) | ((with_reducible refine And.intro ?_ ?_); (focus (first | trivial | omega | (simp only [Fits]; omega) | assumption | (rw [hanc]; rfl)))) | ((first | refine K_regA hE fun K Kp hK hKp => ?_ | refine K_drwA true mixed hE fun K Kp hK hKp anc hanc => ?_ | refine K_drwA false mixed hE fun K Kp hK hKp anc hanc => ?_); simp only [go_sem, ↓reduceIte, reduceCtorEq, reduceAdd, reduceMul, reduceEqDiff, reduceLT, reduceLeDiff, reduceSub, reduceDiv, Nat.reduceBEq, Int.reduceBEq, reduceBNe, Int.reduceLT, reduceLE, reduceEq, ge_dec, huv, hx, Bk.av, hk, hw, Int.toNat_zero, List.getElem?_cons_zero]) | ((first | refine onG_split_t (fun hg => ?_) (fun hg => ?_) | refine onG_split_f (fun hg => ?_) (fun hg => ?_)) <;> simp only [go_sem, ↓reduceIte, reduceCtorEq, reduceAdd, reduceMul, reduceEqDiff, reduceLT, reduceLeDiff, reduceSub, reduceDiv, Nat.reduceBEq, Int.reduceBEq, reduceBNe, Int.reduceLT, reduceLE, reduceEq, ge_dec, huv, hx, Bk.av, hk, hw, Int.toNat_zero, List.getElem?_cons_zero, hg]) | (refine K_condA (fun hc => ?_) (fun hc => ?_) <;> try (exact absurd hc (by decide))))
            have hf3 : fol B (2000 - (m + 1)) v u = fol B 2000 0 s := by
              rw [← hf2, show 2000 - (m + 1) = 1999 - m by omega]; rfl
            exact ⟨(m + 1, v, u), ⟨by simp only; omega, by simp only; omega, hu, hf3⟩, by simp only; omega, fun i => i, by refine ent_mk (by simp [go_sem, rcs, huv]) (by simp [go_sem, rcs, huv]) (by simp) (by simp [hN])⟩
          · have hcl := note_rc (.mark x.kind x.a) u (by omega)
            rw [hk] at hcl hf2
            rw [if_neg (by decide), if_pos (by decide)] at hf2
            unfold Ev.av at hcl
            have q0 : ((x.tg.length : Int) == 0) = false := by simp; intro e; rw [e] at hn; simp at hn
            repeat' (first | apply w1 | apply w2 | apply w3 | apply w4 | apply w5 | apply w6 | apply w7 | refine Kq_exit_ne (by decide) ?_ | apply w8 | apply w9 | apply w0 | rw [wrap64 (by omega) (by omega)] | ((first | refine hK _ ?_ | refine hKp _ _ ?_); clear hK hKp K Kp; try clear hanc anc) | ((with_reducible refine And.intro ?_ ?_); (focus (first | trivial | omega | (simp only [Fits]; omega) | assumption | (rw [hanc]; rfl)))) | ((first | refine K_regA hE fun K Kp hK hKp => ?_ | refine K_drwA true mixed hE fun K Kp hK hKp anc hanc => ?_ | refine K_drwA false mixed hE fun K Kp hK hKp anc hanc => ?_); simp only [go_sem, ↓reduceIte, reduceCtorEq, reduceAdd, reduceMul, reduceEqDiff, reduceLT, reduceLeDiff, reduceSub, reduceDiv, Nat.reduceBEq, Int.reduceBEq, reduceBNe, Int.reduceLT, reduceLE, reduceEq, ge_dec, huv, hx, Bk.av, hk, q0]) | ((first | refine onG_split_t (fun hg => ?_) (fun hg => ?_) | refine onG_split_f (fun hg => ?_) (fun hg => ?_)) <;> simp only [go_sem, ↓reduceIte, reduceCtorEq, reduceAdd, reduceMul, reduceEqDiff, reduceLT, reduceLeDiff, reduceSub, reduceDiv, Nat.reduceBEq, Int.reduceBEq, reduceBNe, Int.reduceLT, reduceLE, reduceEq, ge_dec, huv, hx, Bk.av, hk, q0, hg]) | (refine K_condA (fun hc => ?_) (fun hc => ?_) <;> try (exact absurd hc (by decide))))
            refine Hold.mk (RCall.use (hcl) rfl (A := 0) (e := 1) (by decide) (by first | rfl | (simp [go_sem, rcs, huv, hx, hk, Bk.av, q0]; done)) (by first | rfl | (simp [go_sem, huv, hx, hk, Bk.av, q0]; done)) ?_)
            rintro r s' ⟨fr', hp', nx'⟩ e' he' hse _ hnx hfr hp0 hp1 hold
            simp only at he' hnx hfr hp0 hp1 hold
            have hne0 : e' ≠ 0 := by omega
            have hne2 : e' ≠ 2 := by omega
            subst hnx hfr
            simp only [go_sem, ↓reduceIte, reduceCtorEq, reduceAdd, reduceMul, reduceEqDiff, reduceLT, reduceLeDiff, reduceSub, reduceDiv, Nat.reduceBEq, Int.reduceBEq, reduceBNe, Int.reduceLT, reduceLE, reduceEq, huv, hx, hk, Bk.av, q0]
            refine hK _ ?_; clear hK hKp K Kp; try clear hanc anc
            repeat (first | refine Kq_norm_code ?_ | refine Kq_norm_blk ?_ | refine Kq_norm_lp ?_)
            have hpB := hold 25165826 (.cells [.i 2, .i x.a, .sl (x.tg.map AV.i)]) (by simp [go_sem]) (by decide) (by decide)
            have hneB : e' ≠ 25165826 := by omega
            refine AW.ent (fun i => if i = 1 then e' else if i = 2 then 25165826 else i) (σ' := mkSt [(0, .ptr 0 0), (1, .sl (B.map Bk.av)), (6, AV.i m), (8, .ptr 2 0)] [(0, .cells (rcs s' 1)), (1, .row 9 (evs s'.ev)), (2, .cells [.i 2, .i x.a, .sl (x.tg.map AV.i)])] 3) (ent_mk (by simp [go_sem]) (by simp [go_sem, rcs, hp0, hp1, hpB]) (by simp [hne0, hneB, Ne.symm hne0, Ne.symm hneB]) (by simp [hN])) ?_
            have hs1 := hu.note huv (.mark 2 x.a)
            have hs2 := hu.noteNext huv (.mark 2 x.a)
            have htl : 0 < x.tg.length := by omega
            have hch := choose_rc x.tg.length (u.note (.mark 2 x.a)) ⟨htl, hxo.2.1⟩ (by have := hs1.1.1.1; have := hs1.1.2.1; omega) hs1.1.2.2.2 hs1.1.2.2.1
            have hpk := (u.note (.mark 2 x.a)).pick_lt (n := x.tg.length) htl
            obtain ⟨w, hpp⟩ := get?_of hpk
            obtain ⟨v1, v2, _⟩ := htg w (List.mem_of_getElem? hpp)
            obtain ⟨v, rfl⟩ := Int.eq_ofNat_of_zero_le (show 0 ≤ w by omega)
            have hf3 : fol B (2000 - (m + 1)) v (u.note (.mark 2 x.a)).next = fol B 2000 0 s := by
              rw [← hf2, show 2000 - (m + 1) = 1999 - m by omega, List.getD_eq_getElem?_getD, hpp]; rfl
            subst hse
            generalize u.note (.mark 2 x.a) = s1 at *
            unfold rcs
            repeat' (first | apply w1 | apply w2 | apply w3 | apply w4 | apply w5 | apply w6 | apply w7 | refine Kq_exit_ne (by decide) ?_ | apply w8 | apply w9 | apply w0 | rw [wrap64 (by omega) (by omega)] | ((first | refine hK _ ?_ | refine hKp _ _ ?_); clear hK hKp K Kp; try clear hanc anc) | ((with_reducible refine And.intro ?_ ?_); (focus (first | trivial | omega | (simp only [Fits]; omega) | assumption | (rw [hanc]; rfl)))) | ((first | refine K_regA hE fun K Kp hK hKp => ?_); simp only [go_sem, ↓reduceIte, reduceCtorEq, reduceAdd, reduceMul, reduceEqDiff, reduceLT, reduceLeDiff, reduceSub, reduceDiv, Nat.reduceBEq, Int.reduceBEq, reduceBNe, Int.reduceLT, reduceLE, reduceEq]) | ((first | refine onG_split_t (fun hg => ?_) (fun hg => ?_) | refine onG_split_f (fun hg => ?_) (fun hg => ?_)) <;> simp only [go_sem, ↓reduceIte, reduceCtorEq, reduceAdd, reduceMul, reduceEqDiff, reduceLT, reduceLeDiff, reduceSub, reduceDiv, Nat.reduceBEq, Int.reduceBEq, reduceBNe, Int.reduceLT, reduceLE, reduceEq, hg]) | (refine K_condA (fun hc => ?_) (fun hc => ?_) <;> try (exact absurd hc (by decide))) | (refine K_ret ?_; refine (hQ _ ⟨_, by (try simp only [go_sem, ↓reduceIte, Nat.reduceEqDiff]); rfl, by simp [go_sem], ?_, by first | rfl | assumption⟩).1))
            refine K_inv (n := 10) (I5 B s1 2 x.a x.tg m v) mixed hE ?_ ?_ (fun Kp hKp => ?_) ?_ rfl
            · intro D D' σ h
              have := fun j => (h j).symm
              unfold I5
              simp only [this]
              exact fun h => h
            · simp [I5, go_sem, rcs]
            · refine ⟨?_, ?_, ?_, ?_, ?_, ?_, ?_, ?_, ?_, ?_, trivial⟩
              all_goals rintro D ⟨fr, hp, nx⟩ hD hr ⟨hn3, f0, f1, f6, f8, h2, d0, d1, d2, d3, d4, d5, d6, d7, d8, d9, hA, hB⟩
              all_goals simp [Region.binds] at hn3 f0 f1 f6 f8 h2 d0 d1 d2 d3 d4 d5 d6 d7 d8 d9 hA hD hr
              all_goals try clear hQ hold hpB hp0 hp1
              · simp only [go_sem, ↓reduceIte, reduceCtorEq, reduceAdd, reduceMul, reduceEqDiff, reduceLT, reduceLeDiff, reduceSub, reduceDiv, Nat.reduceBEq, Int.reduceBEq, reduceBNe, Int.reduceLT, reduceLE, reduceEq, f8]
                exact ⟨hn3, by simpa [upd] using f0, by simpa [upd] using f1, by simpa [upd] using f6, by simpa [upd] using f8, h2, by simp [upd], by simpa [upd] using d1, by simpa [upd] using d2, by simpa [upd] using d3, by simpa [upd] using d4, by simpa [upd] using d5, by simpa [upd] using d6, by simpa [upd] using d7, by simpa [upd] using d8, by simpa [upd] using d9, by simpa using hA, by simpa using hB⟩
              · simp only [go_sem, ↓reduceIte, reduceCtorEq, reduceAdd, reduceMul, reduceEqDiff, reduceLT, reduceLeDiff, reduceSub, reduceDiv, Nat.reduceBEq, Int.reduceBEq, reduceBNe, Int.reduceLT, reduceLE, reduceEq, d0 hr, h2]
                exact ⟨hn3, by simpa [upd] using f0, by simpa [upd] using f1, by simpa [upd] using f6, by simpa [upd] using f8, h2, by simpa [upd] using d0, by simp [upd], by simpa [upd] using d2, by simpa [upd] using d3, by simpa [upd] using d4, by simpa [upd] using d5, by simpa [upd] using d6, by simpa [upd] using d7, by simpa [upd] using d8, by simpa [upd] using d9, by simpa using hA, by simpa using hB⟩
              · simp only [go_sem, ↓reduceIte, reduceCtorEq, reduceAdd, reduceMul, reduceEqDiff, reduceLT, reduceLeDiff, reduceSub, reduceDiv, Nat.reduceBEq, Int.reduceBEq, reduceBNe, Int.reduceLT, reduceLE, reduceEq, f0]
                exact ⟨hn3, by simpa [upd] using f0, by simpa [upd] using f1, by simpa [upd] using f6, by simpa [upd] using f8, h2, by simpa [upd] using d0, by simpa [upd] using d1, by simp [upd], by simpa [upd] using d3, by simpa [upd] using d4, by simpa [upd] using d5, by simpa [upd] using d6, by simpa [upd] using d7, by simpa [upd] using d8, by simpa [upd] using d9, by simpa using hA, by simpa using hB⟩
              · simp only [go_sem, ↓reduceIte, reduceCtorEq, reduceAdd, reduceMul, reduceEqDiff, reduceLT, reduceLeDiff, reduceSub, reduceDiv, Nat.reduceBEq, Int.reduceBEq, reduceBNe, Int.reduceLT, reduceLE, reduceEq, f8]
                exact ⟨hn3, by simpa [upd] using f0, by simpa [upd] using f1, by simpa [upd] using f6, by simpa [upd] using f8, h2, by simpa [upd] using d0, by simpa [upd] using d1, by simpa [upd] using d2, by simp [upd], by simpa [upd] using d4, by simpa [upd] using d5, by simpa [upd] using d6, by simpa [upd] using d7, by simpa [upd] using d8, by simpa [upd] using d9, by simpa using hA, by simpa using hB⟩
              · simp only [go_sem, ↓reduceIte, reduceCtorEq, reduceAdd, reduceMul, reduceEqDiff, reduceLT, reduceLeDiff, reduceSub, reduceDiv, Nat.reduceBEq, Int.reduceBEq, reduceBNe, Int.reduceLT, reduceLE, reduceEq, d3 hr, h2]
                exact ⟨hn3, by simpa [upd] using f0, by simpa [upd] using f1, by simpa [upd] using f6, by simpa [upd] using f8, h2, by simpa [upd] using d0, by simpa [upd] using d1, by simpa [upd] using d2, by simpa [upd] using d3, by simp [upd], by simpa [upd] using d5, by simpa [upd] using d6, by simpa [upd] using d7, by simpa [upd] using d8, by simpa [upd] using d9, by simpa using hA, by simpa using hB⟩
              · simp only [go_sem, ↓reduceIte, reduceCtorEq, reduceAdd, reduceMul, reduceEqDiff, reduceLT, reduceLeDiff, reduceSub, reduceDiv, Nat.reduceBEq, Int.reduceBEq, reduceBNe, Int.reduceLT, reduceLE, reduceEq, d4 hr]
                exact ⟨hn3, by simpa [upd] using f0, by simpa [upd] using f1, by simpa [upd] using f6, by simpa [upd] using f8, h2, by simpa [upd] using d0, by simpa [upd] using d1, by simpa [upd] using d2, by simpa [upd] using d3, by simpa [upd] using d4, by simp [upd], by simpa [upd] using d6, by simpa [upd] using d7, by simpa [upd] using d8, by simpa [upd] using d9, by simpa using hA, by simpa using hB⟩
              · obtain ⟨h0, h1⟩ := hA hD
                simp only [go_sem, ↓reduceIte, reduceCtorEq, reduceAdd, reduceMul, reduceEqDiff, reduceLT, reduceLeDiff, reduceSub, reduceDiv, Nat.reduceBEq, Int.reduceBEq, reduceBNe, Int.reduceLT, reduceLE, reduceEq, d2 hr.1, d5 hr.2]
                refine Hold.mk (RCall.use hch rfl (A := 0) (e := 1) (by decide) h0 h1 ?_)
                rintro r s' ⟨fr', hp', nx'⟩ e' he' ⟨rfl, hse⟩ _ hnx hfr hp0 hp1 hold
                simp only at he' hnx hfr hp0 hp1 hold
                subst hnx hfr hse
                simp only [go_sem, ↓reduceIte, reduceCtorEq, reduceAdd, reduceMul, reduceEqDiff, reduceLT, reduceLeDiff, reduceSub, reduceDiv, Nat.reduceBEq, Int.reduceBEq, reduceBNe, Int.reduceLT, reduceLE, reduceEq]
                exact ⟨hn3, by simpa [upd] using f0, by simpa [upd] using f1, by simpa [upd] using f6, by simpa [upd] using f8, hold 2 _ h2 (by decide) (by decide), by simpa [upd] using d0, by simpa [upd] using d1, by simpa [upd] using d2, by simpa [upd] using d3, by simpa [upd] using d4, by simpa [upd] using d5, by simp [upd], by simpa [upd] using d7, by simpa [upd] using d8, by simpa [upd] using d9, fun h => by simp at h, fun _ => ⟨e', by omega, by omega, hp0, hp1⟩⟩
              · simp only [go_sem, ↓reduceIte, reduceCtorEq, reduceAdd, reduceMul, reduceEqDiff, reduceLT, reduceLeDiff, reduceSub, reduceDiv, Nat.reduceBEq, Int.reduceBEq, reduceBNe, Int.reduceLT, reduceLE, reduceEq, d1 hr.1, d6 hr.2, hpp]
                refine ⟨by omega, ?_⟩
                exact ⟨hn3, by simpa [upd] using f0, by simpa [upd] using f1, by simpa [upd] using f6, by simpa [upd] using f8, h2, by simpa [upd] using d0, by simpa [upd] using d1, by simpa [upd] using d2, by simpa [upd] using d3, by simpa [upd] using d4, by simpa [upd] using d5, by simpa [upd] using d6, by simp [upd], by simpa [upd] using d8, by simpa [upd] using d9, by simpa using hA, by simpa using hB⟩
              · simp only [go_sem, ↓reduceIte, reduceCtorEq, reduceAdd, reduceMul, reduceEqDiff, reduceLT, reduceLeDiff, reduceSub, reduceDiv, Nat.reduceBEq, Int.reduceBEq, reduceBNe, Int.reduceLT, reduceLE, reduceEq, d7 hr]
                exact ⟨hn3, by simpa [upd] using f0, by simpa [upd] using f1, by simpa [upd] using f6, by simpa [upd] using f8, h2, by simpa [upd] using d0, by simpa [upd] using d1, by simpa [upd] using d2, by simpa [upd] using d3, by simpa [upd] using d4, by simpa [upd] using d5, by simpa [upd] using d6, by simpa [upd] using d7, by simp [upd], by simpa [upd] using d9, by simpa using hA, by simpa using hB⟩
              · simp only [go_sem, ↓reduceIte, reduceCtorEq, reduceAdd, reduceMul, reduceEqDiff, reduceLT, reduceLeDiff, reduceSub, reduceDiv, Nat.reduceBEq, Int.reduceBEq, reduceBNe, Int.reduceLT, reduceLE, reduceEq, d8 (by simp [hr])]
                exact ⟨hn3, by simpa [upd] using f0, by simpa [upd] using f1, by simpa [upd] using f6, by simpa [upd] using f8, h2, by simpa [upd] using d0, by simpa [upd] using d1, by simpa [upd] using d2, by simpa [upd] using d3, by simpa [upd] using d4, by simpa [upd] using d5, by simpa [upd] using d6, by simpa [upd] using d7, by simpa [upd] using d8, by simp [upd], by simpa using hA, by simpa using hB⟩
            · rintro ⟨fr, hp, nx⟩ D hD ⟨hn3, f0, f1, f6, f8, h2, d0, d1, d2, d3, d4, d5, d6, d7, d8, d9, hA, hB⟩
              obtain ⟨e', he0, he2, hp0, hp1⟩ := hB (hD 6)
              have d9 := d9 (hD 9)
              simp only at f0 f1 f6 d9 hp0 hp1
              repeat (first | refine Kq_norm_code ?_ | refine Kq_norm_blk ?_ | refine Kq_norm_lp ?_)
              refine AW.ent (fun i => if i = 1 then e' else i) (σ' := mkSt [(0, .ptr 0 0), (1, .sl (B.map Bk.av)), (5, AV.i v), (6, AV.i m)] [(0, .cells (rcs s1.next 1)), (1, .row 9 (evs s1.next.ev))] 2) (ent_mk (by simp [go_sem, f0, f1, f6, d9]) (by simp [go_sem, rcs, hp0, hp1]) (by simp [he0, Ne.symm he0]) (by simp [hN])) ?_
              unfold rcs
              repeat' (first | apply w1 | apply w2 | apply w3 | apply w4 | apply w5 | apply w6 | apply w7 | refine Kq_exit_ne (by decide) ?_ | apply w8 | apply w9 | apply w0 | rw [wrap64 (by omega) (by omega)] | ((first | refine hK _ ?_ | refine hKp _ _ ?_); clear hK hKp K Kp; try clear hanc anc) | ((with_reducible refine And.intro ?_ ?_); (focus (first | trivial | omega | (simp only [Fits]; omega) | assumption | (rw [hanc]; rfl)))) | ((first | refine K_regA hE fun K Kp hK hKp => ?_ | refine K_drwA true mixed hE fun K Kp hK hKp anc hanc => ?_ | refine K_drwA false mixed hE fun K Kp hK hKp anc hanc => ?_); simp only [go_sem, ↓reduceIte, reduceCtorEq, reduceAdd, reduceMul, reduceEqDiff, reduceLT, reduceLeDiff, reduceSub, reduceDiv, Nat.reduceBEq, Int.reduceBEq, reduceBNe, Int.reduceLT, reduceLE, reduceEq]) | ((first | refine onG_split_t (fun hg => ?_) (fun hg => ?_) | refine onG_split_f (fun hg => ?_) (fun hg => ?_)) <;> simp only [go_sem, ↓reduceIte, reduceCtorEq, reduceAdd, reduceMul, reduceEqDiff, reduceLT, reduceLeDiff, reduceSub, reduceDiv, Nat.reduceBEq, Int.reduceBEq, reduceBNe, Int.reduceLT, reduceLE, reduceEq, hg]) | (refine K_condA (fun hc => ?_) (fun hc => ?_) <;> try (exact absurd hc (by decide))))
              exact ⟨(m + 1, v, s1.next), ⟨by simp only; omega, by simp only; omega, hs2, hf3⟩, by simp only; omega, fun i => i, by refine ent_mk (by simp [go_sem, rcs]) (by simp [go_sem, rcs]) (by simp) (by simp [hN])⟩
          · have hcl := note_rc (.mark x.kind x.a) u (by omega)
            rw [hk] at hcl hf2
            rw [if_neg (by decide), if_pos (by decide)] at hf2
            unfold Ev.av at hcl
            have q0 : ((x.tg.length : Int) == 0) = false := by simp; intro e; rw [e] at hn; simp at hn
            repeat' (first | apply w1 | apply w2 | apply w3 | apply w4 | apply w5 | apply w6 | apply w7 | refine Kq_exit_ne (by decide) ?_ | apply w8 | apply w9 | apply w0 | rw [wrap64 (by omega) (by omega)] | ((first | refine hK _ ?_ | refine hKp _ _ ?_); clear hK hKp K Kp; try clear hanc anc) | ((with_reducible refine And.intro ?_ ?_); (focus (first | trivial | omega | (simp only [Fits]; omega) | assumption | (rw [hanc]; rfl)))) | ((first | refine K_regA hE fun K Kp hK hKp => ?_ | refine K_drwA true mixed hE fun K Kp hK hKp anc hanc => ?_ | refine K_drwA false mixed hE fun K Kp hK hKp anc hanc => ?_); simp only [go_sem, ↓reduceIte, reduceCtorEq, reduceAdd, reduceMul, reduceEqDiff, reduceLT, reduceLeDiff, reduceSub, reduceDiv, Nat.reduceBEq, Int.reduceBEq, reduceBNe, Int.reduceLT, reduceLE, reduceEq, ge_dec, huv, hx, Bk.av, hk, q0]) | ((first | refine onG_split_t (fun hg => ?_) (fun hg => ?_) | refine onG_split_f (fun hg => ?_) (fun hg => ?_)) <;> simp only [go_sem, ↓reduceIte, reduceCtorEq, reduceAdd, reduceMul, reduceEqDiff, reduceLT, reduceLeDiff, reduceSub, reduceDiv, Nat.reduceBEq, Int.reduceBEq, reduceBNe, Int.reduceLT, reduceLE, reduceEq, ge_dec, huv, hx, Bk.av, hk, q0, hg]) | (refine K_condA (fun hc => ?_) (fun hc => ?_) <;> try (exact absurd hc (by decide))))
            refine Hold.mk (RCall.use (hcl) rfl (A := 0) (e := 1) (by decide) (by first | rfl | (simp [go_sem, rcs, huv, hx, hk, Bk.av, q0]; done)) (by first | rfl | (simp [go_sem, huv, hx, hk, Bk.av, q0]; done)) ?_)
            rintro r s' ⟨fr', hp', nx'⟩ e' he' hse _ hnx hfr hp0 hp1 hold
            simp only at he' hnx hfr hp0 hp1 hold
            have hne0 : e' ≠ 0 := by omega
            have hne2 : e' ≠ 2 := by omega
            subst hnx hfr
            simp only [go_sem, ↓reduceIte, reduceCtorEq, reduceAdd, reduceMul, reduceEqDiff, reduceLT, reduceLeDiff, reduceSub, reduceDiv, Nat.reduceBEq, Int.reduceBEq, reduceBNe, Int.reduceLT, reduceLE, reduceEq, huv, hx, hk, Bk.av, q0]
            refine hK _ ?_; clear hK hKp K Kp; try clear hanc anc
            repeat (first | refine Kq_norm_code ?_ | refine Kq_norm_blk ?_ | refine Kq_norm_lp ?_)
            have hpB := hold 25165826 (.cells [.i 3, .i x.a, .sl (x.tg.map AV.i)]) (by simp [go_sem]) (by decide) (by decide)
            have hneB : e' ≠ 25165826 := by omega
            refine AW.ent (fun i => if i = 1 then e' else if i = 2 then 25165826 else i) (σ' := mkSt [(0, .ptr 0 0), (1, .sl (B.map Bk.av)), (6, AV.i m), (8, .ptr 2 0)] [(0, .cells (rcs s' 1)), (1, .row 9 (evs s'.ev)), (2, .cells [.i 3, .i x.a, .sl (x.tg.map AV.i)])] 3) (ent_mk (by simp [go_sem]) (by simp [go_sem, rcs, hp0, hp1, hpB]) (by simp [hne0, hneB, Ne.symm hne0, Ne.symm hneB]) (by simp [hN])) ?_
            have hs1 := hu.note huv (.mark 3 x.a)
            have hs2 := hu.noteNext huv (.mark 3 x.a)
            have htl : 0 < x.tg.length := by omega
            have hch := choose_rc x.tg.length (u.note (.mark 3 x.a)) ⟨htl, hxo.2.1⟩ (by have := hs1.1.1.1; have := hs1.1.2.1; omega) hs1.1.2.2.2 hs1.1.2.2.1
            have hpk := (u.note (.mark 3 x.a)).pick_lt (n := x.tg.length) htl
            obtain ⟨w, hpp⟩ := get?_of hpk
            obtain ⟨v1, v2, _⟩ := htg w (List.mem_of_getElem? hpp)
            obtain ⟨v, rfl⟩ := Int.eq_ofNat_of_zero_le (show 0 ≤ w by omega)
            have hf3 : fol B (2000 - (m + 1)) v (u.note (.mark 3 x.a)).next = fol B 2000 0 s := by
              rw [← hf2, show 2000 - (m + 1) = 1999 - m by omega, List.getD_eq_getElem?_getD, hpp]; rfl
            subst hse
            generalize u.note (.mark 3 x.a) = s1 at *
            unfold rcs
            repeat' (first | apply w1 | apply w2 | apply w3 | apply w4 | apply w5 | apply w6 | apply w7 | refine Kq_exit_ne (by decide) ?_ | apply w8 | apply w9 | apply w0 | rw [wrap64 (by omega) (by omega)] | ((first | refine hK _ ?_ | refine hKp _ _ ?_); clear hK hKp K Kp; try clear hanc anc) | ((with_reducible refine And.intro ?_ ?_); (focus (first | trivial | omega | (simp only [Fits]; omega) | assumption | (rw [hanc]; rfl)))) | ((first | refine K_regA hE fun K Kp hK hKp => ?_); simp only [go_sem, ↓reduceIte, reduceCtorEq, reduceAdd, reduceMul, reduceEqDiff, reduceLT, reduceLeDiff, reduceSub, reduceDiv, Nat.reduceBEq, Int.reduceBEq, reduceBNe, Int.reduceLT, reduceLE, reduceEq]) | ((first | refine onG_split_t (fun hg => ?_) (fun hg => ?_) | refine onG_split_f (fun hg => ?_) (fun hg => ?_)) <;> simp only [go_sem, ↓reduceIte, reduceCtorEq, reduceAdd, reduceMul, reduceEqDiff, reduceLT, reduceLeDiff, reduceSub, reduceDiv, Nat.reduceBEq, Int.reduceBEq, reduceBNe, Int.reduceLT, reduceLE, reduceEq, hg]) | (refine K_condA (fun hc => ?_) (fun hc => ?_) <;> try (exact absurd hc (by decide))) | (refine K_ret ?_; refine (hQ _ ⟨_, by (try simp only [go_sem, ↓reduceIte, Nat.reduceEqDiff]); rfl, by simp [go_sem], ?_, by first | rfl | assumption⟩).1))
            refine K_inv (n := 10) (I5 B s1 3 x.a x.tg m v) mixed hE ?_ ?_ (fun Kp hKp => ?_) ?_ rfl
            · intro D D' σ h
              have := fun j => (h j).symm
              unfold I5
              simp only [this]
              exact fun h => h
            · simp [I5, go_sem, rcs]
            · refine ⟨?_, ?_, ?_, ?_, ?_, ?_, ?_, ?_, ?_, ?_, trivial⟩
              all_goals rintro D ⟨fr, hp, nx⟩ hD hr ⟨hn3, f0, f1, f6, f8, h2, d0, d1, d2, d3, d4, d5, d6, d7, d8, d9, hA, hB⟩
              all_goals simp [Region.binds] at hn3 f0 f1 f6 f8 h2 d0 d1 d2 d3 d4 d5 d6 d7 d8 d9 hA hD hr
              all_goals try clear hQ hold hpB hp0 hp1
              · simp only [go_sem, ↓reduceIte, reduceCtorEq, reduceAdd, reduceMul, reduceEqDiff, reduceLT, reduceLeDiff, reduceSub, reduceDiv, Nat.reduceBEq, Int.reduceBEq, reduceBNe, Int.reduceLT, reduceLE, reduceEq, f8]
                exact ⟨hn3, by simpa [upd] using f0, by simpa [upd] using f1, by simpa [upd] using f6, by simpa [upd] using f8, h2, by simp [upd], by simpa [upd] using d1, by simpa [upd] using d2, by simpa [upd] using d3, by simpa [upd] using d4, by simpa [upd] using d5, by simpa [upd] using d6, by simpa [upd] using d7, by simpa [upd] using d8, by simpa [upd] using d9, by simpa using hA, by simpa using hB⟩
              · simp only [go_sem, ↓reduceIte, reduceCtorEq, reduceAdd, reduceMul, reduceEqDiff, reduceLT, reduceLeDiff, reduceSub, reduceDiv, Nat.reduceBEq, Int.reduceBEq, reduceBNe, Int.reduceLT, reduceLE, reduceEq, d0 hr, h2]
                exact ⟨hn3, by simpa [upd] using f0, by simpa [upd] using f1, by simpa [upd] using f6, by simpa [upd] using f8, h2, by simpa [upd] using d0, by simp [upd], by simpa [upd] using d2, by simpa [upd] using d3, by simpa [upd] using d4, by simpa [upd] using d5, by simpa [upd] using d6, by simpa [upd] using d7, by simpa [upd] using d8, by simpa [upd] using d9, by simpa using hA, by simpa using hB⟩
              · simp only [go_sem, ↓reduceIte, reduceCtorEq, reduceAdd, reduceMul, reduceEqDiff, reduceLT, reduceLeDiff, reduceSub, reduceDiv, Nat.reduceBEq, Int.reduceBEq, reduceBNe, Int.reduceLT, reduceLE, reduceEq, f0]
                exact ⟨hn3, by simpa [upd] using f0, by simpa [upd] using f1, by simpa [upd] using f6, by simpa [upd] using f8, h2, by simpa [upd] using d0, by simpa [upd] using d1, by simp [upd], by simpa [upd] using d3, by simpa [upd] using d4, by simpa [upd] using d5, by simpa [upd] using d6, by simpa [upd] using d7, by simpa [upd] using d8, by simpa [upd] using d9, by simpa using hA, by simpa using hB⟩
              · simp only [go_sem, ↓reduceIte, reduceCtorEq, reduceAdd, reduceMul, reduceEqDiff, reduceLT, reduceLeDiff, reduceSub, reduceDiv, Nat.reduceBEq, Int.reduceBEq, reduceBNe, Int.reduceLT, reduceLE, reduceEq, f8]
                exact ⟨hn3, by simpa [upd] using f0, by simpa [upd] using f1, by simpa [upd] using f6, by simpa [upd] using f8, h2, by simpa [upd] using d0, by simpa [upd] using d1, by simpa [upd] using d2, by simp [upd], by simpa [upd] using d4, by simpa [upd] using d5, by simpa [upd] using d6, by simpa [upd] using d7, by simpa [upd] using d8, by simpa [upd] using d9, by simpa using hA, by simpa using hB⟩
              · simp only [go_sem, ↓reduceIte, reduceCtorEq, reduceAdd, reduceMul, reduceEqDiff, reduceLT, reduceLeDiff, reduceSub, reduceDiv, Nat.reduceBEq, Int.reduceBEq, reduceBNe, Int.reduceLT, reduceLE, reduceEq, d3 hr, h2]
                exact ⟨hn3, by simpa [upd] using f0, by simpa [upd] using f1, by simpa [upd] using f6, by simpa [upd] using f8, h2, by simpa [upd] using d0, by simpa [upd] using d1, by simpa [upd] using d2, by simpa [upd] using d3, by simp [upd], by simpa [upd] using d5, by simpa [upd] using d6, by simpa [upd] using d7, by simpa [upd] using d8, by simpa [upd] using d9, by simpa using hA, by simpa using hB⟩
              · simp only [go_sem, ↓reduceIte, reduceCtorEq, reduceAdd, reduceMul, reduceEqDiff, reduceLT, reduceLeDiff, reduceSub, reduceDiv, Nat.reduceBEq, Int.reduceBEq, reduceBNe, Int.reduceLT, reduceLE, reduceEq, d4 hr]
                exact ⟨hn3, by simpa [upd] using f0, by simpa [upd] using f1, by simpa [upd] using f6, by simpa [upd] using f8, h2, by simpa [upd] using d0, by simpa [upd] using d1, by simpa [upd] using d2, by simpa [upd] using d3, by simpa [upd] using d4, by simp [upd], by simpa [upd] using d6, by simpa [upd] using d7, by simpa [upd] using d8, by simpa [upd] using d9, by simpa using hA, by simpa using hB⟩
              · obtain ⟨h0, h1⟩ := hA hD
                simp only [go_sem, ↓reduceIte, reduceCtorEq, reduceAdd, reduceMul, reduceEqDiff, reduceLT, reduceLeDiff, reduceSub, reduceDiv, Nat.reduceBEq, Int.reduceBEq, reduceBNe, Int.reduceLT, reduceLE, reduceEq, d2 hr.1, d5 hr.2]
                refine Hold.mk (RCall.use hch rfl (A := 0) (e := 1) (by decide) h0 h1 ?_)
                rintro r s' ⟨fr', hp', nx'⟩ e' he' ⟨rfl, hse⟩ _ hnx hfr hp0 hp1 hold
                simp only at he' hnx hfr hp0 hp1 hold
                subst hnx hfr hse
                simp only [go_sem, ↓reduceIte, reduceCtorEq, reduceAdd, reduceMul, reduceEqDiff, reduceLT, reduceLeDiff, reduceSub, reduceDiv, Nat.reduceBEq, Int.reduceBEq, reduceBNe, Int.reduceLT, reduceLE, reduceEq]
                exact ⟨hn3, by simpa [upd] using f0, by simpa [upd] using f1, by simpa [upd] using f6, by simpa [upd] using f8, hold 2 _ h2 (by decide) (by decide), by simpa [upd] using d0, by simpa [upd] using d1, by simpa [upd] using d2, by simpa [upd] using d3, by simpa [upd] using d4, by simpa [upd] using d5, by simp [upd], by simpa [upd] using d7, by simpa [upd] using d8, by simpa [upd] using d9, fun h => by simp at h, fun _ => ⟨e', by omega, by omega, hp0, hp1⟩⟩
              · simp only [go_sem, ↓reduceIte, reduceCtorEq, reduceAdd, reduceMul, reduceEqDiff, reduceLT, reduceLeDiff, reduceSub, reduceDiv, Nat.reduceBEq, Int.reduceBEq, reduceBNe, Int.reduceLT, reduceLE, reduceEq, d1 hr.1, d6 hr.2, hpp]
                refine ⟨by omega, ?_⟩
                exact ⟨hn3, by simpa [upd] using f0, by simpa [upd] using f1, by simpa [upd] using f6, by simpa [upd] using f8, h2, by simpa [upd] using d0, by simpa [upd] using d1, by simpa [upd] using d2, by simpa [upd] using d3, by simpa [upd] using d4, by simpa [upd] using d5, by simpa [upd] using d6, by simp [upd], by simpa [upd] using d8, by simpa [upd] using d9, by simpa using hA, by simpa using hB⟩
              · simp only [go_sem, ↓reduceIte, reduceCtorEq, reduceAdd, reduceMul, reduceEqDiff, reduceLT, reduceLeDiff, reduceSub, reduceDiv, Nat.reduceBEq, Int.reduceBEq, reduceBNe, Int.reduceLT, reduceLE, reduceEq, d7 hr]
                exact ⟨hn3, by simpa [upd] using f0, by simpa [upd] using f1, by simpa [upd] using f6, by simpa [upd] using f8, h2, by simpa [upd] using d0, by simpa [upd] using d1, by simpa [upd] using d2, by simpa [upd] using d3, by simpa [upd] using d4, by simpa [upd] using d5, by simpa [upd] using d6, by simpa [upd] using d7, by simp [upd], by simpa [upd] using d9, by simpa using hA, by simpa using hB⟩
              · simp only [go_sem, ↓reduceIte, reduceCtorEq, reduceAdd, reduceMul, reduceEqDiff, reduceLT, reduceLeDiff, reduceSub, reduceDiv, Nat.reduceBEq, Int.reduceBEq, reduceBNe, Int.reduceLT, reduceLE, reduceEq, d8 (by simp [hr])]
                exact ⟨hn3, by simpa [upd] using f0, by simpa [upd] using f1, by simpa [upd] using f6, by simpa [upd] using f8, h2, by simpa [upd] using d0, by simpa [upd] using d1, by simpa [upd] using d2, by simpa [upd] using d3, by simpa [upd] using d4, by simpa [upd] using d5, by simpa [upd] using d6, by simpa [upd] using d7, by simpa [upd] using d8, by simp [upd], by simpa using hA, by simpa using hB⟩
            · rintro ⟨fr, hp, nx⟩ D hD ⟨hn3, f0, f1, f6, f8, h2, d0, d1, d2, d3, d4, d5, d6, d7, d8, d9, hA, hB⟩
              obtain ⟨e', he0, he2, hp0, hp1⟩ := hB (hD 6)
              have d9 := d9 (hD 9)
              simp only at f0 f1 f6 d9 hp0 hp1
              repeat (first | refine Kq_norm_code ?_ | refine Kq_norm_blk ?_ | refine Kq_norm_lp ?_)
              refine AW.ent (fun i => if i = 1 then e' else i) (σ' := mkSt [(0, .ptr 0 0), (1, .sl (B.map Bk.av)), (5, AV.i v), (6, AV.i m)] [(0, .cells (rcs s1.next 1)), (1, .row 9 (evs s1.next.ev))] 2) (ent_mk (by simp [go_sem, f0, f1, f6, d9]) (by simp [go_sem, rcs, hp0, hp1]) (by simp [he0, Ne.symm he0]) (by simp [hN])) ?_
              unfold rcs
              repeat' (first | apply w1 | apply w2 | apply w3 | apply w4 | apply w5 | apply w6 | apply w7 | refine Kq_exit_ne (by decide) ?_ | apply w8 | apply w9 | apply w0 | rw [wrap64 (by omega) (by omega)] | ((first | refine hK _ ?_ | refine hKp _ _ ?_); clear hK hKp K Kp; try clear hanc anc) | ((with_reducible refine And.intro ?_ ?_); (focus (first | trivial | omega | (simp only [Fits]; omega) | assumption | (rw [hanc]; rfl)))) | ((first | refine K_regA hE fun K Kp hK hKp => ?_ | refine K_drwA true mixed hE fun K Kp hK hKp anc hanc => ?_ | refine K_drwA false mixed hE fun K Kp hK hKp anc hanc => ?_); simp only [go_sem, ↓reduceIte, reduceCtorEq, reduceAdd, reduceMul, reduceEqDiff, reduceLT, reduceLeDiff, reduceSub, reduceDiv, Nat.reduceBEq, Int.reduceBEq, reduceBNe, Int.reduceLT, reduceLE, reduceEq]) | ((first | refine onG_split_t (fun hg => ?_) (fun hg => ?_) | refine onG_split_f (fun hg => ?_) (fun hg => ?_)) <;> simp only [go_sem, ↓reduceIte, reduceCtorEq, reduceAdd, reduceMul, reduceEqDiff, reduceLT, reduceLeDiff, reduceSub, reduceDiv, Nat.reduceBEq, Int.reduceBEq, reduceBNe, Int.reduceLT, reduceLE, reduceEq, hg]) | (refine K_condA (fun hc => ?_) (fun hc => ?_) <;> try (exact absurd hc (by decide))))
              exact ⟨(m + 1, v, s1.next), ⟨by simp only; omega, by simp only; omega, hs2, hf3⟩, by simp only; omega, fun i => i, by refine ent_mk (by simp [go_sem, rcs]) (by simp [go_sem, rcs]) (by simp) (by simp [hN])⟩
          · have hcl := note_rc (.mark x.kind x.a) u (by omega)
            rw [hk] at hcl hf2
            rw [if_neg (by decide), if_neg (by decide)] at hf2
            unfold Ev.av at hcl
            repeat' (first | apply w1 | apply w2 | apply w3 | apply w4 | apply w5 | apply w6 | apply w7 | refine Kq_exit_ne (by decide) ?_ | apply w8 | apply w9 | apply w0 | rw [wrap64 (by omega) (by omega)] | ((first | refine hK _ ?_ | refine hKp _ _ ?_); clear hK hKp K Kp; try clear hanc anc) | ((with_reducible refine And.intro ?_ ?_); (focus (first | trivial | omega | (simp only [Fits]; omega) | assumption | (rw [hanc]; rfl)))) | ((first | refine K_regA hE fun K Kp hK hKp => ?_ | refine K_drwA true mixed hE fun K Kp hK hKp anc hanc => ?_ | refine K_drwA false mixed hE fun K Kp hK hKp anc hanc => ?_); simp only [go_sem, ↓reduceIte, reduceCtorEq, reduceAdd, reduceMul, reduceEqDiff, reduceLT, reduceLeDiff, reduceSub, reduceDiv, Nat.reduceBEq, Int.reduceBEq, reduceBNe, Int.reduceLT, reduceLE, reduceEq, ge_dec, huv, hx, Bk.av, hk]) | ((first | refine onG_split_t (fun hg => ?_) (fun hg => ?_) | refine onG_split_f (fun hg => ?_) (fun hg => ?_)) <;> simp only [go_sem, ↓reduceIte, reduceCtorEq, reduceAdd, reduceMul, reduceEqDiff, reduceLT, reduceLeDiff, reduceSub, reduceDiv, Nat.reduceBEq, Int.reduceBEq, reduceBNe, Int.reduceLT, reduceLE, reduceEq, ge_dec, huv, hx, Bk.av, hk, hg]) | (refine K_condA (fun hc => ?_) (fun hc => ?_) <;> try (exact absurd hc (by decide))))
            refine Hold.mk (RCall.use (hcl) rfl (A := 0) (e := 1) (by decide) (by first | rfl | (simp [go_sem, rcs, huv, hx, hk, Bk.av]; done)) (by first | rfl | (simp [go_sem, huv, hx, hk, Bk.av]; done)) ?_)
            rintro r s' ⟨fr', hp', nx'⟩ e' he' hse _ hnx hfr hp0 hp1 hold
            simp only at he' hnx hfr hp0 hp1 hold
            have hne0 : e' ≠ 0 := by omega
            have hne2 : e' ≠ 2 := by omega
            subst hnx hfr
            simp only [go_sem, ↓reduceIte, reduceCtorEq, reduceAdd, reduceMul, reduceEqDiff, reduceLT, reduceLeDiff, reduceSub, reduceDiv, Nat.reduceBEq, Int.reduceBEq, reduceBNe, Int.reduceLT, reduceLE, reduceEq, huv, hx, hk, Bk.av]
            refine hK _ ?_; clear hK hKp K Kp; try clear hanc anc
            repeat (first | refine Kq_norm_code ?_ | refine Kq_norm_blk ?_ | refine Kq_norm_lp ?_)
            refine AW.entR _ hp1 (σ' := mkSt [(0, .ptr 0 0), (1, .sl (B.map Bk.av)), (5, AV.i b), (6, AV.i m)] [(0, .cells (rcs s' 1)), (1, .row 9 (evs s'.ev))] 2) (ent_mk (by simp [go_sem]) (by simp [go_sem, rcs, hp0, hp1, huv, hx, hk, Bk.av]) (by simp [hne0, hne2, Ne.symm hne0, Ne.symm hne2]) (by simp [hN])) ?_
            subst hse
            unfold rcs
            repeat' (first | apply w1 | apply w2 | apply w3 | apply w4 | apply w5 | apply w6 | apply w7 | refine Kq_exit_ne (by decide) ?_ | apply w8 | apply w9 | apply w0 | rw [wrap64 (by omega) (by omega)] | ((first | refine hK _ ?_ | refine hKp _ _ ?_); clear hK hKp K Kp; try clear hanc anc) | ((with_reducible refine And.intro ?_ ?_); (focus (first | trivial | omega | (simp only [Fits]; omega) | assumption | (rw [hanc]; rfl)))) | ((first | refine K_regA hE fun K Kp hK hKp => ?_ | refine K_drwA true mixed hE fun K Kp hK hKp anc hanc => ?_ | refine K_drwA false mixed hE fun K Kp hK hKp anc hanc => ?_); simp only [go_sem, ↓reduceIte, reduceCtorEq, reduceAdd, reduceMul, reduceEqDiff, reduceLT, reduceLeDiff, reduceSub, reduceDiv, Nat.reduceBEq, Int.reduceBEq, reduceBNe, Int.reduceLT, reduceLE, reduceEq]) | ((first | refine onG_split_t (fun hg => ?_) (fun hg => ?_) | refine onG_split_f (fun hg => ?_) (fun hg => ?_)) <;> simp only [go_sem, ↓reduceIte, reduceCtorEq, reduceAdd, reduceMul, reduceEqDiff, reduceLT, reduceLeDiff, reduceSub, reduceDiv, Nat.reduceBEq, Int.reduceBEq, reduceBNe, Int.reduceLT, reduceLE, reduceEq, hg]) | (refine K_condA (fun hc => ?_) (fun hc => ?_) <;> try (exact absurd hc (by decide))))
            exact ⟨(m + 1, b, (u.note (.mark 4 x.a)).over), ⟨by simp only; omega, by simp only; omega, (hu.note huv _).1.over, by simp only; rw [fol_ov rfl]; exact hf2⟩, by simp only; omega, fun i => i, by refine ent_mk (by simp [go_sem, rcs, RS.over]) (by simp [go_sem, rcs, RS.over]) (by simp) (by simp [hN])⟩
          · have hcl := note_rc (.mark x.kind x.a) u (by omega)
            rw [hk] at hcl hf2
            rw [if_neg (by decide), if_neg (by decide)] at hf2
            unfold Ev.av at hcl
            repeat' (first | apply w1 | apply w2 | apply w3 | apply w4 | apply w5 | apply w6 | apply w7 | refine Kq_exit_ne (by decide) ?_ | apply w8 | apply w9 | apply w0 | rw [wrap64 (by omega) (by omega)] | ((first | refine hK _ ?_ | refine hKp _ _ ?_); clear hK hKp K Kp; try clear hanc anc) | ((with_reducible refine And.intro ?_ ?_); (focus (first | trivial | omega | (simp only [Fits]; omega) | assumption | (rw [hanc]; rfl)))) | ((first | refine K_regA hE fun K Kp hK hKp => ?_ | refine K_drwA true mixed hE fun K Kp hK hKp anc hanc => ?_ | refine K_drwA false mixed hE fun K Kp hK hKp anc hanc => ?_); simp only [go_sem, ↓reduceIte, reduceCtorEq, reduceAdd, reduceMul, reduceEqDiff, reduceLT, reduceLeDiff, reduceSub, reduceDiv, Nat.reduceBEq, Int.reduceBEq, reduceBNe, Int.reduceLT, reduceLE, reduceEq, ge_dec, huv, hx, Bk.av, hk]) | ((first | refine onG_split_t (fun hg => ?_) (fun hg => ?_) | refine onG_split_f (fun hg => ?_) (fun hg => ?_)) <;> simp only [go_sem, ↓reduceIte, reduceCtorEq, reduceAdd, reduceMul, reduceEqDiff, reduceLT, reduceLeDiff, reduceSub, reduceDiv, Nat.reduceBEq, Int.reduceBEq, reduceBNe, Int.reduceLT, reduceLE, reduceEq, ge_dec, huv, hx, Bk.av, hk, hg]) | (refine K_condA (fun hc => ?_) (fun hc => ?_) <;> try (exact absurd hc (by decide))))
            refine Hold.mk (RCall.use (hcl) rfl (A := 0) (e := 1) (by decide) (by first | rfl | (simp [go_sem, rcs, huv, hx, hk, Bk.av]; done)) (by first | rfl | (simp [go_sem, huv, hx, hk, Bk.av]; done)) ?_)
            rintro r s' ⟨fr', hp', nx'⟩ e' he' hse _ hnx hfr hp0 hp1 hold
            simp only at he' hnx hfr hp0 hp1 hold
            have hne0 : e' ≠ 0 := by omega
            have hne2 : e' ≠ 2 := by omega
            subst hnx hfr
            simp only [go_sem, ↓reduceIte, reduceCtorEq, reduceAdd, reduceMul, reduceEqDiff, reduceLT, reduceLeDiff, reduceSub, reduceDiv, Nat.reduceBEq, Int.reduceBEq, reduceBNe, Int.reduceLT, reduceLE, reduceEq, huv, hx, hk, Bk.av]
            refine hK _ ?_; clear hK hKp K Kp; try clear hanc anc
            repeat (first | refine Kq_norm_code ?_ | refine Kq_norm_blk ?_ | refine Kq_norm_lp ?_)
            refine AW.entR _ hp1 (σ' := mkSt [(0, .ptr 0 0), (1, .sl (B.map Bk.av)), (5, AV.i b), (6, AV.i m)] [(0, .cells (rcs s' 1)), (1, .row 9 (evs s'.ev))] 2) (ent_mk (by simp [go_sem]) (by simp [go_sem, rcs, hp0, hp1, huv, hx, hk, Bk.av]) (by simp [hne0, hne2, Ne.symm hne0, Ne.symm hne2]) (by simp [hN])) ?_
            subst hse
            unfold rcs
            repeat' (first | apply w1 | apply w2 | apply w3 | apply w4 | apply w5 | apply w6 | apply w7 | refine Kq_exit_ne (by decide) ?_ | apply w8 | apply w9 | apply w0 | rw [wrap64 (by omega) (by omega)] | ((first | refine hK _ ?_ | refine hKp _ _ ?_); clear hK hKp K Kp; try clear hanc anc) | ((with_reducible refine And.intro ?_ ?_); (focus (first | trivial | omega | (simp only [Fits]; omega) | assumption | (rw [hanc]; rfl)))) | ((first | refine K_regA hE fun K Kp hK hKp => ?_ | refine K_drwA true mixed hE fun K Kp hK hKp anc hanc => ?_ | refine K_drwA false mixed hE fun K Kp hK hKp anc hanc => ?_); simp only [go_sem, ↓reduceIte, reduceCtorEq, reduceAdd, reduceMul, reduceEqDiff, reduceLT, reduceLeDiff, reduceSub, reduceDiv, Nat.reduceBEq, Int.reduceBEq, reduceBNe, Int.reduceLT, reduceLE, reduceEq]) | ((first | refine onG_split_t (fun hg => ?_) (fun hg => ?_) | refine onG_split_f (fun hg => ?_) (fun hg => ?_)) <;> simp only [go_sem, ↓reduceIte, reduceCtorEq, reduceAdd, reduceMul, reduceEqDiff, reduceLT, reduceLeDiff, reduceSub, reduceDiv, Nat.reduceBEq, Int.reduceBEq, reduceBNe, Int.reduceLT, reduceLE, reduceEq, hg]) | (refine K_condA (fun hc => ?_) (fun hc => ?_) <;> try (exact absurd hc (by decide))))
            exact ⟨(m + 1, b, (u.note (.mark 5 x.a)).over), ⟨by simp only; omega, by simp only; omega, (hu.note huv _).1.over, by simp only; rw [fol_ov rfl]; exact hf2⟩, by simp only; omega, fun i => i, by refine ent_mk (by simp [go_sem, rcs, RS.over]) (by simp [go_sem, rcs, RS.over]) (by simp) (by simp [hN])⟩
        · repeat' (first | apply w1 | apply w2 | apply w3 | apply w4 | apply w5 | apply w6 | apply w7 | refine Kq_exit_ne (by decide) ?_ | apply w8 | apply w9 | apply w0 | rw [wrap64 (by omega) (by omega)] | ((first | refine hK _ ?_ | refine hKp _ _ ?_); clear hK hKp K Kp; try clear hanc anc) | ((with_reducible refine And.intro ?_ ?_); (focus (first | trivial | omega | (simp only [Fits]; omega) | assumption | (rw [hanc]; rfl)))) | ((first | refine K_regA hE fun K Kp hK hKp => ?_ | refine K_drwA true mixed hE fun K Kp hK hKp anc hanc => ?_ | refine K_drwA false mixed hE fun K Kp hK hKp anc hanc => ?_); simp only [go_sem, ↓reduceIte, reduceCtorEq, reduceAdd, reduceMul, reduceEqDiff, reduceLT, reduceLeDiff, reduceSub, reduceDiv, Nat.reduceBEq, Int.reduceBEq, reduceBNe, Int.reduceLT, reduceLE, reduceEq, ge_dec, huv, hx, Bk.av]) | ((first | refine onG_split_t (fun hg => ?_) (fun hg => ?_) | refine onG_split_f (fun hg => ?_) (fun hg => ?_)) <;> simp only [go_sem, ↓reduceIte, reduceCtorEq, reduceAdd, reduceMul, reduceEqDiff, reduceLT, reduceLeDiff, reduceSub, reduceDiv, Nat.reduceBEq, Int.reduceBEq, reduceBNe, Int.reduceLT, reduceLE, reduceEq, ge_dec, huv, hx, Bk.av, hg]) | (refine K_condA (fun hc => ?_) (fun hc => ?_) <;> try (exact absurd hc (by decide))))
          refine K_ret (hQ _ (.bool true) u 1 (by simp only [go_sem, ↓reduceIte, reduceCtorEq, reduceAdd, reduceMul, reduceEqDiff, reduceLT, reduceLeDiff, reduceSub, reduceDiv, Nat.reduceBEq, Int.reduceBEq, reduceBNe, Int.reduceLT, reduceLE, reduceEq]; rfl) ⟨rfl, ?_⟩ rfl (by decide) ?_ ?_).1
          · rw [← hf, hcr]
            unfold blkRun
            simp only [hx, List.drop_zero]
            rw [if_pos (by rw [← hcr]; exact huv)]
          · simp [go_sem, rcs, huv]
          · simp [go_sem]
    · obtain rfl : m = 2000 := by omega
      have q0 : decide (((2000 : Nat) : Int) < 2000) = false := by simp
      repeat' (first | apply w1 | apply w2 | apply w3 | apply w4 | apply w5 | apply w6 | apply w7 | refine Kq_exit_ne (by decide) ?_ | apply w8 | apply w9 | apply w0 | rw [wrap64 (by omega) (by omega)] | ((first | refine hK _ ?_ | refine hKp _ _ ?_); clear hK hKp K Kp; try clear hanc anc) | ((with_reducible refine And.intro ?_ ?_); (focus (first | trivial | omega | (simp only [Fits]; omega) | assumption | (rw [hanc]; rfl)))) | ((first | refine K_regA hE fun K Kp hK hKp => ?_ | refine K_drwA true mixed hE fun K Kp hK hKp anc hanc => ?_ | refine K_drwA false mixed hE fun K Kp hK hKp anc hanc => ?_); simp only [go_sem, ↓reduceIte, reduceCtorEq, reduceAdd, reduceMul, reduceEqDiff, reduceLT, reduceLeDiff, reduceSub, reduceDiv, Nat.reduceBEq, Int.reduceBEq, reduceBNe, Int.reduceLT, reduceLE, reduceEq, hov, q0]) | ((first | refine onG_split_t (fun hg => ?_) (fun hg => ?_) | refine onG_split_f (fun hg => ?_) (fun hg => ?_)) <;> simp only [go_sem, ↓reduceIte, reduceCtorEq, reduceAdd, reduceMul, reduceEqDiff, reduceLT, reduceLeDiff, reduceSub, reduceDiv, Nat.reduceBEq, Int.reduceBEq, reduceBNe, Int.reduceLT, reduceLE, reduceEq, hov, q0, hg]) | (refine K_condA (fun hc => ?_) (fun hc => ?_) <;> try (exact absurd hc (by decide))))
      refine K_ret (hQ _ (.bool true) t 1 (by simp only [go_sem, ↓reduceIte, reduceCtorEq, reduceAdd, reduceMul, reduceEqDiff, reduceLT, reduceLeDiff, reduceSub, reduceDiv, Nat.reduceBEq, Int.reduceBEq, reduceBNe, Int.reduceLT, reduceLE, reduceEq]; rfl) ⟨rfl, hf⟩ rfl (by decide) ?_ ?_).1
      · simp [go_sem, rcs, hov]
      · simp [go_sem]
  · rw [fol_ov hov] at hf
    repeat' (first | apply w1 | apply w2 | apply w3 | apply w4 | apply w5 | apply w6 | apply w7 | refine Kq_exit_ne (by decide) ?_ | apply w8 | apply w9 | apply w0 | rw [wrap64 (by omega) (by omega)] | ((first | refine hK _ ?_ | refine hKp _ _ ?_); clear hK hKp K Kp; try clear hanc anc) | ((with_reducible refine And.intro ?_ ?_); (focus (first | trivial | omega | (simp only [Fits]; omega) | assumption | (rw [hanc]; rfl)))) | ((first | refine K_regA hE fun K Kp hK hKp => ?_ | refine K_drwA true mixed hE fun K Kp hK hKp anc hanc => ?_ | refine K_drwA false mixed hE fun K Kp hK hKp anc hanc => ?_); simp only [go_sem, ↓reduceIte, reduceCtorEq, reduceAdd, reduceMul, reduceEqDiff, reduceLT, reduceLeDiff, reduceSub, reduceDiv, Nat.reduceBEq, Int.reduceBEq, reduceBNe, Int.reduceLT, reduceLE, reduceEq, hov]) | ((first | refine onG_split_t (fun hg => ?_) (fun hg => ?_) | refine onG_split_f (fun hg => ?_) (fun hg => ?_)) <;> simp only [go_sem, ↓reduceIte, reduceCtorEq, reduceAdd, reduceMul, reduceEqDiff, reduceLT, reduceLeDiff, reduceSub, reduceDiv, Nat.reduceBEq, Int.reduceBEq, reduceBNe, Int.reduceLT, reduceLE, reduceEq, hov, hg]) | (refine K_condA (fun hc => ?_) (fun hc => ?_) <;> try (exact absurd hc (by decide))))
    refine K_ret (hQ _ (.bool true) t 1 (by simp only [go_sem, ↓reduceIte, reduceCtorEq, reduceAdd, reduceMul, reduceEqDiff, reduceLT, reduceLeDiff, reduceSub, reduceDiv, Nat.reduceBEq, Int.reduceBEq, reduceBNe, Int.reduceLT, reduceLE, reduceEq]; rfl) ⟨rfl, hf⟩ rfl (by decide) ?_ ?_).1
    · simp [go_sem, rcs, hov]
    · simp [go_sem]
end Go.Proofs.Ytdheeecpkkjfiaa

