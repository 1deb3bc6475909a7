/- A part of the proof: an abstract machine for the walks, and what the walked functions compute. -/
import Derived.Test.YtakpabiefjlmaaaCd
set_option linter.unusedVariables false
set_option linter.unusedSimpArgs false
/- Chapter 22: cyclic, cycle, distance, fits. -/
set_option linter.unusedSimpArgs false
set_option linter.unusedVariables false
set_option maxHeartbeats 4000000
set_option maxRecDepth 100000
namespace Go.Proofs.Ytakpabiefjlmaaa
open Nat (reduceAdd reduceMul reduceEqDiff reduceLT reduceLeDiff reduceSub reduceDiv)
open Int (reduceBNe reduceLE reduceEq)
open Go.Am Go.Proofs
attribute [local irreducible] AW CallP CallB

def anyR (f : Nat → Bool) : Nat → Nat → Bool
  | 0, _ => false
  | k + 1, i => f i || anyR f k (i + 1)
theorem anyR_true {f : Nat → Bool} : ∀ {k i : Nat}, anyR f k i = true ↔ ∃ j, i ≤ j ∧ j < i + k ∧ f j = true
  | 0, i => by
    rw [anyR]
    refine ⟨fun h => (by cases h), fun ⟨j, h1, h2, _⟩ => by omega⟩
  | k + 1, i => by
    rw [anyR, Bool.or_eq_true, anyR_true]
    constructor
    · rintro (h | ⟨j, h1, h2, h3⟩)
      · exact ⟨i, Nat.le_refl _, by omega, h⟩
      · exact ⟨j, by omega, by omega, h3⟩
    · rintro ⟨j, h1, h2, h3⟩
      by_cases h : j = i
      · subst h; exact .inl h3
      · exact .inr ⟨j, by omega, by omega, h3⟩
def cyAt (u : List (List Int)) (i : Nat) : Bool := (u.getD i []).any fun x => rgt (reaches u) x.toNat i
def cyclic (u : List (List Int)) : Bool := anyR (cyAt u) u.length 0

theorem cyclic_call (u : List (List Int)) (hu : u.length ≤ 20) (hl : ∀ l, l ∈ u → l.length ≤ 20) (hv : ∀ l, l ∈ u → ∀ x, x ∈ l → 0 ≤ x ∧ x < u.length) : PCall Try.prog 12 [.sl (ill u)] (.bool (cyclic u)) := by
  have hrc := reaches_call u hu hl hv
  have hsq : Sq u.length (reaches u) := sq_goN (Sq.init _)
  have hat : ∀ i, cyAt u i = (u.getD i []).any fun x => rgt (reaches u) x.toNat i := fun i => rfl
  unfold cyclic
  generalize reaches u = R at *
  have hrl : R.length = u.length := hsq.ln
  refine PCall.intro Try.func12 rfl isf12 (by simp [Try.f12]) (by simp [AV.cloL, AV.clo]) fun E Q hE hN hQ => K_start ?_
  repeat' (first | apply w1 | apply w2 | apply w3 | apply w4 | apply w5 | apply w6 | apply w7 | refine Kq_exit_ne (by decide) ?_ | apply w8 | apply w9 | apply w0 | rw [wrap64 (by omega) (by omega)] | ((first | refine hK _ ?_ | refine hKp _ _ ?_); clear hK hKp K Kp; try clear hanc anc) | ((with_reducible refine And.intro ?_ ?_); (focus (first | trivial | omega | (simp only [Fits]; omega) | assumption | (rw [hanc]; rfl)))) | ((first | refine K_regA hE fun K Kp hK hKp => ?_ | refine K_drwA true mixed hE fun K Kp hK hKp anc hanc => ?_ | refine K_drwA false mixed hE fun K Kp hK hKp anc hanc => ?_ | ((first | apply CallP_mk | apply CallB_mk); (focus (simp only [go_sem]; rfl)); (focus (exact hrc)); (focus (simp [go_sem])); (focus (first | exact .inl rfl | (right; simp [go_sem]))))); simp only [go_sem, ↓reduceIte, reduceCtorEq, reduceAdd, reduceMul, reduceEqDiff, reduceLT, reduceLeDiff, reduceSub, reduceDiv, Nat.reduceBEq, Int.reduceBEq, reduceBNe, Int.reduceLT, reduceLE, reduceEq]) | ((first | refine onG_split_t (fun hg => ?_) (fun hg => ?_) | refine onG_split_f (fun hg => ?_) (fun hg => ?_)) <;> simp only [go_sem, ↓reduceIte, reduceCtorEq, reduceAdd, reduceMul, reduceEqDiff, reduceLT, reduceLeDiff, reduceSub, reduceDiv, Nat.reduceBEq, Int.reduceBEq, reduceBNe, Int.reduceLT, reduceLE, reduceEq, hg]) | (refine K_condA (fun hc => ?_) (fun hc => ?_) <;> try (exact absurd hc (by decide))))
  refine K_loop (X := Nat) (fun i => i ≤ u.length ∧ anyR (cyAt u) (u.length - i) i = anyR (cyAt u) u.length 0) (fun i => mkSt [(0, .sl (ill u)), (3, .sl (bsl R)), (4, AV.i i)] [] 0) (fun i => u.length - i) 0 ⟨Nat.zero_le _, rfl⟩ (fun i => i) (by refine ent_mk (by simp [go_sem]) (by simp [go_sem]) (by simp) (by simp [hN])) ?_
  rintro i ⟨hi, ht⟩
  by_cases hlt : i < u.length
  · obtain ⟨l, hx⟩ := get?_of hlt
    have hll := hl l (List.mem_of_getElem? hx)
    have hlv := hv l (List.mem_of_getElem? hx)
    have hul : u.getD i [] = l := by simp [List.getD_eq_getElem?_getD, hx]
    rw [show u.length - i = (u.length - (i + 1)) + 1 by omega, anyR, hat, hul] at ht
    repeat' (first | apply w1 | apply w2 | apply w3 | apply w4 | apply w5 | apply w6 | apply w7 | refine Kq_exit_ne (by decide) ?_ | apply w8 | apply w9 | apply w0 | rw [wrap64 (by omega) (by omega)] | ((first | refine hK _ ?_ | refine hKp _ _ ?_); clear hK hKp K Kp; try clear hanc anc) | ((with_reducible refine And.intro ?_ ?_); (focus (first | trivial | omega | (simp only [Fits]; omega) | assumption | (rw [hanc]; rfl)))) | ((first | refine K_regA hE fun K Kp hK hKp => ?_ | refine K_drwA true mixed hE fun K Kp hK hKp anc hanc => ?_ | refine K_drwA false mixed hE fun K Kp hK hKp anc hanc => ?_); simp only [go_sem, ↓reduceIte, reduceCtorEq, reduceAdd, reduceMul, reduceEqDiff, reduceLT, reduceLeDiff, reduceSub, reduceDiv, Nat.reduceBEq, Int.reduceBEq, reduceBNe, Int.reduceLT, reduceLE, reduceEq, lt_dec hlt]) | ((first | refine onG_split_t (fun hg => ?_) (fun hg => ?_) | refine onG_split_f (fun hg => ?_) (fun hg => ?_)) <;> simp only [go_sem, ↓reduceIte, reduceCtorEq, reduceAdd, reduceMul, reduceEqDiff, reduceLT, reduceLeDiff, reduceSub, reduceDiv, Nat.reduceBEq, Int.reduceBEq, reduceBNe, Int.reduceLT, reduceLE, reduceEq, lt_dec hlt, hg]) | (refine K_condA (fun hc => ?_) (fun hc => ?_) <;> try (exact absurd hc (by decide))))
    refine K_loop (X := Nat) (fun k => k ≤ l.length ∧ (l.any fun x => rgt R x.toNat i) = ((l.drop k).any fun x => rgt R x.toNat i)) (fun k => mkSt [(0, .sl (ill u)), (3, .sl (bsl R)), (4, AV.i i), (5, AV.i k)] [] 0) (fun k => l.length - k) 0 ⟨Nat.zero_le _, rfl⟩ (fun i => i) (by refine ent_mk (by simp [go_sem]) (by simp [go_sem]) (by simp) (by simp [hN])) ?_
    rintro k ⟨hk, hk2⟩
    by_cases hlk : k < l.length
    · obtain ⟨m0, hm⟩ := get?_of hlk
      obtain ⟨hm0, hm1⟩ := hlv m0 (List.mem_of_getElem? hm)
      obtain ⟨m, rfl⟩ := Int.eq_ofNat_of_zero_le hm0
      obtain ⟨r, hr, hrr⟩ := hsq.get (show m < u.length by omega)
      obtain ⟨b, hb⟩ := get?_of (show i < r.length by omega)
      have hrg : rgt R (m : Int).toNat i = b := by simp [rgt, List.getD_eq_getElem?_getD, hr, hb]
      rw [drop_of hm, List.any_cons, hrg] at hk2
      cases b
      · repeat' (first | apply w1 | apply w2 | apply w3 | apply w4 | apply w5 | apply w6 | apply w7 | refine Kq_exit_ne (by decide) ?_ | apply w8 | apply w9 | apply w0 | rw [wrap64 (by omega) (by omega)] | ((first | refine hK _ ?_ | refine hKp _ _ ?_); clear hK hKp K Kp; try clear hanc anc) | ((with_reducible refine And.intro ?_ ?_); (focus (first | trivial | omega | (simp only [Fits]; omega) | assumption | (rw [hanc]; rfl)))) | ((first | refine K_regA hE fun K Kp hK hKp => ?_ | refine K_drwA false mixed hE fun K Kp hK hKp anc hanc => ?_); simp only [go_sem, ↓reduceIte, reduceCtorEq, reduceAdd, reduceMul, reduceEqDiff, reduceLT, reduceLeDiff, reduceSub, reduceDiv, Nat.reduceBEq, Int.reduceBEq, reduceBNe, Int.reduceLT, reduceLE, reduceEq, lt_dec hlk, hx, hm, hr, hb]) | ((first | refine onG_split_t (fun hg => ?_) (fun hg => ?_) | refine onG_split_f (fun hg => ?_) (fun hg => ?_)) <;> simp only [go_sem, ↓reduceIte, reduceCtorEq, reduceAdd, reduceMul, reduceEqDiff, reduceLT, reduceLeDiff, reduceSub, reduceDiv, Nat.reduceBEq, Int.reduceBEq, reduceBNe, Int.reduceLT, reduceLE, reduceEq, lt_dec hlk, hx, hm, hr, hb, hg]) | (refine K_condA (fun hc => ?_) (fun hc => ?_) <;> try (exact absurd hc (by decide))) | (refine K_ret ?_; refine (hQ _ ⟨_, by (try simp only [go_sem, ↓reduceIte, Nat.reduceEqDiff]); rfl, by simp [go_sem], ?_, by first | rfl | assumption⟩).1))
        exact ⟨k + 1, ⟨by omega, by simpa using hk2⟩, by omega, fun i => i, by refine ent_mk (by simp [go_sem]) (by simp [go_sem]) (by simp) (by simp [hN])⟩
      · rw [hk2] at ht
        repeat' (first | apply w1 | apply w2 | apply w3 | apply w4 | apply w5 | apply w6 | apply w7 | refine Kq_exit_ne (by decide) ?_ | apply w8 | apply w9 | apply w0 | rw [wrap64 (by omega) (by omega)] | ((first | refine hK _ ?_ | refine hKp _ _ ?_); clear hK hKp K Kp; try clear hanc anc) | ((with_reducible refine And.intro ?_ ?_); (focus (first | trivial | omega | (simp only [Fits]; omega) | assumption | (rw [hanc]; rfl)))) | ((first | refine K_regA hE fun K Kp hK hKp => ?_ | refine K_drwA false mixed hE fun K Kp hK hKp anc hanc => ?_); simp only [go_sem, ↓reduceIte, reduceCtorEq, reduceAdd, reduceMul, reduceEqDiff, reduceLT, reduceLeDiff, reduceSub, reduceDiv, Nat.reduceBEq, Int.reduceBEq, reduceBNe, Int.reduceLT, reduceLE, reduceEq, lt_dec hlk, hx, hm, hr, hb]) | ((first | refine onG_split_t (fun hg => ?_) (fun hg => ?_) | refine onG_split_f (fun hg => ?_) (fun hg => ?_)) <;> simp only [go_sem, ↓reduceIte, reduceCtorEq, reduceAdd, reduceMul, reduceEqDiff, reduceLT, reduceLeDiff, reduceSub, reduceDiv, Nat.reduceBEq, Int.reduceBEq, reduceBNe, Int.reduceLT, reduceLE, reduceEq, lt_dec hlk, hx, hm, hr, hb, hg]) | (refine K_condA (fun hc => ?_) (fun hc => ?_) <;> try (exact absurd hc (by decide))) | (refine K_ret ?_; refine (hQ _ ⟨_, by (try simp only [go_sem, ↓reduceIte, Nat.reduceEqDiff]); rfl, by simp [go_sem], ?_, by first | rfl | assumption⟩).1))
        simp [AV.snap, ← ht]
    · obtain rfl : k = l.length := by omega
      rw [List.drop_length] at hk2
      rw [hk2] at ht
      repeat' (first | apply w1 | apply w2 | apply w3 | apply w4 | apply w5 | apply w6 | apply w7 | refine Kq_exit_ne (by decide) ?_ | apply w8 | apply w9 | apply w0 | rw [wrap64 (by omega) (by omega)] | ((first | refine hK _ ?_ | refine hKp _ _ ?_); clear hK hKp K Kp; try clear hanc anc) | ((with_reducible refine And.intro ?_ ?_); (focus (first | trivial | omega | (simp only [Fits]; omega) | assumption | (rw [hanc]; rfl)))) | ((first | refine K_regA hE fun K Kp hK hKp => ?_ | refine K_drwA false mixed hE fun K Kp hK hKp anc hanc => ?_); simp only [go_sem, ↓reduceIte, reduceCtorEq, reduceAdd, reduceMul, reduceEqDiff, reduceLT, reduceLeDiff, reduceSub, reduceDiv, Nat.reduceBEq, Int.reduceBEq, reduceBNe, Int.reduceLT, reduceLE, reduceEq, ge_dec, hx]) | ((first | refine onG_split_t (fun hg => ?_) (fun hg => ?_) | refine onG_split_f (fun hg => ?_) (fun hg => ?_)) <;> simp only [go_sem, ↓reduceIte, reduceCtorEq, reduceAdd, reduceMul, reduceEqDiff, reduceLT, reduceLeDiff, reduceSub, reduceDiv, Nat.reduceBEq, Int.reduceBEq, reduceBNe, Int.reduceLT, reduceLE, reduceEq, ge_dec, hx, hg]) | (refine K_condA (fun hc => ?_) (fun hc => ?_) <;> try (exact absurd hc (by decide))) | (refine K_ret ?_; refine (hQ _ ⟨_, by (try simp only [go_sem, ↓reduceIte, Nat.reduceEqDiff]); rfl, by simp [go_sem], ?_, by first | rfl | assumption⟩).1))
      exact ⟨i + 1, ⟨by omega, by simpa using ht⟩, by omega, fun i => i, by refine ent_mk (by simp [go_sem]) (by simp [go_sem]) (by simp) (by simp [hN])⟩
  · obtain rfl : i = u.length := by omega
    rw [Nat.sub_self, anyR] at ht
    repeat' (first | apply w1 | apply w2 | apply w3 | apply w4 | apply w5 | apply w6 | apply w7 | refine Kq_exit_ne (by decide) ?_ | apply w8 | apply w9 | apply w0 | rw [wrap64 (by omega) (by omega)] | ((first | refine hK _ ?_ | refine hKp _ _ ?_); clear hK hKp K Kp; try clear hanc anc) | ((with_reducible refine And.intro ?_ ?_); (focus (first | trivial | omega | (simp only [Fits]; omega) | assumption | (rw [hanc]; rfl)))) | ((first | refine K_regA hE fun K Kp hK hKp => ?_ | refine K_drwA false mixed hE fun K Kp hK hKp anc hanc => ?_); simp only [go_sem, ↓reduceIte, reduceCtorEq, reduceAdd, reduceMul, reduceEqDiff, reduceLT, reduceLeDiff, reduceSub, reduceDiv, Nat.reduceBEq, Int.reduceBEq, reduceBNe, Int.reduceLT, reduceLE, reduceEq, ge_dec]) | ((first | refine onG_split_t (fun hg => ?_) (fun hg => ?_) | refine onG_split_f (fun hg => ?_) (fun hg => ?_)) <;> simp only [go_sem, ↓reduceIte, reduceCtorEq, reduceAdd, reduceMul, reduceEqDiff, reduceLT, reduceLeDiff, reduceSub, reduceDiv, Nat.reduceBEq, Int.reduceBEq, reduceBNe, Int.reduceLT, reduceLE, reduceEq, ge_dec, hg]) | (refine K_condA (fun hc => ?_) (fun hc => ?_) <;> try (exact absurd hc (by decide))) | (refine K_ret ?_; refine (hQ _ ⟨_, by (try simp only [go_sem, ↓reduceIte, Nat.reduceEqDiff]); rfl, by simp [go_sem], ?_, by first | rfl | assumption⟩).1))
    simp [AV.snap, ← ht]

theorem fits_call (u : List (List Int)) (t f : List Bool) (hu : u.length ≤ 2 ^ 40) (hl : ∀ l, l ∈ u → l.length ≤ 2 ^ 40) (ht : t.length ≤ 2 ^ 40) (hf : f.length ≤ 2 ^ 40) : PCall Try.prog 17 [.sl (ill u), .sl (bl t), .sl (bl f)] (.bool (few u && valid u && decide (t.length = u.length) && decide (f.length = u.length) && !cyclic u)) := by
  have h1 := few_call u hu hl
  have h2 := Valid_call u hu hl
  refine PCall.intro Try.func17 rfl isf17 (by simp [Try.f17]) (by simp [AV.cloL, AV.clo]) fun E Q hE hN hQ => K_start ?_
  cases hfw : few u
  · rw [hfw] at h1
    repeat' (first | apply w1 | apply w2 | apply w3 | apply w4 | apply w5 | apply w6 | apply w7 | refine Kq_exit_ne (by decide) ?_ | apply w8 | apply w9 | apply w0 | rw [wrap64 (by omega) (by omega)] | ((first | refine hK _ ?_ | refine hKp _ _ ?_); clear hK hKp K Kp; try clear hanc anc) | ((with_reducible refine And.intro ?_ ?_); (focus (first | trivial | omega | (simp only [Fits]; omega) | assumption | (rw [hanc]; rfl)))) | ((first | refine K_regA hE fun K Kp hK hKp => ?_ | refine K_drwA false mixed hE fun K Kp hK hKp anc hanc => ?_ | ((first | apply CallP_mk | apply CallB_mk); (focus (simp only [go_sem]; rfl)); (focus (first | exact h1 | exact h2)); (focus (simp [go_sem])); (focus (first | exact .inl rfl | (right; simp [go_sem]))))); simp only [go_sem, ↓reduceIte, reduceCtorEq, reduceAdd, reduceMul, reduceEqDiff, reduceLT, reduceLeDiff, reduceSub, reduceDiv, Nat.reduceBEq, Int.reduceBEq, reduceBNe, Int.reduceLT, reduceLE, reduceEq]) | ((first | refine onG_split_t (fun hg => ?_) (fun hg => ?_) | refine onG_split_f (fun hg => ?_) (fun hg => ?_)) <;> simp only [go_sem, ↓reduceIte, reduceCtorEq, reduceAdd, reduceMul, reduceEqDiff, reduceLT, reduceLeDiff, reduceSub, reduceDiv, Nat.reduceBEq, Int.reduceBEq, reduceBNe, Int.reduceLT, reduceLE, reduceEq, hg]) | (refine K_condA (fun hc => ?_) (fun hc => ?_) <;> try (exact absurd hc (by decide))) | (refine K_ret ?_; refine (hQ _ ⟨_, by (try simp only [go_sem, ↓reduceIte, Nat.reduceEqDiff]); rfl, by simp [go_sem], ?_, by first | rfl | assumption⟩).1))
    simp [AV.snap, hfw]
  · rw [hfw] at h1
    have hfl : u.length ≤ 20 ∧ ∀ l, l ∈ u → l.length ≤ 20 := by
      unfold few at hfw
      simp only [Bool.and_eq_true, List.all_eq_true, decide_eq_true_eq] at hfw
      exact ⟨hfw.2, hfw.1⟩
    cases hva : valid u
    · rw [hva] at h2
      repeat' (first | apply w1 | apply w2 | apply w3 | apply w4 | apply w5 | apply w6 | apply w7 | refine Kq_exit_ne (by decide) ?_ | apply w8 | apply w9 | apply w0 | rw [wrap64 (by omega) (by omega)] | ((first | refine hK _ ?_ | refine hKp _ _ ?_); clear hK hKp K Kp; try clear hanc anc) | ((with_reducible refine And.intro ?_ ?_); (focus (first | trivial | omega | (simp only [Fits]; omega) | assumption | (rw [hanc]; rfl)))) | ((first | refine K_regA hE fun K Kp hK hKp => ?_ | refine K_drwA false mixed hE fun K Kp hK hKp anc hanc => ?_ | ((first | apply CallP_mk | apply CallB_mk); (focus (simp only [go_sem]; rfl)); (focus (first | exact h1 | exact h2)); (focus (simp [go_sem])); (focus (first | exact .inl rfl | (right; simp [go_sem]))))); simp only [go_sem, ↓reduceIte, reduceCtorEq, reduceAdd, reduceMul, reduceEqDiff, reduceLT, reduceLeDiff, reduceSub, reduceDiv, Nat.reduceBEq, Int.reduceBEq, reduceBNe, Int.reduceLT, reduceLE, reduceEq]) | ((first | refine onG_split_t (fun hg => ?_) (fun hg => ?_) | refine onG_split_f (fun hg => ?_) (fun hg => ?_)) <;> simp only [go_sem, ↓reduceIte, reduceCtorEq, reduceAdd, reduceMul, reduceEqDiff, reduceLT, reduceLeDiff, reduceSub, reduceDiv, Nat.reduceBEq, Int.reduceBEq, reduceBNe, Int.reduceLT, reduceLE, reduceEq, hg]) | (refine K_condA (fun hc => ?_) (fun hc => ?_) <;> try (exact absurd hc (by decide))) | (refine K_ret ?_; refine (hQ _ ⟨_, by (try simp only [go_sem, ↓reduceIte, Nat.reduceEqDiff]); rfl, by simp [go_sem], ?_, by first | rfl | assumption⟩).1))
      simp [AV.snap, hfw, hva]
    · rw [hva] at h2
      by_cases h3 : t.length = u.length
      · have q3 : ((t.length : Int) == (u.length : Int)) = true := by simp [h3]
        by_cases h4 : f.length = u.length
        · have q4 : ((f.length : Int) == (u.length : Int)) = true := by simp [h4]
          have h5 := cyclic_call u hfl.1 hfl.2 (valid_mem hva)
          repeat' (first | apply w1 | apply w2 | apply w3 | apply w4 | apply w5 | apply w6 | apply w7 | refine Kq_exit_ne (by decide) ?_ | apply w8 | apply w9 | apply w0 | rw [wrap64 (by omega) (by omega)] | ((first | refine hK _ ?_ | refine hKp _ _ ?_); clear hK hKp K Kp; try clear hanc anc) | ((with_reducible refine And.intro ?_ ?_); (focus (first | trivial | omega | (simp only [Fits]; omega) | assumption | (rw [hanc]; rfl)))) | ((first | refine K_regA hE fun K Kp hK hKp => ?_ | refine K_drwA false mixed hE fun K Kp hK hKp anc hanc => ?_ | ((first | apply CallP_mk | apply CallB_mk); (focus (simp only [go_sem]; rfl)); (focus (first | exact h1 | exact h2 | exact h5)); (focus (simp [go_sem])); (focus (first | exact .inl rfl | (right; simp [go_sem]))))); simp only [go_sem, ↓reduceIte, reduceCtorEq, reduceAdd, reduceMul, reduceEqDiff, reduceLT, reduceLeDiff, reduceSub, reduceDiv, Nat.reduceBEq, Int.reduceBEq, reduceBNe, Int.reduceLT, reduceLE, reduceEq, q3, q4]) | ((first | refine onG_split_t (fun hg => ?_) (fun hg => ?_) | refine onG_split_f (fun hg => ?_) (fun hg => ?_)) <;> simp only [go_sem, ↓reduceIte, reduceCtorEq, reduceAdd, reduceMul, reduceEqDiff, reduceLT, reduceLeDiff, reduceSub, reduceDiv, Nat.reduceBEq, Int.reduceBEq, reduceBNe, Int.reduceLT, reduceLE, reduceEq, q3, q4, hg]) | (refine K_condA (fun hc => ?_) (fun hc => ?_) <;> try (exact absurd hc (by decide))) | (refine K_ret ?_; refine (hQ _ ⟨_, by (try simp only [go_sem, ↓reduceIte, Nat.reduceEqDiff]); rfl, by simp [go_sem], ?_, by first | rfl | assumption⟩).1))
          simp [AV.snap, hfw, hva, h3, h4]
        · have q4 : ((f.length : Int) == (u.length : Int)) = false := by simp; omega
          repeat' (first | apply w1 | apply w2 | apply w3 | apply w4 | apply w5 | apply w6 | apply w7 | refine Kq_exit_ne (by decide) ?_ | apply w8 | apply w9 | apply w0 | rw [wrap64 (by omega) (by omega)] | ((first | refine hK _ ?_ | refine hKp _ _ ?_); clear hK hKp K Kp; try clear hanc anc) | ((with_reducible refine And.intro ?_ ?_); (focus (first | trivial | omega | (simp only [Fits]; omega) | assumption | (rw [hanc]; rfl)))) | ((first | refine K_regA hE fun K Kp hK hKp => ?_ | refine K_drwA false mixed hE fun K Kp hK hKp anc hanc => ?_ | ((first | apply CallP_mk | apply CallB_mk); (focus (simp only [go_sem]; rfl)); (focus (first | exact h1 | exact h2)); (focus (simp [go_sem])); (focus (first | exact .inl rfl | (right; simp [go_sem]))))); simp only [go_sem, ↓reduceIte, reduceCtorEq, reduceAdd, reduceMul, reduceEqDiff, reduceLT, reduceLeDiff, reduceSub, reduceDiv, Nat.reduceBEq, Int.reduceBEq, reduceBNe, Int.reduceLT, reduceLE, reduceEq, q3, q4]) | ((first | refine onG_split_t (fun hg => ?_) (fun hg => ?_) | refine onG_split_f (fun hg => ?_) (fun hg => ?_)) <;> simp only [go_sem, ↓reduceIte, reduceCtorEq, reduceAdd, reduceMul, reduceEqDiff, reduceLT, reduceLeDiff, reduceSub, reduceDiv, Nat.reduceBEq, Int.reduceBEq, reduceBNe, Int.reduceLT, reduceLE, reduceEq, q3, q4, hg]) | (refine K_condA (fun hc => ?_) (fun hc => ?_) <;> try (exact absurd hc (by decide))) | (refine K_ret ?_; refine (hQ _ ⟨_, by (try simp only [go_sem, ↓reduceIte, Nat.reduceEqDiff]); rfl, by simp [go_sem], ?_, by first | rfl | assumption⟩).1))
          simp [AV.snap, hfw, hva, h3, h4]
      · have q3 : ((t.length : Int) == (u.length : Int)) = false := by simp; omega
        repeat' (first | apply w1 | apply w2 | apply w3 | apply w4 | apply w5 | apply w6 | apply w7 | refine Kq_exit_ne (by decide) ?_ | apply w8 | apply w9 | apply w0 | rw [wrap64 (by omega) (by omega)] | ((first | refine hK _ ?_ | refine hKp _ _ ?_); clear hK hKp K Kp; try clear hanc anc) | ((with_reducible refine And.intro ?_ ?_); (focus (first | trivial | omega | (simp only [Fits]; omega) | assumption | (rw [hanc]; rfl)))) | ((first | refine K_regA hE fun K Kp hK hKp => ?_ | refine K_drwA false mixed hE fun K Kp hK hKp anc hanc => ?_ | ((first | apply CallP_mk | apply CallB_mk); (focus (simp only [go_sem]; rfl)); (focus (first | exact h1 | exact h2)); (focus (simp [go_sem])); (focus (first | exact .inl rfl | (right; simp [go_sem]))))); simp only [go_sem, ↓reduceIte, reduceCtorEq, reduceAdd, reduceMul, reduceEqDiff, reduceLT, reduceLeDiff, reduceSub, reduceDiv, Nat.reduceBEq, Int.reduceBEq, reduceBNe, Int.reduceLT, reduceLE, reduceEq, q3]) | ((first | refine onG_split_t (fun hg => ?_) (fun hg => ?_) | refine onG_split_f (fun hg => ?_) (fun hg => ?_)) <;> simp only [go_sem, ↓reduceIte, reduceCtorEq, reduceAdd, reduceMul, reduceEqDiff, reduceLT, reduceLeDiff, reduceSub, reduceDiv, Nat.reduceBEq, Int.reduceBEq, reduceBNe, Int.reduceLT, reduceLE, reduceEq, q3, hg]) | (refine K_condA (fun hc => ?_) (fun hc => ?_) <;> try (exact absurd hc (by decide))) | (refine K_ret ?_; refine (hQ _ ⟨_, by (try simp only [go_sem, ↓reduceIte, Nat.reduceEqDiff]); rfl, by simp [go_sem], ?_, by first | rfl | assumption⟩).1))
        simp [AV.snap, hfw, hva, h3]
end Go.Proofs.Ytakpabiefjlmaaa


/- Chapter 22: cycle, distance. -/
set_option linter.unusedSimpArgs false
set_option linter.unusedVariables false
set_option maxHeartbeats 4000000
set_option maxRecDepth 100000
namespace Go.Proofs.Ytakpabiefjlmaaa
open Nat (reduceAdd reduceMul reduceEqDiff reduceLT reduceLeDiff reduceSub reduceDiv)
open Int (reduceBNe reduceLE reduceEq)
open Go.Am Go.Proofs
attribute [local irreducible] AW CallP CallB

def allR (f : Nat → Bool) (k i : Nat) : Bool := !anyR (fun j => !f j) k i
theorem allR_zero (f : Nat → Bool) (i : Nat) : allR f 0 i = true := rfl
theorem allR_succ (f : Nat → Bool) (k i : Nat) : allR f (k + 1) i = (f i && allR f k (i + 1)) := by
  simp only [allR, anyR]
  cases f i <;> simp
theorem allR_true {f : Nat → Bool} {k i : Nat} : allR f k i = true ↔ ∀ j, i ≤ j → j < i + k → f j = true := by
  rw [allR, Bool.not_eq_true', ← Bool.not_eq_true, anyR_true]
  constructor
  · intro h j h1 h2
    cases hf : f j
    · exact absurd ⟨j, h1, h2, by simp [hf]⟩ h
    · rfl
  · rintro h ⟨j, h1, h2, h3⟩
    rw [h j h1 h2] at h3
    cases h3
/-- In range and not before. -/
def cy1 (n : Nat) (l : List Int) (i : Nat) : Bool := !(decide (l.getD i 0 < 0) || decide ((n : Int) ≤ l.getD i 0) || decide (l.getD i 0 ∈ l.take i))
def cy2 (u : List (List Int)) (l : List Int) (i : Nat) : Bool := decide (l.getD ((i + 1) % l.length) 0 ∈ u.getD (l.getD i 0).toNat [])
def isCy (u : List (List Int)) (l : List Int) : Bool := allR (cy1 u.length l) l.length 0 && (allR (cy2 u l) l.length 0 && decide (0 < l.length))

theorem isCy_call (u : List (List Int)) (l : List Int) (hu : u.length ≤ 20) (hl : ∀ l, l ∈ u → l.length ≤ 20) (hll : l.length ≤ 2 ^ 40) : PCall Try.prog 15 [.sl (ill u), .sl (il l)] (.bool (isCy u l)) := by
  unfold isCy
  have hsz := szok_il l
  refine PCall.intro Try.func15 rfl isf15 (by simp [Try.f15]) (by simp [AV.cloL, AV.clo]) fun E Q hE hN hQ => K_start ?_
  repeat' (first | apply w1 | apply w2 | apply w3 | apply w4 | apply w5 | apply w6 | apply w7 | refine Kq_exit_ne (by decide) ?_ | apply w8 | apply w9 | apply w0 | rw [wrap64 (by omega) (by omega)] | ((first | refine hK _ ?_ | refine hKp _ _ ?_); clear hK hKp K Kp; try clear hanc anc) | ((with_reducible refine And.intro ?_ ?_); (focus (first | trivial | omega | (simp only [Fits]; omega) | assumption | (rw [hanc]; rfl)))) | ((first | refine K_regA hE fun K Kp hK hKp => ?_ | refine K_drwA false mixed hE fun K Kp hK hKp anc hanc => ?_); simp only [go_sem, ↓reduceIte, reduceCtorEq, reduceAdd, reduceMul, reduceEqDiff, reduceLT, reduceLeDiff, reduceSub, reduceDiv, Nat.reduceBEq, Int.reduceBEq, reduceBNe, Int.reduceLT, reduceLE, reduceEq]) | ((first | refine onG_split_t (fun hg => ?_) (fun hg => ?_) | refine onG_split_f (fun hg => ?_) (fun hg => ?_)) <;> simp only [go_sem, ↓reduceIte, reduceCtorEq, reduceAdd, reduceMul, reduceEqDiff, reduceLT, reduceLeDiff, reduceSub, reduceDiv, Nat.reduceBEq, Int.reduceBEq, reduceBNe, Int.reduceLT, reduceLE, reduceEq, hg]) | (refine K_condA (fun hc => ?_) (fun hc => ?_) <;> try (exact absurd hc (by decide))) | (refine K_ret ?_; refine (hQ _ ⟨_, by (try simp only [go_sem, ↓reduceIte, Nat.reduceEqDiff]); rfl, by simp [go_sem], ?_, by first | rfl | assumption⟩).1))
  refine K_loop (X := Nat) (fun i => i ≤ l.length ∧ (∀ j, j < i → cy1 u.length l j = true) ∧ allR (cy1 u.length l) (l.length - i) i = allR (cy1 u.length l) l.length 0) (fun i => mkSt [(0, .sl (ill u)), (1, .sl (il l)), (5, AV.i i)] [] 0) (fun i => l.length - i) 0 ⟨Nat.zero_le _, fun j h => absurd h (Nat.not_lt_zero _), rfl⟩ (fun i => i) (by refine ent_mk (by simp [go_sem]) (by simp [go_sem]) (by simp) (by simp [hN])) ?_
  rintro i ⟨hi, hpre, ht⟩
  by_cases hlt : i < l.length
  · obtain ⟨x, hx⟩ := get?_of hlt
    have hgx : l.getD i 0 = x := by simp [List.getD_eq_getElem?_getD, hx]
    rw [show l.length - i = (l.length - (i + 1)) + 1 by omega, allR_succ] at ht
    by_cases h0 : x < 0
    · have q0 : decide (x < 0) = true := decide_eq_true h0
      have hc1 : cy1 u.length l i = false := by simp only [cy1, hgx, q0]; rfl
      rw [hc1] at ht
      repeat' (first | apply w1 | apply w2 | apply w3 | apply w4 | apply w5 | apply w6 | apply w7 | refine Kq_exit_ne (by decide) ?_ | apply w8 | apply w9 | apply w0 | rw [wrap64 (by omega) (by omega)] | ((first | refine hK _ ?_ | refine hKp _ _ ?_); clear hK hKp K Kp; try clear hanc anc) | ((with_reducible refine And.intro ?_ ?_); (focus (first | trivial | omega | (simp only [Fits]; omega) | assumption | (rw [hanc]; rfl)))) | ((first | refine K_regA hE fun K Kp hK hKp => ?_ | refine K_drwA false mixed hE fun K Kp hK hKp anc hanc => ?_); simp only [go_sem, ↓reduceIte, reduceCtorEq, reduceAdd, reduceMul, reduceEqDiff, reduceLT, reduceLeDiff, reduceSub, reduceDiv, Nat.reduceBEq, Int.reduceBEq, reduceBNe, Int.reduceLT, reduceLE, reduceEq, lt_dec hlt, hx, q0]) | ((first | refine onG_split_t (fun hg => ?_) (fun hg => ?_) | refine onG_split_f (fun hg => ?_) (fun hg => ?_)) <;> simp only [go_sem, ↓reduceIte, reduceCtorEq, reduceAdd, reduceMul, reduceEqDiff, reduceLT, reduceLeDiff, reduceSub, reduceDiv, Nat.reduceBEq, Int.reduceBEq, reduceBNe, Int.reduceLT, reduceLE, reduceEq, lt_dec hlt, hx, q0, hg]) | (refine K_condA (fun hc => ?_) (fun hc => ?_) <;> try (exact absurd hc (by decide))) | (refine K_ret ?_; refine (hQ _ ⟨_, by (try simp only [go_sem, ↓reduceIte, Nat.reduceEqDiff]); rfl, by simp [go_sem], ?_, by first | rfl | assumption⟩).1))
      simp [AV.snap, ← ht]
    · have q0 : decide (x < 0) = false := decide_eq_false h0
      by_cases h1 : (u.length : Int) ≤ x
      · have q1 : decide (x ≥ (u.length : Int)) = true := by simp [h1]
        have hc1 : cy1 u.length l i = false := by simp only [cy1, hgx, q0, decide_eq_true h1]; rfl
        rw [hc1] at ht
        repeat' (first | apply w1 | apply w2 | apply w3 | apply w4 | apply w5 | apply w6 | apply w7 | refine Kq_exit_ne (by decide) ?_ | apply w8 | apply w9 | apply w0 | rw [wrap64 (by omega) (by omega)] | ((first | refine hK _ ?_ | refine hKp _ _ ?_); clear hK hKp K Kp; try clear hanc anc) | ((with_reducible refine And.intro ?_ ?_); (focus (first | trivial | omega | (simp only [Fits]; omega) | assumption | (rw [hanc]; rfl)))) | ((first | refine K_regA hE fun K Kp hK hKp => ?_ | refine K_drwA false mixed hE fun K Kp hK hKp anc hanc => ?_); simp only [go_sem, ↓reduceIte, reduceCtorEq, reduceAdd, reduceMul, reduceEqDiff, reduceLT, reduceLeDiff, reduceSub, reduceDiv, Nat.reduceBEq, Int.reduceBEq, reduceBNe, Int.reduceLT, reduceLE, reduceEq, lt_dec hlt, hx, q0, q1]) | ((first | refine onG_split_t (fun hg => ?_) (fun hg => ?_) | refine onG_split_f (fun hg => ?_) (fun hg => ?_)) <;> simp only [go_sem, ↓reduceIte, reduceCtorEq, reduceAdd, reduceMul, reduceEqDiff, reduceLT, reduceLeDiff, reduceSub, reduceDiv, Nat.reduceBEq, Int.reduceBEq, reduceBNe, Int.reduceLT, reduceLE, reduceEq, lt_dec hlt, hx, q0, q1, hg]) | (refine K_condA (fun hc => ?_) (fun hc => ?_) <;> try (exact absurd hc (by decide))) | (refine K_ret ?_; refine (hQ _ ⟨_, by (try simp only [go_sem, ↓reduceIte, Nat.reduceEqDiff]); rfl, by simp [go_sem], ?_, by first | rfl | assumption⟩).1))
        simp [AV.snap, ← ht]
      · have q1 : decide (x ≥ (u.length : Int)) = false := by simp; omega
        have hic := in_call (l.take i) x (by simp only [List.length_take]; omega)
        have hob : i ≤ l.length ∧ SzOk (il l) 1 := ⟨hi, hsz⟩
        have hob2 : (0 ≤ (i : Int) ∧ i ≤ l.length) ∧ SzOk (il l) 1 := ⟨⟨by omega, hi⟩, hsz⟩
        cases hin : decide (x ∈ l.take i)
        · rw [hin] at hic
          have hc1 : cy1 u.length l i = true := by simp only [cy1, hgx, q0, decide_eq_false h1, hin]; rfl
          rw [hc1, Bool.true_and] at ht
          repeat' (first | apply w1 | apply w2 | apply w3 | apply w4 | apply w5 | apply w6 | apply w7 | refine Kq_exit_ne (by decide) ?_ | apply w8 | apply w9 | apply w0 | rw [wrap64 (by omega) (by omega)] | ((first | refine hK _ ?_ | refine hKp _ _ ?_); clear hK hKp K Kp; try clear hanc anc) | ((with_reducible refine And.intro ?_ ?_); (focus (first | trivial | omega | (simp only [Fits]; omega) | assumption | (rw [hanc]; rfl)))) | ((first | refine K_regA hE fun K Kp hK hKp => ?_ | refine K_drwA false mixed hE fun K Kp hK hKp anc hanc => ?_ | ((first | apply CallP_mk | apply CallB_mk); (focus (simp only [go_sem]; rfl)); (focus (exact hic)); (focus (simp [go_sem])); (focus (first | exact .inl rfl | (right; simp [go_sem]))))); simp only [go_sem, ↓reduceIte, reduceCtorEq, reduceAdd, reduceMul, reduceEqDiff, reduceLT, reduceLeDiff, reduceSub, reduceDiv, Nat.reduceBEq, Int.reduceBEq, reduceBNe, Int.reduceLT, reduceLE, reduceEq, lt_dec hlt, hx, q0, q1]) | ((first | refine onG_split_t (fun hg => ?_) (fun hg => ?_) | refine onG_split_f (fun hg => ?_) (fun hg => ?_)) <;> simp only [go_sem, ↓reduceIte, reduceCtorEq, reduceAdd, reduceMul, reduceEqDiff, reduceLT, reduceLeDiff, reduceSub, reduceDiv, Nat.reduceBEq, Int.reduceBEq, reduceBNe, Int.reduceLT, reduceLE, reduceEq, lt_dec hlt, hx, q0, q1, hg]) | (refine K_condA (fun hc => ?_) (fun hc => ?_) <;> try (exact absurd hc (by decide))) | (refine K_ret ?_; refine (hQ _ ⟨_, by (try simp only [go_sem, ↓reduceIte, Nat.reduceEqDiff]); rfl, by simp [go_sem], ?_, by first | rfl | assumption⟩).1))
          exact ⟨i + 1, ⟨by omega, fun j hj => by
            by_cases hji : j = i
            · rw [hji]; exact hc1
            · exact hpre j (by omega), ht⟩, by omega, fun i => i, by refine ent_mk (by simp [go_sem]) (by simp [go_sem]) (by simp) (by simp [hN])⟩
        · rw [hin] at hic
          have hc1 : cy1 u.length l i = false := by simp only [cy1, hgx, q0, decide_eq_false h1, hin]; rfl
          rw [hc1] at ht
          repeat' (first | apply w1 | apply w2 | apply w3 | apply w4 | apply w5 | apply w6 | apply w7 | refine Kq_exit_ne (by decide) ?_ | apply w8 | apply w9 | apply w0 | rw [wrap64 (by omega) (by omega)] | ((first | refine hK _ ?_ | refine hKp _ _ ?_); clear hK hKp K Kp; try clear hanc anc) | ((with_reducible refine And.intro ?_ ?_); (focus (first | trivial | omega | (simp only [Fits]; omega) | assumption | (rw [hanc]; rfl)))) | ((first | refine K_regA hE fun K Kp hK hKp => ?_ | refine K_drwA false mixed hE fun K Kp hK hKp anc hanc => ?_ | ((first | apply CallP_mk | apply CallB_mk); (focus (simp only [go_sem]; rfl)); (focus (exact hic)); (focus (simp [go_sem])); (focus (first | exact .inl rfl | (right; simp [go_sem]))))); simp only [go_sem, ↓reduceIte, reduceCtorEq, reduceAdd, reduceMul, reduceEqDiff, reduceLT, reduceLeDiff, reduceSub, reduceDiv, Nat.reduceBEq, Int.reduceBEq, reduceBNe, Int.reduceLT, reduceLE, reduceEq, lt_dec hlt, hx, q0, q1]) | ((first | refine onG_split_t (fun hg => ?_) (fun hg => ?_) | refine onG_split_f (fun hg => ?_) (fun hg => ?_)) <;> simp only [go_sem, ↓reduceIte, reduceCtorEq, reduceAdd, reduceMul, reduceEqDiff, reduceLT, reduceLeDiff, reduceSub, reduceDiv, Nat.reduceBEq, Int.reduceBEq, reduceBNe, Int.reduceLT, reduceLE, reduceEq, lt_dec hlt, hx, q0, q1, hg]) | (refine K_condA (fun hc => ?_) (fun hc => ?_) <;> try (exact absurd hc (by decide))) | (refine K_ret ?_; refine (hQ _ ⟨_, by (try simp only [go_sem, ↓reduceIte, Nat.reduceEqDiff]); rfl, by simp [go_sem], ?_, by first | rfl | assumption⟩).1))
          simp [AV.snap, ← ht]
  · obtain rfl : i = l.length := by omega
    rw [Nat.sub_self, allR_zero] at ht
    have ht' := ht.symm
    rw [ht', Bool.true_and] at hQ
    clear ht ht'
    repeat' (first | apply w1 | apply w2 | apply w3 | apply w4 | apply w5 | apply w6 | apply w7 | refine Kq_exit_ne (by decide) ?_ | apply w8 | apply w9 | apply w0 | rw [wrap64 (by omega) (by omega)] | ((first | refine hK _ ?_ | refine hKp _ _ ?_); clear hK hKp K Kp; try clear hanc anc) | ((with_reducible refine And.intro ?_ ?_); (focus (first | trivial | omega | (simp only [Fits]; omega) | assumption | (rw [hanc]; rfl)))) | ((first | refine K_regA hE fun K Kp hK hKp => ?_ | refine K_drwA true mixed hE fun K Kp hK hKp anc hanc => ?_ | refine K_drwA false mixed hE fun K Kp hK hKp anc hanc => ?_); simp only [go_sem, ↓reduceIte, reduceCtorEq, reduceAdd, reduceMul, reduceEqDiff, reduceLT, reduceLeDiff, reduceSub, reduceDiv, Nat.reduceBEq, Int.reduceBEq, reduceBNe, Int.reduceLT, reduceLE, reduceEq, ge_dec]) | ((first | refine onG_split_t (fun hg => ?_) (fun hg => ?_) | refine onG_split_f (fun hg => ?_) (fun hg => ?_)) <;> simp only [go_sem, ↓reduceIte, reduceCtorEq, reduceAdd, reduceMul, reduceEqDiff, reduceLT, reduceLeDiff, reduceSub, reduceDiv, Nat.reduceBEq, Int.reduceBEq, reduceBNe, Int.reduceLT, reduceLE, reduceEq, ge_dec, hg]) | (refine K_condA (fun hc => ?_) (fun hc => ?_) <;> try (exact absurd hc (by decide))))
    refine K_loop (X := Nat) (fun i => i ≤ l.length ∧ allR (cy2 u l) (l.length - i) i = allR (cy2 u l) l.length 0) (fun i => mkSt [(0, .sl (ill u)), (1, .sl (il l)), (6, AV.i i)] [] 0) (fun i => l.length - i) 0 ⟨Nat.zero_le _, rfl⟩ (fun i => i) (by refine ent_mk (by simp [go_sem]) (by simp [go_sem]) (by simp) (by simp [hN])) ?_
    rintro i ⟨hi2, ht⟩
    by_cases hlt : i < l.length
    · obtain ⟨x, hx⟩ := get?_of hlt
      have hgx : l.getD i 0 = x := by simp [List.getD_eq_getElem?_getD, hx]
      rw [show l.length - i = (l.length - (i + 1)) + 1 by omega, allR_succ] at ht
      have hp := hpre i hlt
      simp only [cy1, hgx, Bool.not_eq_true', Bool.or_eq_false_iff, decide_eq_false_iff_not] at hp
      obtain ⟨m, rfl⟩ := Int.eq_ofNat_of_zero_le (show 0 ≤ x by omega)
      obtain ⟨r, hr⟩ := get?_of (show m < u.length by omega)
      have hrl := hl r (List.mem_of_getElem? hr)
      have hul : u.getD (m : Int).toNat [] = r := by simp [List.getD_eq_getElem?_getD, hr]
      have hmod : (i + 1) % l.length < l.length := Nat.mod_lt _ (by omega)
      obtain ⟨y, hy⟩ := get?_of hmod
      have hgy : l.getD ((i + 1) % l.length) 0 = y := by simp [List.getD_eq_getElem?_getD, hy]
      have hic := in_call r y (by omega)
      have ew : IntKind.i64.wrap ((i : Int) + 1) = (i : Int) + 1 := wrap64 (by omega) (by omega)
      have e1 : ((i : Int) + 1).tmod (l.length : Int) = (((i + 1) % l.length : Nat) : Int) := by rw [Int.ofNat_tmod, Int.natCast_add]; rfl
      have hc2 : cy2 u l i = decide (y ∈ r) := by simp only [cy2, hgx, hgy, hul]
      rw [hc2] at ht
      cases hin : decide (y ∈ r)
      · rw [hin] at hic ht
        repeat' (first | apply w1 | apply w2 | apply w3 | apply w4 | apply w5 | apply w6 | apply w7 | refine Kq_exit_ne (by decide) ?_ | apply w8 | apply w9 | apply w0 | rw [wrap64 (by omega) (by omega)] | ((first | refine hK _ ?_ | refine hKp _ _ ?_); clear hK hKp K Kp; try clear hanc anc) | ((with_reducible refine And.intro ?_ ?_); (focus (first | trivial | omega | (simp only [Fits]; omega) | assumption | (rw [hanc]; rfl)))) | ((first | refine K_regA hE fun K Kp hK hKp => ?_ | refine K_drwA false mixed hE fun K Kp hK hKp anc hanc => ?_ | ((first | apply CallP_mk | apply CallB_mk); (focus (simp only [go_sem]; rfl)); (focus (exact hic)); (focus (simp [go_sem])); (focus (first | exact .inl rfl | (right; simp [go_sem]))))); simp only [go_sem, ↓reduceIte, reduceCtorEq, reduceAdd, reduceMul, reduceEqDiff, reduceLT, reduceLeDiff, reduceSub, reduceDiv, Nat.reduceBEq, Int.reduceBEq, reduceBNe, Int.reduceLT, reduceLE, reduceEq, lt_dec hlt, hx, hr, ew, e1, hy]) | ((first | refine onG_split_t (fun hg => ?_) (fun hg => ?_) | refine onG_split_f (fun hg => ?_) (fun hg => ?_)) <;> simp only [go_sem, ↓reduceIte, reduceCtorEq, reduceAdd, reduceMul, reduceEqDiff, reduceLT, reduceLeDiff, reduceSub, reduceDiv, Nat.reduceBEq, Int.reduceBEq, reduceBNe, Int.reduceLT, reduceLE, reduceEq, lt_dec hlt, hx, hr, ew, e1, hy, hg]) | (refine K_condA (fun hc => ?_) (fun hc => ?_) <;> try (exact absurd hc (by decide))) | (refine K_ret ?_; refine (hQ _ ⟨_, by (try simp only [go_sem, ↓reduceIte, Nat.reduceEqDiff]); rfl, by simp [go_sem], ?_, by first | rfl | assumption⟩).1))
        simp [AV.snap, ← ht]
      · rw [hin, Bool.true_and] at ht
        rw [hin] at hic
        repeat' (first | apply w1 | apply w2 | apply w3 | apply w4 | apply w5 | apply w6 | apply w7 | refine Kq_exit_ne (by decide) ?_ | apply w8 | apply w9 | apply w0 | rw [wrap64 (by omega) (by omega)] | ((first | refine hK _ ?_ | refine hKp _ _ ?_); clear hK hKp K Kp; try clear hanc anc) | ((with_reducible refine And.intro ?_ ?_); (focus (first | trivial | omega | (simp only [Fits]; omega) | assumption | (rw [hanc]; rfl)))) | ((first | refine K_regA hE fun K Kp hK hKp => ?_ | refine K_drwA false mixed hE fun K Kp hK hKp anc hanc => ?_ | ((first | apply CallP_mk | apply CallB_mk); (focus (simp only [go_sem]; rfl)); (focus (exact hic)); (focus (simp [go_sem])); (focus (first | exact .inl rfl | (right; simp [go_sem]))))); simp only [go_sem, ↓reduceIte, reduceCtorEq, reduceAdd, reduceMul, reduceEqDiff, reduceLT, reduceLeDiff, reduceSub, reduceDiv, Nat.reduceBEq, Int.reduceBEq, reduceBNe, Int.reduceLT, reduceLE, reduceEq, lt_dec hlt, hx, hr, ew, e1, hy]) | ((first | refine onG_split_t (fun hg => ?_) (fun hg => ?_) | refine onG_split_f (fun hg => ?_) (fun hg => ?_)) <;> simp only [go_sem, ↓reduceIte, reduceCtorEq, reduceAdd, reduceMul, reduceEqDiff, reduceLT, reduceLeDiff, reduceSub, reduceDiv, Nat.reduceBEq, Int.reduceBEq, reduceBNe, Int.reduceLT, reduceLE, reduceEq, lt_dec hlt, hx, hr, ew, e1, hy, hg]) | (refine K_condA (fun hc => ?_) (fun hc => ?_) <;> try (exact absurd hc (by decide))) | (refine K_ret ?_; refine (hQ _ ⟨_, by (try simp only [go_sem, ↓reduceIte, Nat.reduceEqDiff]); rfl, by simp [go_sem], ?_, by first | rfl | assumption⟩).1))
        exact ⟨i + 1, ⟨by omega, ht⟩, by omega, fun i => i, by refine ent_mk (by simp [go_sem]) (by simp [go_sem]) (by simp) (by simp [hN])⟩
    · obtain rfl : i = l.length := by omega
      rw [Nat.sub_self, allR_zero] at ht
      have q3 : decide ((l.length : Int) > 0) = decide (0 < l.length) := by simp
      repeat' (first | apply w1 | apply w2 | apply w3 | apply w4 | apply w5 | apply w6 | apply w7 | refine Kq_exit_ne (by decide) ?_ | apply w8 | apply w9 | apply w0 | rw [wrap64 (by omega) (by omega)] | ((first | refine hK _ ?_ | refine hKp _ _ ?_); clear hK hKp K Kp; try clear hanc anc) | ((with_reducible refine And.intro ?_ ?_); (focus (first | trivial | omega | (simp only [Fits]; omega) | assumption | (rw [hanc]; rfl)))) | ((first | refine K_regA hE fun K Kp hK hKp => ?_ | refine K_drwA false mixed hE fun K Kp hK hKp anc hanc => ?_); simp only [go_sem, ↓reduceIte, reduceCtorEq, reduceAdd, reduceMul, reduceEqDiff, reduceLT, reduceLeDiff, reduceSub, reduceDiv, Nat.reduceBEq, Int.reduceBEq, reduceBNe, Int.reduceLT, reduceLE, reduceEq, ge_dec]) | ((first | refine onG_split_t (fun hg => ?_) (fun hg => ?_) | refine onG_split_f (fun hg => ?_) (fun hg => ?_)) <;> simp only [go_sem, ↓reduceIte, reduceCtorEq, reduceAdd, reduceMul, reduceEqDiff, reduceLT, reduceLeDiff, reduceSub, reduceDiv, Nat.reduceBEq, Int.reduceBEq, reduceBNe, Int.reduceLT, reduceLE, reduceEq, ge_dec, hg]) | (refine K_condA (fun hc => ?_) (fun hc => ?_) <;> try (exact absurd hc (by decide))) | (refine K_ret ?_; refine (hQ _ ⟨_, by (try simp only [go_sem, ↓reduceIte, Nat.reduceEqDiff]); rfl, by simp [go_sem], ?_, by first | rfl | assumption⟩).1))
      simp [AV.snap, ← ht, q3]
end Go.Proofs.Ytakpabiefjlmaaa


/- Chapter 22: distance. -/
set_option linter.unusedSimpArgs false
set_option linter.unusedVariables false
set_option maxHeartbeats 4000000
set_option maxRecDepth 100000
namespace Go.Proofs.Ytakpabiefjlmaaa
open Nat (reduceAdd reduceMul reduceEqDiff reduceLT reduceLeDiff reduceSub reduceDiv)
open Int (reduceBNe reduceLE reduceEq)
open Go.Am Go.Proofs
attribute [local irreducible] AW CallP CallB

def dK (to : Int) : List Int → List Int × List Int → Option (List Int × List Int)
  | [], s => some s
  | x :: r, s => if x = to then none else if x ∈ s.1 then dK to r s else dK to r (s.1 ++ [x], s.2 ++ [x])
def dI (u : List (List Int)) (to : Int) : List Int → List Int × List Int → Option (List Int × List Int)
  | [], s => some s
  | x :: r, s => (dK to (u.getD x.toNat []) s).bind fun s => dI u to r s
def dN (u : List (List Int)) (to : Int) : Nat → Nat → List Int → List Int → Nat
  | 0, _, _, _ => 0
  | k + 1, n, now, seen => match dI u to now (seen, []) with
    | none => n
    | some s => dN u to k (n + 1) s.2 s.1
def dist (u : List (List Int)) (a to : Int) : Nat := dN u to u.length 1 [a] []

/-- Those seen, and the next ones. -/
structure DOk (N : Nat) (sn nx : List Int) : Prop where
  nd : sn.Nodup
  rg : ∀ x, x ∈ sn → 0 ≤ x ∧ x < N
  ln : nx.length ≤ sn.length
  nr : ∀ x, x ∈ nx → 0 ≤ x ∧ x < N
theorem DOk.add {N : Nat} {sn nx : List Int} (h : DOk N sn nx) {x : Int} (hx : 0 ≤ x ∧ x < N) (hn : x ∉ sn) : DOk N (sn ++ [x]) (nx ++ [x]) := by
  refine ⟨?_, fun y hy => ?_, by have := h.ln; simp only [List.length_append, List.length_singleton]; omega, fun y hy => ?_⟩
  · rw [List.nodup_append]
    exact ⟨h.nd, by simp, fun a ha b hb e => by rw [List.mem_singleton.1 hb] at e; exact hn (e ▸ ha)⟩
  · rcases List.mem_append.1 hy with hy | hy
    · exact h.rg y hy
    · rw [List.mem_singleton.1 hy]; exact hx
  · rcases List.mem_append.1 hy with hy | hy
    · exact h.nr y hy
    · rw [List.mem_singleton.1 hy]; exact hx

theorem dist_call (u : List (List Int)) (a to : Int) (hu : u.length ≤ 20) (hl : ∀ l, l ∈ u → l.length ≤ 20) (hv : ∀ l, l ∈ u → ∀ x, x ∈ l → 0 ≤ x ∧ x < u.length) (ha : 0 ≤ a ∧ a < u.length) : PCall Try.prog 16 [.sl (ill u), .i a, .i to] (.i (dist u a to)) := by
  have hsa := szok_il [a]
  have hsn := szok_il []
  rw [il_nil] at hsn
  refine PCall.intro Try.func16 rfl isf16 (by simp [Try.f16]) (by simp [AV.cloL, AV.clo]) fun E Q hE hN hQ => K_start ?_
  repeat' (first | apply w1 | apply w2 | apply w3 | apply w4 | apply w5 | apply w6 | apply w7 | refine Kq_exit_ne (by decide) ?_ | apply w8 | apply w9 | apply w0 | rw [wrap64 (by omega) (by omega)] | ((first | refine hK _ ?_ | refine hKp _ _ ?_); clear hK hKp K Kp; try clear hanc anc) | ((with_reducible refine And.intro ?_ ?_); (focus (first | trivial | omega | (simp only [Fits]; omega) | assumption | (rw [hanc]; rfl)))) | ((first | refine K_regA hE fun K Kp hK hKp => ?_ | refine K_drwA true mixed hE fun K Kp hK hKp anc hanc => ?_ | refine K_drwA false mixed hE fun K Kp hK hKp anc hanc => ?_); simp only [go_sem, ↓reduceIte, reduceCtorEq, reduceAdd, reduceMul, reduceEqDiff, reduceLT, reduceLeDiff, reduceSub, reduceDiv, Nat.reduceBEq, Int.reduceBEq, reduceBNe, Int.reduceLT, reduceLE, reduceEq]) | ((first | refine onG_split_t (fun hg => ?_) (fun hg => ?_) | refine onG_split_f (fun hg => ?_) (fun hg => ?_)) <;> simp only [go_sem, ↓reduceIte, reduceCtorEq, reduceAdd, reduceMul, reduceEqDiff, reduceLT, reduceLeDiff, reduceSub, reduceDiv, Nat.reduceBEq, Int.reduceBEq, reduceBNe, Int.reduceLT, reduceLE, reduceEq, hg]) | (refine K_condA (fun hc => ?_) (fun hc => ?_) <;> try (exact absurd hc (by decide))))
  refine K_loop (X := Nat × List Int × List Int) (fun x => 1 ≤ x.1 ∧ x.1 ≤ u.length + 1 ∧ (∀ y, y ∈ x.2.1 → 0 ≤ y ∧ y < u.length) ∧ x.2.1.length ≤ u.length + 1 ∧ DOk u.length x.2.2 [] ∧ dN u to (u.length + 1 - x.1) x.1 x.2.1 x.2.2 = dist u a to) (fun x => mkSt [(0, .sl (ill u)), (1, .i a), (2, .i to), (7, .rw 0), (8, .rw 1), (9, AV.i x.1)] [(0, .row 1 (il x.2.1)), (1, .row 1 (il x.2.2))] 2) (fun x => u.length + 1 - x.1) (1, [a], []) ⟨by simp, by simp, by simpa using ha, by simp, ⟨by simp, by simp, by simp, by simp⟩, rfl⟩ (fun i => if i = 0 then 2097152 else 4194304) (by refine ent_mk (by simp [go_sem, il]) (by simp [go_sem, il]) (by simp) (by simp [hN])) ?_
  rintro ⟨n, now, sn⟩ ⟨hn1, hn2, hnr, hnl, hok, hd⟩
  simp only at hn1 hn2 hnr hnl hok hd
  have hnd := nodup_le hok.nd hok.rg
  by_cases hlt : n ≤ u.length
  · rw [show u.length + 1 - n = (u.length + 1 - (n + 1)) + 1 by omega, dN] at hd
    have q0 : decide ((n : Int) ≤ (u.length : Int)) = true := by simp; omega
    repeat' (first | apply w1 | apply w2 | apply w3 | apply w4 | apply w5 | apply w6 | apply w7 | refine Kq_exit_ne (by decide) ?_ | apply w8 | apply w9 | apply w0 | rw [wrap64 (by omega) (by omega)] | ((first | refine hK _ ?_ | refine hKp _ _ ?_); clear hK hKp K Kp; try clear hanc anc) | ((with_reducible refine And.intro ?_ ?_); (focus (first | trivial | omega | (simp only [Fits]; omega) | assumption | (rw [hanc]; rfl)))) | ((first | refine K_regA hE fun K Kp hK hKp => ?_ | refine K_drwA true mixed hE fun K Kp hK hKp anc hanc => ?_ | refine K_drwA false mixed hE fun K Kp hK hKp anc hanc => ?_); simp only [go_sem, ↓reduceIte, reduceCtorEq, reduceAdd, reduceMul, reduceEqDiff, reduceLT, reduceLeDiff, reduceSub, reduceDiv, Nat.reduceBEq, Int.reduceBEq, reduceBNe, Int.reduceLT, reduceLE, reduceEq, q0]) | ((first | refine onG_split_t (fun hg => ?_) (fun hg => ?_) | refine onG_split_f (fun hg => ?_) (fun hg => ?_)) <;> simp only [go_sem, ↓reduceIte, reduceCtorEq, reduceAdd, reduceMul, reduceEqDiff, reduceLT, reduceLeDiff, reduceSub, reduceDiv, Nat.reduceBEq, Int.reduceBEq, reduceBNe, Int.reduceLT, reduceLE, reduceEq, q0, hg]) | (refine K_condA (fun hc => ?_) (fun hc => ?_) <;> try (exact absurd hc (by decide))))
    refine K_loop (X := Nat × List Int × List Int) (fun x => x.1 ≤ now.length ∧ DOk u.length x.2.1 x.2.2 ∧ dI u to (now.drop x.1) x.2 = dI u to now (sn, [])) (fun x => mkSt [(0, .sl (ill u)), (1, .i a), (2, .i to), (7, .rw 0), (8, .rw 1), (9, AV.i n), (10, .rw 2), (11, AV.i x.1)] [(0, .row 1 (il now)), (1, .row 1 (il x.2.1)), (2, .row 1 (il x.2.2))] 3) (fun x => now.length - x.1) (0, sn, []) ⟨Nat.zero_le _, hok, rfl⟩ (fun i => if i = 2 then 4194306 else i) (by refine ent_mk (by simp [go_sem]) (by simp [go_sem]) (by simp) (by simp [hN])) ?_
    rintro ⟨i, sn1, nx1⟩ ⟨hi, hok1, hd1⟩
    simp only at hi hok1 hd1
    have hnd1 := nodup_le hok1.nd hok1.rg
    have hln1 := hok1.ln
    by_cases hli : i < now.length
    · obtain ⟨m0, hm⟩ := get?_of hli
      obtain ⟨hm0, hm1⟩ := hnr m0 (List.mem_of_getElem? hm)
      obtain ⟨m, rfl⟩ := Int.eq_ofNat_of_zero_le hm0
      obtain ⟨l, hx⟩ := get?_of (show m < u.length by omega)
      have hll := hl l (List.mem_of_getElem? hx)
      have hlv := hv l (List.mem_of_getElem? hx)
      have hul : u.getD (m : Int).toNat [] = l := by simp [List.getD_eq_getElem?_getD, hx]
      rw [drop_of hm, dI, hul] at hd1
      repeat' (first | apply w1 | apply w2 | apply w3 | apply w4 | apply w5 | apply w6 | apply w7 | refine Kq_exit_ne (by decide) ?_ | apply w8 | apply w9 | apply w0 | rw [wrap64 (by omega) (by omega)] | ((first | refine hK _ ?_ | refine hKp _ _ ?_); clear hK hKp K Kp; try clear hanc anc) | ((with_reducible refine And.intro ?_ ?_); (focus (first | trivial | omega | (simp only [Fits]; omega) | assumption | (rw [hanc]; rfl)))) | ((first | refine K_regA hE fun K Kp hK hKp => ?_ | refine K_drwA true mixed hE fun K Kp hK hKp anc hanc => ?_ | refine K_drwA false mixed hE fun K Kp hK hKp anc hanc => ?_); simp only [go_sem, ↓reduceIte, reduceCtorEq, reduceAdd, reduceMul, reduceEqDiff, reduceLT, reduceLeDiff, reduceSub, reduceDiv, Nat.reduceBEq, Int.reduceBEq, reduceBNe, Int.reduceLT, reduceLE, reduceEq, lt_dec hli]) | ((first | refine onG_split_t (fun hg => ?_) (fun hg => ?_) | refine onG_split_f (fun hg => ?_) (fun hg => ?_)) <;> simp only [go_sem, ↓reduceIte, reduceCtorEq, reduceAdd, reduceMul, reduceEqDiff, reduceLT, reduceLeDiff, reduceSub, reduceDiv, Nat.reduceBEq, Int.reduceBEq, reduceBNe, Int.reduceLT, reduceLE, reduceEq, lt_dec hli, hg]) | (refine K_condA (fun hc => ?_) (fun hc => ?_) <;> try (exact absurd hc (by decide))))
      refine K_loop (X := Nat × List Int × List Int) (fun x => x.1 ≤ l.length ∧ DOk u.length x.2.1 x.2.2 ∧ dK to (l.drop x.1) x.2 = dK to l (sn1, nx1)) (fun x => mkSt [(0, .sl (ill u)), (1, .i a), (2, .i to), (7, .rw 0), (8, .rw 1), (9, AV.i n), (10, .rw 2), (11, AV.i i), (12, AV.i x.1)] [(0, .row 1 (il now)), (1, .row 1 (il x.2.1)), (2, .row 1 (il x.2.2))] 3) (fun x => l.length - x.1) (0, sn1, nx1) ⟨Nat.zero_le _, hok1, rfl⟩ (fun i => i) (by refine ent_mk (by simp [go_sem]) (by simp [go_sem]) (by simp) (by simp [hN])) ?_
      rintro ⟨k, sn2, nx2⟩ ⟨hk, hok2, hd2⟩
      simp only at hk hok2 hd2
      have hnd2 := nodup_le hok2.nd hok2.rg
      have hln2 := hok2.ln
      by_cases hlk : k < l.length
      · obtain ⟨x, hxk⟩ := get?_of hlk
        have hxr := hlv x (List.mem_of_getElem? hxk)
        rw [drop_of hxk, dK] at hd2
        by_cases hxt : x = to
        · have q1 : (x == to) = true := by simp [hxt]
          rw [if_pos hxt] at hd2
          rw [← hd2] at hd1
          rw [← hd1] at hd
          repeat' (first | apply w1 | apply w2 | apply w3 | apply w4 | apply w5 | apply w6 | apply w7 | refine Kq_exit_ne (by decide) ?_ | apply w8 | apply w9 | apply w0 | rw [wrap64 (by omega) (by omega)] | ((first | refine hK _ ?_ | refine hKp _ _ ?_); clear hK hKp K Kp; try clear hanc anc) | ((with_reducible refine And.intro ?_ ?_); (focus (first | trivial | omega | (simp only [Fits]; omega) | assumption | (rw [hanc]; rfl)))) | ((first | refine K_regA hE fun K Kp hK hKp => ?_ | refine K_drwA false mixed hE fun K Kp hK hKp anc hanc => ?_); simp only [go_sem, ↓reduceIte, reduceCtorEq, reduceAdd, reduceMul, reduceEqDiff, reduceLT, reduceLeDiff, reduceSub, reduceDiv, Nat.reduceBEq, Int.reduceBEq, reduceBNe, Int.reduceLT, reduceLE, reduceEq, lt_dec hlk, hm, hx, hxk, q1]) | ((first | refine onG_split_t (fun hg => ?_) (fun hg => ?_) | refine onG_split_f (fun hg => ?_) (fun hg => ?_)) <;> simp only [go_sem, ↓reduceIte, reduceCtorEq, reduceAdd, reduceMul, reduceEqDiff, reduceLT, reduceLeDiff, reduceSub, reduceDiv, Nat.reduceBEq, Int.reduceBEq, reduceBNe, Int.reduceLT, reduceLE, reduceEq, lt_dec hlk, hm, hx, hxk, q1, hg]) | (refine K_condA (fun hc => ?_) (fun hc => ?_) <;> try (exact absurd hc (by decide))) | (refine K_ret ?_; refine (hQ _ ⟨_, by (try simp only [go_sem, ↓reduceIte, Nat.reduceEqDiff]); rfl, by simp [go_sem], ?_, by first | rfl | assumption⟩).1))
          simp [AV.snap, ← hd]
        · have q1 : (x == to) = false := by simp [hxt]
          rw [if_neg hxt] at hd2
          simp only at hd2
          have hic := in_call sn2 x (by omega)
          by_cases hin : x ∈ sn2
          · rw [decide_eq_true hin] at hic
            rw [if_pos hin] at hd2
            repeat' (first | apply w1 | apply w2 | apply w3 | apply w4 | apply w5 | apply w6 | apply w7 | refine Kq_exit_ne (by decide) ?_ | apply w8 | apply w9 | apply w0 | rw [wrap64 (by omega) (by omega)] | ((first | refine hK _ ?_ | refine hKp _ _ ?_); clear hK hKp K Kp; try clear hanc anc) | ((with_reducible refine And.intro ?_ ?_); (focus (first | trivial | omega | (simp only [Fits]; omega) | assumption | (rw [hanc]; rfl)))) | ((first | refine K_regA hE fun K Kp hK hKp => ?_ | refine K_drwA false mixed hE fun K Kp hK hKp anc hanc => ?_ | ((first | apply CallP_mk | apply CallB_mk); (focus (simp only [go_sem]; rfl)); (focus (exact hic)); (focus (simp [go_sem])); (focus (first | exact .inl rfl | (right; simp [go_sem]))))); simp only [go_sem, ↓reduceIte, reduceCtorEq, reduceAdd, reduceMul, reduceEqDiff, reduceLT, reduceLeDiff, reduceSub, reduceDiv, Nat.reduceBEq, Int.reduceBEq, reduceBNe, Int.reduceLT, reduceLE, reduceEq, lt_dec hlk, hm, hx, hxk, q1]) | ((first | refine onG_split_t (fun hg => ?_) (fun hg => ?_) | refine onG_split_f (fun hg => ?_) (fun hg => ?_)) <;> simp only [go_sem, ↓reduceIte, reduceCtorEq, reduceAdd, reduceMul, reduceEqDiff, reduceLT, reduceLeDiff, reduceSub, reduceDiv, Nat.reduceBEq, Int.reduceBEq, reduceBNe, Int.reduceLT, reduceLE, reduceEq, lt_dec hlk, hm, hx, hxk, q1, hg]) | (refine K_condA (fun hc => ?_) (fun hc => ?_) <;> try (exact absurd hc (by decide))) | (refine K_ret ?_; refine (hQ _ ⟨_, by (try simp only [go_sem, ↓reduceIte, Nat.reduceEqDiff]); rfl, by simp [go_sem], ?_, by first | rfl | assumption⟩).1))
            exact ⟨(k + 1, sn2, nx2), ⟨by simp only; omega, hok2, hd2⟩, by simp only; omega, fun i => i, by refine ent_mk (by simp [go_sem]) (by simp [go_sem]) (by simp) (by simp [hN])⟩
          · rw [decide_eq_false hin] at hic
            rw [if_neg hin] at hd2
            have hsx := szok_il [x]
            repeat' (first | apply w1 | apply w2 | apply w3 | apply w4 | apply w5 | apply w6 | apply w7 | refine Kq_exit_ne (by decide) ?_ | apply w8 | apply w9 | apply w0 | rw [wrap64 (by omega) (by omega)] | ((first | refine hK _ ?_ | refine hKp _ _ ?_); clear hK hKp K Kp; try clear hanc anc) | ((with_reducible refine And.intro ?_ ?_); (focus (first | trivial | omega | (simp only [Fits]; omega) | assumption | (rw [hanc]; rfl)))) | ((first | refine K_regA hE fun K Kp hK hKp => ?_ | refine K_drwA false mixed hE fun K Kp hK hKp anc hanc => ?_ | ((first | apply CallP_mk | apply CallB_mk); (focus (simp only [go_sem]; rfl)); (focus (exact hic)); (focus (simp [go_sem])); (focus (first | exact .inl rfl | (right; simp [go_sem]))))); simp only [go_sem, ↓reduceIte, reduceCtorEq, reduceAdd, reduceMul, reduceEqDiff, reduceLT, reduceLeDiff, reduceSub, reduceDiv, Nat.reduceBEq, Int.reduceBEq, reduceBNe, Int.reduceLT, reduceLE, reduceEq, lt_dec hlk, hm, hx, hxk, q1]) | ((first | refine onG_split_t (fun hg => ?_) (fun hg => ?_) | refine onG_split_f (fun hg => ?_) (fun hg => ?_)) <;> simp only [go_sem, ↓reduceIte, reduceCtorEq, reduceAdd, reduceMul, reduceEqDiff, reduceLT, reduceLeDiff, reduceSub, reduceDiv, Nat.reduceBEq, Int.reduceBEq, reduceBNe, Int.reduceLT, reduceLE, reduceEq, lt_dec hlk, hm, hx, hxk, q1, hg]) | (refine K_condA (fun hc => ?_) (fun hc => ?_) <;> try (exact absurd hc (by decide))) | (refine K_ret ?_; refine (hQ _ ⟨_, by (try simp only [go_sem, ↓reduceIte, Nat.reduceEqDiff]); rfl, by simp [go_sem], ?_, by first | rfl | assumption⟩).1))
            exact ⟨(k + 1, sn2 ++ [x], nx2 ++ [x]), ⟨by simp only; omega, hok2.add hxr hin, hd2⟩, by simp only; omega, fun i => if i = 1 then 32505859 else if i = 2 then 37748739 else i, by refine ent_mk (by simp [go_sem]) (by simp [go_sem]) (by simp) (by simp [hN])⟩
      · obtain rfl : k = l.length := by omega
        rw [List.drop_length, dK] at hd2
        rw [← hd2, Option.bind_some] at hd1
        repeat' (first | apply w1 | apply w2 | apply w3 | apply w4 | apply w5 | apply w6 | apply w7 | refine Kq_exit_ne (by decide) ?_ | apply w8 | apply w9 | apply w0 | rw [wrap64 (by omega) (by omega)] | ((first | refine hK _ ?_ | refine hKp _ _ ?_); clear hK hKp K Kp; try clear hanc anc) | ((with_reducible refine And.intro ?_ ?_); (focus (first | trivial | omega | (simp only [Fits]; omega) | assumption | (rw [hanc]; rfl)))) | ((first | refine K_regA hE fun K Kp hK hKp => ?_ | refine K_drwA true mixed hE fun K Kp hK hKp anc hanc => ?_ | refine K_drwA false mixed hE fun K Kp hK hKp anc hanc => ?_); simp only [go_sem, ↓reduceIte, reduceCtorEq, reduceAdd, reduceMul, reduceEqDiff, reduceLT, reduceLeDiff, reduceSub, reduceDiv, Nat.reduceBEq, Int.reduceBEq, reduceBNe, Int.reduceLT, reduceLE, reduceEq, ge_dec, hm, hx]) | ((first | refine onG_split_t (fun hg => ?_) (fun hg => ?_) | refine onG_split_f (fun hg => ?_) (fun hg => ?_)) <;> simp only [go_sem, ↓reduceIte, reduceCtorEq, reduceAdd, reduceMul, reduceEqDiff, reduceLT, reduceLeDiff, reduceSub, reduceDiv, Nat.reduceBEq, Int.reduceBEq, reduceBNe, Int.reduceLT, reduceLE, reduceEq, ge_dec, hm, hx, hg]) | (refine K_condA (fun hc => ?_) (fun hc => ?_) <;> try (exact absurd hc (by decide))))
        exact ⟨(i + 1, sn2, nx2), ⟨by simp only; omega, hok2, hd1⟩, by simp only; omega, fun i => i, by refine ent_mk (by simp [go_sem]) (by simp [go_sem]) (by simp) (by simp [hN])⟩
    · obtain rfl : i = now.length := by omega
      rw [List.drop_length, dI] at hd1
      rw [← hd1] at hd
      simp only at hd
      repeat' (first | apply w1 | apply w2 | apply w3 | apply w4 | apply w5 | apply w6 | apply w7 | refine Kq_exit_ne (by decide) ?_ | apply w8 | apply w9 | apply w0 | rw [wrap64 (by omega) (by omega)] | ((first | refine hK _ ?_ | refine hKp _ _ ?_); clear hK hKp K Kp; try clear hanc anc) | ((with_reducible refine And.intro ?_ ?_); (focus (first | trivial | omega | (simp only [Fits]; omega) | assumption | (rw [hanc]; rfl)))) | ((first | refine K_regA hE fun K Kp hK hKp => ?_ | refine K_drwA true mixed hE fun K Kp hK hKp anc hanc => ?_ | refine K_drwA false mixed hE fun K Kp hK hKp anc hanc => ?_); simp only [go_sem, ↓reduceIte, reduceCtorEq, reduceAdd, reduceMul, reduceEqDiff, reduceLT, reduceLeDiff, reduceSub, reduceDiv, Nat.reduceBEq, Int.reduceBEq, reduceBNe, Int.reduceLT, reduceLE, reduceEq, ge_dec]) | ((first | refine onG_split_t (fun hg => ?_) (fun hg => ?_) | refine onG_split_f (fun hg => ?_) (fun hg => ?_)) <;> simp only [go_sem, ↓reduceIte, reduceCtorEq, reduceAdd, reduceMul, reduceEqDiff, reduceLT, reduceLeDiff, reduceSub, reduceDiv, Nat.reduceBEq, Int.reduceBEq, reduceBNe, Int.reduceLT, reduceLE, reduceEq, ge_dec, hg]) | (refine K_condA (fun hc => ?_) (fun hc => ?_) <;> try (exact absurd hc (by decide))))
      exact ⟨(n + 1, nx1, sn1), ⟨by simp only; omega, by simp only; omega, hok1.nr, by simp only; omega, ⟨hok1.nd, hok1.rg, Nat.zero_le _, by simp⟩, hd⟩, by simp only; omega, fun i => if i = 0 then 2 else 1, by refine ent_mk (by simp [go_sem]) (by simp [go_sem]) (by simp) (by simp [hN])⟩
  · obtain rfl : n = u.length + 1 := by omega
    rw [Nat.sub_self, dN] at hd
    have q0 : decide (((u.length + 1 : Nat) : Int) ≤ (u.length : Int)) = false := by simp; omega
    repeat' (first | apply w1 | apply w2 | apply w3 | apply w4 | apply w5 | apply w6 | apply w7 | refine Kq_exit_ne (by decide) ?_ | apply w8 | apply w9 | apply w0 | rw [wrap64 (by omega) (by omega)] | ((first | refine hK _ ?_ | refine hKp _ _ ?_); clear hK hKp K Kp; try clear hanc anc) | ((with_reducible refine And.intro ?_ ?_); (focus (first | trivial | omega | (simp only [Fits]; omega) | assumption | (rw [hanc]; rfl)))) | ((first | refine K_regA hE fun K Kp hK hKp => ?_ | refine K_drwA false mixed hE fun K Kp hK hKp anc hanc => ?_); simp only [go_sem, ↓reduceIte, reduceCtorEq, reduceAdd, reduceMul, reduceEqDiff, reduceLT, reduceLeDiff, reduceSub, reduceDiv, Nat.reduceBEq, Int.reduceBEq, reduceBNe, Int.reduceLT, reduceLE, reduceEq, q0]) | ((first | refine onG_split_t (fun hg => ?_) (fun hg => ?_) | refine onG_split_f (fun hg => ?_) (fun hg => ?_)) <;> simp only [go_sem, ↓reduceIte, reduceCtorEq, reduceAdd, reduceMul, reduceEqDiff, reduceLT, reduceLeDiff, reduceSub, reduceDiv, Nat.reduceBEq, Int.reduceBEq, reduceBNe, Int.reduceLT, reduceLE, reduceEq, q0, hg]) | (refine K_condA (fun hc => ?_) (fun hc => ?_) <;> try (exact absurd hc (by decide))) | (refine K_ret ?_; refine (hQ _ ⟨_, by (try simp only [go_sem, ↓reduceIte, Nat.reduceEqDiff]); rfl, by simp [go_sem], ?_, by first | rfl | assumption⟩).1))
    simp [AV.snap, ← hd]
end Go.Proofs.Ytakpabiefjlmaaa


/- Chapter 22: what an order is; rows in a row beside a map. -/
set_option linter.unusedSimpArgs false
set_option linter.unusedVariables false
set_option maxHeartbeats 4000000
set_option maxRecDepth 100000
namespace Go.Proofs.Ytakpabiefjlmaaa
open Go.Am Go.Proofs
attribute [local irreducible] AW CallP CallB

theorem nxt_good {out : List Int} : ∀ {r : List (List Int)} {i m : Nat}, nxt out r i = some m → ∃ l, r[m - i]? = some l ∧ good out m l = true
  | [], _, _, h => by cases h
  | l :: r, i, m, h => by
    rw [nxt] at h
    split at h
    · rename_i hg
      cases h
      exact ⟨l, by simp, hg⟩
    · have h1 := nxt_lt h
      obtain ⟨l', h2, h3⟩ := nxt_good h
      refine ⟨l', ?_, h3⟩
      rw [show m - i = (m - (i + 1)) + 1 by omega]
      simpa using h2
/-- Each after all that it uses, and none twice. -/
structure Topo (u : List (List Int)) (o : List Int) : Prop where
  nd : o.Nodup
  us : ∀ (i : Nat) (x : Int), o[i]? = some x → (0 ≤ x ∧ x < u.length) ∧ ∀ y, y ∈ u.getD x.toNat [] → y ∈ o.take i
theorem Topo.nil (u : List (List Int)) : Topo u [] := ⟨by simp, fun i x h => by simp at h⟩
theorem Topo.add {u : List (List Int)} {o : List Int} (h : Topo u o) {m : Nat} {l : List Int} (hl : u[m]? = some l) (hg : good o m l = true) : Topo u (o ++ [(m : Int)]) := by
  obtain ⟨hm, _⟩ := List.getElem?_eq_some_iff.1 hl
  simp only [good, Bool.and_eq_true, Bool.not_eq_true', decide_eq_false_iff_not, List.all_eq_true, decide_eq_true_eq] at hg
  refine ⟨?_, fun i x hx => ?_⟩
  · rw [List.nodup_append]
    exact ⟨h.nd, by simp, fun a ha b hb e => by rw [List.mem_singleton.1 hb] at e; exact hg.1 (e ▸ ha)⟩
  · by_cases hi : i < o.length
    · rw [List.getElem?_append_left hi] at hx
      have := h.us i x hx
      refine ⟨this.1, fun y hy => ?_⟩
      rw [List.take_append_of_le_length (by omega)]
      exact this.2 y hy
    · obtain ⟨h3, _⟩ := List.getElem?_eq_some_iff.1 hx
      simp only [List.length_append, List.length_singleton] at h3
      obtain rfl : i = o.length := by omega
      rw [List.getElem?_append_right (by omega), Nat.sub_self] at hx
      simp only [List.getElem?_cons_zero, Option.some.injEq] at hx
      subst hx
      refine ⟨by omega, fun y hy => ?_⟩
      rw [List.take_append_of_le_length (by omega), List.take_length]
      refine hg.2 y ?_
      simpa [List.getD_eq_getElem?_getD, hl] using hy
theorem ordGo_topo {u : List (List Int)} : ∀ {k : Nat} {out o : List Int}, ordGo u k out = some o → Topo u out → Topo u o
  | 0, out, o, h, ht => by cases h; exact ht
  | k + 1, out, o, h, ht => by
    rw [ordGo] at h
    cases hn : nxt out u 0 with
    | none => simp [hn] at h
    | some m =>
      simp only [hn] at h
      obtain ⟨l, h1, h2⟩ := nxt_good hn
      exact ordGo_topo h (ht.add (by simpa using h1) h2)
theorem order_topo (u : List (List Int)) : Topo u (order u).1 := by
  unfold order
  split
  · split
    · exact Topo.nil u
    · rename_i o ho
      exact ordGo_topo ho (Topo.nil u)
  · exact Topo.nil u
theorem Topo.ne {u : List (List Int)} {o : List Int} (h : Topo u o) {i : Nat} {m : Int} (hm : o[i]? = some m) : m ∉ o.take i := by
  intro hin
  obtain ⟨j, hj, hj2⟩ := List.getElem_of_mem hin
  obtain ⟨hi, hi2⟩ := List.getElem?_eq_some_iff.1 hm
  simp only [List.length_take] at hj
  rw [List.getElem_take] at hj2
  exact List.pairwise_iff_getElem.1 h.nd j i (by omega) hi (by omega) (hj2.trans hi2.symm)

/-- A row of rows, and a map. -/
def qHp (z : List AV) (R : List (List AV)) (es : List (AV × AV)) : Nat → Option AObj
  | 0 => some (.row 1 z)
  | k + 1 => if k = 30 then some (.map es) else (R[k]?).map fun r => .row 1 r
theorem qHp_0 (z : List AV) (R : List (List AV)) (es : List (AV × AV)) : qHp z R es 0 = some (.row 1 z) := rfl
theorem qHp_m (z : List AV) (R : List (List AV)) (es : List (AV × AV)) : qHp z R es 31 = some (.map es) := by simp [qHp]
theorem qHp_s {z : List AV} {R : List (List AV)} {es : List (AV × AV)} (hR : R.length ≤ 30) {k : Nat} {r : List AV} (h : R[k]? = some r) : qHp z R es (k + 1) = some (.row 1 r) := by
  obtain ⟨h1, _⟩ := List.getElem?_eq_some_iff.1 h
  rw [qHp, if_neg (by omega), h]
  rfl
theorem ent_q {σ : St} {m : Nat → Nat} {np : Nat} {fr : List (Nat × AV)} {z : List AV} {R : List (List AV)} {es : List (AV × AV)} (hn : np = 0) (hR : R.length ≤ 30) (hc : ∀ r, r ∈ R → AV.cloL r = true) (hec : EsClo es) (hz : AV.idsL (· < 32) z) (hf : ∀ p, p ∈ fr → σ.fr p.1 = some (p.2.ren m) ∧ p.2.ids (· < 32))
    (h0 : σ.hp (m 0) = some (.row 1 (AV.renL m z))) (hs : ∀ k r, R[k]? = some r → σ.hp (m (k + 1)) = some (.row 1 r)) (hm : σ.hp (m 31) = some (.map es)) (hi : ∀ i j, i < 32 → j < 32 → m i = m j → i = j) : Ent np m σ ⟨mkFr fr, qHp z R es, 32⟩ := by
  have hcs : ∀ id ob, qHp z R es id = some ob → (id = 0 ∧ ob = .row 1 z) ∨ (id = 31 ∧ ob = .map es) ∨ ∃ k r, id = k + 1 ∧ k < 30 ∧ R[k]? = some r ∧ ob = .row 1 r := by
    intro id ob h
    cases id with
    | zero => cases h; exact .inl ⟨rfl, rfl⟩
    | succ k =>
      rw [qHp] at h
      split at h
      · rename_i e; cases h; exact .inr (.inl ⟨by omega, rfl⟩)
      · cases hk : R[k]? with
        | none => simp [hk] at h
        | some r =>
          simp only [hk, Option.map_some, Option.some.injEq] at h
          obtain ⟨h1, _⟩ := List.getElem?_eq_some_iff.1 hk
          exact .inr (.inr ⟨k, r, rfl, by omega, hk, h.symm⟩)
  have hlt : ∀ id ob, qHp z R es id = some ob → id < 32 := by
    intro id ob h
    rcases hcs id ob h with ⟨h1, _⟩ | ⟨h1, _⟩ | ⟨k, r, h1, h2, _⟩ <;> omega
  refine ⟨fun t x hx => hf _ (mkFr_mem hx), fun id ob h => ?_, fun id id' o o' h h' he => hi _ _ (hlt _ _ h) (hlt _ _ h') he, fun id hid => ?_⟩
  · rcases hcs id ob h with ⟨rfl, rfl⟩ | ⟨rfl, rfl⟩ | ⟨k, r, rfl, h2, h3, rfl⟩
    · exact ⟨h0, by show 0 < 32; decide, hz⟩
    · refine ⟨?_, by show 31 < 32; decide, fun q hq => ⟨clo_ids (hec q hq).1, clo_ids (hec q hq).2⟩⟩
      rw [hm, AObj.ren, hec.ren]
    · refine ⟨?_, by show k + 1 < 32; omega, cloL_idsL (hc r (List.mem_of_getElem? h3))⟩
      rw [hs k r h3, AObj.ren, cloL_renL (hc r (List.mem_of_getElem? h3))]
  · rw [hn] at hid; exact absurd hid (Nat.not_lt_zero _)
theorem ent_qI {σ : St} {np : Nat} {fr : List (Nat × AV)} {z : List AV} {R : List (List AV)} {es : List (AV × AV)} (hn : np = 0) (hR : R.length ≤ 30) (hc : ∀ r, r ∈ R → AV.cloL r = true) (hec : EsClo es) (hz : AV.idsL (· < 32) z) (hf : ∀ p, p ∈ fr → σ.fr p.1 = some (p.2.ren fun i => i) ∧ p.2.ids (· < 32))
    (hh : σ.hp = qHp z R es) : Ent np (fun i => i) σ ⟨mkFr fr, qHp z R es, 32⟩ :=
  ent_q hn hR hc hec hz hf (by rw [hh, renL_id]; rfl) (fun k r h => by rw [hh]; exact qHp_s hR h) (by rw [hh]; exact qHp_m _ _ _) (fun _ _ _ _ h => h)
theorem upd_qm (z : List AV) (R : List (List AV)) (es es' : List (AV × AV)) : updo (qHp z R es) 31 (some (.map es')) = qHp z R es' := by
  funext id
  cases id with
  | zero => simp [updo, qHp]
  | succ k =>
    simp only [updo, qHp]
    by_cases hk : k = 30
    · subst hk; simp
    · rw [if_neg (by omega), if_neg hk, if_neg hk]
end Go.Proofs.Ytakpabiefjlmaaa

