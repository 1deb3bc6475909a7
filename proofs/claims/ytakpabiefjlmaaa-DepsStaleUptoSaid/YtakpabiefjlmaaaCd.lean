/- A part of the proof: an abstract machine for the walks, and what the walked functions compute. -/
import Derived.Test.YtakpabiefjlmaaaCc
set_option linter.unusedVariables false
set_option linter.unusedSimpArgs false
/- Chapter 22: Cycle; Valid; required. -/
set_option linter.unusedSimpArgs false
set_option linter.unusedVariables false
set_option maxHeartbeats 4000000
set_option maxRecDepth 100000
namespace Go.Proofs.Ytakpabiefjlmaaa
open Nat (reduceAdd reduceMul reduceEqDiff reduceLT reduceLeDiff reduceSub reduceDiv)
open Int (reduceBNe reduceLE reduceEq)
open Go.Am Go.Proofs
attribute [local irreducible] AW CallP CallB

/-- The better one of a cycle and the best one before. -/
def betL (l b : List Int) : List Int := if 0 < l.length ∧ (b = [] ∨ l.length < b.length) then l else b
def cycGo (u : List (List Int)) : Nat → Nat → List Int → List Int
  | 0, _, b => b
  | k + 1, m, b => cycGo u k (m + 1) (betL (through u m) b)
def cycle (u : List (List Int)) : List Int := if valid u then cycGo u u.length 0 [] else []
def bestV (b : List Int) : AV := if b = [] then .nilsl else .sl (il b)

@[go_sem] theorem bestV_ren (m : Nat → Nat) (b : List Int) : AV.ren m (bestV b) = bestV b := by
  unfold bestV; split
  · rfl
  · simp only [AV.ren, il_ren]
@[go_sem] theorem bestV_ids (p : Nat → Prop) (b : List Int) : AV.ids p (bestV b) = True := by
  unfold bestV; split
  · rfl
  · simp only [AV.ids, il_ids]
@[go_sem] theorem bestV_cons (x : Int) (b : List Int) : bestV (x :: b) = .sl (il (x :: b)) := rfl
@[go_sem] theorem bestV_nil : bestV [] = .nilsl := rfl

@[go_sem] theorem effA_eql_il {P : Program} {t u : TypeId} {x y : Operand} {n : Int} {l : List Int} {os : List (Option AObj)} : effA P (.binOp .eql t x y u) [.sl (il (n :: l)), .nilsl] os = nlO (ti P t) (.sl (il (n :: l))) (.nilsl) false := by rw [show il (n :: l) = .i n :: il l from rfl]; simp only [go_sem]

@[go_sem] theorem nlO_il {e1 : TypeId} {s b : Nat} {z : Option (List AV)} {n : Int} {l : List Int} {r : Bool} : nlO (some ⟨.slice e1, s, b, z⟩) (.sl (il (n :: l))) (.nilsl) r = some (True, .val (.bool r)) := by simp [nlO, nilTK]

theorem cycle_call (u : List (List Int)) (hu : u.length ≤ 2 ^ 30) (hl : ∀ l, l ∈ u → l.length ≤ 2 ^ 30) : PCall Try.prog 14 [.sl (ill u)] (.sl (il (cycle u))) := by
  have hvc := valid_call u (by omega) fun l h => by have := hl l h; omega
  refine PCall.intro Try.func14 rfl isf14 (by simp [Try.f14]) (by simp [AV.cloL, AV.clo]) fun E Q hE hN hQ => K_start ?_
  cases hv : valid u
  · rw [hv] at hvc
    repeat' (first | apply w1 | apply w2 | apply w3 | apply w4 | apply w5 | apply w6 | apply w7 | refine Kq_exit_ne (by decide) ?_ | apply w8 | apply w9 | apply w0 | rw [wrap64 (by omega) (by omega)] | ((first | refine hK _ ?_ | refine hKp _ _ ?_); clear hK hKp K Kp; try clear hanc anc) | ((with_reducible refine And.intro ?_ ?_); (focus (first | trivial | omega | (simp only [Fits]; omega) | assumption | (rw [hanc]; rfl)))) | ((first | refine K_regA hE fun K Kp hK hKp => ?_ | refine K_drwA false mixed hE fun K Kp hK hKp anc hanc => ?_ | ((first | apply CallP_mk | apply CallB_mk); (focus (simp only [go_sem]; rfl)); (focus (exact hvc)); (focus (simp [go_sem])); (focus (first | exact .inl rfl | (right; simp [go_sem]))))); simp only [go_sem, ↓reduceIte, reduceCtorEq, reduceAdd, reduceMul, reduceEqDiff, reduceLT, reduceLeDiff, reduceSub, reduceDiv, Nat.reduceBEq, Int.reduceBEq, reduceBNe, Int.reduceLT, reduceLE, reduceEq]) | ((first | refine onG_split_t (fun hg => ?_) (fun hg => ?_) | refine onG_split_f (fun hg => ?_) (fun hg => ?_)) <;> simp only [go_sem, ↓reduceIte, reduceCtorEq, reduceAdd, reduceMul, reduceEqDiff, reduceLT, reduceLeDiff, reduceSub, reduceDiv, Nat.reduceBEq, Int.reduceBEq, reduceBNe, Int.reduceLT, reduceLE, reduceEq, hg]) | (refine K_condA (fun hc => ?_) (fun hc => ?_) <;> try (exact absurd hc (by decide))) | (refine K_ret ?_; refine (hQ _ ⟨_, by (try simp only [go_sem, ↓reduceIte, Nat.reduceEqDiff]); rfl, by simp [go_sem], ?_, by first | rfl | assumption⟩).1))
    simp [AV.snap, cycle, hv, il]
  · rw [hv] at hvc
    have hvm := valid_mem hv
    have hcy : cycle u = cycGo u u.length 0 [] := if_pos hv
    rw [hcy] at hQ
    repeat' (first | apply w1 | apply w2 | apply w3 | apply w4 | apply w5 | apply w6 | apply w7 | refine Kq_exit_ne (by decide) ?_ | apply w8 | apply w9 | apply w0 | rw [wrap64 (by omega) (by omega)] | ((first | refine hK _ ?_ | refine hKp _ _ ?_); clear hK hKp K Kp; try clear hanc anc) | ((with_reducible refine And.intro ?_ ?_); (focus (first | trivial | omega | (simp only [Fits]; omega) | assumption | (rw [hanc]; rfl)))) | ((first | refine K_regA hE fun K Kp hK hKp => ?_ | refine K_drwA true mixed hE fun K Kp hK hKp anc hanc => ?_ | refine K_drwA false mixed hE fun K Kp hK hKp anc hanc => ?_ | ((first | apply CallP_mk | apply CallB_mk); (focus (simp only [go_sem]; rfl)); (focus (exact hvc)); (focus (simp [go_sem])); (focus (first | exact .inl rfl | (right; simp [go_sem]))))); simp only [go_sem, ↓reduceIte, reduceCtorEq, reduceAdd, reduceMul, reduceEqDiff, reduceLT, reduceLeDiff, reduceSub, reduceDiv, Nat.reduceBEq, Int.reduceBEq, reduceBNe, Int.reduceLT, reduceLE, reduceEq]) | ((first | refine onG_split_t (fun hg => ?_) (fun hg => ?_) | refine onG_split_f (fun hg => ?_) (fun hg => ?_)) <;> simp only [go_sem, ↓reduceIte, reduceCtorEq, reduceAdd, reduceMul, reduceEqDiff, reduceLT, reduceLeDiff, reduceSub, reduceDiv, Nat.reduceBEq, Int.reduceBEq, reduceBNe, Int.reduceLT, reduceLE, reduceEq, hg]) | (refine K_condA (fun hc => ?_) (fun hc => ?_) <;> try (exact absurd hc (by decide))))
    refine K_loop (X := Nat × List Int) (fun x => x.1 ≤ u.length ∧ cycGo u (u.length - x.1) x.1 x.2 = cycGo u u.length 0 []) (fun x => mkSt [(0, .sl (ill u)), (3, bestV x.2), (10, AV.i u.length), (11, AV.i x.1)] [] 0) (fun x => u.length - x.1) (0, []) ⟨Nat.zero_le _, rfl⟩ (fun i => i) (by refine ent_mk (by simp [go_sem]) (by simp [go_sem]) (by simp) (by simp [hN])) ?_
    rintro ⟨i, b⟩ ⟨hi, hgo⟩
    simp only at hi hgo
    by_cases hlt : i < u.length
    · have ht := through_call u i hu hl hvm (by omega)
      rw [show u.length - i = (u.length - i - 1) + 1 by omega, cycGo] at hgo
      have hi1 : u.length - i - 1 = u.length - (i + 1) := by omega
      rw [hi1] at hgo
      generalize through u i = p at *
      cases p with
      | nil =>
        have hb : betL [] b = b := by simp [betL]
        rw [hb] at hgo
        have q0 : decide (((0 : Nat) : Int) > 0) = false := by decide
        repeat' (first | apply w1 | apply w2 | apply w3 | apply w4 | apply w5 | apply w6 | apply w7 | refine Kq_exit_ne (by decide) ?_ | apply w8 | apply w9 | apply w0 | rw [wrap64 (by omega) (by omega)] | ((first | refine hK _ ?_ | refine hKp _ _ ?_); clear hK hKp K Kp; try clear hanc anc) | ((with_reducible refine And.intro ?_ ?_); (focus (first | trivial | omega | (simp only [Fits]; omega) | assumption | (rw [hanc]; rfl)))) | ((first | refine K_regA hE fun K Kp hK hKp => ?_ | refine K_drwA true mixed hE fun K Kp hK hKp anc hanc => ?_ | refine K_drwA false mixed hE fun K Kp hK hKp anc hanc => ?_ | ((first | apply CallP_mk | apply CallB_mk); (focus (simp only [go_sem]; rfl)); (focus (exact ht)); (focus (simp [go_sem])); (focus (first | exact .inl rfl | (right; simp [go_sem]))))); simp only [go_sem, ↓reduceIte, reduceCtorEq, reduceAdd, reduceMul, reduceEqDiff, reduceLT, reduceLeDiff, reduceSub, reduceDiv, Nat.reduceBEq, Int.reduceBEq, reduceBNe, Int.reduceLT, reduceLE, reduceEq, lt_dec hlt, q0]) | ((first | refine onG_split_t (fun hg => ?_) (fun hg => ?_) | refine onG_split_f (fun hg => ?_) (fun hg => ?_)) <;> simp only [go_sem, ↓reduceIte, reduceCtorEq, reduceAdd, reduceMul, reduceEqDiff, reduceLT, reduceLeDiff, reduceSub, reduceDiv, Nat.reduceBEq, Int.reduceBEq, reduceBNe, Int.reduceLT, reduceLE, reduceEq, lt_dec hlt, q0, hg]) | (refine K_condA (fun hc => ?_) (fun hc => ?_) <;> try (exact absurd hc (by decide))))
        exact ⟨(i + 1, b), ⟨by simp only; omega, hgo⟩, by simp only; omega, fun i => i, by refine ent_mk (by simp [go_sem]) (by simp [go_sem]) (by simp) (by simp [hN])⟩
      | cons x p =>
        have q0 : decide (((p.length + 1 : Nat) : Int) > 0) = true := by simp
        cases b with
        | nil =>
          have hb : betL (x :: p) [] = x :: p := by simp [betL]
          rw [hb] at hgo
          have hbv : bestV [] = .nilsl := rfl
          rw [hbv]
          repeat' (first | apply w1 | apply w2 | apply w3 | apply w4 | apply w5 | apply w6 | apply w7 | refine Kq_exit_ne (by decide) ?_ | apply w8 | apply w9 | apply w0 | rw [wrap64 (by omega) (by omega)] | ((first | refine hK _ ?_ | refine hKp _ _ ?_); clear hK hKp K Kp; try clear hanc anc) | ((with_reducible refine And.intro ?_ ?_); (focus (first | trivial | omega | (simp only [Fits]; omega) | assumption | (rw [hanc]; rfl)))) | ((first | refine K_regA hE fun K Kp hK hKp => ?_ | refine K_drwA true mixed hE fun K Kp hK hKp anc hanc => ?_ | refine K_drwA false mixed hE fun K Kp hK hKp anc hanc => ?_ | ((first | apply CallP_mk | apply CallB_mk); (focus (simp only [go_sem]; rfl)); (focus (exact ht)); (focus (simp [go_sem])); (focus (first | exact .inl rfl | (right; simp [go_sem]))))); simp only [go_sem, ↓reduceIte, reduceCtorEq, reduceAdd, reduceMul, reduceEqDiff, reduceLT, reduceLeDiff, reduceSub, reduceDiv, Nat.reduceBEq, Int.reduceBEq, reduceBNe, Int.reduceLT, reduceLE, reduceEq, lt_dec hlt, q0]) | ((first | refine onG_split_t (fun hg => ?_) (fun hg => ?_) | refine onG_split_f (fun hg => ?_) (fun hg => ?_)) <;> simp only [go_sem, ↓reduceIte, reduceCtorEq, reduceAdd, reduceMul, reduceEqDiff, reduceLT, reduceLeDiff, reduceSub, reduceDiv, Nat.reduceBEq, Int.reduceBEq, reduceBNe, Int.reduceLT, reduceLE, reduceEq, lt_dec hlt, q0, hg]) | (refine K_condA (fun hc => ?_) (fun hc => ?_) <;> try (exact absurd hc (by decide))))
          exact ⟨(i + 1, x :: p), ⟨by simp only; omega, hgo⟩, by simp only; omega, fun i => i, by refine ent_mk (by simp [go_sem]) (by simp [go_sem]) (by simp) (by simp [hN])⟩
        | cons y b =>
          have hbv : bestV (y :: b) = .sl (il (y :: b)) := rfl
          rw [hbv]
          by_cases hlb : p.length < b.length
          · have hb : betL (x :: p) (y :: b) = x :: p := by simp [betL, hlb]
            rw [hb] at hgo
            have q1 : decide (((p.length + 1 : Nat) : Int) < ((b.length + 1 : Nat) : Int)) = true := by simp; omega
            repeat' (first | apply w1 | apply w2 | apply w3 | apply w4 | apply w5 | apply w6 | apply w7 | refine Kq_exit_ne (by decide) ?_ | apply w8 | apply w9 | apply w0 | rw [wrap64 (by omega) (by omega)] | ((first | refine hK _ ?_ | refine hKp _ _ ?_); clear hK hKp K Kp; try clear hanc anc) | ((with_reducible refine And.intro ?_ ?_); (focus (first | trivial | omega | (simp only [Fits]; omega) | assumption | (rw [hanc]; rfl)))) | ((first | refine K_regA hE fun K Kp hK hKp => ?_ | refine K_drwA true mixed hE fun K Kp hK hKp anc hanc => ?_ | refine K_drwA false mixed hE fun K Kp hK hKp anc hanc => ?_ | ((first | apply CallP_mk | apply CallB_mk); (focus (simp only [go_sem]; rfl)); (focus (exact ht)); (focus (simp [go_sem])); (focus (first | exact .inl rfl | (right; simp [go_sem]))))); simp only [go_sem, ↓reduceIte, reduceCtorEq, reduceAdd, reduceMul, reduceEqDiff, reduceLT, reduceLeDiff, reduceSub, reduceDiv, Nat.reduceBEq, Int.reduceBEq, reduceBNe, Int.reduceLT, reduceLE, reduceEq, lt_dec hlt, q0, q1]) | ((first | refine onG_split_t (fun hg => ?_) (fun hg => ?_) | refine onG_split_f (fun hg => ?_) (fun hg => ?_)) <;> simp only [go_sem, ↓reduceIte, reduceCtorEq, reduceAdd, reduceMul, reduceEqDiff, reduceLT, reduceLeDiff, reduceSub, reduceDiv, Nat.reduceBEq, Int.reduceBEq, reduceBNe, Int.reduceLT, reduceLE, reduceEq, lt_dec hlt, q0, q1, hg]) | (refine K_condA (fun hc => ?_) (fun hc => ?_) <;> try (exact absurd hc (by decide))))
            exact ⟨(i + 1, x :: p), ⟨by simp only; omega, hgo⟩, by simp only; omega, fun i => i, by refine ent_mk (by simp [go_sem]) (by simp [go_sem]) (by simp) (by simp [hN])⟩
          · have hb : betL (x :: p) (y :: b) = y :: b := by simp [betL, hlb]
            rw [hb] at hgo
            have q1 : decide (((p.length + 1 : Nat) : Int) < ((b.length + 1 : Nat) : Int)) = false := by simp; omega
            repeat' (first | apply w1 | apply w2 | apply w3 | apply w4 | apply w5 | apply w6 | apply w7 | refine Kq_exit_ne (by decide) ?_ | apply w8 | apply w9 | apply w0 | rw [wrap64 (by omega) (by omega)] | ((first | refine hK _ ?_ | refine hKp _ _ ?_); clear hK hKp K Kp; try clear hanc anc) | ((with_reducible refine And.intro ?_ ?_); (focus (first | trivial | omega | (simp only [Fits]; omega) | assumption | (rw [hanc]; rfl)))) | ((first | refine K_regA hE fun K Kp hK hKp => ?_ | refine K_drwA true mixed hE fun K Kp hK hKp anc hanc => ?_ | refine K_drwA false mixed hE fun K Kp hK hKp anc hanc => ?_ | ((first | apply CallP_mk | apply CallB_mk); (focus (simp only [go_sem]; rfl)); (focus (exact ht)); (focus (simp [go_sem])); (focus (first | exact .inl rfl | (right; simp [go_sem]))))); simp only [go_sem, ↓reduceIte, reduceCtorEq, reduceAdd, reduceMul, reduceEqDiff, reduceLT, reduceLeDiff, reduceSub, reduceDiv, Nat.reduceBEq, Int.reduceBEq, reduceBNe, Int.reduceLT, reduceLE, reduceEq, lt_dec hlt, q0, q1]) | ((first | refine onG_split_t (fun hg => ?_) (fun hg => ?_) | refine onG_split_f (fun hg => ?_) (fun hg => ?_)) <;> simp only [go_sem, ↓reduceIte, reduceCtorEq, reduceAdd, reduceMul, reduceEqDiff, reduceLT, reduceLeDiff, reduceSub, reduceDiv, Nat.reduceBEq, Int.reduceBEq, reduceBNe, Int.reduceLT, reduceLE, reduceEq, lt_dec hlt, q0, q1, hg]) | (refine K_condA (fun hc => ?_) (fun hc => ?_) <;> try (exact absurd hc (by decide))))
            exact ⟨(i + 1, y :: b), ⟨by simp only; omega, hgo⟩, by simp only; omega, fun i => i, by refine ent_mk (by simp [go_sem]) (by simp [go_sem]) (by simp) (by simp [hN])⟩
    · obtain rfl : i = u.length := by omega
      rw [Nat.sub_self, cycGo] at hgo
      rw [← hgo] at hQ
      by_cases hb : b = []
      · subst hb
        repeat' (first | apply w1 | apply w2 | apply w3 | apply w4 | apply w5 | apply w6 | apply w7 | refine Kq_exit_ne (by decide) ?_ | apply w8 | apply w9 | apply w0 | rw [wrap64 (by omega) (by omega)] | ((first | refine hK _ ?_ | refine hKp _ _ ?_); clear hK hKp K Kp; try clear hanc anc) | ((with_reducible refine And.intro ?_ ?_); (focus (first | trivial | omega | (simp only [Fits]; omega) | assumption | (rw [hanc]; rfl)))) | ((first | refine K_regA hE fun K Kp hK hKp => ?_ | refine K_drwA false mixed hE fun K Kp hK hKp anc hanc => ?_); simp only [go_sem, ↓reduceIte, reduceCtorEq, reduceAdd, reduceMul, reduceEqDiff, reduceLT, reduceLeDiff, reduceSub, reduceDiv, Nat.reduceBEq, Int.reduceBEq, reduceBNe, Int.reduceLT, reduceLE, reduceEq, ge_dec]) | ((first | refine onG_split_t (fun hg => ?_) (fun hg => ?_) | refine onG_split_f (fun hg => ?_) (fun hg => ?_)) <;> simp only [go_sem, ↓reduceIte, reduceCtorEq, reduceAdd, reduceMul, reduceEqDiff, reduceLT, reduceLeDiff, reduceSub, reduceDiv, Nat.reduceBEq, Int.reduceBEq, reduceBNe, Int.reduceLT, reduceLE, reduceEq, ge_dec, hg]) | (refine K_condA (fun hc => ?_) (fun hc => ?_) <;> try (exact absurd hc (by decide))) | (refine K_ret ?_; refine (hQ _ ⟨_, by (try simp only [go_sem, ↓reduceIte, Nat.reduceEqDiff]); rfl, by simp [go_sem], ?_, by first | rfl | assumption⟩).1))
        simp [bestV, AV.snap, il]
      · have hbv : bestV b = .sl (il b) := if_neg hb
        rw [hbv]
        repeat' (first | apply w1 | apply w2 | apply w3 | apply w4 | apply w5 | apply w6 | apply w7 | refine Kq_exit_ne (by decide) ?_ | apply w8 | apply w9 | apply w0 | rw [wrap64 (by omega) (by omega)] | ((first | refine hK _ ?_ | refine hKp _ _ ?_); clear hK hKp K Kp; try clear hanc anc) | ((with_reducible refine And.intro ?_ ?_); (focus (first | trivial | omega | (simp only [Fits]; omega) | assumption | (rw [hanc]; rfl)))) | ((first | refine K_regA hE fun K Kp hK hKp => ?_ | refine K_drwA false mixed hE fun K Kp hK hKp anc hanc => ?_); simp only [go_sem, ↓reduceIte, reduceCtorEq, reduceAdd, reduceMul, reduceEqDiff, reduceLT, reduceLeDiff, reduceSub, reduceDiv, Nat.reduceBEq, Int.reduceBEq, reduceBNe, Int.reduceLT, reduceLE, reduceEq, ge_dec]) | ((first | refine onG_split_t (fun hg => ?_) (fun hg => ?_) | refine onG_split_f (fun hg => ?_) (fun hg => ?_)) <;> simp only [go_sem, ↓reduceIte, reduceCtorEq, reduceAdd, reduceMul, reduceEqDiff, reduceLT, reduceLeDiff, reduceSub, reduceDiv, Nat.reduceBEq, Int.reduceBEq, reduceBNe, Int.reduceLT, reduceLE, reduceEq, ge_dec, hg]) | (refine K_condA (fun hc => ?_) (fun hc => ?_) <;> try (exact absurd hc (by decide))) | (refine K_ret ?_; refine (hQ _ ⟨_, by (try simp only [go_sem, ↓reduceIte, Nat.reduceEqDiff]); rfl, by simp [go_sem], ?_, by first | rfl | assumption⟩).1))
        simp [AV.snap]

theorem outs_iff (u : List (List Int)) (x : Int) : outs u x = false ↔ 0 ≤ x ∧ x < u.length := by
  unfold outs
  simp only [Bool.or_eq_false_iff, decide_eq_false_iff_not]
  omega
theorem Valid_call (u : List (List Int)) (hu : u.length ≤ 2 ^ 40) (hl : ∀ l, l ∈ u → l.length ≤ 2 ^ 40) : PCall Try.prog 10 [.sl (ill u)] (.bool (valid u)) := by
  unfold valid
  refine PCall.intro Try.func10 rfl isf10 (by simp [Try.f10]) (by simp [AV.cloL, AV.clo]) fun E Q hE hN hQ => K_start ?_
  repeat' (first | apply w1 | apply w2 | apply w3 | apply w4 | apply w5 | apply w6 | apply w7 | refine Kq_exit_ne (by decide) ?_ | apply w8 | apply w9 | apply w0 | rw [wrap64 (by omega) (by omega)] | ((first | refine hK _ ?_ | refine hKp _ _ ?_); clear hK hKp K Kp; try clear hanc anc) | ((with_reducible refine And.intro ?_ ?_); (focus (first | trivial | omega | (simp only [Fits]; omega) | assumption | (rw [hanc]; rfl)))) | ((first | refine K_regA hE fun K Kp hK hKp => ?_ | refine K_drwA false mixed hE fun K Kp hK hKp anc hanc => ?_); simp only [go_sem, ↓reduceIte, reduceCtorEq, reduceAdd, reduceMul, reduceEqDiff, reduceLT, reduceLeDiff, reduceSub, reduceDiv, Nat.reduceBEq, Int.reduceBEq, reduceBNe, Int.reduceLT, reduceLE, reduceEq]) | ((first | refine onG_split_t (fun hg => ?_) (fun hg => ?_) | refine onG_split_f (fun hg => ?_) (fun hg => ?_)) <;> simp only [go_sem, ↓reduceIte, reduceCtorEq, reduceAdd, reduceMul, reduceEqDiff, reduceLT, reduceLeDiff, reduceSub, reduceDiv, Nat.reduceBEq, Int.reduceBEq, reduceBNe, Int.reduceLT, reduceLE, reduceEq, hg]) | (refine K_condA (fun hc => ?_) (fun hc => ?_) <;> try (exact absurd hc (by decide))) | (refine K_ret ?_; refine (hQ _ ⟨_, by (try simp only [go_sem, ↓reduceIte, Nat.reduceEqDiff]); rfl, by simp [go_sem], ?_, by first | rfl | assumption⟩).1))
  refine K_loop (X := Nat) (fun i => i ≤ u.length ∧ (u.any fun l => l.any (outs u)) = ((u.drop i).any fun l => l.any (outs u))) (fun i => mkSt [(0, .sl (ill u)), (3, AV.i i)] [] 0) (fun i => u.length - i) 0 ⟨Nat.zero_le _, rfl⟩ (fun i => i) (by refine ent_mk (by simp [go_sem]) (by simp [go_sem]) (by simp) (by simp [hN])) ?_
  rintro i ⟨hi, ht⟩
  by_cases hlt : i < u.length
  · obtain ⟨l, hx⟩ := get?_of hlt
    have hll := hl l (List.mem_of_getElem? hx)
    rw [drop_of hx, List.any_cons] at ht
    repeat' (first | apply w1 | apply w2 | apply w3 | apply w4 | apply w5 | apply w6 | apply w7 | refine Kq_exit_ne (by decide) ?_ | apply w8 | apply w9 | apply w0 | rw [wrap64 (by omega) (by omega)] | ((first | refine hK _ ?_ | refine hKp _ _ ?_); clear hK hKp K Kp; try clear hanc anc) | ((with_reducible refine And.intro ?_ ?_); (focus (first | trivial | omega | (simp only [Fits]; omega) | assumption | (rw [hanc]; rfl)))) | ((first | refine K_regA hE fun K Kp hK hKp => ?_ | refine K_drwA false mixed hE fun K Kp hK hKp anc hanc => ?_); simp only [go_sem, ↓reduceIte, reduceCtorEq, reduceAdd, reduceMul, reduceEqDiff, reduceLT, reduceLeDiff, reduceSub, reduceDiv, Nat.reduceBEq, Int.reduceBEq, reduceBNe, Int.reduceLT, reduceLE, reduceEq, lt_dec hlt, hx]) | ((first | refine onG_split_t (fun hg => ?_) (fun hg => ?_) | refine onG_split_f (fun hg => ?_) (fun hg => ?_)) <;> simp only [go_sem, ↓reduceIte, reduceCtorEq, reduceAdd, reduceMul, reduceEqDiff, reduceLT, reduceLeDiff, reduceSub, reduceDiv, Nat.reduceBEq, Int.reduceBEq, reduceBNe, Int.reduceLT, reduceLE, reduceEq, lt_dec hlt, hx, hg]) | (refine K_condA (fun hc => ?_) (fun hc => ?_) <;> try (exact absurd hc (by decide))) | (refine K_ret ?_; refine (hQ _ ⟨_, by (try simp only [go_sem, ↓reduceIte, Nat.reduceEqDiff]); rfl, by simp [go_sem], ?_, by first | rfl | assumption⟩).1))
    refine K_loop (X := Nat) (fun k => k ≤ l.length ∧ l.any (outs u) = (l.drop k).any (outs u)) (fun k => mkSt [(0, .sl (ill u)), (3, AV.i i), (4, AV.i k)] [] 0) (fun k => l.length - k) 0 ⟨Nat.zero_le _, rfl⟩ (fun i => i) (by refine ent_mk (by simp [go_sem]) (by simp [go_sem]) (by simp) (by simp [hN])) ?_
    rintro k ⟨hk, hk2⟩
    by_cases hlk : k < l.length
    · obtain ⟨x, hxk⟩ := get?_of hlk
      rw [drop_of hxk, List.any_cons] at hk2
      by_cases h0 : x < 0
      · have q0 : decide (x < 0) = true := decide_eq_true h0
        have ho : outs u x = true := by simp [outs, h0]
        rw [hk2, ho] at ht
        repeat' (first | apply w1 | apply w2 | apply w3 | apply w4 | apply w5 | apply w6 | apply w7 | refine Kq_exit_ne (by decide) ?_ | apply w8 | apply w9 | apply w0 | rw [wrap64 (by omega) (by omega)] | ((first | refine hK _ ?_ | refine hKp _ _ ?_); clear hK hKp K Kp; try clear hanc anc) | ((with_reducible refine And.intro ?_ ?_); (focus (first | trivial | omega | (simp only [Fits]; omega) | assumption | (rw [hanc]; rfl)))) | ((first | refine K_regA hE fun K Kp hK hKp => ?_ | refine K_drwA false mixed hE fun K Kp hK hKp anc hanc => ?_); simp only [go_sem, ↓reduceIte, reduceCtorEq, reduceAdd, reduceMul, reduceEqDiff, reduceLT, reduceLeDiff, reduceSub, reduceDiv, Nat.reduceBEq, Int.reduceBEq, reduceBNe, Int.reduceLT, reduceLE, reduceEq, lt_dec hlk, hx, hxk, q0]) | ((first | refine onG_split_t (fun hg => ?_) (fun hg => ?_) | refine onG_split_f (fun hg => ?_) (fun hg => ?_)) <;> simp only [go_sem, ↓reduceIte, reduceCtorEq, reduceAdd, reduceMul, reduceEqDiff, reduceLT, reduceLeDiff, reduceSub, reduceDiv, Nat.reduceBEq, Int.reduceBEq, reduceBNe, Int.reduceLT, reduceLE, reduceEq, lt_dec hlk, hx, hxk, q0, hg]) | (refine K_condA (fun hc => ?_) (fun hc => ?_) <;> try (exact absurd hc (by decide))) | (refine K_ret ?_; refine (hQ _ ⟨_, by (try simp only [go_sem, ↓reduceIte, Nat.reduceEqDiff]); rfl, by simp [go_sem], ?_, by first | rfl | assumption⟩).1))
        simp [AV.snap, ht]
      · have q0 : decide (x < 0) = false := decide_eq_false h0
        by_cases h1 : x < u.length
        · have q1 : decide (x ≥ (u.length : Int)) = false := by simp; omega
          have ho : outs u x = false := (outs_iff u x).2 ⟨by omega, h1⟩
          rw [ho, Bool.false_or] at hk2
          repeat' (first | apply w1 | apply w2 | apply w3 | apply w4 | apply w5 | apply w6 | apply w7 | refine Kq_exit_ne (by decide) ?_ | apply w8 | apply w9 | apply w0 | rw [wrap64 (by omega) (by omega)] | ((first | refine hK _ ?_ | refine hKp _ _ ?_); clear hK hKp K Kp; try clear hanc anc) | ((with_reducible refine And.intro ?_ ?_); (focus (first | trivial | omega | (simp only [Fits]; omega) | assumption | (rw [hanc]; rfl)))) | ((first | refine K_regA hE fun K Kp hK hKp => ?_ | refine K_drwA false mixed hE fun K Kp hK hKp anc hanc => ?_); simp only [go_sem, ↓reduceIte, reduceCtorEq, reduceAdd, reduceMul, reduceEqDiff, reduceLT, reduceLeDiff, reduceSub, reduceDiv, Nat.reduceBEq, Int.reduceBEq, reduceBNe, Int.reduceLT, reduceLE, reduceEq, lt_dec hlk, hx, hxk, q0, q1]) | ((first | refine onG_split_t (fun hg => ?_) (fun hg => ?_) | refine onG_split_f (fun hg => ?_) (fun hg => ?_)) <;> simp only [go_sem, ↓reduceIte, reduceCtorEq, reduceAdd, reduceMul, reduceEqDiff, reduceLT, reduceLeDiff, reduceSub, reduceDiv, Nat.reduceBEq, Int.reduceBEq, reduceBNe, Int.reduceLT, reduceLE, reduceEq, lt_dec hlk, hx, hxk, q0, q1, hg]) | (refine K_condA (fun hc => ?_) (fun hc => ?_) <;> try (exact absurd hc (by decide))) | (refine K_ret ?_; refine (hQ _ ⟨_, by (try simp only [go_sem, ↓reduceIte, Nat.reduceEqDiff]); rfl, by simp [go_sem], ?_, by first | rfl | assumption⟩).1))
          exact ⟨k + 1, ⟨by omega, hk2⟩, by omega, fun i => i, by refine ent_mk (by simp [go_sem]) (by simp [go_sem]) (by simp) (by simp [hN])⟩
        · have q1 : decide (x ≥ (u.length : Int)) = true := by simp; omega
          have ho : outs u x = true := by simp [outs]; omega
          rw [hk2, ho] at ht
          repeat' (first | apply w1 | apply w2 | apply w3 | apply w4 | apply w5 | apply w6 | apply w7 | refine Kq_exit_ne (by decide) ?_ | apply w8 | apply w9 | apply w0 | rw [wrap64 (by omega) (by omega)] | ((first | refine hK _ ?_ | refine hKp _ _ ?_); clear hK hKp K Kp; try clear hanc anc) | ((with_reducible refine And.intro ?_ ?_); (focus (first | trivial | omega | (simp only [Fits]; omega) | assumption | (rw [hanc]; rfl)))) | ((first | refine K_regA hE fun K Kp hK hKp => ?_ | refine K_drwA false mixed hE fun K Kp hK hKp anc hanc => ?_); simp only [go_sem, ↓reduceIte, reduceCtorEq, reduceAdd, reduceMul, reduceEqDiff, reduceLT, reduceLeDiff, reduceSub, reduceDiv, Nat.reduceBEq, Int.reduceBEq, reduceBNe, Int.reduceLT, reduceLE, reduceEq, lt_dec hlk, hx, hxk, q0, q1]) | ((first | refine onG_split_t (fun hg => ?_) (fun hg => ?_) | refine onG_split_f (fun hg => ?_) (fun hg => ?_)) <;> simp only [go_sem, ↓reduceIte, reduceCtorEq, reduceAdd, reduceMul, reduceEqDiff, reduceLT, reduceLeDiff, reduceSub, reduceDiv, Nat.reduceBEq, Int.reduceBEq, reduceBNe, Int.reduceLT, reduceLE, reduceEq, lt_dec hlk, hx, hxk, q0, q1, hg]) | (refine K_condA (fun hc => ?_) (fun hc => ?_) <;> try (exact absurd hc (by decide))) | (refine K_ret ?_; refine (hQ _ ⟨_, by (try simp only [go_sem, ↓reduceIte, Nat.reduceEqDiff]); rfl, by simp [go_sem], ?_, by first | rfl | assumption⟩).1))
          simp [AV.snap, ht]
    · obtain rfl : k = l.length := by omega
      rw [List.drop_length] at hk2
      rw [hk2] at ht
      repeat' (first | apply w1 | apply w2 | apply w3 | apply w4 | apply w5 | apply w6 | apply w7 | refine Kq_exit_ne (by decide) ?_ | apply w8 | apply w9 | apply w0 | rw [wrap64 (by omega) (by omega)] | ((first | refine hK _ ?_ | refine hKp _ _ ?_); clear hK hKp K Kp; try clear hanc anc) | ((with_reducible refine And.intro ?_ ?_); (focus (first | trivial | omega | (simp only [Fits]; omega) | assumption | (rw [hanc]; rfl)))) | ((first | refine K_regA hE fun K Kp hK hKp => ?_ | refine K_drwA false mixed hE fun K Kp hK hKp anc hanc => ?_); simp only [go_sem, ↓reduceIte, reduceCtorEq, reduceAdd, reduceMul, reduceEqDiff, reduceLT, reduceLeDiff, reduceSub, reduceDiv, Nat.reduceBEq, Int.reduceBEq, reduceBNe, Int.reduceLT, reduceLE, reduceEq, ge_dec, hx]) | ((first | refine onG_split_t (fun hg => ?_) (fun hg => ?_) | refine onG_split_f (fun hg => ?_) (fun hg => ?_)) <;> simp only [go_sem, ↓reduceIte, reduceCtorEq, reduceAdd, reduceMul, reduceEqDiff, reduceLT, reduceLeDiff, reduceSub, reduceDiv, Nat.reduceBEq, Int.reduceBEq, reduceBNe, Int.reduceLT, reduceLE, reduceEq, ge_dec, hx, hg]) | (refine K_condA (fun hc => ?_) (fun hc => ?_) <;> try (exact absurd hc (by decide))) | (refine K_ret ?_; refine (hQ _ ⟨_, by (try simp only [go_sem, ↓reduceIte, Nat.reduceEqDiff]); rfl, by simp [go_sem], ?_, by first | rfl | assumption⟩).1))
      exact ⟨i + 1, ⟨by omega, by simpa using ht⟩, by omega, fun i => i, by refine ent_mk (by simp [go_sem]) (by simp [go_sem]) (by simp) (by simp [hN])⟩
  · obtain rfl : i = u.length := by omega
    rw [List.drop_length] at ht
    repeat' (first | apply w1 | apply w2 | apply w3 | apply w4 | apply w5 | apply w6 | apply w7 | refine Kq_exit_ne (by decide) ?_ | apply w8 | apply w9 | apply w0 | rw [wrap64 (by omega) (by omega)] | ((first | refine hK _ ?_ | refine hKp _ _ ?_); clear hK hKp K Kp; try clear hanc anc) | ((with_reducible refine And.intro ?_ ?_); (focus (first | trivial | omega | (simp only [Fits]; omega) | assumption | (rw [hanc]; rfl)))) | ((first | refine K_regA hE fun K Kp hK hKp => ?_ | refine K_drwA false mixed hE fun K Kp hK hKp anc hanc => ?_); simp only [go_sem, ↓reduceIte, reduceCtorEq, reduceAdd, reduceMul, reduceEqDiff, reduceLT, reduceLeDiff, reduceSub, reduceDiv, Nat.reduceBEq, Int.reduceBEq, reduceBNe, Int.reduceLT, reduceLE, reduceEq, ge_dec]) | ((first | refine onG_split_t (fun hg => ?_) (fun hg => ?_) | refine onG_split_f (fun hg => ?_) (fun hg => ?_)) <;> simp only [go_sem, ↓reduceIte, reduceCtorEq, reduceAdd, reduceMul, reduceEqDiff, reduceLT, reduceLeDiff, reduceSub, reduceDiv, Nat.reduceBEq, Int.reduceBEq, reduceBNe, Int.reduceLT, reduceLE, reduceEq, ge_dec, hg]) | (refine K_condA (fun hc => ?_) (fun hc => ?_) <;> try (exact absurd hc (by decide))) | (refine K_ret ?_; refine (hQ _ ⟨_, by (try simp only [go_sem, ↓reduceIte, Nat.reduceEqDiff]); rfl, by simp [go_sem], ?_, by first | rfl | assumption⟩).1))
    have : decide ((u.length : Int) ≤ 16) = decide (u.length ≤ 16) := by simp; omega
    simp [AV.snap, ht, this]

def required (u : List (List Int)) (t f : List Bool) (l : List Int) (m : Nat) : Bool := t.getD m false || (u.getD m []).any (hit l f)
theorem required_call (u : List (List Int)) (t f : List Bool) (l : List Int) (m : Nat) (hu : u.length ≤ 2 ^ 40) (hl : ∀ l, l ∈ u → l.length ≤ 2 ^ 40) (hf : f.length = u.length) (ht : t.length = u.length) (hll : l.length ≤ 2 ^ 40) (hm : m < u.length) (hv : ∀ l, l ∈ u → ∀ x, x ∈ l → 0 ≤ x ∧ x < u.length) : PCall Try.prog 19 [.sl (ill u), .sl (bl t), .sl (bl f), .sl (il l), .i m] (.bool (required u t f l m)) := by
  obtain ⟨b, hb⟩ := get?_of (show m < t.length by omega)
  obtain ⟨r, hr⟩ := get?_of hm
  have hrl := hl r (List.mem_of_getElem? hr)
  have hrv := hv r (List.mem_of_getElem? hr)
  have hreq : required u t f l m = (b || r.any (hit l f)) := by simp [required, List.getD_eq_getElem?_getD, hb, hr]
  rw [hreq]
  refine PCall.intro Try.func19 rfl isf19 (by simp [Try.f19]) (by simp [AV.cloL, AV.clo]) fun E Q hE hN hQ => K_start ?_
  cases b
  · repeat' (first | apply w1 | apply w2 | apply w3 | apply w4 | apply w5 | apply w6 | apply w7 | refine Kq_exit_ne (by decide) ?_ | apply w8 | apply w9 | apply w0 | rw [wrap64 (by omega) (by omega)] | ((first | refine hK _ ?_ | refine hKp _ _ ?_); clear hK hKp K Kp; try clear hanc anc) | ((with_reducible refine And.intro ?_ ?_); (focus (first | trivial | omega | (simp only [Fits]; omega) | assumption | (rw [hanc]; rfl)))) | ((first | refine K_regA hE fun K Kp hK hKp => ?_ | refine K_drwA false mixed hE fun K Kp hK hKp anc hanc => ?_); simp only [go_sem, ↓reduceIte, reduceCtorEq, reduceAdd, reduceMul, reduceEqDiff, reduceLT, reduceLeDiff, reduceSub, reduceDiv, Nat.reduceBEq, Int.reduceBEq, reduceBNe, Int.reduceLT, reduceLE, reduceEq, hb]) | ((first | refine onG_split_t (fun hg => ?_) (fun hg => ?_) | refine onG_split_f (fun hg => ?_) (fun hg => ?_)) <;> simp only [go_sem, ↓reduceIte, reduceCtorEq, reduceAdd, reduceMul, reduceEqDiff, reduceLT, reduceLeDiff, reduceSub, reduceDiv, Nat.reduceBEq, Int.reduceBEq, reduceBNe, Int.reduceLT, reduceLE, reduceEq, hb, hg]) | (refine K_condA (fun hc => ?_) (fun hc => ?_) <;> try (exact absurd hc (by decide))) | (refine K_ret ?_; refine (hQ _ ⟨_, by (try simp only [go_sem, ↓reduceIte, Nat.reduceEqDiff]); rfl, by simp [go_sem], ?_, by first | rfl | assumption⟩).1))
    refine K_loop (X := Nat) (fun k => k ≤ r.length ∧ r.any (hit l f) = (r.drop k).any (hit l f)) (fun k => mkSt [(0, .sl (ill u)), (1, .sl (bl t)), (2, .sl (bl f)), (3, .sl (il l)), (4, AV.i m), (11, AV.i k)] [] 0) (fun k => r.length - k) 0 ⟨Nat.zero_le _, rfl⟩ (fun i => i) (by refine ent_mk (by simp [go_sem]) (by simp [go_sem]) (by simp) (by simp [hN])) ?_
    rintro k ⟨hk, hk2⟩
    by_cases hlk : k < r.length
    · obtain ⟨x, hxk⟩ := get?_of hlk
      obtain ⟨hx0, hx1⟩ := hrv x (List.mem_of_getElem? hxk)
      obtain ⟨j, rfl⟩ := Int.eq_ofNat_of_zero_le hx0
      obtain ⟨c, hc1⟩ := get?_of (show j < f.length by omega)
      rw [drop_of hxk, List.any_cons] at hk2
      have hic := in_call l j hll
      by_cases hin : (j : Int) ∈ l
      · have hh : hit l f j = c := by simp [hit, hin, List.getD_eq_getElem?_getD, hc1]
        rw [hh] at hk2
        rw [decide_eq_true hin] at hic
        cases c
        · repeat' (first | apply w1 | apply w2 | apply w3 | apply w4 | apply w5 | apply w6 | apply w7 | refine Kq_exit_ne (by decide) ?_ | apply w8 | apply w9 | apply w0 | rw [wrap64 (by omega) (by omega)] | ((first | refine hK _ ?_ | refine hKp _ _ ?_); clear hK hKp K Kp; try clear hanc anc) | ((with_reducible refine And.intro ?_ ?_); (focus (first | trivial | omega | (simp only [Fits]; omega) | assumption | (rw [hanc]; rfl)))) | ((first | refine K_regA hE fun K Kp hK hKp => ?_ | refine K_drwA false mixed hE fun K Kp hK hKp anc hanc => ?_ | ((first | apply CallP_mk | apply CallB_mk); (focus (simp only [go_sem]; rfl)); (focus (exact hic)); (focus (simp [go_sem])); (focus (first | exact .inl rfl | (right; simp [go_sem]))))); simp only [go_sem, ↓reduceIte, reduceCtorEq, reduceAdd, reduceMul, reduceEqDiff, reduceLT, reduceLeDiff, reduceSub, reduceDiv, Nat.reduceBEq, Int.reduceBEq, reduceBNe, Int.reduceLT, reduceLE, reduceEq, lt_dec hlk, hr, hxk, hc1]) | ((first | refine onG_split_t (fun hg => ?_) (fun hg => ?_) | refine onG_split_f (fun hg => ?_) (fun hg => ?_)) <;> simp only [go_sem, ↓reduceIte, reduceCtorEq, reduceAdd, reduceMul, reduceEqDiff, reduceLT, reduceLeDiff, reduceSub, reduceDiv, Nat.reduceBEq, Int.reduceBEq, reduceBNe, Int.reduceLT, reduceLE, reduceEq, lt_dec hlk, hr, hxk, hc1, hg]) | (refine K_condA (fun hc => ?_) (fun hc => ?_) <;> try (exact absurd hc (by decide))) | (refine K_ret ?_; refine (hQ _ ⟨_, by (try simp only [go_sem, ↓reduceIte, Nat.reduceEqDiff]); rfl, by simp [go_sem], ?_, by first | rfl | assumption⟩).1))
          exact ⟨k + 1, ⟨by omega, by simpa using hk2⟩, by omega, fun i => i, by refine ent_mk (by simp [go_sem]) (by simp [go_sem]) (by simp) (by simp [hN])⟩
        · repeat' (first | apply w1 | apply w2 | apply w3 | apply w4 | apply w5 | apply w6 | apply w7 | refine Kq_exit_ne (by decide) ?_ | apply w8 | apply w9 | apply w0 | rw [wrap64 (by omega) (by omega)] | ((first | refine hK _ ?_ | refine hKp _ _ ?_); clear hK hKp K Kp; try clear hanc anc) | ((with_reducible refine And.intro ?_ ?_); (focus (first | trivial | omega | (simp only [Fits]; omega) | assumption | (rw [hanc]; rfl)))) | ((first | refine K_regA hE fun K Kp hK hKp => ?_ | refine K_drwA false mixed hE fun K Kp hK hKp anc hanc => ?_ | ((first | apply CallP_mk | apply CallB_mk); (focus (simp only [go_sem]; rfl)); (focus (exact hic)); (focus (simp [go_sem])); (focus (first | exact .inl rfl | (right; simp [go_sem]))))); simp only [go_sem, ↓reduceIte, reduceCtorEq, reduceAdd, reduceMul, reduceEqDiff, reduceLT, reduceLeDiff, reduceSub, reduceDiv, Nat.reduceBEq, Int.reduceBEq, reduceBNe, Int.reduceLT, reduceLE, reduceEq, lt_dec hlk, hr, hxk, hc1]) | ((first | refine onG_split_t (fun hg => ?_) (fun hg => ?_) | refine onG_split_f (fun hg => ?_) (fun hg => ?_)) <;> simp only [go_sem, ↓reduceIte, reduceCtorEq, reduceAdd, reduceMul, reduceEqDiff, reduceLT, reduceLeDiff, reduceSub, reduceDiv, Nat.reduceBEq, Int.reduceBEq, reduceBNe, Int.reduceLT, reduceLE, reduceEq, lt_dec hlk, hr, hxk, hc1, hg]) | (refine K_condA (fun hc => ?_) (fun hc => ?_) <;> try (exact absurd hc (by decide))) | (refine K_ret ?_; refine (hQ _ ⟨_, by (try simp only [go_sem, ↓reduceIte, Nat.reduceEqDiff]); rfl, by simp [go_sem], ?_, by first | rfl | assumption⟩).1))
          simp [AV.snap, hk2]
      · have hh : hit l f j = false := by simp [hit, hin]
        rw [hh] at hk2
        rw [decide_eq_false hin] at hic
        repeat' (first | apply w1 | apply w2 | apply w3 | apply w4 | apply w5 | apply w6 | apply w7 | refine Kq_exit_ne (by decide) ?_ | apply w8 | apply w9 | apply w0 | rw [wrap64 (by omega) (by omega)] | ((first | refine hK _ ?_ | refine hKp _ _ ?_); clear hK hKp K Kp; try clear hanc anc) | ((with_reducible refine And.intro ?_ ?_); (focus (first | trivial | omega | (simp only [Fits]; omega) | assumption | (rw [hanc]; rfl)))) | ((first | refine K_regA hE fun K Kp hK hKp => ?_ | refine K_drwA false mixed hE fun K Kp hK hKp anc hanc => ?_ | ((first | apply CallP_mk | apply CallB_mk); (focus (simp only [go_sem]; rfl)); (focus (exact hic)); (focus (simp [go_sem])); (focus (first | exact .inl rfl | (right; simp [go_sem]))))); simp only [go_sem, ↓reduceIte, reduceCtorEq, reduceAdd, reduceMul, reduceEqDiff, reduceLT, reduceLeDiff, reduceSub, reduceDiv, Nat.reduceBEq, Int.reduceBEq, reduceBNe, Int.reduceLT, reduceLE, reduceEq, lt_dec hlk, hr, hxk]) | ((first | refine onG_split_t (fun hg => ?_) (fun hg => ?_) | refine onG_split_f (fun hg => ?_) (fun hg => ?_)) <;> simp only [go_sem, ↓reduceIte, reduceCtorEq, reduceAdd, reduceMul, reduceEqDiff, reduceLT, reduceLeDiff, reduceSub, reduceDiv, Nat.reduceBEq, Int.reduceBEq, reduceBNe, Int.reduceLT, reduceLE, reduceEq, lt_dec hlk, hr, hxk, hg]) | (refine K_condA (fun hc => ?_) (fun hc => ?_) <;> try (exact absurd hc (by decide))) | (refine K_ret ?_; refine (hQ _ ⟨_, by (try simp only [go_sem, ↓reduceIte, Nat.reduceEqDiff]); rfl, by simp [go_sem], ?_, by first | rfl | assumption⟩).1))
        exact ⟨k + 1, ⟨by omega, by simpa using hk2⟩, by omega, fun i => i, by refine ent_mk (by simp [go_sem]) (by simp [go_sem]) (by simp) (by simp [hN])⟩
    · obtain rfl : k = r.length := by omega
      rw [List.drop_length] at hk2
      repeat' (first | apply w1 | apply w2 | apply w3 | apply w4 | apply w5 | apply w6 | apply w7 | refine Kq_exit_ne (by decide) ?_ | apply w8 | apply w9 | apply w0 | rw [wrap64 (by omega) (by omega)] | ((first | refine hK _ ?_ | refine hKp _ _ ?_); clear hK hKp K Kp; try clear hanc anc) | ((with_reducible refine And.intro ?_ ?_); (focus (first | trivial | omega | (simp only [Fits]; omega) | assumption | (rw [hanc]; rfl)))) | ((first | refine K_regA hE fun K Kp hK hKp => ?_ | refine K_drwA false mixed hE fun K Kp hK hKp anc hanc => ?_); simp only [go_sem, ↓reduceIte, reduceCtorEq, reduceAdd, reduceMul, reduceEqDiff, reduceLT, reduceLeDiff, reduceSub, reduceDiv, Nat.reduceBEq, Int.reduceBEq, reduceBNe, Int.reduceLT, reduceLE, reduceEq, ge_dec, hr]) | ((first | refine onG_split_t (fun hg => ?_) (fun hg => ?_) | refine onG_split_f (fun hg => ?_) (fun hg => ?_)) <;> simp only [go_sem, ↓reduceIte, reduceCtorEq, reduceAdd, reduceMul, reduceEqDiff, reduceLT, reduceLeDiff, reduceSub, reduceDiv, Nat.reduceBEq, Int.reduceBEq, reduceBNe, Int.reduceLT, reduceLE, reduceEq, ge_dec, hr, hg]) | (refine K_condA (fun hc => ?_) (fun hc => ?_) <;> try (exact absurd hc (by decide))) | (refine K_ret ?_; refine (hQ _ ⟨_, by (try simp only [go_sem, ↓reduceIte, Nat.reduceEqDiff]); rfl, by simp [go_sem], ?_, by first | rfl | assumption⟩).1))
      simp [AV.snap, hk2]
  · repeat' (first | apply w1 | apply w2 | apply w3 | apply w4 | apply w5 | apply w6 | apply w7 | refine Kq_exit_ne (by decide) ?_ | apply w8 | apply w9 | apply w0 | rw [wrap64 (by omega) (by omega)] | ((first | refine hK _ ?_ | refine hKp _ _ ?_); clear hK hKp K Kp; try clear hanc anc) | ((with_reducible refine And.intro ?_ ?_); (focus (first | trivial | omega | (simp only [Fits]; omega) | assumption | (rw [hanc]; rfl)))) | ((first | refine K_regA hE fun K Kp hK hKp => ?_ | refine K_drwA false mixed hE fun K Kp hK hKp anc hanc => ?_); simp only [go_sem, ↓reduceIte, reduceCtorEq, reduceAdd, reduceMul, reduceEqDiff, reduceLT, reduceLeDiff, reduceSub, reduceDiv, Nat.reduceBEq, Int.reduceBEq, reduceBNe, Int.reduceLT, reduceLE, reduceEq, hb]) | ((first | refine onG_split_t (fun hg => ?_) (fun hg => ?_) | refine onG_split_f (fun hg => ?_) (fun hg => ?_)) <;> simp only [go_sem, ↓reduceIte, reduceCtorEq, reduceAdd, reduceMul, reduceEqDiff, reduceLT, reduceLeDiff, reduceSub, reduceDiv, Nat.reduceBEq, Int.reduceBEq, reduceBNe, Int.reduceLT, reduceLE, reduceEq, hb, hg]) | (refine K_condA (fun hc => ?_) (fun hc => ?_) <;> try (exact absurd hc (by decide))) | (refine K_ret ?_; refine (hQ _ ⟨_, by (try simp only [go_sem, ↓reduceIte, Nat.reduceEqDiff]); rfl, by simp [go_sem], ?_, by first | rfl | assumption⟩).1))
    simp [AV.snap]
end Go.Proofs.Ytakpabiefjlmaaa


/- Chapter 22: rows in a row; reaches. -/
set_option linter.unusedSimpArgs false
set_option linter.unusedVariables false
set_option maxHeartbeats 4000000
set_option maxRecDepth 100000
namespace Go.Proofs.Ytakpabiefjlmaaa
open Nat (reduceAdd reduceMul reduceEqDiff reduceLT reduceLeDiff reduceSub reduceDiv)
open Int (reduceBNe reduceLE reduceEq)
open Go.Am Go.Proofs
attribute [local irreducible] AW CallP CallB

theorem renL_append (m : Nat → Nat) : ∀ (l r : List AV), AV.renL m (l ++ r) = AV.renL m l ++ AV.renL m r
  | [], r => by simp only [List.nil_append, AV.renL]
  | x :: l, r => by simp only [List.cons_append, AV.renL, renL_append m l r]
def rwl (k : Nat) : List AV := (List.range k).map fun i => AV.rw (i + 1)
@[go_sem] theorem rwl_len (k : Nat) : (rwl k).length = k := by simp [rwl]
theorem rwl_get {k i : Nat} (h : i < k) : (rwl k)[i]? = some (.rw (i + 1)) := by simp [rwl, h]
theorem rwl_succ (k : Nat) : rwl (k + 1) = rwl k ++ [.rw (k + 1)] := by simp [rwl, List.range_succ]
theorem rwl_ren {m : Nat → Nat} {k : Nat} (h : ∀ i, 0 < i → i ≤ k → m i = i) : AV.renL m (rwl k) = rwl k := by
  induction k with
  | zero => rfl
  | succ k ih =>
    rw [rwl_succ, renL_append, ih fun i h1 h2 => h i h1 (by omega)]
    simp only [AV.renL, AV.ren, h (k + 1) (by omega) (by omega)]
theorem idsL_all {p : Nat → Prop} : ∀ {l : List AV}, (∀ x, x ∈ l → AV.ids p x) → AV.idsL p l
  | [], _ => trivial
  | x :: l, h => ⟨h x (by simp), idsL_all fun y hy => h y (List.mem_cons_of_mem _ hy)⟩
theorem rwl_ids {N k : Nat} (h : k < N) : AV.idsL (fun x => x < N) (rwl k) := idsL_all fun x hx => by
  obtain ⟨i, hi, rfl⟩ := List.mem_map.1 hx
  have := List.mem_range.1 hi
  show i + 1 < N
  omega
/-- A row of rows. -/
def rHp (R : List (List AV)) : Nat → Option AObj
  | 0 => some (.row 1 (rwl R.length))
  | k + 1 => (R[k]?).map fun r => .row 1 r
theorem rHp_0 (R : List (List AV)) : rHp R 0 = some (.row 1 (rwl R.length)) := rfl
theorem rHp_s {R : List (List AV)} {k : Nat} {r : List AV} (h : R[k]? = some r) : rHp R (k + 1) = some (.row 1 r) := by simp [rHp, h]
theorem mkFr_mem : ∀ {fr : List (Nat × AV)} {t : Nat} {x : AV}, mkFr fr t = some x → (t, x) ∈ fr := by
  intro fr
  induction fr with
  | nil => intro t x h; cases h
  | cons p fr ih =>
    intro t x h
    obtain ⟨t', x'⟩ := p
    simp only [mkFr, upd] at h
    split at h
    · rename_i e; cases h; simp [e]
    · exact List.mem_cons_of_mem _ (ih h)
theorem ent_rows {σ : St} {m : Nat → Nat} {np : Nat} {fr : List (Nat × AV)} {R : List (List AV)} (hn : np = 0) (hR : R.length < 32) (hc : ∀ r, r ∈ R → AV.cloL r = true) (hf : ∀ p, p ∈ fr → σ.fr p.1 = some (p.2.ren m) ∧ p.2.ids (· < 32))
    (h0 : σ.hp (m 0) = some (.row 1 (AV.renL m (rwl R.length)))) (hs : ∀ k r, R[k]? = some r → σ.hp (m (k + 1)) = some (.row 1 r)) (hi : ∀ i j, i < 32 → j < 32 → m i = m j → i = j) : Ent np m σ ⟨mkFr fr, rHp R, 32⟩ := by
  have hlt : ∀ id ob, rHp R id = some ob → id < 32 := by
    intro id ob h
    cases id with
    | zero => omega
    | succ k =>
      cases hk : R[k]? with
      | none => simp [rHp, hk] at h
      | some r => obtain ⟨h1, _⟩ := List.getElem?_eq_some_iff.1 hk; omega
  refine ⟨fun t x hx => hf _ (mkFr_mem hx), fun id ob h => ⟨?_, hlt id ob h, ?_⟩, fun id id' o o' h h' he => hi _ _ (hlt _ _ h) (hlt _ _ h') he, fun id hid => ?_⟩
  · cases id with
    | zero => cases h; exact h0
    | succ k =>
      cases hk : R[k]? with
      | none => simp [rHp, hk] at h
      | some r =>
        simp only [rHp, hk, Option.map_some, Option.some.injEq] at h
        subst h
        rw [hs k r hk, AObj.ren, cloL_renL (hc r (List.mem_of_getElem? hk))]
  · cases id with
    | zero => cases h; exact rwl_ids hR
    | succ k =>
      cases hk : R[k]? with
      | none => simp [rHp, hk] at h
      | some r =>
        simp only [rHp, hk, Option.map_some, Option.some.injEq] at h
        subst h
        exact cloL_idsL (hc r (List.mem_of_getElem? hk))
  · rw [hn] at hid; exact absurd hid (Nat.not_lt_zero _)

/-- The rows are given up, and with them the row of rows. -/
theorem AW_frzRows {P : Program} {E : En} {c : Code} {Q : AEx → St → Prop} {fr : Nat → Option AV} {R : List (List AV)} {nx : Nat} (t : Nat) (ht : fr t = some (.rw 0)) (hc : ∀ r, r ∈ R → CloRow r)
    (h : AW P E c Q ⟨upd fr t (.sl (R.map AV.sl)), fun _ => none, nx⟩) : AW P E c Q ⟨fr, rHp R, nx⟩ := by
  refine AW.frz (σ' := ⟨fr, mkHp [(0, .row 1 (R.map AV.sl))], nx⟩) (fun id => if id = 0 then none else rHp R id) ?_ ?_ ?_ rfl ?_
  · intro id o ho
    split at ho
    · cases ho
    · exact ho
  · intro t x' hx; exact ⟨x', hx, .inl rfl⟩
  · intro id o ho
    simp only [mkHp, updo] at ho
    split at ho
    · rename_i e
      cases ho
      subst e
      refine ⟨if_pos rfl, _, rHp_0 R, rfl, by simp [rwl], fun i hi => .inr ?_⟩
      rw [rwl_len] at hi
      have e1 : (rwl R.length).getD i default = .rw (i + 1) := by simp [List.getD_eq_getElem?_getD, rwl_get hi]
      have e2 : rHp R (i + 1) = some (.row 1 R[i]) := rHp_s (by simp [hi])
      rw [e1]
      refine ⟨?_, ?_⟩
      · rw [AV.snapOk]
        simp only [e2]
        exact hc _ (List.getElem_mem hi)
      · rw [AV.snap]
        simp [e2, List.getD_eq_getElem?_getD, hi]
    · cases ho
  · refine AW_frz1 t 0 ht (sz := 1) (xs := R.map AV.sl) rfl ?_ ?_
    · intro x hx c hc'
      obtain ⟨r, hr, rfl⟩ := List.mem_map.1 hx
      simp only [AV.cells, List.mem_cons, List.not_mem_nil, or_false] at hc'
      subst hc'
      exact rfl
    · have e : updo (mkHp [(0, AObj.row 1 (R.map AV.sl))]) 0 none = fun _ => none := by
        funext id
        simp only [updo, mkHp]
        split <;> rfl
      simp only [e]
      exact h

def initR (n i : Nat) : List (List Bool) := (List.range i).map fun k => (List.replicate n false).set k true
theorem initR_succ (n i : Nat) : initR n (i + 1) = initR n i ++ [(List.replicate n false).set i true] := by simp [initR, List.range_succ]
def rgt (R : List (List Bool)) (i j : Nat) : Bool := (R.getD i []).getD j false
def goJ (i m : Nat) : Nat → Nat → List (List Bool) → List (List Bool)
  | 0, _, R => R
  | k + 1, j, R => goJ i m k (j + 1) (R.set i ((R.getD i []).set j (rgt R i j || rgt R m j)))
def goK (i n : Nat) : List Int → List (List Bool) → List (List Bool)
  | [], R => R
  | x :: r, R => goK i n r (goJ i x.toNat n 0 R)
def goI (u : List (List Int)) : Nat → Nat → List (List Bool) → List (List Bool)
  | 0, _, R => R
  | k + 1, i, R => goI u k (i + 1) (goK i u.length (u.getD i []) R)
def goN (u : List (List Int)) : Nat → List (List Bool) → List (List Bool)
  | 0, R => R
  | k + 1, R => goN u k (goI u u.length 0 R)
def reaches (u : List (List Int)) : List (List Bool) := goN u u.length (initR u.length u.length)
/-- As many rows as columns. -/
structure Sq (n : Nat) (R : List (List Bool)) : Prop where
  ln : R.length = n
  rw : ∀ r, r ∈ R → r.length = n
theorem Sq.set {n : Nat} {R : List (List Bool)} (h : Sq n R) (i : Nat) {r : List Bool} (hr : r.length = n) : Sq n (R.set i r) :=
  ⟨by rw [List.length_set, h.ln], fun q hq => by
    rcases List.mem_or_eq_of_mem_set hq with hq | rfl
    · exact h.rw q hq
    · exact hr⟩
theorem Sq.get {n : Nat} {R : List (List Bool)} (h : Sq n R) {i : Nat} (hi : i < n) : ∃ r, R[i]? = some r ∧ r.length = n :=
  ⟨R[i]'(by rw [h.ln]; exact hi), by simp, h.rw _ (List.getElem_mem _)⟩
theorem sq_goJ {n : Nat} {i m : Nat} (hi : i < n) : ∀ {k j : Nat} {R : List (List Bool)}, Sq n R → Sq n (goJ i m k j R)
  | 0, _, R, h => h
  | k + 1, j, R, h => by
    obtain ⟨r, hr, hrl⟩ := h.get hi
    rw [goJ]
    refine sq_goJ hi (h.set i ?_)
    rw [List.length_set, List.getD_eq_getElem?_getD, hr]
    exact hrl
theorem sq_goK {n i : Nat} (hi : i < n) : ∀ {l : List Int} {R : List (List Bool)}, Sq n R → Sq n (goK i n l R)
  | [], R, h => h
  | x :: r, R, h => by rw [goK]; exact sq_goK hi (sq_goJ hi h)
theorem sq_goI {u : List (List Int)} : ∀ {k i : Nat} {R : List (List Bool)}, i + k ≤ u.length → Sq u.length R → Sq u.length (goI u k i R)
  | 0, _, R, _, h => h
  | k + 1, i, R, hk, h => by rw [goI]; exact sq_goI (by omega) (sq_goK (by omega) h)
theorem sq_goN {u : List (List Int)} : ∀ {k : Nat} {R : List (List Bool)}, Sq u.length R → Sq u.length (goN u k R)
  | 0, R, h => h
  | k + 1, R, h => by rw [goN]; exact sq_goN (sq_goI (by omega) h)
theorem Sq.init (n : Nat) : Sq n (initR n n) := ⟨by simp [initR], fun r hr => by
  obtain ⟨k, _, rfl⟩ := List.mem_map.1 hr
  simp⟩
def bll (R : List (List Bool)) : List (List AV) := R.map bl
theorem bll_get {R : List (List Bool)} {i : Nat} {r : List Bool} (h : R[i]? = some r) : (bll R)[i]? = some (bl r) := by simp [bll, h]
theorem bll_len (R : List (List Bool)) : (bll R).length = R.length := by simp [bll]
theorem bll_clo (R : List (List Bool)) : ∀ r, r ∈ bll R → AV.cloL r = true := fun r hr => by
  obtain ⟨q, _, rfl⟩ := List.mem_map.1 hr
  exact bl_clo q
theorem bll_cloR (R : List (List Bool)) : ∀ r, r ∈ bll R → CloRow r := fun r hr => by
  obtain ⟨q, _, rfl⟩ := List.mem_map.1 hr
  exact clo_bl q
theorem bll_get_iff {R : List (List Bool)} {k : Nat} {r : List AV} (h : (bll R)[k]? = some r) : ∃ q, R[k]? = some q ∧ r = bl q := by
  rw [bll, List.getElem?_map] at h
  cases hq : R[k]? with
  | none => simp [hq] at h
  | some q => simp [hq] at h; exact ⟨q, rfl, h.symm⟩

/-- Rows of truth values. -/
def bsl (l : List (List Bool)) : List AV := l.map fun r => .sl (bl r)
@[go_sem] theorem bsl_len (l : List (List Bool)) : (bsl l).length = l.length := List.length_map ..
@[go_sem] theorem bsl_get (l : List (List Bool)) (i : Nat) : (bsl l)[i]? = (l[i]?).map fun r => .sl (bl r) := List.getElem?_map ..
theorem bsl_clo (l : List (List Bool)) : AV.cloL (bsl l) = true := cloLeq _ fun x hx => by obtain ⟨p, _, rfl⟩ := List.mem_map.1 hx; rfl
@[go_sem] theorem bsl_ren (m : Nat → Nat) (l : List (List Bool)) : AV.renL m (bsl l) = bsl l := cloL_renL (bsl_clo l)
@[go_sem] theorem bsl_ids (p : Nat → Prop) (l : List (List Bool)) : AV.idsL p (bsl l) = True := eq_true (cloL_idsL (bsl_clo l))
theorem bll_sl (R : List (List Bool)) : (bll R).map AV.sl = bsl R := by simp [bll, bsl]

theorem upd_rHp {R : List (List AV)} {i : Nat} (h : i < R.length) (r : List AV) : updo (rHp R) (i + 1) (some (.row 1 r)) = rHp (R.set i r) := by
  funext id
  cases id with
  | zero => simp [updo, rHp]
  | succ k =>
    simp only [updo, rHp, Nat.add_right_cancel_iff, List.getElem?_set]
    by_cases hk : k = i
    · subst hk; simp [h]
    · rw [if_neg hk, if_neg (Ne.symm hk)]
theorem ent_rowsI {σ : St} {np : Nat} {fr : List (Nat × AV)} {R : List (List AV)} (hn : np = 0) (hR : R.length < 32) (hc : ∀ r, r ∈ R → AV.cloL r = true) (hf : ∀ p, p ∈ fr → σ.fr p.1 = some (p.2.ren fun i => i) ∧ p.2.ids (· < 32)) (hh : σ.hp = rHp R) : Ent np (fun i => i) σ ⟨mkFr fr, rHp R, 32⟩ :=
  ent_rows hn hR hc hf (by rw [hh, rwl_ren fun _ _ _ => rfl]; exact rHp_0 R) (fun k r h => by rw [hh]; exact rHp_s h) (fun _ _ _ _ h => h)
theorem bll_set (R : List (List Bool)) (i : Nat) (r : List Bool) : (bll R).set i (bl r) = bll (R.set i r) := by simp [bll, List.map_set]

theorem reaches_call (u : List (List Int)) (hu : u.length ≤ 20) (hl : ∀ l, l ∈ u → l.length ≤ 20) (hv : ∀ l, l ∈ u → ∀ x, x ∈ l → 0 ≤ x ∧ x < u.length) : PCall Try.prog 28 [.sl (ill u)] (.sl (bsl (reaches u))) := by
  refine PCall.intro Try.func28 rfl isf28 (by simp [Try.f28]) (by simp [AV.cloL, AV.clo]) fun E Q hE hN hQ => K_start ?_
  repeat' (first | apply w1 | apply w2 | apply w3 | apply w4 | apply w5 | apply w6 | apply w7 | refine Kq_exit_ne (by decide) ?_ | apply w8 | apply w9 | apply w0 | rw [wrap64 (by omega) (by omega)] | ((first | refine hK _ ?_ | refine hKp _ _ ?_); clear hK hKp K Kp; try clear hanc anc) | ((with_reducible refine And.intro ?_ ?_); (focus (first | trivial | omega | (simp only [Fits]; omega) | assumption | (rw [hanc]; rfl)))) | ((first | refine K_regA hE fun K Kp hK hKp => ?_ | refine K_drwA true mixed hE fun K Kp hK hKp anc hanc => ?_ | refine K_drwA false mixed hE fun K Kp hK hKp anc hanc => ?_); simp only [go_sem, ↓reduceIte, reduceCtorEq, reduceAdd, reduceMul, reduceEqDiff, reduceLT, reduceLeDiff, reduceSub, reduceDiv, Nat.reduceBEq, Int.reduceBEq, reduceBNe, Int.reduceLT, reduceLE, reduceEq]) | ((first | refine onG_split_t (fun hg => ?_) (fun hg => ?_) | refine onG_split_f (fun hg => ?_) (fun hg => ?_)) <;> simp only [go_sem, ↓reduceIte, reduceCtorEq, reduceAdd, reduceMul, reduceEqDiff, reduceLT, reduceLeDiff, reduceSub, reduceDiv, Nat.reduceBEq, Int.reduceBEq, reduceBNe, Int.reduceLT, reduceLE, reduceEq, hg]) | (refine K_condA (fun hc => ?_) (fun hc => ?_) <;> try (exact absurd hc (by decide))))
  refine AW_nil 3 1 (by rw [hE]; decide) (by simp only [go_sem, ↓reduceIte, reduceCtorEq, reduceAdd, reduceMul, reduceEqDiff, reduceLT, reduceLeDiff, reduceSub, reduceDiv, Nat.reduceBEq, Int.reduceBEq, reduceBNe, Int.reduceLT, reduceLE, reduceEq]) ?_
  refine K_loop (X := Nat) (fun i => i ≤ u.length) (fun i => ⟨mkFr [(0, .sl (ill u)), (3, .rw 0), (4, AV.i i)], rHp (bll (initR u.length i)), 32⟩) (fun i => u.length - i) 0 (Nat.zero_le _) (fun i => i + 3145728) (ent_rows hN (by simp [bll, initR]) (bll_clo _) (by simp [go_sem]) (by simp [go_sem, initR, rwl, bll]) (fun k r h => by simp [bll, initR] at h) (by omega)) ?_
  intro i hi
  by_cases hlt : i < u.length
  · have hsz := szok_bl (List.replicate u.length false)
    have hrep : (List.replicate u.length false)[i]? = some false := by simp [hlt]
    have hil : (initR u.length i).length = i := by simp [initR]
    repeat' (first | apply w1 | apply w2 | apply w3 | apply w4 | apply w5 | apply w6 | apply w7 | refine Kq_exit_ne (by decide) ?_ | apply w8 | apply w9 | apply w0 | rw [wrap64 (by omega) (by omega)] | ((first | refine hK _ ?_ | refine hKp _ _ ?_); clear hK hKp K Kp; try clear hanc anc) | ((with_reducible refine And.intro ?_ ?_); (focus (first | trivial | omega | (simp only [Fits]; omega) | assumption | (rw [hanc]; rfl)))) | ((first | refine K_regA hE fun K Kp hK hKp => ?_ | refine K_drwA true mixed hE fun K Kp hK hKp anc hanc => ?_ | refine K_drwA false mixed hE fun K Kp hK hKp anc hanc => ?_); simp only [go_sem, ↓reduceIte, reduceCtorEq, reduceAdd, reduceMul, reduceEqDiff, reduceLT, reduceLeDiff, reduceSub, reduceDiv, Nat.reduceBEq, Int.reduceBEq, reduceBNe, Int.reduceLT, reduceLE, reduceEq, lt_dec hlt, hrep, rHp_0, bll_len, hil]) | ((first | refine onG_split_t (fun hg => ?_) (fun hg => ?_) | refine onG_split_f (fun hg => ?_) (fun hg => ?_)) <;> simp only [go_sem, ↓reduceIte, reduceCtorEq, reduceAdd, reduceMul, reduceEqDiff, reduceLT, reduceLeDiff, reduceSub, reduceDiv, Nat.reduceBEq, Int.reduceBEq, reduceBNe, Int.reduceLT, reduceLE, reduceEq, lt_dec hlt, hrep, rHp_0, bll_len, hil, hg]) | (refine K_condA (fun hc => ?_) (fun hc => ?_) <;> try (exact absurd hc (by decide))))
    have hid1 : ∀ k, k < 32 → k ≠ 15728672 ∧ k ≠ 14680096 ∧ k ≠ 6291488 := fun k hk => by omega
    refine ⟨i + 1, by omega, by omega, fun j => if j = 0 then 15728672 else if j = i + 1 then 6291488 else j, ent_rows hN (by simp [bll, initR]; omega) (bll_clo _) (by simp [go_sem]) ?_ ?_ ?_⟩
    · have e : AV.renL (fun j => if j = 0 then 15728672 else if j = i + 1 then 6291488 else j) (rwl (i + 1)) = rwl i ++ [.rw 6291488] := by
        rw [rwl_succ, renL_append, rwl_ren fun k h1 h2 => by rw [if_neg (by omega), if_neg (by omega)]]
        simp only [AV.renL, AV.ren]
        simp
      simp [bll_len, initR, e, updo]
    · intro k r hk
      rw [initR_succ] at hk
      obtain ⟨q, hq, rfl⟩ := bll_get_iff hk
      by_cases hki : k < i
      · rw [List.getElem?_append_left (by omega)] at hq
        have h1 := hid1 (k + 1) (by omega)
        have h2 : ¬ k = i := by omega
        simp [h2, updo, h1, rHp_s (bll_get hq)]
      · obtain ⟨h3, _⟩ := List.getElem?_eq_some_iff.1 hq
        simp only [List.length_append, List.length_singleton] at h3
        obtain rfl : k = i := by omega
        rw [List.getElem?_append_right (by omega), hil, Nat.sub_self] at hq
        simp only [List.getElem?_cons_zero, Option.some.injEq] at hq
        subst hq
        simp [updo]
    · intro a b ha hb hab
      have h1 := hid1 a ha
      have h2 := hid1 b hb
      repeat' split at hab
      all_goals omega
  · obtain rfl : i = u.length := by omega
    repeat' (first | apply w1 | apply w2 | apply w3 | apply w4 | apply w5 | apply w6 | apply w7 | refine Kq_exit_ne (by decide) ?_ | apply w8 | apply w9 | apply w0 | rw [wrap64 (by omega) (by omega)] | ((first | refine hK _ ?_ | refine hKp _ _ ?_); clear hK hKp K Kp; try clear hanc anc) | ((with_reducible refine And.intro ?_ ?_); (focus (first | trivial | omega | (simp only [Fits]; omega) | assumption | (rw [hanc]; rfl)))) | ((first | refine K_regA hE fun K Kp hK hKp => ?_ | refine K_drwA true mixed hE fun K Kp hK hKp anc hanc => ?_ | refine K_drwA false mixed hE fun K Kp hK hKp anc hanc => ?_); simp only [go_sem, ↓reduceIte, reduceCtorEq, reduceAdd, reduceMul, reduceEqDiff, reduceLT, reduceLeDiff, reduceSub, reduceDiv, Nat.reduceBEq, Int.reduceBEq, reduceBNe, Int.reduceLT, reduceLE, reduceEq, ge_dec]) | ((first | refine onG_split_t (fun hg => ?_) (fun hg => ?_) | refine onG_split_f (fun hg => ?_) (fun hg => ?_)) <;> simp only [go_sem, ↓reduceIte, reduceCtorEq, reduceAdd, reduceMul, reduceEqDiff, reduceLT, reduceLeDiff, reduceSub, reduceDiv, Nat.reduceBEq, Int.reduceBEq, reduceBNe, Int.reduceLT, reduceLE, reduceEq, ge_dec, hg]) | (refine K_condA (fun hc => ?_) (fun hc => ?_) <;> try (exact absurd hc (by decide))))
    refine K_loop (X := Nat × List (List Bool)) (fun x => x.1 ≤ u.length ∧ Sq u.length x.2 ∧ goN u (u.length - x.1) x.2 = reaches u) (fun x => ⟨mkFr [(0, .sl (ill u)), (3, .rw 0), (6, AV.i x.1)], rHp (bll x.2), 32⟩) (fun x => u.length - x.1) (0, initR u.length u.length) ⟨Nat.zero_le _, Sq.init _, rfl⟩ (fun i => i) (ent_rowsI hN (by simp [bll, initR]; omega) (bll_clo _) (by simp [go_sem]) rfl) ?_
    rintro ⟨n, R⟩ ⟨hn, hR, hgo⟩
    simp only at hn hR hgo
    by_cases hln : n < u.length
    · rw [show u.length - n = (u.length - (n + 1)) + 1 by omega, goN] at hgo
      repeat' (first | apply w1 | apply w2 | apply w3 | apply w4 | apply w5 | apply w6 | apply w7 | refine Kq_exit_ne (by decide) ?_ | apply w8 | apply w9 | apply w0 | rw [wrap64 (by omega) (by omega)] | ((first | refine hK _ ?_ | refine hKp _ _ ?_); clear hK hKp K Kp; try clear hanc anc) | ((with_reducible refine And.intro ?_ ?_); (focus (first | trivial | omega | (simp only [Fits]; omega) | assumption | (rw [hanc]; rfl)))) | ((first | refine K_regA hE fun K Kp hK hKp => ?_ | refine K_drwA true mixed hE fun K Kp hK hKp anc hanc => ?_ | refine K_drwA false mixed hE fun K Kp hK hKp anc hanc => ?_); simp only [go_sem, ↓reduceIte, reduceCtorEq, reduceAdd, reduceMul, reduceEqDiff, reduceLT, reduceLeDiff, reduceSub, reduceDiv, Nat.reduceBEq, Int.reduceBEq, reduceBNe, Int.reduceLT, reduceLE, reduceEq, lt_dec hln]) | ((first | refine onG_split_t (fun hg => ?_) (fun hg => ?_) | refine onG_split_f (fun hg => ?_) (fun hg => ?_)) <;> simp only [go_sem, ↓reduceIte, reduceCtorEq, reduceAdd, reduceMul, reduceEqDiff, reduceLT, reduceLeDiff, reduceSub, reduceDiv, Nat.reduceBEq, Int.reduceBEq, reduceBNe, Int.reduceLT, reduceLE, reduceEq, lt_dec hln, hg]) | (refine K_condA (fun hc => ?_) (fun hc => ?_) <;> try (exact absurd hc (by decide))))
      refine K_loop (X := Nat × List (List Bool)) (fun x => x.1 ≤ u.length ∧ Sq u.length x.2 ∧ goI u (u.length - x.1) x.1 x.2 = goI u u.length 0 R) (fun x => ⟨mkFr [(0, .sl (ill u)), (3, .rw 0), (6, AV.i n), (7, AV.i x.1)], rHp (bll x.2), 32⟩) (fun x => u.length - x.1) (0, R) ⟨Nat.zero_le _, hR, rfl⟩ (fun i => i) (ent_rowsI hN (by simp [bll, hR.ln]; omega) (bll_clo _) (by simp [go_sem]) rfl) ?_
      rintro ⟨i, R1⟩ ⟨hi, hR1, hgi⟩
      simp only at hi hR1 hgi
      by_cases hli : i < u.length
      · rw [show u.length - i = (u.length - (i + 1)) + 1 by omega, goI] at hgi
        obtain ⟨l, hx⟩ := get?_of hli
        have hul : u.getD i [] = l := by simp [List.getD_eq_getElem?_getD, hx]
        rw [hul] at hgi
        have hlv := hv l (List.mem_of_getElem? hx)
        have hll := hl l (List.mem_of_getElem? hx)
        repeat' (first | apply w1 | apply w2 | apply w3 | apply w4 | apply w5 | apply w6 | apply w7 | refine Kq_exit_ne (by decide) ?_ | apply w8 | apply w9 | apply w0 | rw [wrap64 (by omega) (by omega)] | ((first | refine hK _ ?_ | refine hKp _ _ ?_); clear hK hKp K Kp; try clear hanc anc) | ((with_reducible refine And.intro ?_ ?_); (focus (first | trivial | omega | (simp only [Fits]; omega) | assumption | (rw [hanc]; rfl)))) | ((first | refine K_regA hE fun K Kp hK hKp => ?_ | refine K_drwA true mixed hE fun K Kp hK hKp anc hanc => ?_ | refine K_drwA false mixed hE fun K Kp hK hKp anc hanc => ?_); simp only [go_sem, ↓reduceIte, reduceCtorEq, reduceAdd, reduceMul, reduceEqDiff, reduceLT, reduceLeDiff, reduceSub, reduceDiv, Nat.reduceBEq, Int.reduceBEq, reduceBNe, Int.reduceLT, reduceLE, reduceEq, lt_dec hli]) | ((first | refine onG_split_t (fun hg => ?_) (fun hg => ?_) | refine onG_split_f (fun hg => ?_) (fun hg => ?_)) <;> simp only [go_sem, ↓reduceIte, reduceCtorEq, reduceAdd, reduceMul, reduceEqDiff, reduceLT, reduceLeDiff, reduceSub, reduceDiv, Nat.reduceBEq, Int.reduceBEq, reduceBNe, Int.reduceLT, reduceLE, reduceEq, lt_dec hli, hg]) | (refine K_condA (fun hc => ?_) (fun hc => ?_) <;> try (exact absurd hc (by decide))))
        refine K_loop (X := Nat × List (List Bool)) (fun x => x.1 ≤ l.length ∧ Sq u.length x.2 ∧ goK i u.length (l.drop x.1) x.2 = goK i u.length l R1) (fun x => ⟨mkFr [(0, .sl (ill u)), (3, .rw 0), (6, AV.i n), (7, AV.i i), (8, AV.i x.1)], rHp (bll x.2), 32⟩) (fun x => l.length - x.1) (0, R1) ⟨Nat.zero_le _, hR1, rfl⟩ (fun i => i) (ent_rowsI hN (by simp [bll, hR1.ln]; omega) (bll_clo _) (by simp [go_sem]) rfl) ?_
        rintro ⟨k, R2⟩ ⟨hk, hR2, hgk⟩
        simp only at hk hR2 hgk
        by_cases hlk : k < l.length
        · obtain ⟨m0, hm⟩ := get?_of hlk
          obtain ⟨hm0, hm1⟩ := hlv m0 (List.mem_of_getElem? hm)
          obtain ⟨m, rfl⟩ := Int.eq_ofNat_of_zero_le hm0
          have hm2 : m < u.length := by omega
          rw [drop_of hm, goK, Int.toNat_natCast] at hgk
          repeat' (first | apply w1 | apply w2 | apply w3 | apply w4 | apply w5 | apply w6 | apply w7 | refine Kq_exit_ne (by decide) ?_ | apply w8 | apply w9 | apply w0 | rw [wrap64 (by omega) (by omega)] | ((first | refine hK _ ?_ | refine hKp _ _ ?_); clear hK hKp K Kp; try clear hanc anc) | ((with_reducible refine And.intro ?_ ?_); (focus (first | trivial | omega | (simp only [Fits]; omega) | assumption | (rw [hanc]; rfl)))) | ((first | refine K_regA hE fun K Kp hK hKp => ?_ | refine K_drwA true mixed hE fun K Kp hK hKp anc hanc => ?_ | refine K_drwA false mixed hE fun K Kp hK hKp anc hanc => ?_); simp only [go_sem, ↓reduceIte, reduceCtorEq, reduceAdd, reduceMul, reduceEqDiff, reduceLT, reduceLeDiff, reduceSub, reduceDiv, Nat.reduceBEq, Int.reduceBEq, reduceBNe, Int.reduceLT, reduceLE, reduceEq, lt_dec hlk, hx]) | ((first | refine onG_split_t (fun hg => ?_) (fun hg => ?_) | refine onG_split_f (fun hg => ?_) (fun hg => ?_)) <;> simp only [go_sem, ↓reduceIte, reduceCtorEq, reduceAdd, reduceMul, reduceEqDiff, reduceLT, reduceLeDiff, reduceSub, reduceDiv, Nat.reduceBEq, Int.reduceBEq, reduceBNe, Int.reduceLT, reduceLE, reduceEq, lt_dec hlk, hx, hg]) | (refine K_condA (fun hc => ?_) (fun hc => ?_) <;> try (exact absurd hc (by decide))))
          refine K_loop (X := Nat × List (List Bool)) (fun x => x.1 ≤ u.length ∧ Sq u.length x.2 ∧ goJ i m (u.length - x.1) x.1 x.2 = goJ i m u.length 0 R2) (fun x => ⟨mkFr [(0, .sl (ill u)), (3, .rw 0), (6, AV.i n), (7, AV.i i), (8, AV.i k), (9, AV.i x.1)], rHp (bll x.2), 32⟩) (fun x => u.length - x.1) (0, R2) ⟨Nat.zero_le _, hR2, rfl⟩ (fun i => i) (ent_rowsI hN (by simp [bll, hR2.ln]; omega) (bll_clo _) (by simp [go_sem]) rfl) ?_
          rintro ⟨j, R3⟩ ⟨hj, hR3, hgj⟩
          simp only at hj hR3 hgj
          by_cases hlj : j < u.length
          · rw [show u.length - j = (u.length - (j + 1)) + 1 by omega, goJ] at hgj
            obtain ⟨r1, hr1, hr1l⟩ := hR3.get hli
            obtain ⟨r2, hr2, hr2l⟩ := hR3.get hm2
            obtain ⟨b1, hb1⟩ := get?_of (show j < r1.length by omega)
            obtain ⟨b2, hb2⟩ := get?_of (show j < r2.length by omega)
            have e1 : R3.getD i [] = r1 := by simp [List.getD_eq_getElem?_getD, hr1]
            have e2 : rgt R3 i j = b1 := by simp [rgt, List.getD_eq_getElem?_getD, hr1, hb1]
            have e3 : rgt R3 m j = b2 := by simp [rgt, List.getD_eq_getElem?_getD, hr2, hb2]
            rw [e1, e2, e3] at hgj
            have hR4 : Sq u.length (R3.set i (r1.set j (b1 || b2))) := hR3.set i (by simp [hr1l])
            have g1 := rHp_s (bll_get hr1)
            have g2 := rHp_s (bll_get hr2)
            have g0 : rHp (bll R3) 0 = some (.row 1 (rwl u.length)) := by rw [rHp_0, bll_len, hR3.ln]
            have g3 := upd_rHp (R := bll R3) (i := i) (by rw [bll_len, hR3.ln]; exact hli) (bl (r1.set j (b1 || b2)))
            rw [bll_set] at g3
            have hd1 : decide (i + 1 < 4194336) = true := by simp; omega
            have hd2 : decide (m + 1 < 4194336) = true := by simp; omega
            cases b1
            · repeat' (first | apply w1 | apply w2 | apply w3 | apply w4 | apply w5 | apply w6 | apply w7 | refine Kq_exit_ne (by decide) ?_ | apply w8 | apply w9 | apply w0 | rw [wrap64 (by omega) (by omega)] | ((first | refine hK _ ?_ | refine hKp _ _ ?_); clear hK hKp K Kp; try clear hanc anc) | ((with_reducible refine And.intro ?_ ?_); (focus (first | trivial | omega | (simp only [Fits]; omega) | assumption | (rw [hanc]; rfl)))) | ((first | refine K_regA hE fun K Kp hK hKp => ?_ | refine K_drwA true mixed hE fun K Kp hK hKp anc hanc => ?_ | refine K_drwA false mixed hE fun K Kp hK hKp anc hanc => ?_); simp only [go_sem, ↓reduceIte, reduceCtorEq, reduceAdd, reduceMul, reduceEqDiff, reduceLT, reduceLeDiff, reduceSub, reduceDiv, Nat.reduceBEq, Int.reduceBEq, reduceBNe, Int.reduceLT, reduceLE, reduceEq, lt_dec hlj, hx, hm, g0, g1, g2, hb1, hb2, rwl_get hli, rwl_get hm2, hd1, hd2, hr1l, hr2l]) | ((first | refine onG_split_t (fun hg => ?_) (fun hg => ?_) | refine onG_split_f (fun hg => ?_) (fun hg => ?_)) <;> simp only [go_sem, ↓reduceIte, reduceCtorEq, reduceAdd, reduceMul, reduceEqDiff, reduceLT, reduceLeDiff, reduceSub, reduceDiv, Nat.reduceBEq, Int.reduceBEq, reduceBNe, Int.reduceLT, reduceLE, reduceEq, lt_dec hlj, hx, hm, g0, g1, g2, hb1, hb2, rwl_get hli, rwl_get hm2, hd1, hd2, hr1l, hr2l, hg]) | (refine K_condA (fun hc => ?_) (fun hc => ?_) <;> try (exact absurd hc (by decide))))
              exact ⟨(j + 1, R3.set i (r1.set j (false || b2))), ⟨by simp only; omega, hR4, hgj⟩, by simp only; omega, fun i => i, ent_rowsI hN (by simp only [bll_len, hR4.ln]; omega) (bll_clo _) (by simp [go_sem]) (by simpa using g3)⟩
            · repeat' (first | apply w1 | apply w2 | apply w3 | apply w4 | apply w5 | apply w6 | apply w7 | refine Kq_exit_ne (by decide) ?_ | apply w8 | apply w9 | apply w0 | rw [wrap64 (by omega) (by omega)] | ((first | refine hK _ ?_ | refine hKp _ _ ?_); clear hK hKp K Kp; try clear hanc anc) | ((with_reducible refine And.intro ?_ ?_); (focus (first | trivial | omega | (simp only [Fits]; omega) | assumption | (rw [hanc]; rfl)))) | ((first | refine K_regA hE fun K Kp hK hKp => ?_ | refine K_drwA true mixed hE fun K Kp hK hKp anc hanc => ?_ | refine K_drwA false mixed hE fun K Kp hK hKp anc hanc => ?_); simp only [go_sem, ↓reduceIte, reduceCtorEq, reduceAdd, reduceMul, reduceEqDiff, reduceLT, reduceLeDiff, reduceSub, reduceDiv, Nat.reduceBEq, Int.reduceBEq, reduceBNe, Int.reduceLT, reduceLE, reduceEq, lt_dec hlj, hx, hm, g0, g1, g2, hb1, hb2, rwl_get hli, rwl_get hm2, hd1, hd2, hr1l, hr2l]) | ((first | refine onG_split_t (fun hg => ?_) (fun hg => ?_) | refine onG_split_f (fun hg => ?_) (fun hg => ?_)) <;> simp only [go_sem, ↓reduceIte, reduceCtorEq, reduceAdd, reduceMul, reduceEqDiff, reduceLT, reduceLeDiff, reduceSub, reduceDiv, Nat.reduceBEq, Int.reduceBEq, reduceBNe, Int.reduceLT, reduceLE, reduceEq, lt_dec hlj, hx, hm, g0, g1, g2, hb1, hb2, rwl_get hli, rwl_get hm2, hd1, hd2, hr1l, hr2l, hg]) | (refine K_condA (fun hc => ?_) (fun hc => ?_) <;> try (exact absurd hc (by decide))))
              exact ⟨(j + 1, R3.set i (r1.set j (true || b2))), ⟨by simp only; omega, hR4, hgj⟩, by simp only; omega, fun i => i, ent_rowsI hN (by simp only [bll_len, hR4.ln]; omega) (bll_clo _) (by simp [go_sem]) (by simpa using g3)⟩
          · obtain rfl : j = u.length := by omega
            rw [Nat.sub_self, goJ] at hgj
            rw [← hgj] at hgk
            repeat' (first | apply w1 | apply w2 | apply w3 | apply w4 | apply w5 | apply w6 | apply w7 | refine Kq_exit_ne (by decide) ?_ | apply w8 | apply w9 | apply w0 | rw [wrap64 (by omega) (by omega)] | ((first | refine hK _ ?_ | refine hKp _ _ ?_); clear hK hKp K Kp; try clear hanc anc) | ((with_reducible refine And.intro ?_ ?_); (focus (first | trivial | omega | (simp only [Fits]; omega) | assumption | (rw [hanc]; rfl)))) | ((first | refine K_regA hE fun K Kp hK hKp => ?_ | refine K_drwA true mixed hE fun K Kp hK hKp anc hanc => ?_ | refine K_drwA false mixed hE fun K Kp hK hKp anc hanc => ?_); simp only [go_sem, ↓reduceIte, reduceCtorEq, reduceAdd, reduceMul, reduceEqDiff, reduceLT, reduceLeDiff, reduceSub, reduceDiv, Nat.reduceBEq, Int.reduceBEq, reduceBNe, Int.reduceLT, reduceLE, reduceEq, ge_dec]) | ((first | refine onG_split_t (fun hg => ?_) (fun hg => ?_) | refine onG_split_f (fun hg => ?_) (fun hg => ?_)) <;> simp only [go_sem, ↓reduceIte, reduceCtorEq, reduceAdd, reduceMul, reduceEqDiff, reduceLT, reduceLeDiff, reduceSub, reduceDiv, Nat.reduceBEq, Int.reduceBEq, reduceBNe, Int.reduceLT, reduceLE, reduceEq, ge_dec, hg]) | (refine K_condA (fun hc => ?_) (fun hc => ?_) <;> try (exact absurd hc (by decide))))
            exact ⟨(k + 1, R3), ⟨by simp only; omega, hR3, hgk⟩, by simp only; omega, fun i => i, ent_rowsI hN (by simp only [bll_len, hR3.ln]; omega) (bll_clo _) (by simp [go_sem]) rfl⟩
        · obtain rfl : k = l.length := by omega
          rw [List.drop_length, goK] at hgk
          rw [← hgk] at hgi
          repeat' (first | apply w1 | apply w2 | apply w3 | apply w4 | apply w5 | apply w6 | apply w7 | refine Kq_exit_ne (by decide) ?_ | apply w8 | apply w9 | apply w0 | rw [wrap64 (by omega) (by omega)] | ((first | refine hK _ ?_ | refine hKp _ _ ?_); clear hK hKp K Kp; try clear hanc anc) | ((with_reducible refine And.intro ?_ ?_); (focus (first | trivial | omega | (simp only [Fits]; omega) | assumption | (rw [hanc]; rfl)))) | ((first | refine K_regA hE fun K Kp hK hKp => ?_ | refine K_drwA true mixed hE fun K Kp hK hKp anc hanc => ?_ | refine K_drwA false mixed hE fun K Kp hK hKp anc hanc => ?_); simp only [go_sem, ↓reduceIte, reduceCtorEq, reduceAdd, reduceMul, reduceEqDiff, reduceLT, reduceLeDiff, reduceSub, reduceDiv, Nat.reduceBEq, Int.reduceBEq, reduceBNe, Int.reduceLT, reduceLE, reduceEq, ge_dec, hx]) | ((first | refine onG_split_t (fun hg => ?_) (fun hg => ?_) | refine onG_split_f (fun hg => ?_) (fun hg => ?_)) <;> simp only [go_sem, ↓reduceIte, reduceCtorEq, reduceAdd, reduceMul, reduceEqDiff, reduceLT, reduceLeDiff, reduceSub, reduceDiv, Nat.reduceBEq, Int.reduceBEq, reduceBNe, Int.reduceLT, reduceLE, reduceEq, ge_dec, hx, hg]) | (refine K_condA (fun hc => ?_) (fun hc => ?_) <;> try (exact absurd hc (by decide))))
          exact ⟨(i + 1, R2), ⟨by simp only; omega, hR2, hgi⟩, by simp only; omega, fun i => i, ent_rowsI hN (by simp only [bll_len, hR2.ln]; omega) (bll_clo _) (by simp [go_sem]) rfl⟩
      · obtain rfl : i = u.length := by omega
        rw [Nat.sub_self, goI] at hgi
        rw [← hgi] at hgo
        repeat' (first | apply w1 | apply w2 | apply w3 | apply w4 | apply w5 | apply w6 | apply w7 | refine Kq_exit_ne (by decide) ?_ | apply w8 | apply w9 | apply w0 | rw [wrap64 (by omega) (by omega)] | ((first | refine hK _ ?_ | refine hKp _ _ ?_); clear hK hKp K Kp; try clear hanc anc) | ((with_reducible refine And.intro ?_ ?_); (focus (first | trivial | omega | (simp only [Fits]; omega) | assumption | (rw [hanc]; rfl)))) | ((first | refine K_regA hE fun K Kp hK hKp => ?_ | refine K_drwA true mixed hE fun K Kp hK hKp anc hanc => ?_ | refine K_drwA false mixed hE fun K Kp hK hKp anc hanc => ?_); simp only [go_sem, ↓reduceIte, reduceCtorEq, reduceAdd, reduceMul, reduceEqDiff, reduceLT, reduceLeDiff, reduceSub, reduceDiv, Nat.reduceBEq, Int.reduceBEq, reduceBNe, Int.reduceLT, reduceLE, reduceEq, ge_dec]) | ((first | refine onG_split_t (fun hg => ?_) (fun hg => ?_) | refine onG_split_f (fun hg => ?_) (fun hg => ?_)) <;> simp only [go_sem, ↓reduceIte, reduceCtorEq, reduceAdd, reduceMul, reduceEqDiff, reduceLT, reduceLeDiff, reduceSub, reduceDiv, Nat.reduceBEq, Int.reduceBEq, reduceBNe, Int.reduceLT, reduceLE, reduceEq, ge_dec, hg]) | (refine K_condA (fun hc => ?_) (fun hc => ?_) <;> try (exact absurd hc (by decide))))
        exact ⟨(n + 1, R1), ⟨by simp only; omega, hR1, hgo⟩, by simp only; omega, fun i => i, ent_rowsI hN (by simp only [bll_len, hR1.ln]; omega) (bll_clo _) (by simp [go_sem]) rfl⟩
    · obtain rfl : n = u.length := by omega
      rw [Nat.sub_self, goN] at hgo
      subst hgo
      refine AW_frzRows 3 (by simp [go_sem]) (bll_cloR _) ?_
      rw [bll_sl]
      repeat' (first | apply w1 | apply w2 | apply w3 | apply w4 | apply w5 | apply w6 | apply w7 | refine Kq_exit_ne (by decide) ?_ | apply w8 | apply w9 | apply w0 | rw [wrap64 (by omega) (by omega)] | ((first | refine hK _ ?_ | refine hKp _ _ ?_); clear hK hKp K Kp; try clear hanc anc) | ((with_reducible refine And.intro ?_ ?_); (focus (first | trivial | omega | (simp only [Fits]; omega) | assumption | (rw [hanc]; rfl)))) | ((first | refine K_regA hE fun K Kp hK hKp => ?_ | refine K_drwA false mixed hE fun K Kp hK hKp anc hanc => ?_); simp only [go_sem, ↓reduceIte, reduceCtorEq, reduceAdd, reduceMul, reduceEqDiff, reduceLT, reduceLeDiff, reduceSub, reduceDiv, Nat.reduceBEq, Int.reduceBEq, reduceBNe, Int.reduceLT, reduceLE, reduceEq, ge_dec]) | ((first | refine onG_split_t (fun hg => ?_) (fun hg => ?_) | refine onG_split_f (fun hg => ?_) (fun hg => ?_)) <;> simp only [go_sem, ↓reduceIte, reduceCtorEq, reduceAdd, reduceMul, reduceEqDiff, reduceLT, reduceLeDiff, reduceSub, reduceDiv, Nat.reduceBEq, Int.reduceBEq, reduceBNe, Int.reduceLT, reduceLE, reduceEq, ge_dec, hg]) | (refine K_condA (fun hc => ?_) (fun hc => ?_) <;> try (exact absurd hc (by decide))) | (refine K_ret ?_; refine (hQ _ ⟨_, by (try simp only [go_sem, ↓reduceIte, Nat.reduceEqDiff]); rfl, by simp [go_sem], ?_, by first | rfl | assumption⟩).1))
      simp [AV.snap]
end Go.Proofs.Ytakpabiefjlmaaa

