/- A part of the proof: an abstract machine for the walks, and what the walked functions compute. -/
import Derived.Sort.EveryDepth
import Derived.Shelf.Sort.AssemblyIn
import Derived.Shelf.SlicesG.Clone
import Derived.Test.YtakpabiefjlmaaaCa
set_option linter.unusedVariables false
set_option linter.unusedSimpArgs false
/- Chapter 22: Order. -/
set_option linter.unusedSimpArgs false
set_option linter.unusedVariables false
set_option maxHeartbeats 4000000
set_option maxRecDepth 100000
namespace Go.Proofs.Ytakpabiefjlmaaa
open Nat (reduceAdd reduceMul reduceEqDiff reduceLT reduceLeDiff reduceSub reduceDiv)
open Int (reduceBNe reduceLE reduceEq)
open Go.Am Go.Proofs
attribute [local irreducible] AW CallP CallB

def tk (out : List Int) (n : Int) : Option AV := if n ∈ out then some (.bool true) else none
/-- The variable with the map of those taken. -/
def tHp (es : List (AV × AV)) : Nat → Option AObj := mkHp [(0, .cells [.mp 1]), (1, .map es)]
theorem tHp_wf {es : List (AV × AV)} (h : EsClo es) : WF (tHp es) 2 := wf2 (by simp [AObj.ids, AV.idsL, AV.ids]) (fun q hq => ⟨clo_ids (h q hq).1, clo_ids (h q hq).2⟩)

theorem false_hc (l : List Int) : HCall 25 [.sl (il l)] (mkHp []) 0 (.bool false) := by
  have hw : WF (mkHp []) 0 := ⟨fun id ob h => (by cases h), fun id h => absurd h (Nat.not_lt_zero _)⟩
  refine HCall.intro hw rfl Try.func25 rfl isf25 (by simp [Try.f25]) fun E Q hE hN hQ => K_start ?_
  repeat' (first | apply w1 | apply w2 | apply w3 | apply w4 | apply w5 | apply w6 | apply w7 | refine Kq_exit_ne (by decide) ?_ | apply w8 | apply w9 | apply w0 | rw [wrap64 (by omega) (by omega)] | ((first | refine hK _ ?_ | refine hKp _ _ ?_); clear hK hKp K Kp; try clear hanc anc) | ((with_reducible refine And.intro ?_ ?_); (focus (first | trivial | omega | (simp only [Fits]; omega) | assumption | (rw [hanc]; rfl)))) | ((first | refine K_regA hE fun K Kp hK hKp => ?_ | refine K_drwA true mixed hE fun K Kp hK hKp anc hanc => ?_ | refine K_drwA false mixed hE fun K Kp hK hKp anc hanc => ?_); simp only [go_sem, ↓reduceIte, reduceCtorEq, reduceAdd, reduceMul, reduceEqDiff, reduceLT, reduceLeDiff, reduceSub, reduceDiv, Nat.reduceBEq, Int.reduceBEq, reduceBNe, Int.reduceLT, reduceLE, reduceEq]) | ((first | refine onG_split_t (fun hg => ?_) (fun hg => ?_) | refine onG_split_f (fun hg => ?_) (fun hg => ?_)) <;> simp only [go_sem, ↓reduceIte, reduceCtorEq, reduceAdd, reduceMul, reduceEqDiff, reduceLT, reduceLeDiff, reduceSub, reduceDiv, Nat.reduceBEq, Int.reduceBEq, reduceBNe, Int.reduceLT, reduceLE, reduceEq, hg]) | (refine K_condA (fun hc => ?_) (fun hc => ?_) <;> try (exact absurd hc (by decide))))
  exact K_ret (hQ _ (by simp only [go_sem, ↓reduceIte, reduceCtorEq, reduceAdd, reduceMul, reduceEqDiff, reduceLT, reduceLeDiff, reduceSub, reduceDiv, Nat.reduceBEq, Int.reduceBEq, reduceBNe, Int.reduceLT, reduceLE, reduceEq]; rfl) (fun id ob h => h)).1

theorem taken_hc (out : List Int) (es : List (AV × AV)) (x : Int) (hm : MapIs es (tk out)) (hc : EsClo es) : HCall 27 [.i x, .ptr 0 0] (tHp es) 2 (.bool (decide (x ∈ out))) := by
  have hw := tHp_wf hc
  have hx := hm x
  have h0 : tHp es 0 = some (.cells [.mp 1]) := rfl
  have h1 : tHp es 1 = some (.map es) := rfl
  refine HCall.intro hw rfl Try.func27 rfl isf27 (by simp [Try.f27]) fun E Q hE hN hQ => K_start ?_
  by_cases hin : x ∈ out
  · rw [tk, if_pos hin] at hx
    rw [decide_eq_true hin] at hQ
    repeat' (first | apply w1 | apply w2 | apply w3 | apply w4 | apply w5 | apply w6 | apply w7 | refine Kq_exit_ne (by decide) ?_ | apply w8 | apply w9 | apply w0 | rw [wrap64 (by omega) (by omega)] | ((first | refine hK _ ?_ | refine hKp _ _ ?_); clear hK hKp K Kp; try clear hanc anc) | ((with_reducible refine And.intro ?_ ?_); (focus (first | trivial | omega | (simp only [Fits]; omega) | assumption | (rw [hanc]; rfl)))) | ((first | refine K_regA hE fun K Kp hK hKp => ?_ | refine K_drwA true mixed hE fun K Kp hK hKp anc hanc => ?_ | refine K_drwA false mixed hE fun K Kp hK hKp anc hanc => ?_); simp only [go_sem, ↓reduceIte, reduceCtorEq, reduceAdd, reduceMul, reduceEqDiff, reduceLT, reduceLeDiff, reduceSub, reduceDiv, Nat.reduceBEq, Int.reduceBEq, reduceBNe, Int.reduceLT, reduceLE, reduceEq, h0, h1, hx]) | ((first | refine onG_split_t (fun hg => ?_) (fun hg => ?_) | refine onG_split_f (fun hg => ?_) (fun hg => ?_)) <;> simp only [go_sem, ↓reduceIte, reduceCtorEq, reduceAdd, reduceMul, reduceEqDiff, reduceLT, reduceLeDiff, reduceSub, reduceDiv, Nat.reduceBEq, Int.reduceBEq, reduceBNe, Int.reduceLT, reduceLE, reduceEq, h0, h1, hx, hg]) | (refine K_condA (fun hc => ?_) (fun hc => ?_) <;> try (exact absurd hc (by decide))))
    exact K_ret (hQ _ (by simp only [go_sem, ↓reduceIte, reduceCtorEq, reduceAdd, reduceMul, reduceEqDiff, reduceLT, reduceLeDiff, reduceSub, reduceDiv, Nat.reduceBEq, Int.reduceBEq, reduceBNe, Int.reduceLT, reduceLE, reduceEq]; rfl) (fun id ob h => h)).1
  · rw [tk, if_neg hin] at hx
    rw [decide_eq_false hin] at hQ
    repeat' (first | apply w1 | apply w2 | apply w3 | apply w4 | apply w5 | apply w6 | apply w7 | refine Kq_exit_ne (by decide) ?_ | apply w8 | apply w9 | apply w0 | rw [wrap64 (by omega) (by omega)] | ((first | refine hK _ ?_ | refine hKp _ _ ?_); clear hK hKp K Kp; try clear hanc anc) | ((with_reducible refine And.intro ?_ ?_); (focus (first | trivial | omega | (simp only [Fits]; omega) | assumption | (rw [hanc]; rfl)))) | ((first | refine K_regA hE fun K Kp hK hKp => ?_ | refine K_drwA true mixed hE fun K Kp hK hKp anc hanc => ?_ | refine K_drwA false mixed hE fun K Kp hK hKp anc hanc => ?_); simp only [go_sem, ↓reduceIte, reduceCtorEq, reduceAdd, reduceMul, reduceEqDiff, reduceLT, reduceLeDiff, reduceSub, reduceDiv, Nat.reduceBEq, Int.reduceBEq, reduceBNe, Int.reduceLT, reduceLE, reduceEq, h0, h1, hx]) | ((first | refine onG_split_t (fun hg => ?_) (fun hg => ?_) | refine onG_split_f (fun hg => ?_) (fun hg => ?_)) <;> simp only [go_sem, ↓reduceIte, reduceCtorEq, reduceAdd, reduceMul, reduceEqDiff, reduceLT, reduceLeDiff, reduceSub, reduceDiv, Nat.reduceBEq, Int.reduceBEq, reduceBNe, Int.reduceLT, reduceLE, reduceEq, h0, h1, hx, hg]) | (refine K_condA (fun hc => ?_) (fun hc => ?_) <;> try (exact absurd hc (by decide))))
    exact K_ret (hQ _ (by simp only [go_sem, ↓reduceIte, reduceCtorEq, reduceAdd, reduceMul, reduceEqDiff, reduceLT, reduceLeDiff, reduceSub, reduceDiv, Nat.reduceBEq, Int.reduceBEq, reduceBNe, Int.reduceLT, reduceLE, reduceEq]; rfl) (fun id ob h => h)).1

def good (out : List Int) (m : Nat) (l : List Int) : Bool := !decide ((m : Int) ∈ out) && l.all fun n => decide (n ∈ out)
/-- The first module that can come next, from a place on. -/
def nxt (out : List Int) : List (List Int) → Nat → Option Nat
  | [], _ => none
  | l :: r, i => if good out i l then some i else nxt out r (i + 1)
def ordGo (u : List (List Int)) : Nat → List Int → Option (List Int)
  | 0, out => some out
  | k + 1, out => match nxt out u 0 with | none => none | some m => ordGo u k (out ++ [(m : Int)])
def order (u : List (List Int)) : List Int × Int := if valid u then (match ordGo u u.length [] with | none => ([], 15) | some o => (o, 0)) else ([], 1)
theorem nxt_lt {out : List Int} : ∀ {r : List (List Int)} {i m : Nat}, nxt out r i = some m → i ≤ m ∧ m < i + r.length
  | [], _, _, h => by cases h
  | l :: r, i, m, h => by
    rw [nxt] at h
    split at h
    · cases h; simp
    · have := nxt_lt h; simp only [List.length_cons]; omega

theorem fidx_false {α : Type} : ∀ (l : List α) (k : Nat), fidx (fun _ => false) l k = -1
  | [], _ => rfl
  | x :: l, k => by rw [fidx]; simp [fidx_false l (k + 1)]

theorem order_call (u : List (List Int)) (hu : u.length ≤ 2 ^ 40) (hl : ∀ l, l ∈ u → l.length ≤ 2 ^ 40) : PCall Try.prog 11 [.sl (ill u)] (.tup [.sl (il (order u).1), .i (order u).2]) := by
  refine PCall.intro Try.func11 rfl isf11 (by simp [Try.f11]) (by simp [AV.cloL, AV.clo]) fun E Q hE hN hQ => K_start ?_
  cases hv : valid u
  · have := valid_call u hu hl
    rw [hv] at this
    repeat' (first | apply w1 | apply w2 | apply w3 | apply w4 | apply w5 | apply w6 | apply w7 | refine Kq_exit_ne (by decide) ?_ | apply w8 | apply w9 | apply w0 | rw [wrap64 (by omega) (by omega)] | ((first | refine hK _ ?_ | refine hKp _ _ ?_); clear hK hKp K Kp; try clear hanc anc) | ((with_reducible refine And.intro ?_ ?_); (focus (first | trivial | omega | (simp only [Fits]; omega) | assumption | (rw [hanc]; rfl)))) | ((first | refine K_regA hE fun K Kp hK hKp => ?_ | refine K_drwA false mixed hE fun K Kp hK hKp anc hanc => ?_ | ((first | apply CallP_mk | apply CallB_mk); (focus (simp only [go_sem]; rfl)); (focus (exact this)); (focus (simp [go_sem])); (focus (first | exact .inl rfl | (right; simp [go_sem]))))); simp only [go_sem, ↓reduceIte, reduceCtorEq, reduceAdd, reduceMul, reduceEqDiff, reduceLT, reduceLeDiff, reduceSub, reduceDiv, Nat.reduceBEq, Int.reduceBEq, reduceBNe, Int.reduceLT, reduceLE, reduceEq]) | ((first | refine onG_split_t (fun hg => ?_) (fun hg => ?_) | refine onG_split_f (fun hg => ?_) (fun hg => ?_)) <;> simp only [go_sem, ↓reduceIte, reduceCtorEq, reduceAdd, reduceMul, reduceEqDiff, reduceLT, reduceLeDiff, reduceSub, reduceDiv, Nat.reduceBEq, Int.reduceBEq, reduceBNe, Int.reduceLT, reduceLE, reduceEq, hg]) | (refine K_condA (fun hc => ?_) (fun hc => ?_) <;> try (exact absurd hc (by decide))) | (refine K_ret ?_; refine (hQ _ ⟨_, by (try simp only [go_sem, ↓reduceIte, Nat.reduceEqDiff]); rfl, by simp [go_sem], ?_, by first | rfl | assumption⟩).1))
    simp [AV.snap, AV.snapL, order, hv, il]
  · have hvc := valid_call u hu hl
    rw [hv] at hvc
    have h16 : u.length ≤ 16 := by unfold valid at hv; simp only [Bool.and_eq_true, decide_eq_true_eq] at hv; exact hv.1
    have hu40 : u.length ≤ 2 ^ 40 := hu
    repeat' (first | apply w1 | apply w2 | apply w3 | apply w4 | apply w5 | apply w6 | apply w7 | refine Kq_exit_ne (by decide) ?_ | apply w8 | apply w9 | apply w0 | rw [wrap64 (by omega) (by omega)] | ((first | refine hK _ ?_ | refine hKp _ _ ?_); clear hK hKp K Kp; try clear hanc anc) | ((with_reducible refine And.intro ?_ ?_); (focus (first | trivial | omega | (simp only [Fits]; omega) | assumption | (rw [hanc]; rfl)))) | ((first | refine K_regA hE fun K Kp hK hKp => ?_ | refine K_drwA true mixed hE fun K Kp hK hKp anc hanc => ?_ | refine K_drwA false mixed hE fun K Kp hK hKp anc hanc => ?_ | ((first | apply CallP_mk | apply CallB_mk); (focus (simp only [go_sem]; rfl)); (focus (exact hvc)); (focus (simp [go_sem])); (focus (first | exact .inl rfl | (right; simp [go_sem]))))); simp only [go_sem, ↓reduceIte, reduceCtorEq, reduceAdd, reduceMul, reduceEqDiff, reduceLT, reduceLeDiff, reduceSub, reduceDiv, Nat.reduceBEq, Int.reduceBEq, reduceBNe, Int.reduceLT, reduceLE, reduceEq]) | ((first | refine onG_split_t (fun hg => ?_) (fun hg => ?_) | refine onG_split_f (fun hg => ?_) (fun hg => ?_)) <;> simp only [go_sem, ↓reduceIte, reduceCtorEq, reduceAdd, reduceMul, reduceEqDiff, reduceLT, reduceLeDiff, reduceSub, reduceDiv, Nat.reduceBEq, Int.reduceBEq, reduceBNe, Int.reduceLT, reduceLE, reduceEq, hg]) | (refine K_condA (fun hc => ?_) (fun hc => ?_) <;> try (exact absurd hc (by decide))))
    refine AW_nil 5 1 (by rw [hE]; decide) (by simp only [go_sem, ↓reduceIte, reduceCtorEq, reduceAdd, reduceMul, reduceEqDiff, reduceLT, reduceLeDiff, reduceSub, reduceDiv, Nat.reduceBEq, Int.reduceBEq, reduceBNe, Int.reduceLT, reduceLE, reduceEq]) ?_
    refine K_loop (X := List Int × List (AV × AV)) (fun x => MapIs x.2 (tk x.1) ∧ EsClo x.2 ∧ x.1.length ≤ u.length ∧ ordGo u (u.length - x.1.length) x.1 = ordGo u u.length []) (fun x => mkSt [(0, .sl (ill u)), (4, .ptr 0 0), (5, .rw 2)] [(0, .cells [.mp 1]), (1, .map x.2), (2, .row 1 (il x.1))] 3) (fun x => u.length - x.1.length) ([], []) ⟨MapIs.nil, EsClo.nil, Nat.zero_le _, rfl⟩ (fun i => if i = 0 then 6291456 else if i = 1 then 5242880 else 9437184) (by refine ent_mk (by simp [go_sem]) (by simp [go_sem]) (by simp) (by simp [hN])) ?_
    rintro ⟨out, es⟩ ⟨hm, hec, hol, hord⟩
    simp only at hm hec hol hord
    have hmi : ∀ (a b : AV), (a, b) ∈ es → AV.ids (fun x => x < 3) a ∧ AV.ids (fun x => x < 3) b := fun a b h => ⟨clo_ids (hec _ h).1, clo_ids (hec _ h).2⟩
    by_cases hlt : out.length < u.length
    · rw [show u.length - out.length = (u.length - out.length - 1) + 1 by omega, ordGo] at hord
      repeat' (first | apply w1 | apply w2 | apply w3 | apply w4 | apply w5 | apply w6 | apply w7 | refine Kq_exit_ne (by decide) ?_ | apply w8 | apply w9 | apply w0 | rw [wrap64 (by omega) (by omega)] | ((first | refine hK _ ?_ | refine hKp _ _ ?_); clear hK hKp K Kp; try clear hanc anc) | ((with_reducible refine And.intro ?_ ?_); (focus (first | trivial | omega | (simp only [Fits]; omega) | assumption | (rw [hanc]; rfl)))) | ((first | refine K_regA hE fun K Kp hK hKp => ?_ | refine K_drwA true mixed hE fun K Kp hK hKp anc hanc => ?_ | refine K_drwA false mixed hE fun K Kp hK hKp anc hanc => ?_); simp only [go_sem, ↓reduceIte, reduceCtorEq, reduceAdd, reduceMul, reduceEqDiff, reduceLT, reduceLeDiff, reduceSub, reduceDiv, Nat.reduceBEq, Int.reduceBEq, reduceBNe, Int.reduceLT, reduceLE, reduceEq, lt_dec hlt]) | ((first | refine onG_split_t (fun hg => ?_) (fun hg => ?_) | refine onG_split_f (fun hg => ?_) (fun hg => ?_)) <;> simp only [go_sem, ↓reduceIte, reduceCtorEq, reduceAdd, reduceMul, reduceEqDiff, reduceLT, reduceLeDiff, reduceSub, reduceDiv, Nat.reduceBEq, Int.reduceBEq, reduceBNe, Int.reduceLT, reduceLE, reduceEq, lt_dec hlt, hg]) | (refine K_condA (fun hc => ?_) (fun hc => ?_) <;> try (exact absurd hc (by decide))))
      refine Hold.mk (HCall.use (indexl_hc u 25 [] (mkHp []) 0 (fun _ => false) trivial ⟨fun id ob h => (by cases h), fun id h => absurd h (Nat.not_lt_zero _)⟩ hu40 (fun x _ => false_hc x)) (fun i => i) (by simp [AV.renL, AV.ren]) (by simp [AV.idsL, AV.ids]) (fun id ob h => (by cases h)) (fun _ _ _ _ e => e) ?_)
      rintro ⟨fr', hp', nx'⟩ hnx hfr hold
      simp only at hnx hfr hold
      subst hnx hfr
      simp only [go_sem, ↓reduceIte, reduceCtorEq, reduceAdd, reduceMul, reduceEqDiff, reduceLT, reduceLeDiff, reduceSub, reduceDiv, Nat.reduceBEq, Int.reduceBEq, reduceBNe, Int.reduceLT, reduceLE, reduceEq]
      refine hK _ ?_; clear hK hKp K Kp; try clear hanc anc
      repeat (first | refine Kq_norm_code ?_ | refine Kq_norm_blk ?_ | refine Kq_norm_lp ?_)
      have e0 := hold 0 (.cells [.mp 1]) (by simp [go_sem])
      have e1 := hold 1 (.map es) (by simp [go_sem])
      have e2 := hold 2 (.row 1 (il out)) (by simp [go_sem])
      refine AW.ent (fun i => i) (σ' := mkSt [(0, .sl (ill u)), (4, .ptr 0 0), (5, .rw 2), (6, AV.i (-1))] [(0, .cells [.mp 1]), (1, .map es), (2, .row 1 (il out))] 3) (ent_mk (by simp [go_sem, fidx_false]) (by simp [e0, e1, e2, hec.ren, go_sem]; exact hmi) (by simp) (by simp [hN])) ?_
      clear hold e0 e1 e2
      repeat' (first | apply w1 | apply w2 | apply w3 | apply w4 | apply w5 | apply w6 | apply w7 | refine Kq_exit_ne (by decide) ?_ | apply w8 | apply w9 | apply w0 | rw [wrap64 (by omega) (by omega)] | ((first | refine hK _ ?_ | refine hKp _ _ ?_); clear hK hKp K Kp; try clear hanc anc) | ((with_reducible refine And.intro ?_ ?_); (focus (first | trivial | omega | (simp only [Fits]; omega) | assumption | (rw [hanc]; rfl)))) | ((first | refine K_regA hE fun K Kp hK hKp => ?_ | refine K_drwA true mixed hE fun K Kp hK hKp anc hanc => ?_ | refine K_drwA false mixed hE fun K Kp hK hKp anc hanc => ?_); simp only [go_sem, ↓reduceIte, reduceCtorEq, reduceAdd, reduceMul, reduceEqDiff, reduceLT, reduceLeDiff, reduceSub, reduceDiv, Nat.reduceBEq, Int.reduceBEq, reduceBNe, Int.reduceLT, reduceLE, reduceEq]) | ((first | refine onG_split_t (fun hg => ?_) (fun hg => ?_) | refine onG_split_f (fun hg => ?_) (fun hg => ?_)) <;> simp only [go_sem, ↓reduceIte, reduceCtorEq, reduceAdd, reduceMul, reduceEqDiff, reduceLT, reduceLeDiff, reduceSub, reduceDiv, Nat.reduceBEq, Int.reduceBEq, reduceBNe, Int.reduceLT, reduceLE, reduceEq, hg]) | (refine K_condA (fun hc => ?_) (fun hc => ?_) <;> try (exact absurd hc (by decide))))
      refine K_loop (X := Nat) (fun i => i ≤ u.length ∧ nxt out u 0 = nxt out (u.drop i) i) (fun i => mkSt [(0, .sl (ill u)), (4, .ptr 0 0), (5, .rw 2), (6, AV.i (-1)), (20, .sl (ill u)), (21, AV.i u.length), (22, AV.i i)] [(0, .cells [.mp 1]), (1, .map es), (2, .row 1 (il out))] 3) (fun i => u.length - i) 0 ⟨Nat.zero_le _, rfl⟩ (fun i => i) (ent_mk (by simp [go_sem]) (by simp [hec.ren, go_sem]; exact hmi) (by simp) (by simp [hN])) ?_
      rintro i ⟨hi, ht⟩
      by_cases hil : i < u.length
      · obtain ⟨l, hx⟩ := get?_of hil
        rw [drop_of hx, nxt] at ht
        have hll := hl l (List.mem_of_getElem? hx)
        have hmx := hm i
        by_cases hin : (i : Int) ∈ out
        · rw [tk, if_pos hin] at hmx
          have hg : good out i l = false := by simp [good, hin]
          rw [hg] at ht
          repeat' (first | apply w1 | apply w2 | apply w3 | apply w4 | apply w5 | apply w6 | apply w7 | refine Kq_exit_ne (by decide) ?_ | apply w8 | apply w9 | apply w0 | rw [wrap64 (by omega) (by omega)] | ((first | refine hK _ ?_ | refine hKp _ _ ?_); clear hK hKp K Kp; try clear hanc anc) | ((with_reducible refine And.intro ?_ ?_); (focus (first | trivial | omega | (simp only [Fits]; omega) | assumption | (rw [hanc]; rfl)))) | ((first | refine K_regA hE fun K Kp hK hKp => ?_ | refine K_drwA true mixed hE fun K Kp hK hKp anc hanc => ?_ | refine K_drwA false mixed hE fun K Kp hK hKp anc hanc => ?_); simp only [go_sem, ↓reduceIte, reduceCtorEq, reduceAdd, reduceMul, reduceEqDiff, reduceLT, reduceLeDiff, reduceSub, reduceDiv, Nat.reduceBEq, Int.reduceBEq, reduceBNe, Int.reduceLT, reduceLE, reduceEq, lt_dec hil, hx, hmx]) | ((first | refine onG_split_t (fun hg => ?_) (fun hg => ?_) | refine onG_split_f (fun hg => ?_) (fun hg => ?_)) <;> simp only [go_sem, ↓reduceIte, reduceCtorEq, reduceAdd, reduceMul, reduceEqDiff, reduceLT, reduceLeDiff, reduceSub, reduceDiv, Nat.reduceBEq, Int.reduceBEq, reduceBNe, Int.reduceLT, reduceLE, reduceEq, lt_dec hil, hx, hmx, hg]) | (refine K_condA (fun hc => ?_) (fun hc => ?_) <;> try (exact absurd hc (by decide))))
          exact ⟨i + 1, ⟨by omega, by simpa using ht⟩, by omega, fun i => i, ent_mk (by simp [go_sem]) (by simp [hec.ren, go_sem]; exact hmi) (by simp) (by simp [hN])⟩
        · rw [tk, if_neg hin] at hmx
          repeat' (first | apply w1 | apply w2 | apply w3 | apply w4 | apply w5 | apply w6 | apply w7 | refine Kq_exit_ne (by decide) ?_ | apply w8 | apply w9 | apply w0 | rw [wrap64 (by omega) (by omega)] | ((first | refine hK _ ?_ | refine hKp _ _ ?_); clear hK hKp K Kp; try clear hanc anc) | ((with_reducible refine And.intro ?_ ?_); (focus (first | trivial | omega | (simp only [Fits]; omega) | assumption | (rw [hanc]; rfl)))) | ((first | refine K_regA hE fun K Kp hK hKp => ?_ | refine K_drwA true mixed hE fun K Kp hK hKp anc hanc => ?_ | refine K_drwA false mixed hE fun K Kp hK hKp anc hanc => ?_); simp only [go_sem, ↓reduceIte, reduceCtorEq, reduceAdd, reduceMul, reduceEqDiff, reduceLT, reduceLeDiff, reduceSub, reduceDiv, Nat.reduceBEq, Int.reduceBEq, reduceBNe, Int.reduceLT, reduceLE, reduceEq, lt_dec hil, hx, hmx]) | ((first | refine onG_split_t (fun hg => ?_) (fun hg => ?_) | refine onG_split_f (fun hg => ?_) (fun hg => ?_)) <;> simp only [go_sem, ↓reduceIte, reduceCtorEq, reduceAdd, reduceMul, reduceEqDiff, reduceLT, reduceLeDiff, reduceSub, reduceDiv, Nat.reduceBEq, Int.reduceBEq, reduceBNe, Int.reduceLT, reduceLE, reduceEq, lt_dec hil, hx, hmx, hg]) | (refine K_condA (fun hc => ?_) (fun hc => ?_) <;> try (exact absurd hc (by decide))))
          refine Hold.mk (HCall.use (every_hc l 27 [.ptr 0 0] (tHp es) 2 (fun n => decide (n ∈ out)) (by simp [AV.idsL, AV.ids]) (tHp_wf hec) hll (fun x _ => taken_hc out es x hm hec)) (fun i => i) (by rw [renL_id]) (by simp [AV.idsL, AV.ids]) (mkHp_all (by simp [go_sem, hec.ren])) (fun _ _ _ _ e => e) ?_)
          rintro ⟨fr', hp', nx'⟩ hnx hfr hold
          simp only at hnx hfr hold
          subst hnx hfr
          simp only [go_sem, ↓reduceIte, reduceCtorEq, reduceAdd, reduceMul, reduceEqDiff, reduceLT, reduceLeDiff, reduceSub, reduceDiv, Nat.reduceBEq, Int.reduceBEq, reduceBNe, Int.reduceLT, reduceLE, reduceEq]
          refine hK _ ?_; clear hK hKp K Kp; try clear hanc anc
          repeat (first | refine Kq_norm_code ?_ | refine Kq_norm_blk ?_ | refine Kq_norm_lp ?_)
          have e0 := hold 0 (.cells [.mp 1]) (by simp [go_sem])
          have e1 := hold 1 (.map es) (by simp [go_sem])
          have e2 := hold 2 (.row 1 (il out)) (by simp [go_sem])
          refine AW.ent (fun i => i) (σ' := mkSt [(0, .sl (ill u)), (4, .ptr 0 0), (5, .rw 2), (6, AV.i (-1)), (7, AV.i i), (20, .sl (ill u)), (21, AV.i u.length), (22, AV.i i), (35, .bool (l.all fun n => decide (n ∈ out)))] [(0, .cells [.mp 1]), (1, .map es), (2, .row 1 (il out))] 3) (ent_mk (by simp [go_sem]) (by simp [e0, e1, e2, hec.ren, go_sem]; exact hmi) (by simp) (by simp [hN])) ?_
          clear hold e0 e1 e2
          cases hall : l.all fun n => decide (n ∈ out)
          · have hg : good out i l = false := by simp only [good, hall, Bool.and_false]
            rw [hg] at ht
            repeat' (first | apply w1 | apply w2 | apply w3 | apply w4 | apply w5 | apply w6 | apply w7 | refine Kq_exit_ne (by decide) ?_ | apply w8 | apply w9 | apply w0 | rw [wrap64 (by omega) (by omega)] | ((first | refine hK _ ?_ | refine hKp _ _ ?_); clear hK hKp K Kp; try clear hanc anc) | ((with_reducible refine And.intro ?_ ?_); (focus (first | trivial | omega | (simp only [Fits]; omega) | assumption | (rw [hanc]; rfl)))) | ((first | refine K_regA hE fun K Kp hK hKp => ?_ | refine K_drwA true mixed hE fun K Kp hK hKp anc hanc => ?_ | refine K_drwA false mixed hE fun K Kp hK hKp anc hanc => ?_); simp only [go_sem, ↓reduceIte, reduceCtorEq, reduceAdd, reduceMul, reduceEqDiff, reduceLT, reduceLeDiff, reduceSub, reduceDiv, Nat.reduceBEq, Int.reduceBEq, reduceBNe, Int.reduceLT, reduceLE, reduceEq]) | ((first | refine onG_split_t (fun hg => ?_) (fun hg => ?_) | refine onG_split_f (fun hg => ?_) (fun hg => ?_)) <;> simp only [go_sem, ↓reduceIte, reduceCtorEq, reduceAdd, reduceMul, reduceEqDiff, reduceLT, reduceLeDiff, reduceSub, reduceDiv, Nat.reduceBEq, Int.reduceBEq, reduceBNe, Int.reduceLT, reduceLE, reduceEq, hg]) | (refine K_condA (fun hc => ?_) (fun hc => ?_) <;> try (exact absurd hc (by decide))))
            exact ⟨i + 1, ⟨by omega, by simpa using ht⟩, by omega, fun i => i, ent_mk (by simp [go_sem]) (by simp [hec.ren, go_sem]; exact hmi) (by simp) (by simp [hN])⟩
          · have hg : good out i l = true := by simp only [good, hall, Bool.and_true, decide_eq_false hin, Bool.not_false]
            rw [hg, if_pos rfl] at ht
            rw [ht] at hord
            simp only at hord
            have q1 : decide ((i : Int) < 0) = false := by simp
            have hm' := hm.put i (.bool true)
            rw [tk, if_neg hin] at hm'
            have hc' := hec.put (i : Int) (x := .bool true) rfl none
            have htk : (fun m => if m = (i : Int) then some (AV.bool true) else tk out m) = tk (out ++ [(i : Int)]) := by
              funext m
              simp only [tk, List.mem_append, List.mem_singleton]
              by_cases h1 : m = (i : Int) <;> by_cases h2 : m ∈ out <;> simp [h1, h2]
            rw [htk] at hm'
            have hsz := szok_il [(i : Int)]
            have hmi' : ∀ (a b : AV), (a, b) ∈ putE .i64 (i : Int) (.bool true) es none → AV.ids (fun x => x < 3) a ∧ AV.ids (fun x => x < 3) b := fun a b h => ⟨clo_ids (hc' _ h).1, clo_ids (hc' _ h).2⟩
            have hlen : (out ++ [(i : Int)]).length = out.length + 1 := by simp
            repeat' (first | apply w1 | apply w2 | apply w3 | apply w4 | apply w5 | apply w6 | apply w7 | refine Kq_exit_ne (by decide) ?_ | apply w8 | apply w9 | apply w0 | rw [wrap64 (by omega) (by omega)] | ((first | refine hK _ ?_ | refine hKp _ _ ?_); clear hK hKp K Kp; try clear hanc anc) | ((with_reducible refine And.intro ?_ ?_); (focus (first | trivial | omega | (simp only [Fits]; omega) | assumption | (rw [hanc]; rfl)))) | ((first | refine K_regA hE fun K Kp hK hKp => ?_ | refine K_drwA true mixed hE fun K Kp hK hKp anc hanc => ?_ | refine K_drwA false mixed hE fun K Kp hK hKp anc hanc => ?_); simp only [go_sem, ↓reduceIte, reduceCtorEq, reduceAdd, reduceMul, reduceEqDiff, reduceLT, reduceLeDiff, reduceSub, reduceDiv, Nat.reduceBEq, Int.reduceBEq, reduceBNe, Int.reduceLT, reduceLE, reduceEq, q1, hmx]) | ((first | refine onG_split_t (fun hg => ?_) (fun hg => ?_) | refine onG_split_f (fun hg => ?_) (fun hg => ?_)) <;> simp only [go_sem, ↓reduceIte, reduceCtorEq, reduceAdd, reduceMul, reduceEqDiff, reduceLT, reduceLeDiff, reduceSub, reduceDiv, Nat.reduceBEq, Int.reduceBEq, reduceBNe, Int.reduceLT, reduceLE, reduceEq, q1, hmx, hg]) | (refine K_condA (fun hc => ?_) (fun hc => ?_) <;> try (exact absurd hc (by decide))))
            exact ⟨(out ++ [(i : Int)], putE .i64 (i : Int) (.bool true) es none), ⟨hm', hc', by simp only [hlen]; omega, by simp only [hlen]; rw [← hord, Nat.sub_sub]⟩, by simp only [hlen]; omega, fun j => if j = 2 then 10485763 else j, ent_mk (by simp [go_sem]) (by simp [hc'.ren, go_sem]; exact hmi') (by simp) (by simp [hN])⟩
      · obtain rfl : i = u.length := by omega
        rw [List.drop_length, nxt] at ht
        rw [ht] at hord
        repeat' (first | apply w1 | apply w2 | apply w3 | apply w4 | apply w5 | apply w6 | apply w7 | refine Kq_exit_ne (by decide) ?_ | apply w8 | apply w9 | apply w0 | rw [wrap64 (by omega) (by omega)] | ((first | refine hK _ ?_ | refine hKp _ _ ?_); clear hK hKp K Kp; try clear hanc anc) | ((with_reducible refine And.intro ?_ ?_); (focus (first | trivial | omega | (simp only [Fits]; omega) | assumption | (rw [hanc]; rfl)))) | ((first | refine K_regA hE fun K Kp hK hKp => ?_ | refine K_drwA false mixed hE fun K Kp hK hKp anc hanc => ?_); simp only [go_sem, ↓reduceIte, reduceCtorEq, reduceAdd, reduceMul, reduceEqDiff, reduceLT, reduceLeDiff, reduceSub, reduceDiv, Nat.reduceBEq, Int.reduceBEq, reduceBNe, Int.reduceLT, reduceLE, reduceEq, ge_dec]) | ((first | refine onG_split_t (fun hg => ?_) (fun hg => ?_) | refine onG_split_f (fun hg => ?_) (fun hg => ?_)) <;> simp only [go_sem, ↓reduceIte, reduceCtorEq, reduceAdd, reduceMul, reduceEqDiff, reduceLT, reduceLeDiff, reduceSub, reduceDiv, Nat.reduceBEq, Int.reduceBEq, reduceBNe, Int.reduceLT, reduceLE, reduceEq, ge_dec, hg]) | (refine K_condA (fun hc => ?_) (fun hc => ?_) <;> try (exact absurd hc (by decide))) | (refine K_ret ?_; refine (hQ _ ⟨_, by (try simp only [go_sem, ↓reduceIte, Nat.reduceEqDiff]); rfl, by simp [go_sem], ?_, by first | rfl | assumption⟩).1))
        simp [AV.snap, AV.snapL, order, hv, ← hord, il]
    · have hle : out.length = u.length := by omega
      rw [hle, Nat.sub_self, ordGo] at hord
      have q0 : decide ((out.length : Int) < (u.length : Int)) = false := by simp; omega
      repeat' (first | apply w1 | apply w2 | apply w3 | apply w4 | apply w5 | apply w6 | apply w7 | refine Kq_exit_ne (by decide) ?_ | apply w8 | apply w9 | apply w0 | rw [wrap64 (by omega) (by omega)] | ((first | refine hK _ ?_ | refine hKp _ _ ?_); clear hK hKp K Kp; try clear hanc anc) | ((with_reducible refine And.intro ?_ ?_); (focus (first | trivial | omega | (simp only [Fits]; omega) | assumption | (rw [hanc]; rfl)))) | ((first | refine K_regA hE fun K Kp hK hKp => ?_ | refine K_drwA false mixed hE fun K Kp hK hKp anc hanc => ?_); simp only [go_sem, ↓reduceIte, reduceCtorEq, reduceAdd, reduceMul, reduceEqDiff, reduceLT, reduceLeDiff, reduceSub, reduceDiv, Nat.reduceBEq, Int.reduceBEq, reduceBNe, Int.reduceLT, reduceLE, reduceEq, q0]) | ((first | refine onG_split_t (fun hg => ?_) (fun hg => ?_) | refine onG_split_f (fun hg => ?_) (fun hg => ?_)) <;> simp only [go_sem, ↓reduceIte, reduceCtorEq, reduceAdd, reduceMul, reduceEqDiff, reduceLT, reduceLeDiff, reduceSub, reduceDiv, Nat.reduceBEq, Int.reduceBEq, reduceBNe, Int.reduceLT, reduceLE, reduceEq, q0, hg]) | (refine K_condA (fun hc => ?_) (fun hc => ?_) <;> try (exact absurd hc (by decide))) | (refine K_ret ?_; refine (hQ _ ⟨_, by (try simp only [go_sem, ↓reduceIte, Nat.reduceEqDiff]); rfl, by simp [go_sem], ?_, by first | rfl | assumption⟩).1))
      simp [AV.snap, AV.snapL, order, hv, ← hord, go_sem]
end Go.Proofs.Ytakpabiefjlmaaa


/- Chapter 22: the library's sort, by the shelf's contract. -/
set_option maxRecDepth 100000
namespace Go.Proofs.Ytakpabiefjlmaaa
open Go.Shelf Go.Sort Go.RowKit Go.Am

def sortRen : Ren where
  f := fun
    | 189 => 32
    | 125 => 40
    | 257 => 39
    | 128 => 51
    | 129 => 52
    | 294 => 42
    | 295 => 43
    | 296 => 44
    | 297 => 45
    | 298 => 46
    | 299 => 47
    | 216 => 48
    | 300 => 49
    | 301 => 50
    | 328 => 53
    | 329 => 54
    | 330 => 55
    | 331 => 56
    | 332 => 57
    | 215 => 58
    | 343 => 59
    | n => n
  t := fun
    | 28 => 25
    | 3 => 3
    | 46 => 56
    | 0 => 0
    | 51 => 68
    | 53 => 70
    | 4 => 4
    | 183 => 60
    | 182 => 59
    | 131 => 65
    | 5 => 5
    | 9 => 9
    | 218 => 71
    | 222 => 75
    | 228 => 77
    | 229 => 78
    | n => n
  g := fun n => n

theorem sortLays : Lays.n189 Try.prog sortRen where
  mixed := by kernel_rfl
  f125 := Try.func40
  f128 := Try.func51
  f129 := Try.func52
  f189 := Try.func32
  f215 := Try.func58
  f216 := Try.func48
  f257 := Try.func39
  f294 := Try.func42
  f295 := Try.func43
  f296 := Try.func44
  f297 := Try.func45
  f298 := Try.func46
  f299 := Try.func47
  f300 := Try.func49
  f301 := Try.func50
  f328 := Try.func53
  f329 := Try.func54
  f330 := Try.func55
  f331 := Try.func56
  f332 := Try.func57
  f343 := Try.func59
  t0 := Try.underlying0
  a0 := Try.isAgg0
  z0 := Try.sizeOf0
  v0 := Try.zeroValue0
  t3 := Try.underlying3
  a3 := Try.isAgg3
  z3 := Try.sizeOf3
  v3 := Try.zeroValue3
  t4 := Try.underlying4
  a4 := Try.isAgg4
  z4 := Try.sizeOf4
  v4 := Try.zeroValue4
  t5 := Try.underlying5
  a5 := Try.isAgg5
  z5 := Try.sizeOf5
  v5 := Try.zeroValue5
  t9 := Try.underlying9
  a9 := Try.isAgg9
  z9 := Try.sizeOf9
  v9 := Try.zeroValue9
  t28 := Try.underlying25
  a28 := Try.isAgg25
  z28 := Try.sizeOf25
  v28 := Try.zeroValue25
  t46 := Try.underlying56
  a46 := Try.isAgg56
  z46 := Try.sizeOf56
  v46 := Try.zeroValue56
  t51 := Try.underlying68
  a51 := Try.isAgg68
  z51 := Try.sizeOf68
  v51 := Try.zeroValue68
  t53 := Try.underlying70
  a53 := Try.isAgg70
  z53 := Try.sizeOf70
  v53 := Try.zeroValue70
  t131 := Try.underlying65
  a131 := Try.isAgg65
  z131 := Try.sizeOf65
  v131 := Try.zeroValue65
  t182 := Try.underlying59
  a182 := Try.isAgg59
  z182 := Try.sizeOf59
  v182 := Try.zeroValue59
  t183 := Try.underlying60
  a183 := Try.isAgg60
  z183 := Try.sizeOf60
  v183 := Try.zeroValue60
  t218 := Try.underlying71
  a218 := Try.isAgg71
  z218 := Try.sizeOf71
  v218 := Try.zeroValue71
  t222 := Try.underlying75
  a222 := Try.isAgg75
  z222 := Try.sizeOf75
  v222 := Try.zeroValue75
  t228 := Try.underlying77
  a228 := Try.isAgg77
  z228 := Try.sizeOf77
  v228 := Try.zeroValue77
  t229 := Try.underlying78
  a229 := Try.isAgg78
  z229 := Try.sizeOf78
  v229 := Try.zeroValue78

theorem sort_calls (blk off cap : Nat) (zs : List Int) (w : World) (hH : Holds (Value.int .i64) w blk off zs.toArray) (hblk : blk < w.heap.size) (hsz : zs.length < 4611686018427387904) :
    Calls Try.prog 32 #[.slice (some ⟨blk, off, none⟩) zs.length cap] w fun e w' =>
      e = .returned (.tuple #[]) ∧ ∃ n os, w' = grow (putRow (Value.int .i64) (Sort.ahead w n) blk off (zs.mergeSort fun x y => decide (x ≤ y)).toArray) os :=
  calls_of_every_depth fun D => AnyS.slices_Sort_int_in sortLays D blk off cap zs w hH hblk hsz

def srt (l : List Int) : List Int := l.mergeSort fun x y => decide (x ≤ y)
theorem srt_len (l : List Int) : (srt l).length = l.length := List.length_mergeSort ..
end Go.Proofs.Ytakpabiefjlmaaa

/- Chapter 22: the sort of an owned row. -/
set_option linter.unusedVariables false
set_option linter.unusedSimpArgs false
namespace Go.Proofs.Ytakpabiefjlmaaa
open Go Go.Sort Go.Am Go.Proofs

def sHp (l : List Int) : Nat → Option AObj := mkHp [(0, .row 1 (il l))]
theorem sHp_cases {l : List Int} {id : Nat} {ob : AObj} (h : sHp l id = some ob) : id = 0 ∧ ob = .row 1 (il l) := by
  simp only [sHp, mkHp, updo] at h
  split at h
  · rename_i e; cases h; exact ⟨e, rfl⟩
  · cases h
theorem il_getD (l : List Int) {i : Nat} (hi : i < l.length) : (il l).getD i default = .i (l[i]!) := by
  simp [il, List.getD_eq_getElem?_getD, hi]

theorem sort_ac (h0 : PCall Try.prog 32 [.sl []] (.tup [])) (l : List Int) (hl : l.length ≤ 2 ^ 40) : ACall Try.prog 32 [.rw 0] (sHp l) 1 1 (fun r hp' => r = .tup [] ∧ hp' = sHp (srt l)) (fun _ _ => False) := by
  refine ⟨isf32, fun ρ V Z w args hh hnp hnx hsz hrel => ?_⟩
  have hr0 := hrel 0 (by simp)
  simp only [List.getD_cons_zero] at hr0
  obtain ⟨hv, hV⟩ := hr0.rw_inv
  obtain ⟨_, hobj⟩ := hh.obj 0 _ rfl
  have hargs : args = #[(ρ 0).slice] := by
    have h1 : args.size = 1 := hsz
    rw [← hv]
    refine Array.ext (by simp [h1]) fun i hi _ => ?_
    obtain rfl : i = 0 := by omega
    simp [Array.getD, hi]
  rcases hobj.row_cells' with ⟨hn, hl0⟩ | ⟨hn, cs, ty, g1, g2, g3, g4, g5⟩
  · have hl0' : l = [] := by simpa [il] using hl0
    subst hl0'
    have hsl : (ρ 0).slice = .slice none 0 0 := by simp [Ref.slice, hn]
    refine (h0.2 ρ V Z w args hh.lt hsz (fun i hi => ?_)).mono ?_
    · obtain rfl : i = 0 := by simpa using hi
      rw [hargs, hsl]
      exact .sl0 _ _
    · rintro e w' ⟨v, Z', rfl, hrv, hext, hz1, hz2⟩
      have hcell : ∀ b o, Z b o → w'.cell? ⟨b, o, none⟩ = w.cell? ⟨b, o, none⟩ := fun b o hz => cell?_of_heap (hext.old b (hh.lt b o hz) (fun h => h))
      refine ⟨ρ, V, Z, sHp [], ⟨?_, ?_, ?_, ?_⟩, ⟨fun b hb _ => hext.old b hb (fun h => h), hext.le, hext.os, hext.out, trivial⟩, fun id hid => ⟨hnp id hid, rfl⟩, fun _ _ h => h, fun _ _ h => .inl h, ?_, .inl ⟨v, .tup [], rfl, ?_, rfl, by simp [srt]⟩⟩
      · intro id o ho
        obtain ⟨rfl, rfl⟩ := sHp_cases ho
        exact ⟨hV, .inl ⟨hn, rfl⟩⟩
      · intro id id' o o' b ho ho' _ _
        rw [(sHp_cases ho).1, (sHp_cases ho').1]
      · intro id o b ho hb
        obtain ⟨rfl, rfl⟩ := sHp_cases ho
        exact absurd hb.1 (by simp [hn])
      · exact fun b o hz => Nat.lt_of_lt_of_le (hh.lt b o hz) hext.le
      · intro id o b ho hb
        obtain ⟨rfl, rfl⟩ := sHp_cases ho
        exact absurd hb.1 (by simp [hn])
      · cases hrv with
        | tup cs l h1 h2 => exact .tup cs [] h1 (fun i hi => absurd hi (Nat.not_lt_zero _))
  · have hlen : (ρ 0).len = l.length := by rw [g2]; simp [go_sem]
    have hsl : (ρ 0).slice = .slice (some ⟨(ρ 0).blk, (ρ 0).off, none⟩) l.length (ρ 0).cap := by simp [Ref.slice, hn, hlen]
    rw [hargs, hsl]
    have hlt : (ρ 0).blk < w.heap.size := (Array.getElem?_eq_some_iff.1 g1).1
    have hcap : l.length ≤ (ρ 0).cap := by simpa [go_sem] using g3
    have hcs : ∀ j, j < l.length → cs.getD ((ρ 0).off + j) undef = .int .i64 (l[j]!) := by
      intro j hj
      have h1 := (g5.2 j 0 (by simpa [go_sem] using hj) (by omega)).2
      rw [il_getD l hj] at h1
      simpa [AV.cells] using h1.int_inv'
    have hH : Holds (Value.int .i64) w (ρ 0).blk (ρ 0).off l.toArray := by
      intro j hj
      have hj' : j < l.length := by simpa using hj
      have h2 : (ρ 0).off + j < cs.size := by omega
      refine ⟨?_, by simp [World.frozen?, g1]⟩
      have h3 := hcs j hj'
      simp only [Array.getD, h2, dif_pos] at h3
      simp [World.cell?, g1, h2]
      simpa [Array.getElem?_eq_getElem h2] using h3
    refine (sort_calls (ρ 0).blk (ρ 0).off (ρ 0).cap l w hH hlt (by omega)).mono ?_
    rintro e w' ⟨rfl, n, os, rfl⟩
    have hss : (srt l).length = l.length := srt_len l
    have hheap : ∀ b, b < w.heap.size → b ≠ (ρ 0).blk → (grow (putRow (Value.int .i64) (Sort.ahead w n) (ρ 0).blk (ρ 0).off (srt l).toArray) os).heap[b]? = w.heap[b]? := by
      intro b hb hne
      rw [heap_grow_old _ _ (by simpa [Sort.ahead] using hb)]
      simp [putRow, mapBlock, Sort.ahead, Array.getElem?_modify, Ne.symm hne]
    have hblk : (grow (putRow (Value.int .i64) (Sort.ahead w n) (ρ 0).blk (ρ 0).off (srt l).toArray) os).heap[(ρ 0).blk]? = some (.cells (putCells (Value.int .i64) (ρ 0).off (srt l).toArray cs) ty (0, 0)) := by
      rw [heap_grow_old _ _ (by simpa [Sort.ahead] using hlt)]
      simp [putRow, mapBlock, Sort.ahead, Array.getElem?_modify, g1, onCells]
    have hown : ∀ b, ¬ OwnB ρ (sHp l) b → b ≠ (ρ 0).blk := fun b hno e => hno ⟨0, _, rfl, hn, e.symm⟩
    have hsep := hh.sep 0 _ (ρ 0).blk rfl ⟨hn, rfl⟩
    refine ⟨ρ, V, Z, sHp (srt l), ⟨?_, ?_, ?_, ?_⟩, ⟨fun b hb hno => hheap b hb (hown b hno), by simp [Sort.ahead], rfl, rfl, trivial⟩, fun id hid => ⟨hnp id hid, rfl⟩, fun _ _ h => h, fun _ _ h => .inl h, ?_, .inl ⟨_, .tup [], rfl, .tup #[] [] rfl (fun i hi => absurd hi (Nat.not_lt_zero _)), rfl, rfl⟩⟩
    · intro id o ho
      obtain ⟨rfl, rfl⟩ := sHp_cases ho
      refine ⟨hV, ObjRel.of_cells hn hblk (by rw [hlen]; simp [go_sem, hss]) (by simpa [go_sem, hss] using hcap) (by simpa [putCells] using g4) ⟨fun i hi => ?_, fun i j hi hj => ?_⟩⟩
      · have hi' : i < (srt l).length := by simpa [go_sem] using hi
        rw [il_getD _ hi']; rfl
      · have hi' : i < (srt l).length := by simpa [go_sem] using hi
        obtain rfl : j = 0 := by omega
        rw [il_getD _ hi']
        refine ⟨rfl, ?_⟩
        have h2 : (ρ 0).off + i < cs.size := by omega
        have : (putCells (Value.int .i64) (ρ 0).off (srt l).toArray cs).getD ((ρ 0).off + i * 1 + 0) undef = .int .i64 ((srt l)[i]!) := by
          simp [putCells, Array.getD, h2, hi']
        rw [this]
        exact .int _ _
    · intro id id' o o' b ho ho' _ _
      rw [(sHp_cases ho).1, (sHp_cases ho').1]
    · intro id o b ho hb off
      obtain ⟨rfl, rfl⟩ := sHp_cases ho
      exact hh.sep 0 _ b rfl hb off
    · intro b o hz
      have := hh.lt b o hz
      simp [Sort.ahead]
      omega
    · intro id o b ho hb _
      obtain ⟨rfl, rfl⟩ := sHp_cases ho
      exact ⟨0, _, rfl, hb⟩

theorem len0 (w : World) : Calls Try.prog 40 #[.int .u64 0] w fun e w' => e = .returned (.int .i64 0) ∧ w' = w := by
  have h := calls_of_every_depth fun D => Any.lenWalkInAll (P := Try.prog) (ρ := sortRen) { sortLays with } D 0 w (by decide)
  exact h.mono fun e w' h => ⟨h.1, h.2⟩

theorem len0_pc : PCall Try.prog 40 [.int .u64 0] (.i 0) := by
  refine ⟨isf40, fun ρ V Z w args hz hsz hrel => ?_⟩
  have hr0 := hrel 0 (by simp)
  have hargs : args = #[.int .u64 0] := by
    have h1 : args.size = 1 := hsz
    have hv := hr0.int_inv'
    refine Array.ext (by simp [h1]) fun i hi _ => ?_
    obtain rfl : i = 0 := by omega
    simpa [Array.getD, hi] using hv
  rw [hargs]
  refine (len0 w).mono ?_
  rintro e w' ⟨rfl, rfl⟩
  exact ⟨_, Z, rfl, .int _ _, ⟨fun _ _ _ => rfl, Nat.le_refl _, rfl, rfl, trivial⟩, fun _ _ h => h, fun _ _ h => .inl h⟩
end Go.Proofs.Ytakpabiefjlmaaa

/- Chapter 22: the sort in walks. -/
set_option linter.unusedSimpArgs false
set_option linter.unusedVariables false
set_option maxHeartbeats 4000000
set_option maxRecDepth 100000
namespace Go.Proofs.Ytakpabiefjlmaaa
open Nat (reduceAdd reduceMul reduceEqDiff reduceLT reduceLeDiff reduceSub reduceDiv)
open Int (reduceBNe reduceLE reduceEq)
open Go.Am Go.Proofs
attribute [local irreducible] AW CallP CallB

theorem ins0 : PCall Try.prog 42 [.sl [], .i 0, .i 0] (.tup []) := by
  refine PCall.intro Try.func42 rfl isf42 (by simp [Try.f42]) (by simp [AV.cloL, AV.clo]) fun E Q hE hN hQ => K_start ?_
  repeat' (first | apply w1 | apply w2 | apply w3 | apply w4 | apply w5 | apply w6 | apply w7 | refine Kq_exit_ne (by decide) ?_ | apply w8 | apply w9 | apply w0 | rw [wrap64 (by omega) (by omega)] | ((first | refine hK _ ?_ | refine hKp _ _ ?_); clear hK hKp K Kp; try clear hanc anc) | ((with_reducible refine And.intro ?_ ?_); (focus (first | trivial | omega | (simp only [Fits]; omega) | assumption | (rw [hanc]; rfl)))) | ((first | refine K_regA hE fun K Kp hK hKp => ?_ | refine K_drwA false mixed hE fun K Kp hK hKp anc hanc => ?_); simp only [go_sem, ↓reduceIte, reduceCtorEq, reduceAdd, reduceMul, reduceEqDiff, reduceLT, reduceLeDiff, reduceSub, reduceDiv, Nat.reduceBEq, Int.reduceBEq, reduceBNe, Int.reduceLT, reduceLE, reduceEq]) | ((first | refine onG_split_t (fun hg => ?_) (fun hg => ?_) | refine onG_split_f (fun hg => ?_) (fun hg => ?_)) <;> simp only [go_sem, ↓reduceIte, reduceCtorEq, reduceAdd, reduceMul, reduceEqDiff, reduceLT, reduceLeDiff, reduceSub, reduceDiv, Nat.reduceBEq, Int.reduceBEq, reduceBNe, Int.reduceLT, reduceLE, reduceEq, hg]) | (refine K_condA (fun hc => ?_) (fun hc => ?_) <;> try (exact absurd hc (by decide))) | (refine K_ret ?_; refine (hQ _ ⟨_, by (try simp only [go_sem, ↓reduceIte, Nat.reduceEqDiff]); rfl, by simp [go_sem], ?_, by first | rfl | assumption⟩).1))
  refine K_loop (X := Unit) (fun _ => True) (fun _ => mkSt [(0, .sl []), (1, .i 0), (2, .i 0), (6, .i 1)] [] 0) (fun _ => 0) () trivial (fun i => i) (by refine ent_mk (by simp [go_sem]) (by simp [go_sem]) (by simp) (by simp [hN])) ?_
  rintro _ _
  repeat' (first | apply w1 | apply w2 | apply w3 | apply w4 | apply w5 | apply w6 | apply w7 | refine Kq_exit_ne (by decide) ?_ | apply w8 | apply w9 | apply w0 | rw [wrap64 (by omega) (by omega)] | ((first | refine hK _ ?_ | refine hKp _ _ ?_); clear hK hKp K Kp; try clear hanc anc) | ((with_reducible refine And.intro ?_ ?_); (focus (first | trivial | omega | (simp only [Fits]; omega) | assumption | (rw [hanc]; rfl)))) | ((first | refine K_regA hE fun K Kp hK hKp => ?_ | refine K_drwA false mixed hE fun K Kp hK hKp anc hanc => ?_); simp only [go_sem, ↓reduceIte, reduceCtorEq, reduceAdd, reduceMul, reduceEqDiff, reduceLT, reduceLeDiff, reduceSub, reduceDiv, Nat.reduceBEq, Int.reduceBEq, reduceBNe, Int.reduceLT, reduceLE, reduceEq]) | ((first | refine onG_split_t (fun hg => ?_) (fun hg => ?_) | refine onG_split_f (fun hg => ?_) (fun hg => ?_)) <;> simp only [go_sem, ↓reduceIte, reduceCtorEq, reduceAdd, reduceMul, reduceEqDiff, reduceLT, reduceLeDiff, reduceSub, reduceDiv, Nat.reduceBEq, Int.reduceBEq, reduceBNe, Int.reduceLT, reduceLE, reduceEq, hg]) | (refine K_condA (fun hc => ?_) (fun hc => ?_) <;> try (exact absurd hc (by decide))) | (refine K_ret ?_; refine (hQ _ ⟨_, by (try simp only [go_sem, ↓reduceIte, Nat.reduceEqDiff]); rfl, by simp [go_sem], ?_, by first | rfl | assumption⟩).1))
  rw [Kq_nil]
  exact (hQ _ ⟨.tup [], by simp only [go_sem, ↓reduceIte, reduceCtorEq, reduceAdd, reduceMul, reduceEqDiff, reduceLT, reduceLeDiff, reduceSub, reduceDiv, Nat.reduceBEq, Int.reduceBEq, reduceBNe, Int.reduceLT, reduceLE, reduceEq]; rfl, by simp [go_sem], by simp [AV.snap, AV.snapL], rfl⟩).2
theorem pdq0 : PCall Try.prog 39 [.sl [], .i 0, .i 0, .i 0] (.tup []) := by
  refine PCall.intro Try.func39 rfl isf39 (by simp [Try.f39]) (by simp [AV.cloL, AV.clo]) fun E Q hE hN hQ => K_start ?_
  repeat' (first | apply w1 | apply w2 | apply w3 | apply w4 | apply w5 | apply w6 | apply w7 | refine Kq_exit_ne (by decide) ?_ | apply w8 | apply w9 | apply w0 | rw [wrap64 (by omega) (by omega)] | ((first | refine hK _ ?_ | refine hKp _ _ ?_); clear hK hKp K Kp; try clear hanc anc) | ((with_reducible refine And.intro ?_ ?_); (focus (first | trivial | omega | (simp only [Fits]; omega) | assumption | (rw [hanc]; rfl)))) | ((first | refine K_regA hE fun K Kp hK hKp => ?_ | refine K_drwA false mixed hE fun K Kp hK hKp anc hanc => ?_); simp only [go_sem, ↓reduceIte, reduceCtorEq, reduceAdd, reduceMul, reduceEqDiff, reduceLT, reduceLeDiff, reduceSub, reduceDiv, Nat.reduceBEq, Int.reduceBEq, reduceBNe, Int.reduceLT, reduceLE, reduceEq]) | ((first | refine onG_split_t (fun hg => ?_) (fun hg => ?_) | refine onG_split_f (fun hg => ?_) (fun hg => ?_)) <;> simp only [go_sem, ↓reduceIte, reduceCtorEq, reduceAdd, reduceMul, reduceEqDiff, reduceLT, reduceLeDiff, reduceSub, reduceDiv, Nat.reduceBEq, Int.reduceBEq, reduceBNe, Int.reduceLT, reduceLE, reduceEq, hg]) | (refine K_condA (fun hc => ?_) (fun hc => ?_) <;> try (exact absurd hc (by decide))) | (refine K_ret ?_; refine (hQ _ ⟨_, by (try simp only [go_sem, ↓reduceIte, Nat.reduceEqDiff]); rfl, by simp [go_sem], ?_, by first | rfl | assumption⟩).1))
  refine K_loop (X := Unit) (fun _ => True) (fun _ => mkSt [(0, .sl []), (1, .i 0), (2, .i 0), (3, .i 0)] [] 0) (fun _ => 0) () trivial (fun i => i) (by refine ent_mk (by simp [go_sem]) (by simp [go_sem]) (by simp) (by simp [hN])) ?_
  rintro _ _
  repeat' (first | apply w1 | apply w2 | apply w3 | apply w4 | apply w5 | apply w6 | apply w7 | refine Kq_exit_ne (by decide) ?_ | apply w8 | apply w9 | apply w0 | rw [wrap64 (by omega) (by omega)] | ((first | refine hK _ ?_ | refine hKp _ _ ?_); clear hK hKp K Kp; try clear hanc anc) | ((with_reducible refine And.intro ?_ ?_); (focus (first | trivial | omega | (simp only [Fits]; omega) | assumption | (rw [hanc]; rfl)))) | ((first | refine K_regA hE fun K Kp hK hKp => ?_ | refine K_drwA false mixed hE fun K Kp hK hKp anc hanc => ?_ | ((first | apply CallP_mk | apply CallB_mk); (focus (simp only [go_sem]; rfl)); (focus (exact ins0)); (focus (simp [go_sem])); (focus (first | exact .inl rfl | (right; simp [go_sem]))))); simp only [go_sem, ↓reduceIte, reduceCtorEq, reduceAdd, reduceMul, reduceEqDiff, reduceLT, reduceLeDiff, reduceSub, reduceDiv, Nat.reduceBEq, Int.reduceBEq, reduceBNe, Int.reduceLT, reduceLE, reduceEq]) | ((first | refine onG_split_t (fun hg => ?_) (fun hg => ?_) | refine onG_split_f (fun hg => ?_) (fun hg => ?_)) <;> simp only [go_sem, ↓reduceIte, reduceCtorEq, reduceAdd, reduceMul, reduceEqDiff, reduceLT, reduceLeDiff, reduceSub, reduceDiv, Nat.reduceBEq, Int.reduceBEq, reduceBNe, Int.reduceLT, reduceLE, reduceEq, hg]) | (refine K_condA (fun hc => ?_) (fun hc => ?_) <;> try (exact absurd hc (by decide))) | (refine K_ret ?_; refine (hQ _ ⟨_, by (try simp only [go_sem, ↓reduceIte, Nat.reduceEqDiff]); rfl, by simp [go_sem], ?_, by first | rfl | assumption⟩).1))
  all_goals simp [AV.snap, AV.snapL]
theorem sort0 : PCall Try.prog 32 [.sl []] (.tup []) := by
  have hw : IntKind.u64.wrap 0 = 0 := by decide
  refine PCall.intro Try.func32 rfl isf32 (by simp [Try.f32]) (by simp [AV.cloL, AV.clo]) fun E Q hE hN hQ => K_start ?_
  repeat' (first | apply w1 | apply w2 | apply w3 | apply w4 | apply w5 | apply w6 | apply w7 | refine Kq_exit_ne (by decide) ?_ | apply w8 | apply w9 | apply w0 | rw [wrap64 (by omega) (by omega)] | ((first | refine hK _ ?_ | refine hKp _ _ ?_); clear hK hKp K Kp; try clear hanc anc) | ((with_reducible refine And.intro ?_ ?_); (focus (first | trivial | omega | (simp only [Fits]; omega) | assumption | (rw [hanc]; rfl)))) | ((first | refine K_regA hE fun K Kp hK hKp => ?_ | refine K_drwA false mixed hE fun K Kp hK hKp anc hanc => ?_ | ((first | apply CallP_mk | apply CallB_mk); (focus (simp only [go_sem]; rfl)); (focus (first | exact len0_pc | exact pdq0)); (focus (simp [go_sem])); (focus (first | exact .inl rfl | (right; simp [go_sem]))))); simp only [go_sem, ↓reduceIte, reduceCtorEq, reduceAdd, reduceMul, reduceEqDiff, reduceLT, reduceLeDiff, reduceSub, reduceDiv, Nat.reduceBEq, Int.reduceBEq, reduceBNe, Int.reduceLT, reduceLE, reduceEq, hw]) | ((first | refine onG_split_t (fun hg => ?_) (fun hg => ?_) | refine onG_split_f (fun hg => ?_) (fun hg => ?_)) <;> simp only [go_sem, ↓reduceIte, reduceCtorEq, reduceAdd, reduceMul, reduceEqDiff, reduceLT, reduceLeDiff, reduceSub, reduceDiv, Nat.reduceBEq, Int.reduceBEq, reduceBNe, Int.reduceLT, reduceLE, reduceEq, hw, hg]) | (refine K_condA (fun hc => ?_) (fun hc => ?_) <;> try (exact absurd hc (by decide))) | (refine K_ret ?_; refine (hQ _ ⟨_, by (try simp only [go_sem, ↓reduceIte, Nat.reduceEqDiff]); rfl, by simp [go_sem], ?_, by first | rfl | assumption⟩).1))
  rw [Kq_nil]
  exact (hQ _ ⟨.tup [], by simp only [go_sem, ↓reduceIte, reduceCtorEq, reduceAdd, reduceMul, reduceEqDiff, reduceLT, reduceLeDiff, reduceSub, reduceDiv, Nat.reduceBEq, Int.reduceBEq, reduceBNe, Int.reduceLT, reduceLE, reduceEq]; rfl, by simp [go_sem], by simp [AV.snap, AV.snapL], rfl⟩).2

theorem sort_use {σ : St} {A : Nat} {l : List Int} (hl : l.length ≤ 2 ^ 40) (h : σ.hp A = some (.row 1 (il l))) {k : Nat} {d : Option Nat} {K : St → Prop} {Kp : AV → St → Prop}
    (hK : ∀ σ', σ'.nx = σ.nx → σ'.fr = (σ.put d (.tup [])).fr → σ'.hp A = some (.row 1 (il (srt l))) → (∀ id ob, id ≠ A → σ.hp id = some ob → σ'.hp id = some ob) → K σ') : CallB Try.prog 32 [.rw A] σ k d K Kp := by
  refine CallB.of_A (sort_ac sort0 l hl) (fun _ => A) rfl ⟨show 0 < 1 by omega, trivial⟩ ?_ ?_ ?_ ?_ ?_ ?_ ?_
  · intro id ob hid
    obtain ⟨rfl, rfl⟩ := sHp_cases hid
    exact ⟨by simp only [AObj.ren, il_ren]; exact h, by omega, by simp only [AObj.ids, il_ids]⟩
  · intro id id' o1 o2 ho1 ho2 he
    rw [(sHp_cases ho1).1, (sHp_cases ho2).1]
  · intro id hid
    obtain rfl : id = 0 := by omega
    exact ⟨by omega, by simp [sHp, mkHp, updo]⟩
  · rintro r hp' ⟨rfl, rfl⟩
    refine ⟨trivial, fun id ob hid => ?_⟩
    obtain ⟨rfl, rfl⟩ := sHp_cases hid
    exact ⟨by omega, by simp only [AObj.ids, il_ids]⟩
  · rintro r hp' hf
    exact hf.elim
  · rintro r hp' σ' ⟨rfl, rfl⟩ hB
    have b0 := hB.obj 0 (.row 1 (il (srt l))) rfl
    have e0 : backM (fun _ => A) 1 (σ.nx + 1048576 * k) 0 = A := by simp [backM]
    rw [e0] at b0
    simp only [AObj.ren, il_ren] at b0
    refine hK σ' hB.nx (by rw [hB.fr]; rfl) b0 fun id ob hne hid => hB.old id ob hid fun j hj e' => hne e'.symm
  · rintro r hp' σ' hf
    exact hf.elim
end Go.Proofs.Ytakpabiefjlmaaa


/- Chapter 22: a copy of a list, as a row of one's own. -/
set_option linter.unusedVariables false
set_option linter.unusedSimpArgs false
set_option maxRecDepth 100000
namespace Go.Proofs.Ytakpabiefjlmaaa
open Go Go.Shelf Go.Sort Go.Am Go.Proofs

def cloneRen : Ren where
  f := fun
    | 41 => 36
    | n => n
  t := fun
    | 22 => 25
    | 23 => 3
    | 4 => 4
    | n => n
  g := fun n => n

theorem cloneLays : SlLaysN.n41 Try.prog cloneRen where
  mixed := by kernel_rfl
  f41 := ⟨"slices.Clone[[]int,int]", by decide, Try.func36⟩
  t4 := Try.underlying4
  a4 := Try.isAgg4
  z4 := Try.sizeOf4
  v4 := Try.zeroValue4
  t22 := Try.underlying25
  a22 := Try.isAgg25
  z22 := Try.sizeOf25
  v22 := Try.zeroValue25
  t23 := Try.underlying3
  a23 := Try.isAgg3
  z23 := Try.sizeOf3
  v23 := Try.zeroValue3
  i23 := by kernel_rfl

theorem clone_ac (l : List Int) (hl : l.length ≤ 2 ^ 40) : ACall Try.prog 36 [.sl (il l)] (mkHp []) 0 0 (fun r hp' => r = .rw 0 ∧ hp' = sHp l) (fun _ _ => False) := by
  refine ⟨isf36, fun ρ V Z w args hh hnp hnx hsz hrel => ?_⟩
  have hr0 := hrel 0 (by simp)
  simp only [List.getD_cons_zero] at hr0
  have fin : ∀ (v' : Value) (w' : World), w'.ownsRow w.heap.size 3 1 v' l.length (l.map (Value.int .i64)) → Go.RowKit.Below w.heap.size w w' →
      ∃ ρ' V' Z' hp', HSat ρ' V' Z' w' hp' ∧ Ext w w' (OwnB ρ (mkHp [])) ∧ (∀ id, id < 0 → V' id ∧ ρ' id = ρ id) ∧ (∀ b o, Z b o → Z' b o) ∧
      (∀ b o, Z' b o → Z b o ∨ w.heap.size ≤ b ∨ OwnB ρ (mkHp []) b) ∧ (∀ id o b, hp' id = some o → (ρ' id).at b → b < w.heap.size → OwnB ρ (mkHp []) b) ∧
      ((∃ v r, Ending.returned v' = .returned v ∧ Rel ρ' V' Z' w' v r ∧ (r = .rw 0 ∧ hp' = sHp l)) ∨ ∃ v x, Ending.returned v' = .panicked [{ v, recovered := false }] ∧ Rel ρ' V' Z' w' v x ∧ False) := by
    intro v' w' how hbel
    obtain ⟨_, how⟩ := how
    have hext : Ext w w' (OwnB ρ (mkHp [])) := ⟨fun b hb _ => hbel.block b hb, hbel.size, hbel.os, hbel.output, trivial⟩
    have hlt : ∀ b o, Z b o → b < w'.heap.size := fun b o hz => Nat.lt_of_lt_of_le (hh.lt b o hz) hbel.size
    rcases how with ⟨rfl, hn⟩ | ⟨g, cap, cur, rfl, hg, hcur, hcap, _, hcs, htk⟩
    · have hl0 : l = [] := List.eq_nil_of_length_eq_zero hn
      subst hl0
      refine ⟨fun _ => nilRef, fun i => i = 0, Z, sHp [], ⟨?_, ?_, ?_, hlt⟩, hext, fun id hid => absurd hid (Nat.not_lt_zero _), fun _ _ h => h, fun _ _ h => .inl h, ?_, .inl ⟨_, .rw 0, rfl, ?_, rfl, rfl⟩⟩
      · intro id o ho
        obtain ⟨rfl, rfl⟩ := sHp_cases ho
        exact ⟨rfl, .inl ⟨rfl, rfl⟩⟩
      · intro id id' o o' b ho ho' _ _
        rw [(sHp_cases ho).1, (sHp_cases ho').1]
      · intro id o b ho hb
        exact absurd hb.1 (by simp [nilRef])
      · intro id o b ho hb
        exact absurd hb.1 (by simp [nilRef])
      · have := Rel.rw (ρ := fun _ => nilRef) (V := fun i => i = 0) (Z := Z) (w := w') 0 rfl
        simpa [Ref.slice, nilRef] using this
    · refine ⟨fun _ => ⟨g, l.length, cap, false, 0⟩, fun i => i = 0, Z, sHp l, ⟨?_, ?_, ?_, hlt⟩, hext, fun id hid => absurd hid (Nat.not_lt_zero _), fun _ _ h => h, fun _ _ h => .inl h, ?_, .inl ⟨_, .rw 0, rfl, ?_, rfl, rfl⟩⟩
      · intro id o ho
        obtain ⟨rfl, rfl⟩ := sHp_cases ho
        refine ⟨rfl, ObjRel.of_cells rfl hcur (by simp [go_sem]) (by simpa [go_sem] using hcap) (by simp; omega) ⟨fun i hi => ?_, fun i j hi hj => ?_⟩⟩
        · have hi' : i < l.length := by simpa [go_sem] using hi
          rw [il_getD _ hi']; rfl
        · have hi' : i < l.length := by simpa [go_sem] using hi
          obtain rfl : j = 0 := by omega
          rw [il_getD _ hi']
          refine ⟨rfl, ?_⟩
          have hci : i < cur.size := by omega
          have h1 : cur.toList[i]? = some (.int .i64 (l[i]!)) := by
            have h2 := congrArg (fun m => m[i]?) htk
            simp only [List.getElem?_take, Nat.mul_one, hi', if_true, List.getElem?_map] at h2
            rw [h2]
            simp [hi']
          have : cur.getD (0 + i * 1 + 0) undef = .int .i64 (l[i]!) := by
            rw [Array.getElem?_toList] at h1
            simp [Array.getD_eq_getD_getElem?, h1]
          rw [this]
          exact .int _ _
      · intro id id' o o' b ho ho' _ _
        rw [(sHp_cases ho).1, (sHp_cases ho').1]
      · intro id o b ho hb off hz
        have h1 := hh.lt b off hz
        have h2 : g = b := hb.2
        omega
      · intro id o b ho hb hlt'
        have h2 : g = b := hb.2
        omega
      · have := Rel.rw (ρ := fun _ => (⟨g, l.length, cap, false, 0⟩ : Ref)) (V := fun i => i = 0) (Z := Z) (w := w') 0 rfl
        simpa [Ref.slice] using this
  have hargs : ∀ v, args.getD 0 undef = v → args = #[v] := by
    intro v hv
    have h1 : args.size = 1 := hsz
    refine Array.ext (by simp [h1]) fun i hi _ => ?_
    obtain rfl : i = 0 := by omega
    simpa [Array.getD, hi] using hv
  have hcase : (∃ cap, args = #[.slice none 0 cap] ∧ l = []) ∨ (∃ a cap, args = #[.slice (some a) 0 cap] ∧ l = []) ∨ (∃ b o cap, args = #[.slice (some ⟨b, o, none⟩) l.length cap] ∧ ∀ j, j < l.length → w.cell? ⟨b, o + j, none⟩ = some (.int .i64 (l.getD j 0))) := by
    generalize hv : args.getD 0 undef = v at hr0
    have ha := hargs v hv
    generalize hx : AV.sl (il l) = x at hr0
    cases hr0 with
    | sl0 a cap =>
      injection hx with hx
      have hl0 : l = [] := by simpa [il] using hx
      cases a with
      | none => exact .inl ⟨cap, ha, hl0⟩
      | some a => exact .inr (.inl ⟨a, cap, ha, hl0⟩)
    | sl b o cap sz l' cs h0 h1 h2 h3 =>
      injection hx with hx
      subst hx
      have hlen : (il l).length = l.length := il_len l
      rw [hlen] at ha h1 h2 h3
      refine .inr (.inr ⟨b, o, cap, ha, fun j hj => ?_⟩)
      have hs := h1 j hj
      rw [il_getD l hj] at hs
      obtain rfl : sz = 1 := hs.symm
      have e1 := (h2 j 0 hj (by omega)).1
      have e2 := h3 j 0 hj (by omega)
      rw [il_getD l hj] at e2
      rw [show o + j * 1 + 0 = o + j by omega] at e1
      rw [e1]
      have e3 : cs j 0 = .int .i64 (l[j]!) := by simpa [AV.cells] using e2.int_inv'
      rw [e3]
      simp [List.getD_eq_getElem?_getD, hj]
    | _ => cases hx
  rcases hcase with ⟨cap, rfl, hl0⟩ | ⟨a, cap, rfl, hl0⟩ | ⟨b, o, cap, rfl, hc⟩
  · refine (AnyG.slices_Clone_int_nil cloneLays 0 cap w).mono ?_
    rintro e w' ⟨rfl, rfl⟩
    exact fin _ _ ⟨by simp [hl0], .inl ⟨rfl, by simp [hl0]⟩⟩ ⟨rfl, rfl, rfl, Nat.le_refl _, fun _ _ => rfl⟩
  · refine (AnyG.slices_Clone_int_zero cloneLays a cap w).mono ?_
    rintro e w' ⟨v', rfl, h1, _, h3⟩
    subst hl0
    exact fin _ _ h1 h3
  · refine (AnyG.slices_Clone_int cloneLays b o l.length cap l w (Nat.le_refl _) (by omega) hc).mono ?_
    rintro e w' ⟨v', rfl, h1, _, h3⟩
    rw [List.take_length] at h1
    exact fin _ _ h1 h3
end Go.Proofs.Ytakpabiefjlmaaa

/- Chapter 22: more searches. -/
set_option linter.unusedSimpArgs false
set_option linter.unusedVariables false
set_option maxHeartbeats 4000000
set_option maxRecDepth 100000
namespace Go.Proofs.Ytakpabiefjlmaaa
open Nat (reduceAdd reduceMul reduceEqDiff reduceLT reduceLeDiff reduceSub reduceDiv)
open Int (reduceBNe reduceLE reduceEq)
open Go.Am Go.Proofs
attribute [local irreducible] AW CallP CallB

theorem idx_call (l : List Int) (n : Int) (hl : l.length ≤ 2 ^ 40) : PCall Try.prog 41 [.sl (il l), .i n] (.i (fidx (fun x => n == x) l 0)) := by
  refine PCall.intro Try.func41 rfl isf41 (by simp [Try.f41]) (by simp [AV.cloL, AV.clo]) fun E Q hE hN hQ => K_start ?_
  repeat' (first | apply w1 | apply w2 | apply w3 | apply w4 | apply w5 | apply w6 | apply w7 | refine Kq_exit_ne (by decide) ?_ | apply w8 | apply w9 | apply w0 | rw [wrap64 (by omega) (by omega)] | ((first | refine hK _ ?_ | refine hKp _ _ ?_); clear hK hKp K Kp; try clear hanc anc) | ((with_reducible refine And.intro ?_ ?_); (focus (first | trivial | omega | (simp only [Fits]; omega) | assumption | (rw [hanc]; rfl)))) | ((first | refine K_regA hE fun K Kp hK hKp => ?_ | refine K_drwA false mixed hE fun K Kp hK hKp anc hanc => ?_); simp only [go_sem, ↓reduceIte, reduceCtorEq, reduceAdd, reduceMul, reduceEqDiff, reduceLT, reduceLeDiff, reduceSub, reduceDiv, Nat.reduceBEq, Int.reduceBEq, reduceBNe, Int.reduceLT, reduceLE, reduceEq]) | ((first | refine onG_split_t (fun hg => ?_) (fun hg => ?_) | refine onG_split_f (fun hg => ?_) (fun hg => ?_)) <;> simp only [go_sem, ↓reduceIte, reduceCtorEq, reduceAdd, reduceMul, reduceEqDiff, reduceLT, reduceLeDiff, reduceSub, reduceDiv, Nat.reduceBEq, Int.reduceBEq, reduceBNe, Int.reduceLT, reduceLE, reduceEq, hg]) | (refine K_condA (fun hc => ?_) (fun hc => ?_) <;> try (exact absurd hc (by decide))) | (refine K_ret ?_; refine (hQ _ ⟨_, by (try simp only [go_sem, ↓reduceIte, Nat.reduceEqDiff]); rfl, by simp [go_sem], ?_, by first | rfl | assumption⟩).1))
  refine K_loop (X := Nat) (fun i => i ≤ l.length ∧ fidx (fun x => n == x) l 0 = fidx (fun x => n == x) (l.drop i) i) (fun i => mkSt [(0, .sl (il l)), (1, .i n), (7, AV.i l.length), (8, AV.i i)] [] 0) (fun i => l.length - i) 0 ⟨Nat.zero_le _, rfl⟩ (fun i => i) (by refine ent_mk (by simp [go_sem]) (by simp [go_sem]) (by simp) (by simp [hN])) ?_
  rintro i ⟨hi, ht⟩
  by_cases hlt : i < l.length
  · obtain ⟨x, hx⟩ := get?_of hlt
    rw [drop_of hx, fidx] at ht
    cases hxy : n == x
    · rw [hxy] at ht
      repeat' (first | apply w1 | apply w2 | apply w3 | apply w4 | apply w5 | apply w6 | apply w7 | refine Kq_exit_ne (by decide) ?_ | apply w8 | apply w9 | apply w0 | rw [wrap64 (by omega) (by omega)] | ((first | refine hK _ ?_ | refine hKp _ _ ?_); clear hK hKp K Kp; try clear hanc anc) | ((with_reducible refine And.intro ?_ ?_); (focus (first | trivial | omega | (simp only [Fits]; omega) | assumption | (rw [hanc]; rfl)))) | ((first | refine K_regA hE fun K Kp hK hKp => ?_ | refine K_drwA false mixed hE fun K Kp hK hKp anc hanc => ?_); simp only [go_sem, ↓reduceIte, reduceCtorEq, reduceAdd, reduceMul, reduceEqDiff, reduceLT, reduceLeDiff, reduceSub, reduceDiv, Nat.reduceBEq, Int.reduceBEq, reduceBNe, Int.reduceLT, reduceLE, reduceEq, lt_dec hlt, hx, hxy]) | ((first | refine onG_split_t (fun hg => ?_) (fun hg => ?_) | refine onG_split_f (fun hg => ?_) (fun hg => ?_)) <;> simp only [go_sem, ↓reduceIte, reduceCtorEq, reduceAdd, reduceMul, reduceEqDiff, reduceLT, reduceLeDiff, reduceSub, reduceDiv, Nat.reduceBEq, Int.reduceBEq, reduceBNe, Int.reduceLT, reduceLE, reduceEq, lt_dec hlt, hx, hxy, hg]) | (refine K_condA (fun hc => ?_) (fun hc => ?_) <;> try (exact absurd hc (by decide))) | (refine K_ret ?_; refine (hQ _ ⟨_, by (try simp only [go_sem, ↓reduceIte, Nat.reduceEqDiff]); rfl, by simp [go_sem], ?_, by first | rfl | assumption⟩).1))
      exact ⟨i + 1, ⟨by omega, by simpa using ht⟩, by omega, fun i => i, by refine ent_mk (by simp [go_sem]) (by simp [go_sem]) (by simp) (by simp [hN])⟩
    · rw [hxy, if_pos rfl] at ht
      repeat' (first | apply w1 | apply w2 | apply w3 | apply w4 | apply w5 | apply w6 | apply w7 | refine Kq_exit_ne (by decide) ?_ | apply w8 | apply w9 | apply w0 | rw [wrap64 (by omega) (by omega)] | ((first | refine hK _ ?_ | refine hKp _ _ ?_); clear hK hKp K Kp; try clear hanc anc) | ((with_reducible refine And.intro ?_ ?_); (focus (first | trivial | omega | (simp only [Fits]; omega) | assumption | (rw [hanc]; rfl)))) | ((first | refine K_regA hE fun K Kp hK hKp => ?_ | refine K_drwA false mixed hE fun K Kp hK hKp anc hanc => ?_); simp only [go_sem, ↓reduceIte, reduceCtorEq, reduceAdd, reduceMul, reduceEqDiff, reduceLT, reduceLeDiff, reduceSub, reduceDiv, Nat.reduceBEq, Int.reduceBEq, reduceBNe, Int.reduceLT, reduceLE, reduceEq, lt_dec hlt, hx, hxy]) | ((first | refine onG_split_t (fun hg => ?_) (fun hg => ?_) | refine onG_split_f (fun hg => ?_) (fun hg => ?_)) <;> simp only [go_sem, ↓reduceIte, reduceCtorEq, reduceAdd, reduceMul, reduceEqDiff, reduceLT, reduceLeDiff, reduceSub, reduceDiv, Nat.reduceBEq, Int.reduceBEq, reduceBNe, Int.reduceLT, reduceLE, reduceEq, lt_dec hlt, hx, hxy, hg]) | (refine K_condA (fun hc => ?_) (fun hc => ?_) <;> try (exact absurd hc (by decide))) | (refine K_ret ?_; refine (hQ _ ⟨_, by (try simp only [go_sem, ↓reduceIte, Nat.reduceEqDiff]); rfl, by simp [go_sem], ?_, by first | rfl | assumption⟩).1))
      simp [AV.snap, ht]
  · obtain rfl : i = l.length := by omega
    rw [List.drop_length, fidx] at ht
    repeat' (first | apply w1 | apply w2 | apply w3 | apply w4 | apply w5 | apply w6 | apply w7 | refine Kq_exit_ne (by decide) ?_ | apply w8 | apply w9 | apply w0 | rw [wrap64 (by omega) (by omega)] | ((first | refine hK _ ?_ | refine hKp _ _ ?_); clear hK hKp K Kp; try clear hanc anc) | ((with_reducible refine And.intro ?_ ?_); (focus (first | trivial | omega | (simp only [Fits]; omega) | assumption | (rw [hanc]; rfl)))) | ((first | refine K_regA hE fun K Kp hK hKp => ?_ | refine K_drwA false mixed hE fun K Kp hK hKp anc hanc => ?_); simp only [go_sem, ↓reduceIte, reduceCtorEq, reduceAdd, reduceMul, reduceEqDiff, reduceLT, reduceLeDiff, reduceSub, reduceDiv, Nat.reduceBEq, Int.reduceBEq, reduceBNe, Int.reduceLT, reduceLE, reduceEq, ge_dec]) | ((first | refine onG_split_t (fun hg => ?_) (fun hg => ?_) | refine onG_split_f (fun hg => ?_) (fun hg => ?_)) <;> simp only [go_sem, ↓reduceIte, reduceCtorEq, reduceAdd, reduceMul, reduceEqDiff, reduceLT, reduceLeDiff, reduceSub, reduceDiv, Nat.reduceBEq, Int.reduceBEq, reduceBNe, Int.reduceLT, reduceLE, reduceEq, ge_dec, hg]) | (refine K_condA (fun hc => ?_) (fun hc => ?_) <;> try (exact absurd hc (by decide))) | (refine K_ret ?_; refine (hQ _ ⟨_, by (try simp only [go_sem, ↓reduceIte, Nat.reduceEqDiff]); rfl, by simp [go_sem], ?_, by first | rfl | assumption⟩).1))
    simp [AV.snap, ht]

theorem has_call (l : List Int) (n : Int) (hl : l.length ≤ 2 ^ 40) : PCall Try.prog 37 [.sl (il l), .i n] (.bool (decide (n ∈ l))) := by
  have h : decide (0 ≤ fidx (fun x => n == x) l 0) = decide (n ∈ l) := by
    rw [fidx_ge]
    induction l with
    | nil => simp
    | cons x l ih =>
      rw [List.any_cons, ih (by simp only [List.length_cons] at hl; omega)]
      by_cases h1 : n = x <;> simp [h1]
  refine PCall.intro Try.func37 rfl isf37 (by simp [Try.f37]) (by simp [AV.cloL, AV.clo]) fun E Q hE hN hQ => K_start ?_
  repeat' (first | apply w1 | apply w2 | apply w3 | apply w4 | apply w5 | apply w6 | apply w7 | refine Kq_exit_ne (by decide) ?_ | apply w8 | apply w9 | apply w0 | rw [wrap64 (by omega) (by omega)] | ((first | refine hK _ ?_ | refine hKp _ _ ?_); clear hK hKp K Kp; try clear hanc anc) | ((with_reducible refine And.intro ?_ ?_); (focus (first | trivial | omega | (simp only [Fits]; omega) | assumption | (rw [hanc]; rfl)))) | ((first | refine K_regA hE fun K Kp hK hKp => ?_ | refine K_drwA false mixed hE fun K Kp hK hKp anc hanc => ?_ | ((first | apply CallP_mk | apply CallB_mk); (focus (simp only [go_sem]; rfl)); (focus (exact idx_call l n hl)); (focus (simp [go_sem])); (focus (first | exact .inl rfl | (right; simp [go_sem]))))); simp only [go_sem, ↓reduceIte, reduceCtorEq, reduceAdd, reduceMul, reduceEqDiff, reduceLT, reduceLeDiff, reduceSub, reduceDiv, Nat.reduceBEq, Int.reduceBEq, reduceBNe, Int.reduceLT, reduceLE, reduceEq]) | ((first | refine onG_split_t (fun hg => ?_) (fun hg => ?_) | refine onG_split_f (fun hg => ?_) (fun hg => ?_)) <;> simp only [go_sem, ↓reduceIte, reduceCtorEq, reduceAdd, reduceMul, reduceEqDiff, reduceLT, reduceLeDiff, reduceSub, reduceDiv, Nat.reduceBEq, Int.reduceBEq, reduceBNe, Int.reduceLT, reduceLE, reduceEq, hg]) | (refine K_condA (fun hc => ?_) (fun hc => ?_) <;> try (exact absurd hc (by decide))) | (refine K_ret ?_; refine (hQ _ ⟨_, by (try simp only [go_sem, ↓reduceIte, Nat.reduceEqDiff]); rfl, by simp [go_sem], ?_, by first | rfl | assumption⟩).1))
  simp [AV.snap, ← h]

theorem lists_call (a b : List (List Int)) (ha : a.length ≤ 2 ^ 40) (hl : ∀ l, l ∈ a → l.length ≤ 2 ^ 40) : PCall Try.prog 22 [.sl (ill a), .sl (ill b)] (.bool (decide (a = b))) := by
  refine PCall.intro Try.func22 rfl isf22 (by simp [Try.f22]) (by simp [AV.cloL, AV.clo]) fun E Q hE hN hQ => K_start ?_
  by_cases hlen : a.length = b.length
  · have q0 : ((a.length : Int) != (b.length : Int)) = false := by simp [hlen]
    repeat' (first | apply w1 | apply w2 | apply w3 | apply w4 | apply w5 | apply w6 | apply w7 | refine Kq_exit_ne (by decide) ?_ | apply w8 | apply w9 | apply w0 | rw [wrap64 (by omega) (by omega)] | ((first | refine hK _ ?_ | refine hKp _ _ ?_); clear hK hKp K Kp; try clear hanc anc) | ((with_reducible refine And.intro ?_ ?_); (focus (first | trivial | omega | (simp only [Fits]; omega) | assumption | (rw [hanc]; rfl)))) | ((first | refine K_regA hE fun K Kp hK hKp => ?_ | refine K_drwA false mixed hE fun K Kp hK hKp anc hanc => ?_); simp only [go_sem, ↓reduceIte, reduceCtorEq, reduceAdd, reduceMul, reduceEqDiff, reduceLT, reduceLeDiff, reduceSub, reduceDiv, Nat.reduceBEq, Int.reduceBEq, reduceBNe, Int.reduceLT, reduceLE, reduceEq, q0]) | ((first | refine onG_split_t (fun hg => ?_) (fun hg => ?_) | refine onG_split_f (fun hg => ?_) (fun hg => ?_)) <;> simp only [go_sem, ↓reduceIte, reduceCtorEq, reduceAdd, reduceMul, reduceEqDiff, reduceLT, reduceLeDiff, reduceSub, reduceDiv, Nat.reduceBEq, Int.reduceBEq, reduceBNe, Int.reduceLT, reduceLE, reduceEq, q0, hg]) | (refine K_condA (fun hc => ?_) (fun hc => ?_) <;> try (exact absurd hc (by decide))) | (refine K_ret ?_; refine (hQ _ ⟨_, by (try simp only [go_sem, ↓reduceIte, Nat.reduceEqDiff]); rfl, by simp [go_sem], ?_, by first | rfl | assumption⟩).1))
    refine K_loop (X := Nat) (fun i => i ≤ a.length ∧ decide (a = b) = decide (a.drop i = b.drop i)) (fun i => mkSt [(0, .sl (ill a)), (1, .sl (ill b)), (5, AV.i i)] [] 0) (fun i => a.length - i) 0 ⟨Nat.zero_le _, rfl⟩ (fun i => i) (by refine ent_mk (by simp [go_sem]) (by simp [go_sem]) (by simp) (by simp [hN])) ?_
    rintro i ⟨hi, ht⟩
    by_cases hlt : i < a.length
    · obtain ⟨x, hx⟩ := get?_of hlt
      obtain ⟨y, hy⟩ := get?_of (show i < b.length by omega)
      rw [drop_of hx, drop_of hy] at ht
      have hc1 := ints_call x y (hl x (List.mem_of_getElem? hx))
      by_cases hxy : x = y
      · rw [decide_eq_true hxy] at hc1
        repeat' (first | apply w1 | apply w2 | apply w3 | apply w4 | apply w5 | apply w6 | apply w7 | refine Kq_exit_ne (by decide) ?_ | apply w8 | apply w9 | apply w0 | rw [wrap64 (by omega) (by omega)] | ((first | refine hK _ ?_ | refine hKp _ _ ?_); clear hK hKp K Kp; try clear hanc anc) | ((with_reducible refine And.intro ?_ ?_); (focus (first | trivial | omega | (simp only [Fits]; omega) | assumption | (rw [hanc]; rfl)))) | ((first | refine K_regA hE fun K Kp hK hKp => ?_ | refine K_drwA false mixed hE fun K Kp hK hKp anc hanc => ?_ | ((first | apply CallP_mk | apply CallB_mk); (focus (simp only [go_sem]; rfl)); (focus (exact hc1)); (focus (simp [go_sem])); (focus (first | exact .inl rfl | (right; simp [go_sem]))))); simp only [go_sem, ↓reduceIte, reduceCtorEq, reduceAdd, reduceMul, reduceEqDiff, reduceLT, reduceLeDiff, reduceSub, reduceDiv, Nat.reduceBEq, Int.reduceBEq, reduceBNe, Int.reduceLT, reduceLE, reduceEq, lt_dec hlt, hx, hy]) | ((first | refine onG_split_t (fun hg => ?_) (fun hg => ?_) | refine onG_split_f (fun hg => ?_) (fun hg => ?_)) <;> simp only [go_sem, ↓reduceIte, reduceCtorEq, reduceAdd, reduceMul, reduceEqDiff, reduceLT, reduceLeDiff, reduceSub, reduceDiv, Nat.reduceBEq, Int.reduceBEq, reduceBNe, Int.reduceLT, reduceLE, reduceEq, lt_dec hlt, hx, hy, hg]) | (refine K_condA (fun hc => ?_) (fun hc => ?_) <;> try (exact absurd hc (by decide))) | (refine K_ret ?_; refine (hQ _ ⟨_, by (try simp only [go_sem, ↓reduceIte, Nat.reduceEqDiff]); rfl, by simp [go_sem], ?_, by first | rfl | assumption⟩).1))
        exact ⟨i + 1, ⟨by omega, by rw [ht]; simp [hxy]⟩, by omega, fun i => i, by refine ent_mk (by simp [go_sem]) (by simp [go_sem]) (by simp) (by simp [hN])⟩
      · rw [decide_eq_false hxy] at hc1
        repeat' (first | apply w1 | apply w2 | apply w3 | apply w4 | apply w5 | apply w6 | apply w7 | refine Kq_exit_ne (by decide) ?_ | apply w8 | apply w9 | apply w0 | rw [wrap64 (by omega) (by omega)] | ((first | refine hK _ ?_ | refine hKp _ _ ?_); clear hK hKp K Kp; try clear hanc anc) | ((with_reducible refine And.intro ?_ ?_); (focus (first | trivial | omega | (simp only [Fits]; omega) | assumption | (rw [hanc]; rfl)))) | ((first | refine K_regA hE fun K Kp hK hKp => ?_ | refine K_drwA false mixed hE fun K Kp hK hKp anc hanc => ?_ | ((first | apply CallP_mk | apply CallB_mk); (focus (simp only [go_sem]; rfl)); (focus (exact hc1)); (focus (simp [go_sem])); (focus (first | exact .inl rfl | (right; simp [go_sem]))))); simp only [go_sem, ↓reduceIte, reduceCtorEq, reduceAdd, reduceMul, reduceEqDiff, reduceLT, reduceLeDiff, reduceSub, reduceDiv, Nat.reduceBEq, Int.reduceBEq, reduceBNe, Int.reduceLT, reduceLE, reduceEq, lt_dec hlt, hx, hy]) | ((first | refine onG_split_t (fun hg => ?_) (fun hg => ?_) | refine onG_split_f (fun hg => ?_) (fun hg => ?_)) <;> simp only [go_sem, ↓reduceIte, reduceCtorEq, reduceAdd, reduceMul, reduceEqDiff, reduceLT, reduceLeDiff, reduceSub, reduceDiv, Nat.reduceBEq, Int.reduceBEq, reduceBNe, Int.reduceLT, reduceLE, reduceEq, lt_dec hlt, hx, hy, hg]) | (refine K_condA (fun hc => ?_) (fun hc => ?_) <;> try (exact absurd hc (by decide))) | (refine K_ret ?_; refine (hQ _ ⟨_, by (try simp only [go_sem, ↓reduceIte, Nat.reduceEqDiff]); rfl, by simp [go_sem], ?_, by first | rfl | assumption⟩).1))
        simp [AV.snap, ht, hxy]
    · obtain rfl : i = a.length := by omega
      rw [List.drop_length, hlen, List.drop_length] at ht
      repeat' (first | apply w1 | apply w2 | apply w3 | apply w4 | apply w5 | apply w6 | apply w7 | refine Kq_exit_ne (by decide) ?_ | apply w8 | apply w9 | apply w0 | rw [wrap64 (by omega) (by omega)] | ((first | refine hK _ ?_ | refine hKp _ _ ?_); clear hK hKp K Kp; try clear hanc anc) | ((with_reducible refine And.intro ?_ ?_); (focus (first | trivial | omega | (simp only [Fits]; omega) | assumption | (rw [hanc]; rfl)))) | ((first | refine K_regA hE fun K Kp hK hKp => ?_ | refine K_drwA false mixed hE fun K Kp hK hKp anc hanc => ?_); simp only [go_sem, ↓reduceIte, reduceCtorEq, reduceAdd, reduceMul, reduceEqDiff, reduceLT, reduceLeDiff, reduceSub, reduceDiv, Nat.reduceBEq, Int.reduceBEq, reduceBNe, Int.reduceLT, reduceLE, reduceEq, ge_dec]) | ((first | refine onG_split_t (fun hg => ?_) (fun hg => ?_) | refine onG_split_f (fun hg => ?_) (fun hg => ?_)) <;> simp only [go_sem, ↓reduceIte, reduceCtorEq, reduceAdd, reduceMul, reduceEqDiff, reduceLT, reduceLeDiff, reduceSub, reduceDiv, Nat.reduceBEq, Int.reduceBEq, reduceBNe, Int.reduceLT, reduceLE, reduceEq, ge_dec, hg]) | (refine K_condA (fun hc => ?_) (fun hc => ?_) <;> try (exact absurd hc (by decide))) | (refine K_ret ?_; refine (hQ _ ⟨_, by (try simp only [go_sem, ↓reduceIte, Nat.reduceEqDiff]); rfl, by simp [go_sem], ?_, by first | rfl | assumption⟩).1))
      simp [AV.snap, ht]
  · have q0 : ((a.length : Int) != (b.length : Int)) = true := by simp; omega
    repeat' (first | apply w1 | apply w2 | apply w3 | apply w4 | apply w5 | apply w6 | apply w7 | refine Kq_exit_ne (by decide) ?_ | apply w8 | apply w9 | apply w0 | rw [wrap64 (by omega) (by omega)] | ((first | refine hK _ ?_ | refine hKp _ _ ?_); clear hK hKp K Kp; try clear hanc anc) | ((with_reducible refine And.intro ?_ ?_); (focus (first | trivial | omega | (simp only [Fits]; omega) | assumption | (rw [hanc]; rfl)))) | ((first | refine K_regA hE fun K Kp hK hKp => ?_ | refine K_drwA false mixed hE fun K Kp hK hKp anc hanc => ?_); simp only [go_sem, ↓reduceIte, reduceCtorEq, reduceAdd, reduceMul, reduceEqDiff, reduceLT, reduceLeDiff, reduceSub, reduceDiv, Nat.reduceBEq, Int.reduceBEq, reduceBNe, Int.reduceLT, reduceLE, reduceEq, q0]) | ((first | refine onG_split_t (fun hg => ?_) (fun hg => ?_) | refine onG_split_f (fun hg => ?_) (fun hg => ?_)) <;> simp only [go_sem, ↓reduceIte, reduceCtorEq, reduceAdd, reduceMul, reduceEqDiff, reduceLT, reduceLeDiff, reduceSub, reduceDiv, Nat.reduceBEq, Int.reduceBEq, reduceBNe, Int.reduceLT, reduceLE, reduceEq, q0, hg]) | (refine K_condA (fun hc => ?_) (fun hc => ?_) <;> try (exact absurd hc (by decide))) | (refine K_ret ?_; refine (hQ _ ⟨_, by (try simp only [go_sem, ↓reduceIte, Nat.reduceEqDiff]); rfl, by simp [go_sem], ?_, by first | rfl | assumption⟩).1))
    have : a ≠ b := by rintro rfl; exact hlen rfl
    simp [AV.snap, this]
end Go.Proofs.Ytakpabiefjlmaaa

