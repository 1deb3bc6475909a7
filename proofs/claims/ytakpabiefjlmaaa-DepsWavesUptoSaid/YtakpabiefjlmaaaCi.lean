/- A part of the proof: an abstract machine for the walks, and what the walked functions compute. -/
import Derived.Test.YtakpabiefjlmaaaRows
import Derived.Test.YtakpabiefjlmaaaCg
import Derived.Test.YtakpabiefjlmaaaCh
import Derived.Test.YtakpabiefjlmaaaMg
set_option linter.unusedVariables false
set_option linter.unusedSimpArgs false
/- Chapter 22: DepsWaves. -/
set_option linter.unusedSimpArgs false
set_option linter.unusedVariables false
set_option maxHeartbeats 4000000
set_option maxRecDepth 100000
namespace Go.Proofs.Ytakpabiefjlmaaa
open Nat (reduceAdd reduceMul reduceEqDiff reduceLT reduceLeDiff reduceSub reduceDiv)
open Int (reduceBNe reduceLE reduceEq)
open Go.Am Go.Proofs
attribute [local irreducible] AW CallP CallB

/-- How many stand in the first waves. -/
def cnt (W : List (List Int)) (i : Nat) : Nat := ((W.take i).map List.length).sum
theorem cnt_succ {W : List (List Int)} {i : Nat} {w : List Int} (h : W[i]? = some w) : cnt W (i + 1) = cnt W i + w.length := by
  simp [cnt, List.take_add_one, h]
theorem cnt_zero (W : List (List Int)) : cnt W 0 = 0 := rfl
theorem cnt_len (W : List (List Int)) : cnt W W.length = (W.map List.length).sum := by simp [cnt]
theorem cnt_mono {W : List (List Int)} {i j : Nat} (h : i ≤ j) : cnt W i ≤ cnt W j := by
  induction j with
  | zero => obtain rfl : i = 0 := by omega
            exact Nat.le_refl _
  | succ j ih =>
    by_cases hij : i = j + 1
    · rw [hij]; exact Nat.le_refl _
    · refine Nat.le_trans (ih (by omega)) ?_
      cases hw : W[j]? with
      | none => simp [cnt, List.take_add_one, hw]
      | some w => rw [cnt_succ hw]; omega
theorem il_set (l : List Int) (k : Nat) (x : Int) : (il l).set k (.i x) = il (l.set k x) := by simp [il, List.map_set]
theorem bst_ge {ρ : Int → Int} : ∀ {l : List Int} {b : Int}, b ≤ bst ρ l b
  | [], b => Int.le_refl b
  | n :: l, b => by
    rw [bst]
    exact Int.le_trans (Int.le_max_left ..) bst_ge

theorem waves_pc (u : List (List Int)) (hu : u.length ≤ 2 ^ 30) (hl : ∀ l, l ∈ u → l.length ≤ 2 ^ 30) : PCall Try.prog 7 [.sl (ill u)] (.bool true) := by
  have hl40 : ∀ l, l ∈ u → l.length ≤ 2 ^ 40 := fun l h => by have := hl l h; omega
  have hfw := few_call u (by omega) hl40
  have hva := Valid_call u (by omega) hl40
  have hwv := waves_call u (by omega) hl40
  have hhd := head_pc
  refine PCall.intro Try.func7 rfl isf7 (by simp [Try.f7]) (by simp [AV.cloL, AV.clo]) fun E Q hE hN hQ => K_start ?_
  cases hf : few u
  · rw [hf] at hfw
    repeat' (first | apply w1 | apply w2 | apply w3 | apply w4 | apply w5 | apply w6 | apply w7 | refine Kq_exit_ne (by decide) ?_ | apply w8 | apply w9 | apply w0 | rw [wrap64 (by omega) (by omega)] | ((first | refine hK _ ?_ | refine hKp _ _ ?_); clear hK hKp K Kp; try clear hanc anc) | ((with_reducible refine And.intro ?_ ?_); (focus (first | trivial | omega | (simp only [Fits]; omega) | assumption | (rw [hanc]; rfl)))) | ((first | refine K_regA hE fun K Kp hK hKp => ?_ | refine K_drwA false mixed hE fun K Kp hK hKp anc hanc => ?_ | ((first | apply CallP_mk | apply CallB_mk); (focus (simp only [go_sem]; rfl)); (focus (first | exact hhd | exact hfw | exact hva)); (focus (simp [go_sem])); (focus (first | exact .inl rfl | (right; simp [go_sem]))))); simp only [go_sem, ↓reduceIte, reduceCtorEq, reduceAdd, reduceMul, reduceEqDiff, reduceLT, reduceLeDiff, reduceSub, reduceDiv, Nat.reduceBEq, Int.reduceBEq, reduceBNe, Int.reduceLT, reduceLE, reduceEq]) | ((first | refine onG_split_t (fun hg => ?_) (fun hg => ?_) | refine onG_split_f (fun hg => ?_) (fun hg => ?_)) <;> simp only [go_sem, ↓reduceIte, reduceCtorEq, reduceAdd, reduceMul, reduceEqDiff, reduceLT, reduceLeDiff, reduceSub, reduceDiv, Nat.reduceBEq, Int.reduceBEq, reduceBNe, Int.reduceLT, reduceLE, reduceEq, hg]) | (refine K_condA (fun hc => ?_) (fun hc => ?_) <;> try (exact absurd hc (by decide))) | (refine K_ret ?_; refine (hQ _ ⟨_, by (try simp only [go_sem, ↓reduceIte, Nat.reduceEqDiff]); rfl, by simp [go_sem], ?_, by first | rfl | assumption⟩).1))
    rfl
  rw [hf] at hfw
  cases hv : valid u
  · rw [hv] at hva
    repeat' (first | apply w1 | apply w2 | apply w3 | apply w4 | apply w5 | apply w6 | apply w7 | refine Kq_exit_ne (by decide) ?_ | apply w8 | apply w9 | apply w0 | rw [wrap64 (by omega) (by omega)] | ((first | refine hK _ ?_ | refine hKp _ _ ?_); clear hK hKp K Kp; try clear hanc anc) | ((with_reducible refine And.intro ?_ ?_); (focus (first | trivial | omega | (simp only [Fits]; omega) | assumption | (rw [hanc]; rfl)))) | ((first | refine K_regA hE fun K Kp hK hKp => ?_ | refine K_drwA false mixed hE fun K Kp hK hKp anc hanc => ?_ | ((first | apply CallP_mk | apply CallB_mk); (focus (simp only [go_sem]; rfl)); (focus (first | exact hhd | exact hfw | exact hva)); (focus (simp [go_sem])); (focus (first | exact .inl rfl | (right; simp [go_sem]))))); simp only [go_sem, ↓reduceIte, reduceCtorEq, reduceAdd, reduceMul, reduceEqDiff, reduceLT, reduceLeDiff, reduceSub, reduceDiv, Nat.reduceBEq, Int.reduceBEq, reduceBNe, Int.reduceLT, reduceLE, reduceEq]) | ((first | refine onG_split_t (fun hg => ?_) (fun hg => ?_) | refine onG_split_f (fun hg => ?_) (fun hg => ?_)) <;> simp only [go_sem, ↓reduceIte, reduceCtorEq, reduceAdd, reduceMul, reduceEqDiff, reduceLT, reduceLeDiff, reduceSub, reduceDiv, Nat.reduceBEq, Int.reduceBEq, reduceBNe, Int.reduceLT, reduceLE, reduceEq, hg]) | (refine K_condA (fun hc => ?_) (fun hc => ?_) <;> try (exact absurd hc (by decide))) | (refine K_ret ?_; refine (hQ _ ⟨_, by (try simp only [go_sem, ↓reduceIte, Nat.reduceEqDiff]); rfl, by simp [go_sem], ?_, by first | rfl | assumption⟩).1))
    rfl
  rw [hv] at hva
  obtain ⟨f1, f2⟩ := few_le hf
  have hvd := valid_mem hv
  have hvd' : Vd u := hvd
  have hcy := cyclic_call u f1 f2 hvd
  cases hcc : cyclic u
  case true =>
    rw [waves_nil hv hcc] at hwv
    rw [hcc] at hcy
    have q2 : (((0 : Nat) : Int) == 0) = true := rfl
    have e0 : ill [] = [] := rfl
    rw [e0] at hwv
    repeat' (first | apply w1 | apply w2 | apply w3 | apply w4 | apply w5 | apply w6 | apply w7 | refine Kq_exit_ne (by decide) ?_ | apply w8 | apply w9 | apply w0 | rw [wrap64 (by omega) (by omega)] | ((first | refine hK _ ?_ | refine hKp _ _ ?_); clear hK hKp K Kp; try clear hanc anc) | ((with_reducible refine And.intro ?_ ?_); (focus (first | trivial | omega | (simp only [Fits]; omega) | assumption | (rw [hanc]; rfl)))) | ((first | refine K_regA hE fun K Kp hK hKp => ?_ | refine K_drwA false mixed hE fun K Kp hK hKp anc hanc => ?_ | ((first | apply CallP_mk | apply CallB_mk); (focus (simp only [go_sem]; rfl)); (focus (first | exact hhd | exact hfw | exact hva | exact hwv | exact hcy)); (focus (simp [go_sem])); (focus (first | exact .inl rfl | (right; simp [go_sem]))))); simp only [go_sem, ↓reduceIte, reduceCtorEq, reduceAdd, reduceMul, reduceEqDiff, reduceLT, reduceLeDiff, reduceSub, reduceDiv, Nat.reduceBEq, Int.reduceBEq, reduceBNe, Int.reduceLT, reduceLE, reduceEq, q2]) | ((first | refine onG_split_t (fun hg => ?_) (fun hg => ?_) | refine onG_split_f (fun hg => ?_) (fun hg => ?_)) <;> simp only [go_sem, ↓reduceIte, reduceCtorEq, reduceAdd, reduceMul, reduceEqDiff, reduceLT, reduceLeDiff, reduceSub, reduceDiv, Nat.reduceBEq, Int.reduceBEq, reduceBNe, Int.reduceLT, reduceLE, reduceEq, q2, hg]) | (refine K_condA (fun hc => ?_) (fun hc => ?_) <;> try (exact absurd hc (by decide))) | (refine K_ret ?_; refine (hQ _ ⟨_, by (try simp only [go_sem, ↓reduceIte, Nat.reduceEqDiff]); rfl, by simp [go_sem], ?_, by first | rfl | assumption⟩).1))
    rfl
  rw [hcc] at hcy
  obtain ⟨ρ, hw⟩ := waves_ok hv hcc
  generalize waves u = W at *
  have hcn := fun i => cnt_mono (W := W) (i := i) (j := max i W.length) (by omega)
  have hcl : ∀ i, i ≤ W.length → cnt W i ≤ u.length := fun i hi => by
    rw [← hw.sm, ← cnt_len]
    exact cnt_mono hi
  have hWm : ∀ (i : Nat) (w : List Int), W[i]? = some w → ∀ x, x ∈ w → (0 ≤ x ∧ x < u.length) ∧ ρ x = i := fun i w hiw x hx => by
    refine (hw.mem i x).1 ?_
    simpa [List.getD_eq_getElem?_getD, hiw] using hx
  have hWl := hw.ln
  have hsz := szok_il (List.replicate u.length 0)
  repeat' (first | apply w1 | apply w2 | apply w3 | apply w4 | apply w5 | apply w6 | apply w7 | refine Kq_exit_ne (by decide) ?_ | apply w8 | apply w9 | apply w0 | rw [wrap64 (by omega) (by omega)] | ((first | refine hK _ ?_ | refine hKp _ _ ?_); clear hK hKp K Kp; try clear hanc anc) | ((with_reducible refine And.intro ?_ ?_); (focus (first | trivial | omega | (simp only [Fits]; omega) | assumption | (rw [hanc]; rfl)))) | ((first | refine K_regA hE fun K Kp hK hKp => ?_ | refine K_drwA true mixed hE fun K Kp hK hKp anc hanc => ?_ | refine K_drwA false mixed hE fun K Kp hK hKp anc hanc => ?_ | ((first | apply CallP_mk | apply CallB_mk); (focus (simp only [go_sem]; rfl)); (focus (first | exact hhd | exact hfw | exact hva | exact hwv | exact hcy)); (focus (simp [go_sem])); (focus (first | exact .inl rfl | (right; simp [go_sem]))))); simp only [go_sem, ↓reduceIte, reduceCtorEq, reduceAdd, reduceMul, reduceEqDiff, reduceLT, reduceLeDiff, reduceSub, reduceDiv, Nat.reduceBEq, Int.reduceBEq, reduceBNe, Int.reduceLT, reduceLE, reduceEq]) | ((first | refine onG_split_t (fun hg => ?_) (fun hg => ?_) | refine onG_split_f (fun hg => ?_) (fun hg => ?_)) <;> simp only [go_sem, ↓reduceIte, reduceCtorEq, reduceAdd, reduceMul, reduceEqDiff, reduceLT, reduceLeDiff, reduceSub, reduceDiv, Nat.reduceBEq, Int.reduceBEq, reduceBNe, Int.reduceLT, reduceLE, reduceEq, hg]) | (refine K_condA (fun hc => ?_) (fun hc => ?_) <;> try (exact absurd hc (by decide))))
  refine K_loop (X := Nat × List Int) (fun x => x.1 ≤ W.length ∧ x.2.length = u.length ∧ ∀ n, n < u.length → ρ n < x.1 → x.2.getD n 0 = ρ n) (fun x => mkSt [(0, .sl (ill u)), (3, .bool true), (4, .sl (ill W)), (5, .rw 0), (6, AV.i (cnt W x.1)), (7, AV.i x.1)] [(0, .row 1 (il x.2))] 1) (fun x => W.length - x.1) (0, List.replicate u.length 0) ⟨Nat.zero_le _, by simp, fun n hn h => by have := hw.rg n (by omega); omega⟩ (fun _ => 18874368) (by refine ent_mk (by simp [go_sem, cnt_zero]) (by simp [go_sem, cnt_zero]) (by simp) (by simp [hN])) ?_
  rintro ⟨i, rk⟩ ⟨hi, hrl, hrk⟩
  simp only at hi hrl hrk
  by_cases hlt : i < W.length
  · obtain ⟨w, hwi⟩ := get?_of hlt
    have hwm := hWm i w hwi
    have hso := hw.so w (List.mem_of_getElem? hwi)
    have hcs := cnt_succ hwi
    have hcb := hcl (i + 1) (by omega)
    repeat' (first | apply w1 | apply w2 | apply w3 | apply w4 | apply w5 | apply w6 | apply w7 | refine Kq_exit_ne (by decide) ?_ | apply w8 | apply w9 | apply w0 | rw [wrap64 (by omega) (by omega)] | ((first | refine hK _ ?_ | refine hKp _ _ ?_); clear hK hKp K Kp; try clear hanc anc) | ((with_reducible refine And.intro ?_ ?_); (focus (first | trivial | omega | (simp only [Fits]; omega) | assumption | (rw [hanc]; rfl)))) | ((first | refine K_regA hE fun K Kp hK hKp => ?_ | refine K_drwA true mixed hE fun K Kp hK hKp anc hanc => ?_ | refine K_drwA false mixed hE fun K Kp hK hKp anc hanc => ?_); simp only [go_sem, ↓reduceIte, reduceCtorEq, reduceAdd, reduceMul, reduceEqDiff, reduceLT, reduceLeDiff, reduceSub, reduceDiv, Nat.reduceBEq, Int.reduceBEq, reduceBNe, Int.reduceLT, reduceLE, reduceEq, lt_dec hlt]) | ((first | refine onG_split_t (fun hg => ?_) (fun hg => ?_) | refine onG_split_f (fun hg => ?_) (fun hg => ?_)) <;> simp only [go_sem, ↓reduceIte, reduceCtorEq, reduceAdd, reduceMul, reduceEqDiff, reduceLT, reduceLeDiff, reduceSub, reduceDiv, Nat.reduceBEq, Int.reduceBEq, reduceBNe, Int.reduceLT, reduceLE, reduceEq, lt_dec hlt, hg]) | (refine K_condA (fun hc => ?_) (fun hc => ?_) <;> try (exact absurd hc (by decide))))
    refine K_loop (X := Nat × List Int) (fun x => x.1 ≤ w.length ∧ x.2.length = u.length ∧ (∀ n, n < u.length → ρ n < i → x.2.getD n 0 = ρ n) ∧ ∀ y, y ∈ w.take x.1 → x.2.getD y.toNat 0 = i) (fun x => mkSt [(0, .sl (ill u)), (3, .bool true), (4, .sl (ill W)), (5, .rw 0), (6, AV.i (cnt W i + x.1)), (7, AV.i i), (8, AV.i x.1)] [(0, .row 1 (il x.2))] 1) (fun x => w.length - x.1) (0, rk) ⟨Nat.zero_le _, hrl, hrk, by simp⟩ (fun i => i) (by refine ent_mk (by simp [go_sem]) (by simp [go_sem]) (by simp) (by simp [hN])) ?_
    rintro ⟨k, rk1⟩ ⟨hk, hrl1, hrk1, hrk2⟩
    simp only at hk hrl1 hrk1 hrk2
    by_cases hlk : k < w.length
    · obtain ⟨x, hx⟩ := get?_of hlk
      obtain ⟨hxr, hxi⟩ := hwm x (List.mem_of_getElem? hx)
      obtain ⟨m, rfl⟩ := Int.eq_ofNat_of_zero_le hxr.1
      have q1 : decide ((m : Int) < 0) = false := by simp
      have q2 : decide ((m : Int) ≥ (u.length : Int)) = false := by simp; omega
      obtain ⟨z, hz⟩ := get?_of (show m < rk1.length by omega)
      have ew : IntKind.i64.wrap ((cnt W i : Int) + (k : Int) + 1) = (cnt W i : Int) + (k : Int) + 1 := wrap64 (by omega) (by omega)
      have hfin : (∀ n, n < u.length → ρ n < i → (rk1.set m i).getD n 0 = ρ n) ∧ ∀ y, y ∈ w.take (k + 1) → (rk1.set m (i : Int)).getD y.toNat 0 = i := by
        have hgs : ∀ n, (rk1.set m (i : Int)).getD n 0 = if m = n then (i : Int) else rk1.getD n 0 := by
          intro n
          simp only [List.getD_eq_getElem?_getD, List.getElem?_set]
          by_cases h : m = n
          · subst h; simp [show m < rk1.length by omega]
          · simp [h]
        refine ⟨fun n hn hni => ?_, fun y hy => ?_⟩
        · rw [hgs, if_neg (fun e => by subst e; omega)]
          exact hrk1 n hn hni
        · rw [hgs]
          split
          · rfl
          · rename_i hne
            refine hrk2 y ?_
            rw [List.take_add_one, hx] at hy
            rcases List.mem_append.1 hy with hy | hy
            · exact hy
            · simp at hy
              subst hy
              exact absurd rfl hne
      by_cases hk0 : k = 0
      · subst hk0
        have q4 : decide (((0 : Nat) : Int) > 0) = false := by decide
        repeat' (first | apply w1 | apply w2 | apply w3 | apply w4 | apply w5 | apply w6 | apply w7 | refine Kq_exit_ne (by decide) ?_ | apply w8 | apply w9 | apply w0 | rw [wrap64 (by omega) (by omega)] | ((first | refine hK _ ?_ | refine hKp _ _ ?_); clear hK hKp K Kp; try clear hanc anc) | ((with_reducible refine And.intro ?_ ?_); (focus (first | trivial | omega | (simp only [Fits]; omega) | assumption | (rw [hanc]; rfl)))) | ((first | refine K_regA hE fun K Kp hK hKp => ?_ | refine K_drwA true mixed hE fun K Kp hK hKp anc hanc => ?_ | refine K_drwA false mixed hE fun K Kp hK hKp anc hanc => ?_); simp only [go_sem, ↓reduceIte, reduceCtorEq, reduceAdd, reduceMul, reduceEqDiff, reduceLT, reduceLeDiff, reduceSub, reduceDiv, Nat.reduceBEq, Int.reduceBEq, reduceBNe, Int.reduceLT, reduceLE, reduceEq, lt_dec hlk, hwi, hx, q1, q2, q4, hz, il_set, ew]) | ((first | refine onG_split_t (fun hg => ?_) (fun hg => ?_) | refine onG_split_f (fun hg => ?_) (fun hg => ?_)) <;> simp only [go_sem, ↓reduceIte, reduceCtorEq, reduceAdd, reduceMul, reduceEqDiff, reduceLT, reduceLeDiff, reduceSub, reduceDiv, Nat.reduceBEq, Int.reduceBEq, reduceBNe, Int.reduceLT, reduceLE, reduceEq, lt_dec hlk, hwi, hx, q1, q2, q4, hz, il_set, ew, hg]) | (refine K_condA (fun hc => ?_) (fun hc => ?_) <;> try (exact absurd hc (by decide))))
        exact ⟨(1, rk1.set m i), ⟨by simp only; omega, by simp only [List.length_set]; exact hrl1, hfin⟩, by simp only; omega, fun i => i, by refine ent_mk (by simp [go_sem, Int.add_assoc]) (by simp [go_sem, Int.add_assoc]) (by simp) (by simp [hN])⟩
      · have q4 : decide ((k : Int) > 0) = true := by simp; omega
        have e1 : (k : Int) - 1 = ((k - 1 : Nat) : Int) := by omega
        have ew2 : IntKind.i64.wrap ((k : Int) - 1) = ((k - 1 : Nat) : Int) := by rw [wrap64 (by omega) (by omega)]; exact e1
        obtain ⟨y, hy⟩ := get?_of (show k - 1 < w.length by omega)
        have hyx : y < (m : Int) := by
          obtain ⟨a1, e1⟩ := List.getElem?_eq_some_iff.1 hy
          obtain ⟨a2, e2⟩ := List.getElem?_eq_some_iff.1 hx
          rw [← e1, ← e2]
          exact List.pairwise_iff_getElem.1 hso (k - 1) k a1 a2 (by omega)
        have q5 : decide (y ≥ (m : Int)) = false := by simp; omega
        repeat' (first | apply w1 | apply w2 | apply w3 | apply w4 | apply w5 | apply w6 | apply w7 | refine Kq_exit_ne (by decide) ?_ | apply w8 | apply w9 | apply w0 | rw [wrap64 (by omega) (by omega)] | ((first | refine hK _ ?_ | refine hKp _ _ ?_); clear hK hKp K Kp; try clear hanc anc) | ((with_reducible refine And.intro ?_ ?_); (focus (first | trivial | omega | (simp only [Fits]; omega) | assumption | (rw [hanc]; rfl)))) | ((first | refine K_regA hE fun K Kp hK hKp => ?_ | refine K_drwA true mixed hE fun K Kp hK hKp anc hanc => ?_ | refine K_drwA false mixed hE fun K Kp hK hKp anc hanc => ?_); simp only [go_sem, ↓reduceIte, reduceCtorEq, reduceAdd, reduceMul, reduceEqDiff, reduceLT, reduceLeDiff, reduceSub, reduceDiv, Nat.reduceBEq, Int.reduceBEq, reduceBNe, Int.reduceLT, reduceLE, reduceEq, lt_dec hlk, hwi, hx, hy, q1, q2, q4, q5, hz, il_set, ew, ew2]) | ((first | refine onG_split_t (fun hg => ?_) (fun hg => ?_) | refine onG_split_f (fun hg => ?_) (fun hg => ?_)) <;> simp only [go_sem, ↓reduceIte, reduceCtorEq, reduceAdd, reduceMul, reduceEqDiff, reduceLT, reduceLeDiff, reduceSub, reduceDiv, Nat.reduceBEq, Int.reduceBEq, reduceBNe, Int.reduceLT, reduceLE, reduceEq, lt_dec hlk, hwi, hx, hy, q1, q2, q4, q5, hz, il_set, ew, ew2, hg]) | (refine K_condA (fun hc => ?_) (fun hc => ?_) <;> try (exact absurd hc (by decide))))
        exact ⟨(k + 1, rk1.set m i), ⟨by simp only; omega, by simp only [List.length_set]; exact hrl1, hfin⟩, by simp only; omega, fun i => i, by refine ent_mk (by simp [go_sem, Int.add_assoc]) (by simp [go_sem, Int.add_assoc]) (by simp) (by simp [hN])⟩
    · obtain rfl : k = w.length := by omega
      rw [List.take_length] at hrk2
      have hrk3 : ∀ n, n < u.length → ρ n < ((i + 1 : Nat) : Int) → rk1.getD n 0 = ρ n := by
        intro n hn hni
        by_cases hni2 : ρ n < i
        · exact hrk1 n hn hni2
        · have hge := (hw.rg n (by omega)).1
          have e : ρ n = i := by omega
          have := (hw.mem i n).2 ⟨by omega, e⟩
          rw [List.getD_eq_getElem?_getD, hwi] at this
          have := hrk2 n this
          rw [Int.toNat_natCast] at this
          rw [this, e]
      repeat' (first | apply w1 | apply w2 | apply w3 | apply w4 | apply w5 | apply w6 | apply w7 | refine Kq_exit_ne (by decide) ?_ | apply w8 | apply w9 | apply w0 | rw [wrap64 (by omega) (by omega)] | ((first | refine hK _ ?_ | refine hKp _ _ ?_); clear hK hKp K Kp; try clear hanc anc) | ((with_reducible refine And.intro ?_ ?_); (focus (first | trivial | omega | (simp only [Fits]; omega) | assumption | (rw [hanc]; rfl)))) | ((first | refine K_regA hE fun K Kp hK hKp => ?_ | refine K_drwA true mixed hE fun K Kp hK hKp anc hanc => ?_ | refine K_drwA false mixed hE fun K Kp hK hKp anc hanc => ?_); simp only [go_sem, ↓reduceIte, reduceCtorEq, reduceAdd, reduceMul, reduceEqDiff, reduceLT, reduceLeDiff, reduceSub, reduceDiv, Nat.reduceBEq, Int.reduceBEq, reduceBNe, Int.reduceLT, reduceLE, reduceEq, ge_dec, hwi]) | ((first | refine onG_split_t (fun hg => ?_) (fun hg => ?_) | refine onG_split_f (fun hg => ?_) (fun hg => ?_)) <;> simp only [go_sem, ↓reduceIte, reduceCtorEq, reduceAdd, reduceMul, reduceEqDiff, reduceLT, reduceLeDiff, reduceSub, reduceDiv, Nat.reduceBEq, Int.reduceBEq, reduceBNe, Int.reduceLT, reduceLE, reduceEq, ge_dec, hwi, hg]) | (refine K_condA (fun hc => ?_) (fun hc => ?_) <;> try (exact absurd hc (by decide))))
      exact ⟨(i + 1, rk1), ⟨by simp only; omega, hrl1, hrk3⟩, by simp only; omega, fun i => i, by refine ent_mk (by simp [go_sem, hcs]) (by simp [go_sem, hcs]) (by simp) (by simp [hN])⟩
  · obtain rfl : i = W.length := by omega
    have hc0 : cnt W W.length = u.length := by rw [cnt_len, hw.sm]
    have hra : ∀ n, n < u.length → rk[n]? = some (ρ n) := by
      intro n hn
      have := hrk n hn (hw.rg n (by omega)).2
      rw [List.getD_eq_getElem?_getD, List.getElem?_eq_getElem (by omega)] at this
      rw [List.getElem?_eq_getElem (by omega)]
      exact congrArg some this
    have q3 : (((cnt W W.length : Nat) : Int) != (u.length : Int)) = false := by rw [hc0]; simp
    repeat' (first | apply w1 | apply w2 | apply w3 | apply w4 | apply w5 | apply w6 | apply w7 | refine Kq_exit_ne (by decide) ?_ | apply w8 | apply w9 | apply w0 | rw [wrap64 (by omega) (by omega)] | ((first | refine hK _ ?_ | refine hKp _ _ ?_); clear hK hKp K Kp; try clear hanc anc) | ((with_reducible refine And.intro ?_ ?_); (focus (first | trivial | omega | (simp only [Fits]; omega) | assumption | (rw [hanc]; rfl)))) | ((first | refine K_regA hE fun K Kp hK hKp => ?_ | refine K_drwA true mixed hE fun K Kp hK hKp anc hanc => ?_ | refine K_drwA false mixed hE fun K Kp hK hKp anc hanc => ?_); simp only [go_sem, ↓reduceIte, reduceCtorEq, reduceAdd, reduceMul, reduceEqDiff, reduceLT, reduceLeDiff, reduceSub, reduceDiv, Nat.reduceBEq, Int.reduceBEq, reduceBNe, Int.reduceLT, reduceLE, reduceEq, ge_dec, q3]) | ((first | refine onG_split_t (fun hg => ?_) (fun hg => ?_) | refine onG_split_f (fun hg => ?_) (fun hg => ?_)) <;> simp only [go_sem, ↓reduceIte, reduceCtorEq, reduceAdd, reduceMul, reduceEqDiff, reduceLT, reduceLeDiff, reduceSub, reduceDiv, Nat.reduceBEq, Int.reduceBEq, reduceBNe, Int.reduceLT, reduceLE, reduceEq, ge_dec, q3, hg]) | (refine K_condA (fun hc => ?_) (fun hc => ?_) <;> try (exact absurd hc (by decide))))
    refine K_loop (X := Nat) (fun i => i ≤ W.length) (fun i => mkSt [(0, .sl (ill u)), (3, .bool true), (4, .sl (ill W)), (5, .rw 0), (10, AV.i i)] [(0, .row 1 (il rk))] 1) (fun i => W.length - i) 0 (Nat.zero_le _) (fun i => i) (by refine ent_mk (by simp [go_sem]) (by simp [go_sem]) (by simp) (by simp [hN])) ?_
    intro i hi
    by_cases hlt : i < W.length
    · obtain ⟨w, hwi⟩ := get?_of hlt
      have hwm := hWm i w hwi
      have hcs := cnt_succ hwi
      have hcb := hcl (i + 1) (by omega)
      repeat' (first | apply w1 | apply w2 | apply w3 | apply w4 | apply w5 | apply w6 | apply w7 | refine Kq_exit_ne (by decide) ?_ | apply w8 | apply w9 | apply w0 | rw [wrap64 (by omega) (by omega)] | ((first | refine hK _ ?_ | refine hKp _ _ ?_); clear hK hKp K Kp; try clear hanc anc) | ((with_reducible refine And.intro ?_ ?_); (focus (first | trivial | omega | (simp only [Fits]; omega) | assumption | (rw [hanc]; rfl)))) | ((first | refine K_regA hE fun K Kp hK hKp => ?_ | refine K_drwA true mixed hE fun K Kp hK hKp anc hanc => ?_ | refine K_drwA false mixed hE fun K Kp hK hKp anc hanc => ?_); simp only [go_sem, ↓reduceIte, reduceCtorEq, reduceAdd, reduceMul, reduceEqDiff, reduceLT, reduceLeDiff, reduceSub, reduceDiv, Nat.reduceBEq, Int.reduceBEq, reduceBNe, Int.reduceLT, reduceLE, reduceEq, lt_dec hlt]) | ((first | refine onG_split_t (fun hg => ?_) (fun hg => ?_) | refine onG_split_f (fun hg => ?_) (fun hg => ?_)) <;> simp only [go_sem, ↓reduceIte, reduceCtorEq, reduceAdd, reduceMul, reduceEqDiff, reduceLT, reduceLeDiff, reduceSub, reduceDiv, Nat.reduceBEq, Int.reduceBEq, reduceBNe, Int.reduceLT, reduceLE, reduceEq, lt_dec hlt, hg]) | (refine K_condA (fun hc => ?_) (fun hc => ?_) <;> try (exact absurd hc (by decide))))
      refine K_loop (X := Nat) (fun k => k ≤ w.length) (fun k => mkSt [(0, .sl (ill u)), (3, .bool true), (4, .sl (ill W)), (5, .rw 0), (10, AV.i i), (11, AV.i k)] [(0, .row 1 (il rk))] 1) (fun k => w.length - k) 0 (Nat.zero_le _) (fun i => i) (by refine ent_mk (by simp [go_sem]) (by simp [go_sem]) (by simp) (by simp [hN])) ?_
      intro k hk
      by_cases hlk : k < w.length
      · obtain ⟨x, hx⟩ := get?_of hlk
        obtain ⟨hxr, hxi⟩ := hwm x (List.mem_of_getElem? hx)
        obtain ⟨m, rfl⟩ := Int.eq_ofNat_of_zero_le hxr.1
        have hm : m < u.length := by omega
        have hrm := hra m hm
        rw [hxi] at hrm
        obtain ⟨r, hr⟩ := get?_of hm
        have hrl2 := f2 r (List.mem_of_getElem? hr)
        have hrv := hvd r (List.mem_of_getElem? hr)
        have hbr : bst ρ r (-1) = i - 1 := by
          have h1 := hw.rk m (by omega)
          rw [us_of hr, hxi] at h1
          have h2 := bst_rkm (ρ := ρ) (l := r) (b := -1)
          have e : (-1 : Int) + 1 = 0 := rfl
          rw [e, ← h1] at h2
          omega
        repeat' (first | apply w1 | apply w2 | apply w3 | apply w4 | apply w5 | apply w6 | apply w7 | refine Kq_exit_ne (by decide) ?_ | apply w8 | apply w9 | apply w0 | rw [wrap64 (by omega) (by omega)] | ((first | refine hK _ ?_ | refine hKp _ _ ?_); clear hK hKp K Kp; try clear hanc anc) | ((with_reducible refine And.intro ?_ ?_); (focus (first | trivial | omega | (simp only [Fits]; omega) | assumption | (rw [hanc]; rfl)))) | ((first | refine K_regA hE fun K Kp hK hKp => ?_ | refine K_drwA true mixed hE fun K Kp hK hKp anc hanc => ?_ | refine K_drwA false mixed hE fun K Kp hK hKp anc hanc => ?_); simp only [go_sem, ↓reduceIte, reduceCtorEq, reduceAdd, reduceMul, reduceEqDiff, reduceLT, reduceLeDiff, reduceSub, reduceDiv, Nat.reduceBEq, Int.reduceBEq, reduceBNe, Int.reduceLT, reduceLE, reduceEq, lt_dec hlk, hwi, hx]) | ((first | refine onG_split_t (fun hg => ?_) (fun hg => ?_) | refine onG_split_f (fun hg => ?_) (fun hg => ?_)) <;> simp only [go_sem, ↓reduceIte, reduceCtorEq, reduceAdd, reduceMul, reduceEqDiff, reduceLT, reduceLeDiff, reduceSub, reduceDiv, Nat.reduceBEq, Int.reduceBEq, reduceBNe, Int.reduceLT, reduceLE, reduceEq, lt_dec hlk, hwi, hx, hg]) | (refine K_condA (fun hc => ?_) (fun hc => ?_) <;> try (exact absurd hc (by decide))))
        refine K_loop (X := Nat × Int) (fun y => y.1 ≤ r.length ∧ bst ρ (r.drop y.1) y.2 = i - 1) (fun y => mkSt [(0, .sl (ill u)), (3, .bool true), (4, .sl (ill W)), (5, .rw 0), (10, AV.i i), (11, AV.i k), (12, AV.i m), (13, AV.i y.2), (14, AV.i y.1)] [(0, .row 1 (il rk))] 1) (fun y => r.length - y.1) (0, -1) ⟨Nat.zero_le _, hbr⟩ (fun i => i) (by refine ent_mk (by simp [go_sem]) (by simp [go_sem]) (by simp) (by simp [hN])) ?_
        rintro ⟨n, b⟩ ⟨hn, hb⟩
        simp only at hn hb
        by_cases hln : n < r.length
        · obtain ⟨y, hy⟩ := get?_of hln
          obtain ⟨hy0, hy1⟩ := hrv y (List.mem_of_getElem? hy)
          obtain ⟨z, rfl⟩ := Int.eq_ofNat_of_zero_le hy0
          have hrz := hra z (by omega)
          rw [drop_of hy, bst] at hb
          repeat' (first | apply w1 | apply w2 | apply w3 | apply w4 | apply w5 | apply w6 | apply w7 | refine Kq_exit_ne (by decide) ?_ | apply w8 | apply w9 | apply w0 | rw [wrap64 (by omega) (by omega)] | ((first | refine hK _ ?_ | refine hKp _ _ ?_); clear hK hKp K Kp; try clear hanc anc) | ((with_reducible refine And.intro ?_ ?_); (focus (first | trivial | omega | (simp only [Fits]; omega) | assumption | (rw [hanc]; rfl)))) | ((first | refine K_regA hE fun K Kp hK hKp => ?_ | refine K_drwA true mixed hE fun K Kp hK hKp anc hanc => ?_ | refine K_drwA false mixed hE fun K Kp hK hKp anc hanc => ?_); simp only [go_sem, ↓reduceIte, reduceCtorEq, reduceAdd, reduceMul, reduceEqDiff, reduceLT, reduceLeDiff, reduceSub, reduceDiv, Nat.reduceBEq, Int.reduceBEq, reduceBNe, Int.reduceLT, reduceLE, reduceEq, lt_dec hln, hr, hy, hrz]) | ((first | refine onG_split_t (fun hg => ?_) (fun hg => ?_) | refine onG_split_f (fun hg => ?_) (fun hg => ?_)) <;> simp only [go_sem, ↓reduceIte, reduceCtorEq, reduceAdd, reduceMul, reduceEqDiff, reduceLT, reduceLeDiff, reduceSub, reduceDiv, Nat.reduceBEq, Int.reduceBEq, reduceBNe, Int.reduceLT, reduceLE, reduceEq, lt_dec hln, hr, hy, hrz, hg]) | (refine K_condA (fun hc => ?_) (fun hc => ?_) <;> try (exact absurd hc (by decide))))
          exact ⟨(n + 1, max b (ρ z)), ⟨by simp only; omega, hb⟩, by simp only; omega, fun i => i, by refine ent_mk (by simp [go_sem]) (by simp [go_sem]) (by simp) (by simp [hN])⟩
        · obtain rfl : n = r.length := by omega
          rw [List.drop_length, bst] at hb
          have ew : IntKind.i64.wrap ((i : Int) - 1) = (i : Int) - 1 := wrap64 (by omega) (by omega)
          have q5 : ((i : Int) != (i : Int)) = false := by simp
          have q6 : (b != (i : Int) - 1) = false := by rw [hb]; simp
          repeat' (first | apply w1 | apply w2 | apply w3 | apply w4 | apply w5 | apply w6 | apply w7 | refine Kq_exit_ne (by decide) ?_ | apply w8 | apply w9 | apply w0 | rw [wrap64 (by omega) (by omega)] | ((first | refine hK _ ?_ | refine hKp _ _ ?_); clear hK hKp K Kp; try clear hanc anc) | ((with_reducible refine And.intro ?_ ?_); (focus (first | trivial | omega | (simp only [Fits]; omega) | assumption | (rw [hanc]; rfl)))) | ((first | refine K_regA hE fun K Kp hK hKp => ?_ | refine K_drwA true mixed hE fun K Kp hK hKp anc hanc => ?_ | refine K_drwA false mixed hE fun K Kp hK hKp anc hanc => ?_); simp only [go_sem, ↓reduceIte, reduceCtorEq, reduceAdd, reduceMul, reduceEqDiff, reduceLT, reduceLeDiff, reduceSub, reduceDiv, Nat.reduceBEq, Int.reduceBEq, reduceBNe, Int.reduceLT, reduceLE, reduceEq, ge_dec, hr, hrm, ew, q5, q6]) | ((first | refine onG_split_t (fun hg => ?_) (fun hg => ?_) | refine onG_split_f (fun hg => ?_) (fun hg => ?_)) <;> simp only [go_sem, ↓reduceIte, reduceCtorEq, reduceAdd, reduceMul, reduceEqDiff, reduceLT, reduceLeDiff, reduceSub, reduceDiv, Nat.reduceBEq, Int.reduceBEq, reduceBNe, Int.reduceLT, reduceLE, reduceEq, ge_dec, hr, hrm, ew, q5, q6, hg]) | (refine K_condA (fun hc => ?_) (fun hc => ?_) <;> try (exact absurd hc (by decide))))
          exact ⟨k + 1, by omega, by omega, fun i => i, by refine ent_mk (by simp [go_sem]) (by simp [go_sem]) (by simp) (by simp [hN])⟩
      · obtain rfl : k = w.length := by omega
        repeat' (first | apply w1 | apply w2 | apply w3 | apply w4 | apply w5 | apply w6 | apply w7 | refine Kq_exit_ne (by decide) ?_ | apply w8 | apply w9 | apply w0 | rw [wrap64 (by omega) (by omega)] | ((first | refine hK _ ?_ | refine hKp _ _ ?_); clear hK hKp K Kp; try clear hanc anc) | ((with_reducible refine And.intro ?_ ?_); (focus (first | trivial | omega | (simp only [Fits]; omega) | assumption | (rw [hanc]; rfl)))) | ((first | refine K_regA hE fun K Kp hK hKp => ?_ | refine K_drwA true mixed hE fun K Kp hK hKp anc hanc => ?_ | refine K_drwA false mixed hE fun K Kp hK hKp anc hanc => ?_); simp only [go_sem, ↓reduceIte, reduceCtorEq, reduceAdd, reduceMul, reduceEqDiff, reduceLT, reduceLeDiff, reduceSub, reduceDiv, Nat.reduceBEq, Int.reduceBEq, reduceBNe, Int.reduceLT, reduceLE, reduceEq, ge_dec, hwi]) | ((first | refine onG_split_t (fun hg => ?_) (fun hg => ?_) | refine onG_split_f (fun hg => ?_) (fun hg => ?_)) <;> simp only [go_sem, ↓reduceIte, reduceCtorEq, reduceAdd, reduceMul, reduceEqDiff, reduceLT, reduceLeDiff, reduceSub, reduceDiv, Nat.reduceBEq, Int.reduceBEq, reduceBNe, Int.reduceLT, reduceLE, reduceEq, ge_dec, hwi, hg]) | (refine K_condA (fun hc => ?_) (fun hc => ?_) <;> try (exact absurd hc (by decide))))
        exact ⟨i + 1, by omega, by omega, fun i => i, by refine ent_mk (by simp [go_sem]) (by simp [go_sem]) (by simp) (by simp [hN])⟩
    · obtain rfl : i = W.length := by omega
      repeat' (first | apply w1 | apply w2 | apply w3 | apply w4 | apply w5 | apply w6 | apply w7 | refine Kq_exit_ne (by decide) ?_ | apply w8 | apply w9 | apply w0 | rw [wrap64 (by omega) (by omega)] | ((first | refine hK _ ?_ | refine hKp _ _ ?_); clear hK hKp K Kp; try clear hanc anc) | ((with_reducible refine And.intro ?_ ?_); (focus (first | trivial | omega | (simp only [Fits]; omega) | assumption | (rw [hanc]; rfl)))) | ((first | refine K_regA hE fun K Kp hK hKp => ?_ | refine K_drwA false mixed hE fun K Kp hK hKp anc hanc => ?_); simp only [go_sem, ↓reduceIte, reduceCtorEq, reduceAdd, reduceMul, reduceEqDiff, reduceLT, reduceLeDiff, reduceSub, reduceDiv, Nat.reduceBEq, Int.reduceBEq, reduceBNe, Int.reduceLT, reduceLE, reduceEq, ge_dec]) | ((first | refine onG_split_t (fun hg => ?_) (fun hg => ?_) | refine onG_split_f (fun hg => ?_) (fun hg => ?_)) <;> simp only [go_sem, ↓reduceIte, reduceCtorEq, reduceAdd, reduceMul, reduceEqDiff, reduceLT, reduceLeDiff, reduceSub, reduceDiv, Nat.reduceBEq, Int.reduceBEq, reduceBNe, Int.reduceLT, reduceLE, reduceEq, ge_dec, hg]) | (refine K_condA (fun hc => ?_) (fun hc => ?_) <;> try (exact absurd hc (by decide))) | (refine K_ret ?_; refine (hQ _ ⟨_, by (try simp only [go_sem, ↓reduceIte, Nat.reduceEqDiff]); rfl, by simp [go_sem], ?_, by first | rfl | assumption⟩).1))
      rfl
end Go.Proofs.Ytakpabiefjlmaaa


/- Chapter 22: the arguments of the laws as lists. -/
set_option linter.unusedVariables false
namespace Go.Proofs.Ytakpabiefjlmaaa
open Go.Am Go.Proofs

variable {H : Type}

mutual
theorem bulk_eq : ∀ d : DataW H, Rows.uptoBulk d = bulk d
  | .lit (.string _) | .lit (.bool _) | .lit (.int _ _) | .lit (.float _ _) | .lit .nil => by simp [Rows.uptoBulk, bulk]
  | .nil => by simp [Rows.uptoBulk, bulk]
  | .ptr d => by simp [Rows.uptoBulk, bulk, bulk_eq d]
  | .slice l r => by simp [Rows.uptoBulk, bulk, bulkL_eq l, bulkL_eq r]
  | .agg l => by simp [Rows.uptoBulk, bulk, bulkL_eq l]
  | .iface _ d => by simp [Rows.uptoBulk, bulk, bulk_eq d]
  | .map l => by simp [Rows.uptoBulk, bulk, bulkE_eq l]
  | .held _ => by simp [Rows.uptoBulk, bulk]
theorem bulkL_eq : ∀ l : List (DataW H), Rows.uptoBulkAll l = bulkL l
  | [] => by simp [Rows.uptoBulkAll, bulkL]
  | d :: l => by simp [Rows.uptoBulkAll, bulkL, bulk_eq d, bulkL_eq l]
theorem bulkE_eq : ∀ l : List (Lit × DataW H), Rows.uptoBulkEntries l = bulkE l
  | [] => by simp [Rows.uptoBulkEntries, bulkE]
  | d :: l => by simp [Rows.uptoBulkEntries, bulkE, bulkP_eq d, bulkE_eq l]
theorem bulkP_eq : ∀ l : Lit × DataW H, Rows.uptoBulkEntry l = bulkP l
  | (.string _, d) | (.bool _, d) | (.int _ _, d) | (.float _ _, d) | (.nil, d) => by simp [Rows.uptoBulkEntry, bulkP, bulk_eq d]
end

theorem opn_int {d : DataW H} (h : DT Try.prog 3 d) : ∃ n : Int, avD d = AV.i n ∧ 1 ≤ bulk d := by
  obtain ⟨n, h1, _⟩ := h.int_inv Try.underlying3
  exact ⟨n, h1, bulk_pos d⟩
theorem opn_il {d : DataW H} (h : DT Try.prog 25 d) : ∃ l : List Int, avD d = .sl (il l) ∧ l.length ≤ bulk d := by
  obtain ⟨es, h1, h2, h3⟩ := h.slice_inv Try.underlying25
  obtain ⟨l, h4, h5, h6⟩ := list_open (p := fun _ => True) AV.i (fun _ => 1) es fun x hx => opn_int (h2 x hx)
  exact ⟨l, by rw [h1, h4]; rfl, by rw [h6]; have := bulk_len es; omega⟩
theorem opn_bl {d : DataW H} (h : DT Try.prog 33 d) : ∃ l : List Bool, avD d = .sl (bl l) ∧ l.length ≤ bulk d := by
  obtain ⟨es, h1, h2, h3⟩ := h.slice_inv Try.underlying33
  obtain ⟨l, h4, h5, h6⟩ := list_open (p := fun _ => True) AV.bool (fun _ => 1) es fun x hx => by
    obtain ⟨b, hb⟩ := (h2 x hx).bool_inv Try.underlying4
    exact ⟨b, hb, bulk_pos x⟩
  exact ⟨l, by rw [h1, h4]; rfl, by rw [h6]; have := bulk_len es; omega⟩
theorem opn_ill {d : DataW H} (h : DT Try.prog 22 d) : ∃ u : List (List Int), avD d = .sl (ill u) ∧ u.length ≤ bulk d ∧ ∀ l, l ∈ u → l.length ≤ bulk d := by
  obtain ⟨es, h1, h2, h3⟩ := h.slice_inv Try.underlying22
  obtain ⟨u, h4, h5, h6⟩ := list_open (p := fun _ => True) (fun l => AV.sl (il l)) List.length es fun x hx => opn_il (h2 x hx)
  refine ⟨u, by rw [h1, h4]; rfl, by rw [h6]; have := bulk_len es; omega, fun l hl => ?_⟩
  have : l.length ≤ (u.map List.length).sum := by
    clear h1 h2 h3 h4 h5 h6
    induction u with
    | nil => cases hl
    | cons x u ih =>
      simp only [List.map_cons, List.sum_cons]
      rcases List.mem_cons.1 hl with rfl | hl
      · omega
      · have := ih hl; omega
  omega
theorem opn_u8 {d : DataW H} (h : DT Try.prog 5 d) : ∃ n : Int, avD d = .int .u8 n ∧ 0 ≤ n ∧ n ≤ 255 := by
  obtain ⟨n, h1, h2⟩ := h.int_inv Try.underlying5
  refine ⟨n, h1, ?_⟩
  have e1 : IntKind.u8.min = 0 := rfl
  have e2 : IntKind.u8.max = 255 := rfl
  simp [Lit.wf] at h2
  omega

theorem depsOrders_pcall {d : DataW H} (h : DT Try.prog 22 d) (hb : bulk d ≤ 1048576) : PCall Try.prog 3 [avD d] (.bool true) := by
  obtain ⟨u, h1, h2, h3⟩ := opn_ill h
  rw [h1]
  exact orders_pc u (by omega) fun l hl => by have := h3 l hl; omega
theorem depsCycles_pcall {d : DataW H} (h : DT Try.prog 22 d) (hb : bulk d ≤ 1048576) : PCall Try.prog 4 [avD d] (.bool true) := by
  obtain ⟨u, h1, h2, h3⟩ := opn_ill h
  rw [h1]
  exact cycles_pc u (by omega) fun l hl => by have := h3 l hl; omega
theorem depsWaves_pcall {d : DataW H} (h : DT Try.prog 22 d) (hb : bulk d ≤ 1048576) : PCall Try.prog 7 [avD d] (.bool true) := by
  obtain ⟨u, h1, h2, h3⟩ := opn_ill h
  rw [h1]
  exact waves_pc u (by omega) fun l hl => by have := h3 l hl; omega
theorem depsStale_pcall {d e f : DataW H} (h : DT Try.prog 22 d) (he : DT Try.prog 33 e) (hf : DT Try.prog 33 f) (hb : bulk d ≤ 1048576) (hb2 : bulk e ≤ 1048576) (hb3 : bulk f ≤ 1048576) : PCall Try.prog 5 [avD d, avD e, avD f] (.bool true) := by
  obtain ⟨u, h1, h2, h3⟩ := opn_ill h
  obtain ⟨t, h4, h5⟩ := opn_bl he
  obtain ⟨s, h6, h7⟩ := opn_bl hf
  rw [h1, h4, h6]
  exact stale_pc u t s (by omega) (fun l hl => by have := h3 l hl; omega) (by omega) (by omega)
theorem depsMonotone_pcall {d e f g : DataW H} (h : DT Try.prog 22 d) (he : DT Try.prog 33 e) (hf : DT Try.prog 33 f) (hg : DT Try.prog 5 g) (hb : bulk d ≤ 1048576) (hb2 : bulk e ≤ 1048576) (hb3 : bulk f ≤ 1048576) (hb4 : bulk g ≤ 1048576) : PCall Try.prog 6 [avD d, avD e, avD f, avD g] (.bool true) := by
  obtain ⟨u, h1, h2, h3⟩ := opn_ill h
  obtain ⟨t, h4, h5⟩ := opn_bl he
  obtain ⟨s, h6, h7⟩ := opn_bl hf
  obtain ⟨n, h8, h9⟩ := opn_u8 hg
  rw [h1, h4, h6, h8]
  exact mono_pc u t s n h9 (by omega) (fun l hl => by have := h3 l hl; omega) (by omega) (by omega)
end Go.Proofs.Ytakpabiefjlmaaa
