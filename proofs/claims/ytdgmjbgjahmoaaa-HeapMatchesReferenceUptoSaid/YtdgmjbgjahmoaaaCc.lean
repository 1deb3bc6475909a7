/- A part of the proof: an abstract machine for the walks, and what the walked functions compute. -/
import Derived.Test.YtdgmjbgjahmoaaaCb
set_option linter.unusedVariables false
set_option linter.unusedSimpArgs false
set_option maxHeartbeats 4000000
set_option maxRecDepth 100000
namespace Go.Proofs.Ytdgmjbgjahmoaaa
open Nat (reduceAdd reduceMul reduceEqDiff reduceLT reduceLeDiff reduceSub reduceDiv)
open Int (reduceBNe reduceLE reduceEq)
open Go.Am Go.Proofs Go.Hv
open Classical
attribute [local irreducible] AW CallP CallB
def firstF : List Bool → Nat
 | [] => 0
 | c :: l => if c then 1 + firstF l else 0
theorem firstF_le : ∀ l : List Bool, firstF l ≤ l.length
 | [] => Nat.le_refl _
 | c :: l => by have := firstF_le l; simp only [firstF, List.length_cons]; split <;> omega
def openN : List Bool → Nat
 | [] => 0
 | c :: l => (if c then 1 else 0) + openN l
theorem openN_le : ∀ l : List Bool, openN l ≤ l.length
 | [] => Nat.le_refl _
 | c :: l => by have := openN_le l; simp only [openN, List.length_cons]; split <;> omega
def putB (l : List Bool) (n : Nat) : List Bool := if n = l.length then l ++ [true] else l.set n true
def openS (h : Hp) : Hp × Int × Int := if 400 ≤ openN h.arenas then (hp0, 0, 19) else (⟨h.cells, putB h.arenas (firstF h.arenas)⟩, firstF h.arenas, 0)
theorem index_call (l : List Bool) (hl : l.length ≤ 2 ^ 40) : PCall Try.prog 51 [.sl (bl l), .bool false] (.i (if firstF l < l.length then (firstF l : Int) else -1)) := by
 refine PCall.intro Try.func51 rfl isf51 (by simp [Try.f51]) (by simp [AV.cloL, AV.clo]) fun E Q hE hN hQ => K_start ?_
 repeat' (first | apply nx | refine Kq_exit_ne (by decide) ?_ | rw [wrap64 (by omega) (by omega)] | ((first | refine hK _ ?_ | refine hKp _ _ ?_); clear hK hKp K Kp; try clear hanc anc) | ((with_reducible refine And.intro ?_ ?_); (focus (first | trivial | omega | (simp only [Fits]; omega) | assumption | (rw [hanc]; rfl)))) | ((first | refine K_regA hE fun K Kp hK hKp => ?_ | refine K_drwA false mixed hE fun K Kp hK hKp anc hanc => ?_); simp only [go_sem]) | ((first | refine onG_split_t (fun hg => ?_) (fun hg => ?_) | refine onG_split_f (fun hg => ?_) (fun hg => ?_)) <;> simp only [go_sem, hg]) | (refine K_condA (fun hc => ?_) (fun hc => ?_) <;> try (exact absurd hc (by decide))) | (refine K_ret ?_; refine (hQ _ ⟨_, by (try simp only [go_sem, ↓reduceIte, Nat.reduceEqDiff]); rfl, by simp [go_sem], ?_, by first | rfl | assumption⟩).1))
 refine K_loop (X := Nat) (fun i => i ≤ l.length ∧ firstF l = i + firstF (l.drop i)) (fun i => mkSt [(0, .sl (bl l)), (1, .bool false), (7, .i l.length), (8, AV.i i)] [] 0) (fun i => l.length - i) 0 ⟨Nat.zero_le _, by simp⟩ (fun i => i) (by refine ent_mk (by simp [go_sem]) (by simp [go_sem]) (by simp) (by simp [hN])) ?_
 rintro i ⟨hi, ht⟩
 by_cases hlt : i < l.length
 ·obtain ⟨x, hx⟩ := get?_of hlt
  rw [drop_of hx, firstF] at ht
  cases x
  ·repeat' (first | apply nx | refine Kq_exit_ne (by decide) ?_ | rw [wrap64 (by omega) (by omega)] | ((first | refine hK _ ?_ | refine hKp _ _ ?_); clear hK hKp K Kp; try clear hanc anc) | ((with_reducible refine And.intro ?_ ?_); (focus (first | trivial | omega | (simp only [Fits]; omega) | assumption | (rw [hanc]; rfl)))) | ((first | refine K_regA hE fun K Kp hK hKp => ?_ | refine K_drwA false mixed hE fun K Kp hK hKp anc hanc => ?_); simp only [go_sem, lt_dec hlt, hx]) | ((first | refine onG_split_t (fun hg => ?_) (fun hg => ?_) | refine onG_split_f (fun hg => ?_) (fun hg => ?_)) <;> simp only [go_sem, lt_dec hlt, hx, hg]) | (refine K_condA (fun hc => ?_) (fun hc => ?_) <;> try (exact absurd hc (by decide))) | (refine K_ret ?_; refine (hQ _ ⟨_, by (try simp only [go_sem, ↓reduceIte, Nat.reduceEqDiff]); rfl, by simp [go_sem], ?_, by first | rfl | assumption⟩).1))
   have hf : firstF l = i := by simpa using ht
   simp [AV.snap, hf, hlt]
  ·repeat' (first | apply nx | refine Kq_exit_ne (by decide) ?_ | rw [wrap64 (by omega) (by omega)] | ((first | refine hK _ ?_ | refine hKp _ _ ?_); clear hK hKp K Kp; try clear hanc anc) | ((with_reducible refine And.intro ?_ ?_); (focus (first | trivial | omega | (simp only [Fits]; omega) | assumption | (rw [hanc]; rfl)))) | ((first | refine K_regA hE fun K Kp hK hKp => ?_ | refine K_drwA false mixed hE fun K Kp hK hKp anc hanc => ?_); simp only [go_sem, lt_dec hlt, hx]) | ((first | refine onG_split_t (fun hg => ?_) (fun hg => ?_) | refine onG_split_f (fun hg => ?_) (fun hg => ?_)) <;> simp only [go_sem, lt_dec hlt, hx, hg]) | (refine K_condA (fun hc => ?_) (fun hc => ?_) <;> try (exact absurd hc (by decide))) | (refine K_ret ?_; refine (hQ _ ⟨_, by (try simp only [go_sem, ↓reduceIte, Nat.reduceEqDiff]); rfl, by simp [go_sem], ?_, by first | rfl | assumption⟩).1))
   exact ⟨i + 1, ⟨by omega, by simp only [if_true] at ht; omega⟩, by omega, fun i => i, by refine ent_mk (by simp [go_sem]) (by simp [go_sem]) (by simp) (by simp [hN])⟩
 ·obtain rfl : i = l.length := by omega
  rw [List.drop_length, firstF] at ht
  repeat' (first | apply nx | refine Kq_exit_ne (by decide) ?_ | rw [wrap64 (by omega) (by omega)] | ((first | refine hK _ ?_ | refine hKp _ _ ?_); clear hK hKp K Kp; try clear hanc anc) | ((with_reducible refine And.intro ?_ ?_); (focus (first | trivial | omega | (simp only [Fits]; omega) | assumption | (rw [hanc]; rfl)))) | ((first | refine K_regA hE fun K Kp hK hKp => ?_ | refine K_drwA false mixed hE fun K Kp hK hKp anc hanc => ?_); simp only [go_sem, ge_dec]) | ((first | refine onG_split_t (fun hg => ?_) (fun hg => ?_) | refine onG_split_f (fun hg => ?_) (fun hg => ?_)) <;> simp only [go_sem, ge_dec, hg]) | (refine K_condA (fun hc => ?_) (fun hc => ?_) <;> try (exact absurd hc (by decide))) | (refine K_ret ?_; refine (hQ _ ⟨_, by (try simp only [go_sem, ↓reduceIte, Nat.reduceEqDiff]); rfl, by simp [go_sem], ?_, by first | rfl | assumption⟩).1))
  simp [AV.snap, ht]
theorem ropen_call (h : Hp) (hl : h.cells.length ≤ 2 ^ 20) (ha : h.arenas.length ≤ 2 ^ 20) : PCall Try.prog 25 [h.av] (resH (openS h)) := by
 have hcp := copy_nc h hl ha
 have hole := openN_le h.arenas
 have hsz := szok_bl h.arenas
 rw [Hp.av_eq] at hcp ⊢
 refine PCall.intro Try.func25 rfl isf25 (by simp [Try.f25]) (by simp [AV.cloL, AV.clo]) fun E Q hE hN hQ => K_start ?_
 repeat' (first | apply nx | refine Kq_exit_ne (by decide) ?_ | rw [wrap64 (by omega) (by omega)] | ((first | refine hK _ ?_ | refine hKp _ _ ?_); clear hK hKp K Kp; try clear hanc anc) | ((with_reducible refine And.intro ?_ ?_); (focus (first | trivial | omega | (simp only [Fits]; omega) | assumption | (rw [hanc]; rfl)))) | ((first | refine K_regA hE fun K Kp hK hKp => ?_ | refine K_drwA true mixed hE fun K Kp hK hKp anc hanc => ?_ | refine K_drwA false mixed hE fun K Kp hK hKp anc hanc => ?_); simp only [go_sem]) | ((first | refine onG_split_t (fun hg => ?_) (fun hg => ?_) | refine onG_split_f (fun hg => ?_) (fun hg => ?_)) <;> simp only [go_sem, hg]) | (refine K_condA (fun hc => ?_) (fun hc => ?_) <;> try (exact absurd hc (by decide))))
 refine K_loop (X := Nat × Nat) (fun x => x.1 ≤ h.arenas.length ∧ x.2 + openN (h.arenas.drop x.1) = openN h.arenas) (fun x => mkSt [(1, .ptr 0 0), (2, .ptr 1 0), (5, .i 0), (6, AV.i x.2), (7, AV.i x.1)] [(0, .cells [.sl (cl h.cells), .sl (bl h.arenas)]), (1, .cells [.nilsl, .nilsl])] 2) (fun x => h.arenas.length - x.1) (0, 0) ⟨Nat.zero_le _, by simp⟩ (fun i => if i = 0 then 0 else 1048576) (by refine ent_mk (by simp [go_sem]) (by simp [go_sem]) (by simp) (by simp [hN])) ?_
 rintro ⟨i, n⟩ ⟨hi, ht⟩
 simp only at hi ht
 by_cases hlt : i < h.arenas.length
 ·obtain ⟨c, hcc⟩ := get?_of hlt
  rw [drop_of hcc, openN] at ht
  cases c
  ·repeat' (first | apply nx | refine Kq_exit_ne (by decide) ?_ | rw [wrap64 (by omega) (by omega)] | ((first | refine hK _ ?_ | refine hKp _ _ ?_); clear hK hKp K Kp; try clear hanc anc) | ((with_reducible refine And.intro ?_ ?_); (focus (first | trivial | omega | (simp only [Fits]; omega) | assumption | (rw [hanc]; rfl)))) | ((first | refine K_regA hE fun K Kp hK hKp => ?_ | refine K_drwA true mixed hE fun K Kp hK hKp anc hanc => ?_ | refine K_drwA false mixed hE fun K Kp hK hKp anc hanc => ?_); simp only [go_sem, lt_dec hlt, hcc]) | ((first | refine onG_split_t (fun hg => ?_) (fun hg => ?_) | refine onG_split_f (fun hg => ?_) (fun hg => ?_)) <;> simp only [go_sem, lt_dec hlt, hcc, hg]) | (refine K_condA (fun hc => ?_) (fun hc => ?_) <;> try (exact absurd hc (by decide))))
   exact ⟨(i + 1, n), ⟨by simp only; omega, by simp only; simpa using ht⟩, by simp only; omega, fun i => i, by refine ent_mk (by simp [go_sem]) (by simp [go_sem]) (by simp) (by simp [hN])⟩
  ·repeat' (first | apply nx | refine Kq_exit_ne (by decide) ?_ | rw [wrap64 (by omega) (by omega)] | ((first | refine hK _ ?_ | refine hKp _ _ ?_); clear hK hKp K Kp; try clear hanc anc) | ((with_reducible refine And.intro ?_ ?_); (focus (first | trivial | omega | (simp only [Fits]; omega) | assumption | (rw [hanc]; rfl)))) | ((first | refine K_regA hE fun K Kp hK hKp => ?_ | refine K_drwA true mixed hE fun K Kp hK hKp anc hanc => ?_ | refine K_drwA false mixed hE fun K Kp hK hKp anc hanc => ?_); simp only [go_sem, lt_dec hlt, hcc]) | ((first | refine onG_split_t (fun hg => ?_) (fun hg => ?_) | refine onG_split_f (fun hg => ?_) (fun hg => ?_)) <;> simp only [go_sem, lt_dec hlt, hcc, hg]) | (refine K_condA (fun hc => ?_) (fun hc => ?_) <;> try (exact absurd hc (by decide))))
   exact ⟨(i + 1, n + 1), ⟨by simp only; omega, by simp only; simp only [if_true] at ht; omega⟩, by simp only; omega, fun i => i, by refine ent_mk (by simp [go_sem]) (by simp [go_sem]) (by simp) (by simp [hN])⟩
 obtain rfl : i = h.arenas.length := by omega
 rw [List.drop_length, openN] at ht
 obtain rfl : n = openN h.arenas := by omega
 by_cases h4 : 400 ≤ openN h.arenas
 ·have q4 : decide ((400 : Int) ≤ (openN h.arenas : Int)) = true := by simp; omega
  rw [openS, if_pos h4] at hQ
  repeat' (first | apply nx | refine Kq_exit_ne (by decide) ?_ | rw [wrap64 (by omega) (by omega)] | ((first | refine hK _ ?_ | refine hKp _ _ ?_); clear hK hKp K Kp; try clear hanc anc) | ((with_reducible refine And.intro ?_ ?_); (focus (first | trivial | omega | (simp only [Fits]; omega) | assumption | (rw [hanc]; rfl)))) | ((first | refine K_regA hE fun K Kp hK hKp => ?_ | refine K_drwA true mixed hE fun K Kp hK hKp anc hanc => ?_ | refine K_drwA false mixed hE fun K Kp hK hKp anc hanc => ?_); simp only [go_sem, ge_dec, q4]) | ((first | refine onG_split_t (fun hg => ?_) (fun hg => ?_) | refine onG_split_f (fun hg => ?_) (fun hg => ?_)) <;> simp only [go_sem, ge_dec, q4, hg]) | (refine K_condA (fun hc => ?_) (fun hc => ?_) <;> try (exact absurd hc (by decide))))
  refine K_ret (hQ _ ⟨.tup [.agg [.nilsl, .nilsl], .i 0, .i 19], (by simp [resA, rvA, Try.f25, go_sem]; rfl), (by simp [AV.snapOk, AV.snapOkL, go_sem]), (by rfl), (by first | rfl | simp [AV.clo, AV.cloL, go_sem])⟩).1
 have q4 : decide ((400 : Int) ≤ (openN h.arenas : Int)) = false := by simp; omega
 rw [openS, if_neg h4] at hQ
 repeat' (first | apply nx | refine Kq_exit_ne (by decide) ?_ | rw [wrap64 (by omega) (by omega)] | ((first | refine hK _ ?_ | refine hKp _ _ ?_); clear hK hKp K Kp; try clear hanc anc) | ((with_reducible refine And.intro ?_ ?_); (focus (first | trivial | omega | (simp only [Fits]; omega) | assumption | (rw [hanc]; rfl)))) | ((first | refine K_regA hE fun K Kp hK hKp => ?_ | refine K_drwA true mixed hE fun K Kp hK hKp anc hanc => ?_ | refine K_drwA false mixed hE fun K Kp hK hKp anc hanc => ?_); simp only [go_sem, ge_dec, q4]) | ((first | refine onG_split_t (fun hg => ?_) (fun hg => ?_) | refine onG_split_f (fun hg => ?_) (fun hg => ?_)) <;> simp only [go_sem, ge_dec, q4, hg]) | (refine K_condA (fun hc => ?_) (fun hc => ?_) <;> try (exact absurd hc (by decide))))
 refine K_loop (X := Nat) (fun i => i ≤ h.arenas.length ∧ firstF h.arenas = i + firstF (h.arenas.drop i)) (fun i => mkSt [(1, .ptr 0 0), (2, .ptr 1 0), (5, AV.i i)] [(0, .cells [.sl (cl h.cells), .sl (bl h.arenas)]), (1, .cells [.nilsl, .nilsl])] 2) (fun i => h.arenas.length - i) 0 ⟨Nat.zero_le _, by simp⟩ (fun i => i) (by refine ent_mk (by simp [go_sem]) (by simp [go_sem]) (by simp) (by simp [hN])) ?_
 rintro i ⟨hi, ht⟩
 by_cases hlt : i < h.arenas.length
 ·obtain ⟨x, hx⟩ := get?_of hlt
  rw [drop_of hx, firstF] at ht
  cases x
  ·have hf : firstF h.arenas = i := by simpa using ht
   have hne : ((i : Int) == (h.arenas.length : Int)) = false := by simp; omega
   have hput1 : h.arenas.set i true = putB h.arenas i := by
    rw [putB, if_neg (by omega)]
   repeat' (first | apply nx | refine Kq_exit_ne (by decide) ?_ | rw [wrap64 (by omega) (by omega)] | ((first | refine hK _ ?_ | refine hKp _ _ ?_); clear hK hKp K Kp; try clear hanc anc) | ((with_reducible refine And.intro ?_ ?_); (focus (first | trivial | omega | (simp only [Fits]; omega) | assumption | (rw [hanc]; rfl)))) | ((first | refine K_regA hE fun K Kp hK hKp => ?_ | refine K_drwA true mixed hE fun K Kp hK hKp anc hanc => ?_ | refine K_drwA false mixed hE fun K Kp hK hKp anc hanc => ?_); simp only [go_sem, lt_dec hlt, hx]) | ((first | refine onG_split_t (fun hg => ?_) (fun hg => ?_) | refine onG_split_f (fun hg => ?_) (fun hg => ?_)) <;> simp only [go_sem, lt_dec hlt, hx, hg]) | (refine K_condA (fun hc => ?_) (fun hc => ?_) <;> try (exact absurd hc (by decide))))
   refine Hold.mk (CallB.newRows hcp (by simp [AV.cloL, AV.clo]) (cl_clo _) (bl_clo _) ?_)
   simp only [go_sem]
   repeat' (first | apply nx | refine Kq_exit_ne (by decide) ?_ | rw [wrap64 (by omega) (by omega)] | ((first | refine hK _ ?_ | refine hKp _ _ ?_); clear hK hKp K Kp; try clear hanc anc) | ((with_reducible refine And.intro ?_ ?_); (focus (first | trivial | omega | (simp only [Fits]; omega) | assumption | (rw [hanc]; rfl)))) | ((first | refine K_regA hE fun K Kp hK hKp => ?_ | refine K_drwA true mixed hE fun K Kp hK hKp anc hanc => ?_ | refine K_drwA false mixed hE fun K Kp hK hKp anc hanc => ?_); simp only [go_sem, hne, lt_dec hlt, hx]) | ((first | refine onG_split_t (fun hg => ?_) (fun hg => ?_) | refine onG_split_f (fun hg => ?_) (fun hg => ?_)) <;> simp only [go_sem, hne, lt_dec hlt, hx, hg]) | (refine K_condA (fun hc => ?_) (fun hc => ?_) <;> try (exact absurd hc (by decide))))
   refine K_ret (hQ _ ⟨.tup [.agg [.rw 13631490, .rw 13631491], .i i, .i 0], (by simp [resA, rvA, Try.f25, go_sem, hput1, resH, hf, Hp.av_eq]; rfl), (by simp [AV.snapOk, AV.snapOkL, go_sem, hput1, resH, hf, Hp.av_eq]), (by simp [AV.snap, AV.snapL, go_sem, hput1, resH, hf, Hp.av_eq]), (by first | rfl | simp [AV.clo, AV.cloL, go_sem, hput1, resH, hf, Hp.av_eq])⟩).1
  ·repeat' (first | apply nx | refine Kq_exit_ne (by decide) ?_ | rw [wrap64 (by omega) (by omega)] | ((first | refine hK _ ?_ | refine hKp _ _ ?_); clear hK hKp K Kp; try clear hanc anc) | ((with_reducible refine And.intro ?_ ?_); (focus (first | trivial | omega | (simp only [Fits]; omega) | assumption | (rw [hanc]; rfl)))) | ((first | refine K_regA hE fun K Kp hK hKp => ?_ | refine K_drwA true mixed hE fun K Kp hK hKp anc hanc => ?_ | refine K_drwA false mixed hE fun K Kp hK hKp anc hanc => ?_); simp only [go_sem, lt_dec hlt, hx]) | ((first | refine onG_split_t (fun hg => ?_) (fun hg => ?_) | refine onG_split_f (fun hg => ?_) (fun hg => ?_)) <;> simp only [go_sem, lt_dec hlt, hx, hg]) | (refine K_condA (fun hc => ?_) (fun hc => ?_) <;> try (exact absurd hc (by decide))))
   exact ⟨i + 1, ⟨by omega, by simp only [if_true] at ht; omega⟩, by omega, fun i => i, by refine ent_mk (by simp [go_sem]) (by simp [go_sem]) (by simp) (by simp [hN])⟩
 ·obtain rfl : i = h.arenas.length := by omega
  rw [List.drop_length, firstF] at ht
  have a1 := app_get (bl_len h.arenas)
  have a2 := app_set (bl_len h.arenas)
  repeat' (first | apply nx | refine Kq_exit_ne (by decide) ?_ | rw [wrap64 (by omega) (by omega)] | ((first | refine hK _ ?_ | refine hKp _ _ ?_); clear hK hKp K Kp; try clear hanc anc) | ((with_reducible refine And.intro ?_ ?_); (focus (first | trivial | omega | (simp only [Fits]; omega) | assumption | (rw [hanc]; rfl)))) | ((first | refine K_regA hE fun K Kp hK hKp => ?_ | refine K_drwA true mixed hE fun K Kp hK hKp anc hanc => ?_ | refine K_drwA false mixed hE fun K Kp hK hKp anc hanc => ?_); simp only [go_sem, ge_dec]) | ((first | refine onG_split_t (fun hg => ?_) (fun hg => ?_) | refine onG_split_f (fun hg => ?_) (fun hg => ?_)) <;> simp only [go_sem, ge_dec, hg]) | (refine K_condA (fun hc => ?_) (fun hc => ?_) <;> try (exact absurd hc (by decide))))
  refine Hold.mk (CallB.newRows hcp (by simp [AV.cloL, AV.clo]) (cl_clo _) (bl_clo _) ?_)
  simp only [go_sem]
  repeat' (first | apply nx | refine Kq_exit_ne (by decide) ?_ | rw [wrap64 (by omega) (by omega)] | ((first | refine hK _ ?_ | refine hKp _ _ ?_); clear hK hKp K Kp; try clear hanc anc) | ((with_reducible refine And.intro ?_ ?_); (focus (first | trivial | omega | (simp only [Fits]; omega) | assumption | (rw [hanc]; rfl)))) | ((first | refine K_regA hE fun K Kp hK hKp => ?_ | refine K_drwA true mixed hE fun K Kp hK hKp anc hanc => ?_ | refine K_drwA false mixed hE fun K Kp hK hKp anc hanc => ?_); simp only [go_sem, a1, a2]) | ((first | refine onG_split_t (fun hg => ?_) (fun hg => ?_) | refine onG_split_f (fun hg => ?_) (fun hg => ?_)) <;> simp only [go_sem, a1, a2, hg]) | (refine K_condA (fun hc => ?_) (fun hc => ?_) <;> try (exact absurd hc (by decide))))
  have hput1 : bl h.arenas ++ [.bool true] = bl (putB h.arenas (firstF h.arenas)) := by
   rw [ht, putB, if_pos (by omega)]; simp [bl]
  refine K_ret (hQ _ ⟨.tup [.agg [.rw 13631490, .rw 25165826], .i h.arenas.length, .i 0], (by simp [resA, rvA, Try.f25, go_sem, hput1, resH, ht, Hp.av_eq]; rfl), (by simp [AV.snapOk, AV.snapOkL, go_sem, hput1, resH, ht, Hp.av_eq]), (by simp [AV.snap, AV.snapL, go_sem, hput1, resH, ht, Hp.av_eq]), (by first | rfl | simp [AV.clo, AV.cloL, go_sem, hput1, resH, ht, Hp.av_eq])⟩).1
theorem open_call (h : Hp) (hl : h.cells.length ≤ 2 ^ 20) (ha : h.arenas.length ≤ 2 ^ 20) : PCall Try.prog 24 [h.av] (resH (openS h)) := by
 have hcp := clone_nc h hl ha
 have hix := index_call h.arenas (by omega)
 have hole := openN_le h.arenas
 have hfle := firstF_le h.arenas
 have hsz := szok_bl h.arenas
 rw [Hp.av_eq] at hcp ⊢
 refine PCall.intro Try.func24 rfl isf24 (by simp [Try.f24]) (by simp [AV.cloL, AV.clo]) fun E Q hE hN hQ => K_start ?_
 repeat' (first | apply nx | refine Kq_exit_ne (by decide) ?_ | rw [wrap64 (by omega) (by omega)] | ((first | refine hK _ ?_ | refine hKp _ _ ?_); clear hK hKp K Kp; try clear hanc anc) | ((with_reducible refine And.intro ?_ ?_); (focus (first | trivial | omega | (simp only [Fits]; omega) | assumption | (rw [hanc]; rfl)))) | ((first | refine K_regA hE fun K Kp hK hKp => ?_ | refine K_drwA true mixed hE fun K Kp hK hKp anc hanc => ?_ | refine K_drwA false mixed hE fun K Kp hK hKp anc hanc => ?_); simp only [go_sem]) | ((first | refine onG_split_t (fun hg => ?_) (fun hg => ?_) | refine onG_split_f (fun hg => ?_) (fun hg => ?_)) <;> simp only [go_sem, hg]) | (refine K_condA (fun hc => ?_) (fun hc => ?_) <;> try (exact absurd hc (by decide))))
 refine K_loop (X := Nat × Nat) (fun x => x.1 ≤ h.arenas.length ∧ x.2 + openN (h.arenas.drop x.1) = openN h.arenas) (fun x => mkSt [(1, .ptr 0 0), (2, .ptr 1 0), (5, AV.i x.2), (11, .sl (bl h.arenas)), (12, .i h.arenas.length), (13, AV.i x.1)] [(0, .cells [.sl (cl h.cells), .sl (bl h.arenas)]), (1, .cells [.nilsl, .nilsl])] 2) (fun x => h.arenas.length - x.1) (0, 0) ⟨Nat.zero_le _, by simp⟩ (fun i => if i = 0 then 0 else 1048576) (by refine ent_mk (by simp [go_sem]) (by simp [go_sem]) (by simp) (by simp [hN])) ?_
 rintro ⟨i, n⟩ ⟨hi, ht⟩
 simp only at hi ht
 by_cases hlt : i < h.arenas.length
 ·obtain ⟨c, hcc⟩ := get?_of hlt
  rw [drop_of hcc, openN] at ht
  cases c
  ·repeat' (first | apply nx | refine Kq_exit_ne (by decide) ?_ | rw [wrap64 (by omega) (by omega)] | ((first | refine hK _ ?_ | refine hKp _ _ ?_); clear hK hKp K Kp; try clear hanc anc) | ((with_reducible refine And.intro ?_ ?_); (focus (first | trivial | omega | (simp only [Fits]; omega) | assumption | (rw [hanc]; rfl)))) | ((first | refine K_regA hE fun K Kp hK hKp => ?_ | refine K_drwA true mixed hE fun K Kp hK hKp anc hanc => ?_ | refine K_drwA false mixed hE fun K Kp hK hKp anc hanc => ?_); simp only [go_sem, lt_dec hlt, hcc]) | ((first | refine onG_split_t (fun hg => ?_) (fun hg => ?_) | refine onG_split_f (fun hg => ?_) (fun hg => ?_)) <;> simp only [go_sem, lt_dec hlt, hcc, hg]) | (refine K_condA (fun hc => ?_) (fun hc => ?_) <;> try (exact absurd hc (by decide))))
   exact ⟨(i + 1, n), ⟨by simp only; omega, by simp only; simpa using ht⟩, by simp only; omega, fun i => i, by refine ent_mk (by simp [go_sem]) (by simp [go_sem]) (by simp) (by simp [hN])⟩
  ·repeat' (first | apply nx | refine Kq_exit_ne (by decide) ?_ | rw [wrap64 (by omega) (by omega)] | ((first | refine hK _ ?_ | refine hKp _ _ ?_); clear hK hKp K Kp; try clear hanc anc) | ((with_reducible refine And.intro ?_ ?_); (focus (first | trivial | omega | (simp only [Fits]; omega) | assumption | (rw [hanc]; rfl)))) | ((first | refine K_regA hE fun K Kp hK hKp => ?_ | refine K_drwA true mixed hE fun K Kp hK hKp anc hanc => ?_ | refine K_drwA false mixed hE fun K Kp hK hKp anc hanc => ?_); simp only [go_sem, lt_dec hlt, hcc]) | ((first | refine onG_split_t (fun hg => ?_) (fun hg => ?_) | refine onG_split_f (fun hg => ?_) (fun hg => ?_)) <;> simp only [go_sem, lt_dec hlt, hcc, hg]) | (refine K_condA (fun hc => ?_) (fun hc => ?_) <;> try (exact absurd hc (by decide))))
   exact ⟨(i + 1, n + 1), ⟨by simp only; omega, by simp only; simp only [if_true] at ht; omega⟩, by simp only; omega, fun i => i, by refine ent_mk (by simp [go_sem]) (by simp [go_sem]) (by simp) (by simp [hN])⟩
 obtain rfl : i = h.arenas.length := by omega
 rw [List.drop_length, openN] at ht
 obtain rfl : n = openN h.arenas := by omega
 by_cases h4 : 400 ≤ openN h.arenas
 ·have q4 : decide ((400 : Int) ≤ (openN h.arenas : Int)) = true := by simp; omega
  rw [openS, if_pos h4] at hQ
  repeat' (first | apply nx | refine Kq_exit_ne (by decide) ?_ | rw [wrap64 (by omega) (by omega)] | ((first | refine hK _ ?_ | refine hKp _ _ ?_); clear hK hKp K Kp; try clear hanc anc) | ((with_reducible refine And.intro ?_ ?_); (focus (first | trivial | omega | (simp only [Fits]; omega) | assumption | (rw [hanc]; rfl)))) | ((first | refine K_regA hE fun K Kp hK hKp => ?_ | refine K_drwA true mixed hE fun K Kp hK hKp anc hanc => ?_ | refine K_drwA false mixed hE fun K Kp hK hKp anc hanc => ?_); simp only [go_sem, ge_dec, q4]) | ((first | refine onG_split_t (fun hg => ?_) (fun hg => ?_) | refine onG_split_f (fun hg => ?_) (fun hg => ?_)) <;> simp only [go_sem, ge_dec, q4, hg]) | (refine K_condA (fun hc => ?_) (fun hc => ?_) <;> try (exact absurd hc (by decide))))
  refine K_ret (hQ _ ⟨.tup [.agg [.nilsl, .nilsl], .i 0, .i 19], (by simp [resA, rvA, Try.f24, go_sem]; rfl), (by simp [AV.snapOk, AV.snapOkL, go_sem]), (by rfl), (by first | rfl | simp [AV.clo, AV.cloL, go_sem])⟩).1
 have q4 : decide ((400 : Int) ≤ (openN h.arenas : Int)) = false := by simp; omega
 rw [openS, if_neg h4] at hQ
 by_cases hf : firstF h.arenas < h.arenas.length
 ·rw [if_pos hf] at hix
  have q5 : decide ((firstF h.arenas : Int) < 0) = false := by simp
  have hput1 : h.arenas.set (firstF h.arenas) true = putB h.arenas (firstF h.arenas) := by
   rw [putB, if_neg (by omega)]
  obtain ⟨x, hx⟩ := get?_of hf
  repeat' (first | apply nx | refine Kq_exit_ne (by decide) ?_ | rw [wrap64 (by omega) (by omega)] | ((first | refine hK _ ?_ | refine hKp _ _ ?_); clear hK hKp K Kp; try clear hanc anc) | ((with_reducible refine And.intro ?_ ?_); (focus (first | trivial | omega | (simp only [Fits]; omega) | assumption | (rw [hanc]; rfl)))) | ((first | refine K_regA hE fun K Kp hK hKp => ?_ | refine K_drwA true mixed hE fun K Kp hK hKp anc hanc => ?_ | refine K_drwA false mixed hE fun K Kp hK hKp anc hanc => ?_); simp only [go_sem, ge_dec, q4]) | ((first | refine onG_split_t (fun hg => ?_) (fun hg => ?_) | refine onG_split_f (fun hg => ?_) (fun hg => ?_)) <;> simp only [go_sem, ge_dec, q4, hg]) | (refine K_condA (fun hc => ?_) (fun hc => ?_) <;> try (exact absurd hc (by decide))))
  refine Hold.mk (CallB.newRows hcp (by simp [AV.cloL, AV.clo]) (cl_clo _) (bl_clo _) ?_)
  simp only [go_sem]
  repeat' (first | apply nx | refine Kq_exit_ne (by decide) ?_ | rw [wrap64 (by omega) (by omega)] | ((first | refine hK _ ?_ | refine hKp _ _ ?_); clear hK hKp K Kp; try clear hanc anc) | ((with_reducible refine And.intro ?_ ?_); (focus (first | trivial | omega | (simp only [Fits]; omega) | assumption | (rw [hanc]; rfl)))) | ((first | refine K_regA hE fun K Kp hK hKp => ?_ | refine K_drwA true mixed hE fun K Kp hK hKp anc hanc => ?_ | refine K_drwA false mixed hE fun K Kp hK hKp anc hanc => ?_ | ((first | apply CallP_mk | apply CallB_mk); (focus (simp only [go_sem] <;> rfl)); (focus (exact hix)); (focus (first | (simp [go_sem]; done) | (simp [go_sem, CloRow, AV.cells, AV.clo]; done))); (focus (first | exact .inl rfl | (right; simp [go_sem]))))); simp only [go_sem, q5, hx]) | ((first | refine onG_split_t (fun hg => ?_) (fun hg => ?_) | refine onG_split_f (fun hg => ?_) (fun hg => ?_)) <;> simp only [go_sem, q5, hx, hg]) | (refine K_condA (fun hc => ?_) (fun hc => ?_) <;> try (exact absurd hc (by decide))))
  refine K_ret (hQ _ ⟨.tup [.agg [.rw 4194306, .rw 4194307], .i (firstF h.arenas), .i 0], (by simp [resA, rvA, Try.f24, go_sem, hput1, resH, Hp.av_eq]; rfl), (by simp [AV.snapOk, AV.snapOkL, go_sem, hput1, resH, Hp.av_eq]), (by simp [AV.snap, AV.snapL, go_sem, hput1, resH, Hp.av_eq]), (by first | rfl | simp [AV.clo, AV.cloL, go_sem, hput1, resH, Hp.av_eq])⟩).1
 ·rw [if_neg hf] at hix
  have hf2 : firstF h.arenas = h.arenas.length := by omega
  have hput1 : bl h.arenas ++ [.bool true] = bl (putB h.arenas (firstF h.arenas)) := by
   rw [putB, if_pos (by omega)]; simp [bl]
  have a1 := app_get (bl_len h.arenas)
  have a2 := app_set (bl_len h.arenas)
  repeat' (first | apply nx | refine Kq_exit_ne (by decide) ?_ | rw [wrap64 (by omega) (by omega)] | ((first | refine hK _ ?_ | refine hKp _ _ ?_); clear hK hKp K Kp; try clear hanc anc) | ((with_reducible refine And.intro ?_ ?_); (focus (first | trivial | omega | (simp only [Fits]; omega) | assumption | (rw [hanc]; rfl)))) | ((first | refine K_regA hE fun K Kp hK hKp => ?_ | refine K_drwA true mixed hE fun K Kp hK hKp anc hanc => ?_ | refine K_drwA false mixed hE fun K Kp hK hKp anc hanc => ?_); simp only [go_sem, ge_dec, q4]) | ((first | refine onG_split_t (fun hg => ?_) (fun hg => ?_) | refine onG_split_f (fun hg => ?_) (fun hg => ?_)) <;> simp only [go_sem, ge_dec, q4, hg]) | (refine K_condA (fun hc => ?_) (fun hc => ?_) <;> try (exact absurd hc (by decide))))
  refine Hold.mk (CallB.newRows hcp (by simp [AV.cloL, AV.clo]) (cl_clo _) (bl_clo _) ?_)
  simp only [go_sem]
  repeat' (first | apply nx | refine Kq_exit_ne (by decide) ?_ | rw [wrap64 (by omega) (by omega)] | ((first | refine hK _ ?_ | refine hKp _ _ ?_); clear hK hKp K Kp; try clear hanc anc) | ((with_reducible refine And.intro ?_ ?_); (focus (first | trivial | omega | (simp only [Fits]; omega) | assumption | (rw [hanc]; rfl)))) | ((first | refine K_regA hE fun K Kp hK hKp => ?_ | refine K_drwA true mixed hE fun K Kp hK hKp anc hanc => ?_ | refine K_drwA false mixed hE fun K Kp hK hKp anc hanc => ?_ | ((first | apply CallP_mk | apply CallB_mk); (focus (simp only [go_sem] <;> rfl)); (focus (exact hix)); (focus (first | (simp [go_sem]; done) | (simp [go_sem, CloRow, AV.cells, AV.clo]; done))); (focus (first | exact .inl rfl | (right; simp [go_sem]))))); simp only [go_sem, a1, a2]) | ((first | refine onG_split_t (fun hg => ?_) (fun hg => ?_) | refine onG_split_f (fun hg => ?_) (fun hg => ?_)) <;> simp only [go_sem, a1, a2, hg]) | (refine K_condA (fun hc => ?_) (fun hc => ?_) <;> try (exact absurd hc (by decide))))
  refine K_ret (hQ _ ⟨.tup [.agg [.rw 4194306, .rw 20971522], .i h.arenas.length, .i 0], (by simp [resA, rvA, Try.f24, go_sem, hput1, resH, hf2, Hp.av_eq]; rfl), (by simp [AV.snapOk, AV.snapOkL, go_sem, hput1, resH, hf2, Hp.av_eq]), (by simp [AV.snap, AV.snapL, go_sem, hput1, resH, hf2, Hp.av_eq]), (by first | rfl | simp [AV.clo, AV.cloL, go_sem, hput1, resH, hf2, Hp.av_eq])⟩).1
end Go.Proofs.Ytdgmjbgjahmoaaa

set_option maxHeartbeats 4000000
set_option maxRecDepth 100000
namespace Go.Proofs.Ytdgmjbgjahmoaaa
open Go.Am Go.Proofs Go.Hv
open Classical
attribute [local irreducible] AW CallP CallB CallY
theorem liveF_nc (h : Hp) : ACall Try.prog 40 [h.av] (fun _ => none) 0 0 (fun r hp' => r = .fn (.func 53) [] [.ptr 0 0] ∧ hp' = mkHp [(0, .cells h.cs)]) (fun _ _ => False) := by
 rw [Hp.av_eq]
 refine ACall.of_bodyR Try.func40 isf40 rfl (by simp [Try.f40]) fun E Q hE hN hQ hQp => K_start ?_
 repeat' (first | apply nx | refine Kq_exit_ne (by decide) ?_ | rw [wrap64 (by omega) (by omega)] | ((first | refine hK _ ?_ | refine hKp _ _ ?_); clear hK hKp K Kp; try clear hanc anc) | ((with_reducible refine And.intro ?_ ?_); (focus (first | trivial | omega | (simp only [Fits]; omega) | assumption | (rw [hanc]; rfl)))) | ((first | refine K_regA hE fun K Kp hK hKp => ?_ | refine K_drwA true mixed hE fun K Kp hK hKp anc hanc => ?_ | refine K_drwA false mixed hE fun K Kp hK hKp anc hanc => ?_); simp only [go_sem]) | ((first | refine onG_split_t (fun hg => ?_) (fun hg => ?_) | refine onG_split_f (fun hg => ?_) (fun hg => ?_)) <;> simp only [go_sem, hg]) | (refine K_condA (fun hc => ?_) (fun hc => ?_) <;> try (exact absurd hc (by decide))))
 refine K_ret (hQ _ ⟨.fn (.func 53) [] [.ptr 0 0], fun i => i, _, 1, resA_tmp (by simp only [go_sem, Hp.cs]), (by simp [AV.ids, AV.idsL]), ?_, rfl, rfl⟩).1
 show Ent _ _ _ (mkSt [] [(0, .cells h.cs)] 1)
 refine ent_mk (by simp [go_sem, Hp.cs]) (by simp [go_sem, Hp.cs]) (by simp) (by simp [hN])
theorem live_run (h : Hp) (hl : h.cells.length ≤ 2 ^ 20) (l : Nat) {S : Type} (objs : S → Nat → Option AObj) (np b : Nat) (hb : b < np) (hn1 : np ≤ 1000000) (hbo : ∀ s, objs s b = some (.cells h.cs))
    (hob : ∀ s id o, objs s id = some o → id < 1000000 ∧ o.ids (· < 1000000)) (hnp : ∀ s id, id < np → objs s id ≠ none) (Inv : Nat → S → Prop) (IP : AV → S → Prop) (hIP : ∀ x s, IP x s → x.clo = true)
    (hround : ∀ i c s, Inv i s → h.cells[i]? = some c → c.live = true → YCall Try.prog l [.i i, .agg c.cs] (objs s) 1000000 np (fun r hp' => r = .bool true ∧ ∃ s', Inv (i + 1) s' ∧ hp' = objs s') (fun x hp' => ∃ s', IP x s' ∧ hp' = objs s'))
    (hdead : ∀ i c s, Inv i s → h.cells[i]? = some c → c.live = false → Inv (i + 1) s) (s : S) (h0 : Inv 0 s) :
    ACall Try.prog 53 [.fn (.yield l) [] [], .ptr b 0] (objs s) 1000000 np (fun r hp' => r = .tup [] ∧ ∃ s', Inv h.cells.length s' ∧ hp' = objs s') (fun x hp' => ∃ s', IP x s' ∧ hp' = objs s') := by
  have hb2 : b < 1000000 := by omega
  refine ACall.of_bodyR Try.func53 isf53 rfl (by simp [Try.f53]) fun E Q hE hN hQ hQp => K_start ?_
  have hbs := hbo s
  unfold Hp.cs at hbs
  repeat' (first | apply nx | refine Kq_exit_ne (by decide) ?_ | rw [wrap64 (by omega) (by omega)] | ((first | refine hK _ ?_ | refine hKp _ _ ?_); clear hK hKp K Kp; try clear hanc anc) | ((with_reducible refine And.intro ?_ ?_); (focus (first | trivial | omega | (simp only [Fits]; omega) | assumption | (rw [hanc]; rfl)))) | ((first | refine K_regA hE fun K Kp hK hKp => ?_ | refine K_drwA true mixed hE fun K Kp hK hKp anc hanc => ?_ | refine K_drwA false mixed hE fun K Kp hK hKp anc hanc => ?_); simp only [go_sem, hbs]) | ((first | refine onG_split_t (fun hg => ?_) (fun hg => ?_) | refine onG_split_f (fun hg => ?_) (fun hg => ?_)) <;> simp only [go_sem, hbs, hg]) | (refine K_condA (fun hc => ?_) (fun hc => ?_) <;> try (exact absurd hc (by decide))))
  refine K_loop (X := Nat × S) (fun x => x.1 ≤ h.cells.length ∧ Inv x.1 x.2) (fun x => ⟨mkFr [(0, .fn (.yield l) [] []), (1, .ptr b 0), (6, .sl (cl h.cells)), (7, .i h.cells.length), (8, .i x.1)], objs x.2, 1000000⟩) (fun x => h.cells.length - x.1) (0, s) ⟨Nat.zero_le _, h0⟩ (fun i => i) ?_ ?_
  · exact ent_idG (by simp [go_sem, hb2]) (fun id o ho => ⟨ho, hob s id o ho⟩) (by rw [hN]; exact hn1)
  rintro ⟨i, s⟩ ⟨hi, hinv⟩
  simp only at hi hinv
  by_cases hlt : i < h.cells.length
  · obtain ⟨c, hcc⟩ := get?_of hlt
    cases hv : c.live
    · repeat' (first | apply nx | refine Kq_exit_ne (by decide) ?_ | rw [wrap64 (by omega) (by omega)] | ((first | refine hK _ ?_ | refine hKp _ _ ?_); clear hK hKp K Kp; try clear hanc anc) | ((with_reducible refine And.intro ?_ ?_); (focus (first | trivial | omega | (simp only [Fits]; omega) | assumption | (rw [hanc]; rfl)))) | ((first | refine K_regA hE fun K Kp hK hKp => ?_ | refine K_drwA true mixed hE fun K Kp hK hKp anc hanc => ?_ | refine K_drwA false mixed hE fun K Kp hK hKp anc hanc => ?_); simp only [go_sem, lt_dec hlt, hcc, Cl.av, Cl.cs_eq, hv]) | ((first | refine onG_split_t (fun hg => ?_) (fun hg => ?_) | refine onG_split_f (fun hg => ?_) (fun hg => ?_)) <;> simp only [go_sem, lt_dec hlt, hcc, Cl.av, Cl.cs_eq, hv, hg]) | (refine K_condA (fun hc => ?_) (fun hc => ?_) <;> try (exact absurd hc (by decide))))
      refine ⟨(i + 1, s), ⟨by simp only; omega, hdead i c s hinv hcc hv⟩, by simp only; omega, fun i => i, ent_idG (by simp [go_sem, hb2]) (fun id o ho => ⟨?_, hob s id o ho⟩) (by rw [hN]; exact hn1)⟩
      have := (hob s id o ho).1
      simp only [updo]
      rw [if_neg (by omega)]
      first | exact ho | (rw [if_neg (by omega)]; exact ho)
    · repeat' (first | apply nx | refine Kq_exit_ne (by decide) ?_ | rw [wrap64 (by omega) (by omega)] | ((first | refine hK _ ?_ | refine hKp _ _ ?_); clear hK hKp K Kp; try clear hanc anc) | ((with_reducible refine And.intro ?_ ?_); (focus (first | trivial | omega | (simp only [Fits]; omega) | assumption | (rw [hanc]; rfl)))) | ((first | refine K_regA hE fun K Kp hK hKp => ?_ | refine K_drwA true mixed hE fun K Kp hK hKp anc hanc => ?_ | refine K_drwA false mixed hE fun K Kp hK hKp anc hanc => ?_); simp only [go_sem, lt_dec hlt, hcc, Cl.av, Cl.cs_eq, hv]) | ((first | refine onG_split_t (fun hg => ?_) (fun hg => ?_) | refine onG_split_f (fun hg => ?_) (fun hg => ?_)) <;> simp only [go_sem, lt_dec hlt, hcc, Cl.av, Cl.cs_eq, hv, hg]) | (refine K_condA (fun hc => ?_) (fun hc => ?_) <;> try (exact absurd hc (by decide))))
      have hc1 := hround i c s hinv hcc hv
      rw [Cl.cs_eq, hv] at hc1
      refine Hold.mk (CallY.use hc1 (fun i => i) (by rw [renL_id]) (by simp [AV.ids, AV.idsL, go_sem]) (fun id o ho => ?_) (fun id id' o o' _ _ e => e) (fun id hid => ⟨by omega, hnp s id hid⟩) ?_ ?_ ?_ ?_)
      · rw [oren_id]
        have := hob s id o ho
        refine ⟨?_, this⟩
        simp only [updo]
        rw [if_neg (by omega)]
        first | exact ho | (rw [if_neg (by omega)]; exact ho)
      · rintro r hp' ⟨rfl, s', hi', rfl⟩
        refine ⟨trivial, fun id o ho => ⟨by have := (hob s' id o ho).1; omega, ?_⟩⟩
        exact objids_mono _ (fun j hj => by omega) (hob s' id o ho).2
      · rintro x hp' ⟨s', hx, rfl⟩
        refine ⟨clo_ids (hIP x s' hx), fun id o ho => ⟨by have := (hob s' id o ho).1; omega, ?_⟩⟩
        exact objids_mono _ (fun j hj => by omega) (hob s' id o ho).2
      · rintro r hp' fr' hpn ⟨rfl, s', hi', rfl⟩ hfr hobj _
        simp only [St.put, AV.ren, putf] at hfr
        clear hQ hQp
        subst hfr
        simp only [go_sem]
        refine hK _ ?_
        repeat' (first | apply nx | refine Kq_exit_ne (by decide) ?_ | rw [wrap64 (by omega) (by omega)] | ((first | refine hK _ ?_ | refine hKp _ _ ?_); clear hK hKp K Kp; try clear hanc anc) | ((with_reducible refine And.intro ?_ ?_); (focus (first | trivial | omega | (simp only [Fits]; omega) | assumption | (rw [hanc]; rfl)))) | ((first | refine K_regA hE fun K Kp hK hKp => ?_ | refine K_drwA true mixed hE fun K Kp hK hKp anc hanc => ?_ | refine K_drwA false mixed hE fun K Kp hK hKp anc hanc => ?_); simp only [go_sem]) | ((first | refine onG_split_t (fun hg => ?_) (fun hg => ?_) | refine onG_split_f (fun hg => ?_) (fun hg => ?_)) <;> simp only [go_sem, hg]) | (refine K_condA (fun hc => ?_) (fun hc => ?_) <;> try (exact absurd hc (by decide))))
        have hbb : backM (fun i => i) np (8340032 + 1048576 * 6) b = b := backM_lt hb
        refine ⟨(i + 1, s'), ⟨by simp only; omega, hi'⟩, by simp only; omega, _, ent_gen (m := backM (fun i => i) np (8340032 + 1048576 * 6)) (by simp [go_sem, hb2, hbb]) (fun id o ho => ⟨hobj id o ho, hob s' id o ho⟩) (fun id id' o o' _ _ e => backM_id_inj (by omega) e) (fun id hid => ?_)⟩
        rw [hN] at hid
        exact ⟨backM_lt hid, by omega⟩
      · rintro x hp' hpn ⟨s', hx, rfl⟩ hobj _
        refine hKp _ _ (hQp _ _ ⟨x, _, _, 1000000, rfl, clo_ids (hIP x s' hx), ?_, s', hx, rfl⟩)
        refine ent_gen (fr := []) (by simp) (fun id o ho => ⟨hobj id o ho, hob s' id o ho⟩) (fun id id' o o' _ _ e => backM_id_inj (by omega) e) (fun id hid => ⟨backM_lt hid, by omega⟩)
  · obtain rfl : i = h.cells.length := by omega
    repeat' (first | apply nx | refine Kq_exit_ne (by decide) ?_ | rw [wrap64 (by omega) (by omega)] | ((first | refine hK _ ?_ | refine hKp _ _ ?_); clear hK hKp K Kp; try clear hanc anc) | ((with_reducible refine And.intro ?_ ?_); (focus (first | trivial | omega | (simp only [Fits]; omega) | assumption | (rw [hanc]; rfl)))) | ((first | refine K_regA hE fun K Kp hK hKp => ?_ | refine K_drwA true mixed hE fun K Kp hK hKp anc hanc => ?_ | refine K_drwA false mixed hE fun K Kp hK hKp anc hanc => ?_); simp only [go_sem, ge_dec]) | ((first | refine onG_split_t (fun hg => ?_) (fun hg => ?_) | refine onG_split_f (fun hg => ?_) (fun hg => ?_)) <;> simp only [go_sem, ge_dec, hg]) | (refine K_condA (fun hc => ?_) (fun hc => ?_) <;> try (exact absurd hc (by decide))))
    refine Kq_norm_nil ?_
    refine (hQ _ ⟨.tup [], fun i => i, objs s, 1000000, rfl, trivial, ?_, rfl, s, hinv, rfl⟩).2
    exact ent_idG (fr := []) (by simp) (fun id o ho => ⟨ho, hob s id o ho⟩) hn1

theorem objren_cong {p : Nat → Prop} {m m' : Nat → Nat} (h : ∀ i, p i → m i = m' i) {o : AObj} (ho : o.ids p) : o.ren m = o.ren m' := by
 cases o with
 | cells l => simp only [AObj.ren, renL_cong h (l := l) ho]
 | row sz l => simp only [AObj.ren, renL_cong h (l := l) ho]
 | map es => simp only [AObj.ren]; congr 1; exact List.map_congr_left fun z hz => by rw [ren_cong h (ho z hz).1, ren_cong h (ho z hz).2]
 | lp q l => simp only [AObj.ren, renL_cong h (l := l) ho]
theorem idsL_mem {p : Nat → Prop} : ∀ {l : List AV}, AV.idsL p l → ∀ x, x ∈ l → x.ids p
 | y :: l, h, x, hx => by
  rcases List.mem_cons.1 hx with rfl | hx
  ·exact h.1
  ·exact idsL_mem h.2 x hx
def RoundGoal (E' : En) (q : Lp) (N : Nat) (vals vs : List AV) (Q' : AEx → St → Prop) (hp : Nat → Option AObj) : Prop :=
 AW Try.prog E' q.assign (fun e σ' => match e with | .norm => ∃ fr', σ'.hp N = some (.lp q fr') ∧ AW Try.prog E' q.body Q' ⟨σ'.fr, updo σ'.hp N (some (.lp { q with st := .busy } fr')), σ'.nx⟩ | _ => False) ⟨roundFr q vals vs, updo hp N (some (.lp q vals)), 1000000⟩
theorem AW_live {E : En} {Q : AEx → St → Prop} {g : Nat} {ps : Array Tmp} {assign body : Code} (hM : E.rd = none ∧ E.mks = true ∧ E.ex = true) {S : Type} (h : Hp) (hl : h.cells.length ≤ 2 ^ 20) (objs : S → Nat → Option AObj) (N B : Nat) (hB : B < N) (hN : N ≤ 900000) (hEN : E.np ≤ N)
    (hbo : ∀ s, objs s B = some (.cells h.cs)) (hob : ∀ s id o, objs s id = some o → (id < 1000000 ∧ id ≠ N) ∧ o.ids (fun j => j < 1000000 ∧ j ≠ N)) (hnp : ∀ s id, id < N → objs s id ≠ none)
    (fr : List (Nat × AV)) (hfr : ∀ p, p ∈ fr → p.2.ids (· < N)) (hfr0 : ∀ p, p ∈ fr → mkFr fr p.1 = some p.2) (hg : mkFr fr g = some (.fn (.func 53) [] [.ptr B 0])) (ts : List Nat) (vals : List AV) (hts : ∀ i, i < vals.length → mkFr fr (ts.getD i 0) = some (vals.getD i default)) (hvals : AV.idsL (· < N) vals)
    (hps : ps.size = 2) (hps2 : ∀ p, p ∈ ps.toList → p < E.nt) (Inv : Nat → S → Prop) (IP : AV → S → Prop) (hIP : ∀ x s, IP x s → x.clo = true)
    (hround : ∀ l fnn i c s E' Q', Inv i s → h.cells[i]? = some c → c.live = true → E'.nt = E.nt → E'.np = N + 1 →
      (∀ σ s' m, Inv (i + 1) s' → Ent (N + 1) m σ ⟨mkFr [], updo (objs s') N (some (.lp ⟨l, fnn, ps, assign, body, E.nt, ts, .busy, none⟩ vals)), 1000000⟩ → Q' .norm σ) →
      (∀ x σ s' m, IP x s' → Ent (N + 1) m σ ⟨mkFr [], updo (objs s') N (some (.lp ⟨l, fnn, ps, assign, body, E.nt, ts, .busy, none⟩ vals)), 1000000⟩ → Q' (.pan x) σ) →
      RoundGoal E' ⟨l, fnn, ps, assign, body, E.nt, ts, .ready, none⟩ N vals [.i i, .agg c.cs] Q' (objs s))
    (hdead : ∀ i c s, Inv i s → h.cells[i]? = some c → c.live = false → Inv (i + 1) s) (s0 : S) (h0 : Inv 0 s0)
    (hfin : ∀ σ s' m, Inv h.cells.length s' → Ent E.np m σ ⟨mkFr fr, objs s', 1000000⟩ → Q .norm σ)
    (hpan : ∀ x σ s' m, IP x s' → Ent E.np m σ ⟨mkFr [], objs s', 1000000⟩ → Q (.pan x) σ) :
    AW Try.prog E (.rangeFunc (.tmp g) ps assign body) Q ⟨mkFr fr, objs s0, 1000000⟩ := by
  refine AW_range hM (gf := 53) (first := []) (cap := [.ptr B 0]) hg ts vals hts fun l fnn hfnn => ?_
  have hvr : ∀ m : Nat → Nat, (∀ j, j < N → m j = j) → AV.renL m vals = vals := fun m hm => by
    have := renL_cong (m := m) (m' := fun i => i) hm hvals
    rw [this, renL_id]
  generalize hq : (⟨l, fnn, ps, assign, body, E.nt, ts, .ready, none⟩ : Lp) = q at *
  let qb : Bool → Lp := fun b => { q with st := if b then .busy else .ready }
  have hq0 : qb false = q := by subst hq; rfl
  let objs' : S × Bool → Nat → Option AObj := fun p => updo (objs p.1) N (some (.lp (qb p.2) vals))
  have hat : ∀ p, objs' p N = some (.lp (qb p.2) vals) := fun p => by simp [objs', updo]
  have hoth : ∀ p id, id ≠ N → objs' p id = objs p.1 id := fun p id hid => by simp [objs', updo, hid]
  have hvid : AV.idsL (· < 1000000) vals := idsL_imp (fun i hi => by omega) hvals
  have hob' : ∀ p id o, objs' p id = some o → id < 1000000 ∧ o.ids (· < 1000000) := by
    intro p id o ho
    by_cases e : id = N
    · subst e; rw [hat] at ho; cases ho; exact ⟨by omega, hvid⟩
    · rw [hoth p id e] at ho; have := hob _ _ _ ho; exact ⟨this.1.1, objids_mono _ (fun j hj => hj.1) this.2⟩
  have hrun := live_run h hl l objs' (N + 1) B (by omega) (by omega) (fun p => by rw [hoth p B (by omega)]; exact hbo _) hob'
    (fun p id hid => by
      by_cases e : id = N
      · subst e; rw [hat]; simp
      · rw [hoth p id e]; exact hnp _ _ (by omega))
    (fun i p => Inv i p.1 ∧ p.2 = false) (fun x p => IP x p.1 ∧ p.2 = true) (fun x p hx => hIP x p.1 hx.1) ?_ (fun i c p hi hc hv => ⟨hdead i c p.1 hi.1 hc hv, hi.2⟩) (s0, false) ⟨h0, rfl⟩
  rotate_left
  · rintro i c ⟨s, b⟩ ⟨hinv, hb⟩ hcc hv
    simp only at hinv hb
    subst hb
    have hql : q.l = l := by subst hq; rfl
    rw [← hql]
    refine YCall.of_roundR (q := q) (frv := vals) N (by subst hq; exact hfnn) (by rw [hat, hq0]) (by omega) (by subst hq; rfl) (by subst hq; simp [hps]) (by subst hq; exact hps2) fun E' Q' k1 k2 k3 k4 k5 => ?_
    have hg := hround l fnn i c s E' Q' hinv hcc hv (by subst hq; exact k1) k2 ?_ ?_
    · rw [hq] at hg
      refine AW.mono (Q := fun e σ' => match e with | .norm => ∃ fr', σ'.hp N = some (.lp q fr') ∧ AW Try.prog E' q.body Q' ⟨σ'.fr, updo σ'.hp N (some (.lp { q with st := .busy } fr')), σ'.nx⟩ | _ => False) ?_ ?_
      · have e : objs' (s, false) = updo (objs s) N (some (.lp q vals)) := by simp only [objs']; rw [hq0]
        rw [e]
        exact hg
      · intro e σ hh
        cases e with
        | norm => exact hh
        | _ => exact hh.elim
    · intro σ s' m hi' he
      have hqb : (⟨l, fnn, ps, assign, body, E.nt, ts, .busy, none⟩ : Lp) = { q with st := .busy } := by subst hq; rfl
      rw [hqb] at he
      obtain ⟨_, e2, e3, e4⟩ := he
      have hmN : m N = N := (e4 N (by omega)).1
      have hmv : AV.renL m vals = vals := hvr m fun j hj => (e4 j (by omega)).1
      have hN' : updo (objs s') N (some (.lp { q with st := .busy } vals)) N = some (.lp { q with st := .busy } vals) := by simp [updo]
      have hσN := (e2 N _ hN').1
      rw [hmN] at hσN
      simp only [AObj.ren, hmv] at hσN
      refine k4 σ vals hσN ⟨m, objs' (s', false), 1000000, ⟨(fun t x hx => by cases hx), ?_, ?_, ?_⟩, rfl, (s', false), ⟨hi', rfl⟩, rfl⟩
      · intro id o ho
        replace ho : objs' (s', false) id = some o := ho
        refine ⟨?_, hob' _ _ _ ho⟩
        show updo σ.hp N (some (.lp { q with st := .ready, pend := none } vals)) (m id) = some (o.ren m)
        by_cases e : id = N
        · subst e
          rw [hat, hq0] at ho
          cases ho
          rw [hmN]
          simp only [updo, if_true, AObj.ren, hmv]
          subst hq; rfl
        · rw [hoth _ id e] at ho
          have hx : updo (objs s') N (some (.lp { q with st := .busy } vals)) id = some o := by simp only [updo, if_neg e]; exact ho
          have hne : m id ≠ N := fun hh => e (e3 id N _ _ hx hN' (by rw [hh, hmN]))
          simp only [updo, if_neg hne]
          exact (e2 id o hx).1
      · intro id id' o o' h1 h2 hh
        have c1 : ∀ id o, objs' (s', false) id = some o → ∃ o, updo (objs s') N (some (.lp { q with st := .busy } vals)) id = some o := by
          intro id o ho
          by_cases e : id = N
          · subst e; exact ⟨_, hN'⟩
          · rw [hoth _ id e] at ho; exact ⟨o, by simp only [updo, if_neg e]; exact ho⟩
        replace h1 : objs' (s', false) id = some o := h1
        replace h2 : objs' (s', false) id' = some o' := h2
        obtain ⟨o1, g1⟩ := c1 id o h1
        obtain ⟨o2, g2⟩ := c1 id' o' h2
        exact e3 id id' o1 o2 g1 g2 hh
      · exact fun id hid => ⟨(e4 id hid).1, by show id < 1000000; omega⟩
    · intro x σ s' m hx he
      have hqb : (⟨l, fnn, ps, assign, body, E.nt, ts, .busy, none⟩ : Lp) = { q with st := .busy } := by subst hq; rfl
      rw [hqb] at he
      refine k5 x σ ⟨x, m, _, 1000000, (clo_ren (hIP x s' hx)).symm, clo_ids (hIP x s' hx), he, (s', true), ⟨hx, rfl⟩, rfl⟩
  let m : Nat → Nat := fun j => if j = N then 1000000 else j
  have hmN : m N = 1000000 := if_pos rfl
  have hmj : ∀ j, j ≠ N → m j = j := fun j hj => if_neg hj
  have hmv : AV.renL m vals = vals := hvr m fun j hj => hmj j (by omega)
  have hM' : ∀ j, j < N + 1 → j ≠ N → backM m (N + 1) (1000000 + 1 + 1048576 * 0) j = j := fun j h1 h2 => by rw [backM_lt h1, hmj j h2]
  have hent : ∀ (s' : S) (fr' : Nat → Option AV) (hpn : Nat → Option AObj) (n' : Nat) (fr2 : List (Nat × AV)), (∀ p, p ∈ fr2 → p.2.ids (· < N)) → (∀ p, p ∈ fr2 → fr' p.1 = some p.2) →
      (∀ j o, objs s' j = some o → hpn (backM m (N + 1) (1000000 + 1 + 1048576 * 0) j) = some (o.ren (backM m (N + 1) (1000000 + 1 + 1048576 * 0)))) → Ent E.np (backM m (N + 1) (1000000 + 1 + 1048576 * 0)) ⟨fr', updo hpn 1000000 none, n'⟩ ⟨mkFr fr2, objs s', 1000000⟩ := by
    intro s' fr' hpn n' fr2 hid hfr' hob2
    have hlt : ∀ id o, objs s' id = some o → backM m (N + 1) (1000000 + 1 + 1048576 * 0) id ≠ 1000000 := by
      intro id o ho
      have := (hob _ _ _ ho).1
      by_cases e : id < N + 1
      · rw [hM' id e this.2]; omega
      · rw [backM_ge (by omega)]; omega
    refine ent_gen (fun p hp => ⟨?_, ids_imp (fun i hi => by omega) (hid p hp)⟩) (fun id o ho => ⟨?_, (hob _ _ _ ho).1.1, objids_mono _ (fun j hj => hj.1) (hob _ _ _ ho).2⟩) (fun id id' o o' h1 h2 hh => ?_) (fun id hid => ⟨hM' id (by omega) (by omega), by omega⟩)
    · rw [ren_cong (m' := fun i => i) (fun j hj => hM' j (by omega) (by omega)) (hid p hp), ren_id]
      exact hfr' p hp
    · simp only [updo, if_neg (hlt id o ho)]
      exact hob2 id o ho
    · have g1 := (hob _ _ _ h1).1
      have g2 := (hob _ _ _ h2).1
      by_cases e1 : id < N + 1 <;> by_cases e2 : id' < N + 1
      · rw [hM' id e1 g1.2, hM' id' e2 g2.2] at hh; exact hh
      · rw [hM' id e1 g1.2, backM_ge (by omega)] at hh; omega
      · rw [hM' id' e2 g2.2, backM_ge (by omega)] at hh; omega
      · rw [backM_ge (by omega), backM_ge (by omega)] at hh; omega
  show CallB Try.prog 53 [.fn (.yield l) [] [], .ptr B 0] ⟨mkFr fr, updo (objs s0) 1000000 (some (.lp _ vals)), 1000000 + 1⟩ 0 none _ _
  refine CallB.use hrun m ?_ ?_ ?_ ?_ ?_ ?_ ?_ ?_ ?_
  · simp only [AV.renL, AV.ren, hmj B (by omega)]
  · simp only [AV.idsL, AV.ids]; exact ⟨⟨trivial, trivial⟩, by omega, trivial⟩
  · intro id o ho
    refine ⟨?_, hob' _ _ _ ho⟩
    by_cases e : id = N
    · subst e
      rw [hat, hq0] at ho
      cases ho
      rw [hmN]
      simp only [updo, if_true, AObj.ren, hmv]
    · rw [hoth _ id e] at ho
      have g1 := hob _ _ _ ho
      rw [hmj id e, objren_cong (m' := fun i => i) (fun j hj => hmj j hj.2) g1.2, oren_id]
      simp only [updo]
      rw [if_neg (by omega)]
      exact ho
  · intro id id' o o' h1 h2 hh
    have g1 := (hob' _ _ _ h1).1
    have g2 := (hob' _ _ _ h2).1
    by_cases e1 : id = N <;> by_cases e2 : id' = N
    · omega
    · rw [e1, hmN, hmj id' e2] at hh; omega
    · rw [e2, hmN, hmj id e1] at hh; omega
    · rw [hmj id e1, hmj id' e2] at hh; exact hh
  · intro id hid
    refine ⟨by omega, ?_⟩
    by_cases e : id = N
    · subst e; rw [hat]; simp
    · rw [hoth _ id e]; exact hnp _ _ (by omega)
  · rintro r hp' ⟨rfl, s', hi', rfl⟩
    exact ⟨trivial, fun id o ho => ⟨by have := (hob' _ _ _ ho).1; omega, objids_mono _ (fun j hj => by omega) (hob' _ _ _ ho).2⟩⟩
  · rintro r hp' ⟨s', hx, rfl⟩
    exact ⟨clo_ids (hIP _ _ hx.1), fun id o ho => ⟨by have := (hob' _ _ _ ho).1; omega, objids_mono _ (fun j hj => by omega) (hob' _ _ _ ho).2⟩⟩
  · rintro r hp' fr' hpn ⟨rfl, ⟨s', b⟩, ⟨hi', hb⟩, rfl⟩ hfr' hobj hold
    simp only at hi' hb
    subst hb
    have hN1 := hobj N _ (hat _)
    rw [backM_lt (by omega), hmN] at hN1
    refine ⟨.ready, none, AV.renL (backM m (N + 1) (1000000 + 1 + 1048576 * 0)) vals, ?_, by simp, ?_⟩
    rotate_left
    · show Q .norm _
      refine hfin _ s' _ hi' (hent s' fr' hpn _ fr hfr (fun p hp => ?_) (fun j o ho => hobj j o (by rw [hoth _ j (hob _ _ _ ho).1.2]; exact ho)))
      rw [hfr']
      exact hfr0 p hp
    · show hpn 1000000 = _
      rw [hN1]
      subst hq
      rfl
  · rintro x hp' hpn ⟨⟨s', b⟩, ⟨hx, hb⟩, rfl⟩ hobj hold
    simp only at hx hb
    subst hb
    rw [clo_ren (hIP _ _ hx)]
    refine hpan x _ s' (backM m (N + 1) (1000000 + 1 + 1048576 * 0)) hx ?_
    have := hent s' (mkFr fr) hpn 0 [] (by simp) (by simp) (fun j o ho => hobj j o (by rw [hoth _ j (hob _ _ _ ho).1.2]; exact ho))
    refine ⟨(fun t x hx => by cases hx), fun id o ho => ⟨?_, (this.2.1 id o ho).2⟩, this.2.2.1, this.2.2.2⟩
    have g1 := (this.2.1 id o ho).1
    simp only [updo] at g1
    split at g1
    · cases g1
    · exact g1
end Go.Proofs.Ytdgmjbgjahmoaaa

set_option maxHeartbeats 4000000
set_option maxRecDepth 100000
namespace Go.Proofs.Ytdgmjbgjahmoaaa
open Nat (reduceAdd reduceMul reduceEqDiff reduceLT reduceLeDiff reduceSub reduceDiv)
open Int (reduceBNe reduceLE reduceEq)
open Go.Am Go.Proofs Go.Hv
open Classical
attribute [local irreducible] AW CallP CallB CallY
theorem idxC_call (l : List Cl) (hl : l.length ≤ 2 ^ 40) : PCall Try.prog 42 [.sl (cl l), .fn (.func 43) [] []] (.i (if firstDead l < l.length then (firstDead l : Int) else -1)) := by
 have h43 : ∀ c : Cl, PCall Try.prog 43 [.agg c.cs] (.bool (!c.live)) := by
  intro c
  rw [Cl.cs_eq]
  refine PCall.intro Try.func43 rfl isf43 (by simp [Try.f43]) (by simp [AV.cloL, AV.clo]) fun E Q hE hN hQ => K_start ?_
  repeat' (first | apply nx | refine Kq_exit_ne (by decide) ?_ | rw [wrap64 (by omega) (by omega)] | ((first | refine hK _ ?_ | refine hKp _ _ ?_); clear hK hKp K Kp; try clear hanc anc) | ((with_reducible refine And.intro ?_ ?_); (focus (first | trivial | omega | (simp only [Fits]; omega) | assumption | (rw [hanc]; rfl)))) | ((first | refine K_regA hE fun K Kp hK hKp => ?_ | refine K_drwA false mixed hE fun K Kp hK hKp anc hanc => ?_); simp only [go_sem]) | ((first | refine onG_split_t (fun hg => ?_) (fun hg => ?_) | refine onG_split_f (fun hg => ?_) (fun hg => ?_)) <;> simp only [go_sem, hg]) | (refine K_condA (fun hc => ?_) (fun hc => ?_) <;> try (exact absurd hc (by decide))) | (refine K_ret ?_; refine (hQ _ ⟨_, by (try simp only [go_sem, ↓reduceIte, Nat.reduceEqDiff]); rfl, by simp [go_sem], ?_, by first | rfl | assumption⟩).1))
  simp [AV.snap]
 refine PCall.intro Try.func42 rfl isf42 (by simp [Try.f42]) (by simp [AV.cloL, AV.clo]) fun E Q hE hN hQ => K_start ?_
 repeat' (first | apply nx | refine Kq_exit_ne (by decide) ?_ | rw [wrap64 (by omega) (by omega)] | ((first | refine hK _ ?_ | refine hKp _ _ ?_); clear hK hKp K Kp; try clear hanc anc) | ((with_reducible refine And.intro ?_ ?_); (focus (first | trivial | omega | (simp only [Fits]; omega) | assumption | (rw [hanc]; rfl)))) | ((first | refine K_regA hE fun K Kp hK hKp => ?_ | refine K_drwA false mixed hE fun K Kp hK hKp anc hanc => ?_); simp only [go_sem]) | ((first | refine onG_split_t (fun hg => ?_) (fun hg => ?_) | refine onG_split_f (fun hg => ?_) (fun hg => ?_)) <;> simp only [go_sem, hg]) | (refine K_condA (fun hc => ?_) (fun hc => ?_) <;> try (exact absurd hc (by decide))) | (refine K_ret ?_; refine (hQ _ ⟨_, by (try simp only [go_sem, ↓reduceIte, Nat.reduceEqDiff]); rfl, by simp [go_sem], ?_, by first | rfl | assumption⟩).1))
 refine K_loop (X := Nat) (fun i => i ≤ l.length ∧ firstDead l = i + firstDead (l.drop i)) (fun i => mkSt [(0, .sl (cl l)), (1, .fn (.func 43) [] []), (7, .i l.length), (8, AV.i i)] [] 0) (fun i => l.length - i) 0 ⟨Nat.zero_le _, by simp⟩ (fun i => i) (by refine ent_mk (by simp [go_sem]) (by simp [go_sem]) (by simp) (by simp [hN])) ?_
 rintro i ⟨hi, ht⟩
 by_cases hlt : i < l.length
 ·obtain ⟨c, hcc⟩ := get?_of hlt
  rw [drop_of hcc, firstDead] at ht
  have h0 := h43 c
  rw [Cl.cs_eq] at h0
  cases hv : c.live
  ·rw [hv] at h0 ht
   have hf : firstDead l = i := by simpa using ht
   repeat' (first | apply nx | refine Kq_exit_ne (by decide) ?_ | rw [wrap64 (by omega) (by omega)] | ((first | refine hK _ ?_ | refine hKp _ _ ?_); clear hK hKp K Kp; try clear hanc anc) | ((with_reducible refine And.intro ?_ ?_); (focus (first | trivial | omega | (simp only [Fits]; omega) | assumption | (rw [hanc]; rfl)))) | ((first | refine K_regA hE fun K Kp hK hKp => ?_ | refine K_drwA false mixed hE fun K Kp hK hKp anc hanc => ?_ | ((first | apply CallP_mk | apply CallB_mk); (focus (simp only [go_sem] <;> rfl)); (focus (exact h0)); (focus (first | (simp [go_sem]; done) | (simp [go_sem, CloRow, AV.cells, AV.clo]; done))); (focus (first | exact .inl rfl | (right; simp [go_sem]))))); simp only [go_sem, lt_dec hlt, hcc, Cl.av, Cl.cs_eq, hv]) | ((first | refine onG_split_t (fun hg => ?_) (fun hg => ?_) | refine onG_split_f (fun hg => ?_) (fun hg => ?_)) <;> simp only [go_sem, lt_dec hlt, hcc, Cl.av, Cl.cs_eq, hv, hg]) | (refine K_condA (fun hc => ?_) (fun hc => ?_) <;> try (exact absurd hc (by decide))) | (refine K_ret ?_; refine (hQ _ ⟨_, by (try simp only [go_sem, ↓reduceIte, Nat.reduceEqDiff]); rfl, by simp [go_sem], ?_, by first | rfl | assumption⟩).1))
   simp [AV.snap, hf, hlt]
  ·rw [hv] at h0 ht
   repeat' (first | apply nx | refine Kq_exit_ne (by decide) ?_ | rw [wrap64 (by omega) (by omega)] | ((first | refine hK _ ?_ | refine hKp _ _ ?_); clear hK hKp K Kp; try clear hanc anc) | ((with_reducible refine And.intro ?_ ?_); (focus (first | trivial | omega | (simp only [Fits]; omega) | assumption | (rw [hanc]; rfl)))) | ((first | refine K_regA hE fun K Kp hK hKp => ?_ | refine K_drwA false mixed hE fun K Kp hK hKp anc hanc => ?_ | ((first | apply CallP_mk | apply CallB_mk); (focus (simp only [go_sem] <;> rfl)); (focus (exact h0)); (focus (first | (simp [go_sem]; done) | (simp [go_sem, CloRow, AV.cells, AV.clo]; done))); (focus (first | exact .inl rfl | (right; simp [go_sem]))))); simp only [go_sem, lt_dec hlt, hcc, Cl.av, Cl.cs_eq, hv]) | ((first | refine onG_split_t (fun hg => ?_) (fun hg => ?_) | refine onG_split_f (fun hg => ?_) (fun hg => ?_)) <;> simp only [go_sem, lt_dec hlt, hcc, Cl.av, Cl.cs_eq, hv, hg]) | (refine K_condA (fun hc => ?_) (fun hc => ?_) <;> try (exact absurd hc (by decide))) | (refine K_ret ?_; refine (hQ _ ⟨_, by (try simp only [go_sem, ↓reduceIte, Nat.reduceEqDiff]); rfl, by simp [go_sem], ?_, by first | rfl | assumption⟩).1))
   exact ⟨i + 1, ⟨by omega, by simp only [if_true] at ht; omega⟩, by omega, fun i => i, by refine ent_mk (by simp [go_sem]) (by simp [go_sem]) (by simp) (by simp [hN])⟩
 ·obtain rfl : i = l.length := by omega
  rw [List.drop_length, firstDead] at ht
  repeat' (first | apply nx | refine Kq_exit_ne (by decide) ?_ | rw [wrap64 (by omega) (by omega)] | ((first | refine hK _ ?_ | refine hKp _ _ ?_); clear hK hKp K Kp; try clear hanc anc) | ((with_reducible refine And.intro ?_ ?_); (focus (first | trivial | omega | (simp only [Fits]; omega) | assumption | (rw [hanc]; rfl)))) | ((first | refine K_regA hE fun K Kp hK hKp => ?_ | refine K_drwA false mixed hE fun K Kp hK hKp anc hanc => ?_); simp only [go_sem, ge_dec]) | ((first | refine onG_split_t (fun hg => ?_) (fun hg => ?_) | refine onG_split_f (fun hg => ?_) (fun hg => ?_)) <;> simp only [go_sem, ge_dec, hg]) | (refine K_condA (fun hc => ?_) (fun hc => ?_) <;> try (exact absurd hc (by decide))) | (refine K_ret ?_; refine (hQ _ ⟨_, by (try simp only [go_sem, ↓reduceIte, Nat.reduceEqDiff]); rfl, by simp [go_sem], ?_, by first | rfl | assumption⟩).1))
  simp [AV.snap, ht]
abbrev frAl (ar : Int) : List (Nat × AV) := [(1, .i ar), (3, .ptr 0 0), (5, .ptr 1 0), (6, .ptr 2 0), (7, .i 0), (8, .i 0), (9, .ptr 3 0), (14, .fn (.func 53) [] [.ptr 4 0])]
def objAl (h : Hp) (v : Vl) (s : Nat) : Nat → Option AObj := mkHp [(0, .cells h.cs), (1, .cells v.cs), (2, .cells [.nilsl, .nilsl]), (3, .cells [.i s]), (4, .cells h.cs)]
theorem objAl_cases {h : Hp} {v : Vl} {s id : Nat} {o : AObj} (ho : objAl h v s id = some o) : (id < 1000000 ∧ id ≠ 5) ∧ o.ids (fun j => j < 1000000 ∧ j ≠ 5) := by
 simp only [objAl, mkHp, updo] at ho
 repeat' split at ho
 all_goals first | (cases ho; done) | (cases ho; subst_vars; exact ⟨by decide, by simp [AObj.ids, Hp.cs, go_sem, AV.ids, AV.idsL]⟩)
theorem liveN_take {l : List Cl} {i : Nat} {c : Cl} (h : l[i]? = some c) : liveN (l.take (i + 1)) = liveN (l.take i) + if c.live then 1 else 0 := by
 rw [List.take_add_one, h]
 have : ∀ (a b : List Cl), liveN (a ++ b) = liveN a + liveN b := by
  intro a b
  induction a with
  | nil => simp [liveN]
  | cons x a ih => simp only [List.cons_append, liveN, ih]; omega
 rw [this]
 simp [liveN]
def fT11 : Tr := .alt 0 (.alt 1 (.alt 2 (.alt 3 (.alt 4 (.alt 5 (.alt 6 (.alt 7 .leaf .nil) .nil) .nil) (.alt 5 (.alt 4 (.alt 6 (.alt 7 .leaf .nil) .nil) .nil) .nil)) (.alt 5 (.alt 3 (.alt 4 (.alt 6 (.alt 7 .leaf .nil) .nil) .nil) .nil) .nil)) (.alt 5 (.alt 2 (.alt 3 (.alt 4 (.alt 6 (.alt 7 .leaf .nil) .nil) .nil) .nil) .nil) .nil)) (.alt 5 (.alt 1 (.alt 2 (.alt 3 (.alt 4 (.alt 6 (.alt 7 .leaf .nil) .nil) .nil) .nil) .nil) .nil) .nil)) (.alt 1 (.alt 0 (.alt 2 (.alt 3 (.alt 4 (.alt 5 (.alt 6 (.alt 7 .leaf .nil) .nil) .nil) (.alt 5 (.alt 4 (.alt 6 (.alt 7 .leaf .nil) .nil) .nil) .nil)) (.alt 5 (.alt 3 (.alt 4 (.alt 6 (.alt 7 .leaf .nil) .nil) .nil) .nil) .nil)) (.alt 5 (.alt 2 (.alt 3 (.alt 4 (.alt 6 (.alt 7 .leaf .nil) .nil) .nil) .nil) .nil) .nil)) (.alt 2 (.alt 0 (.alt 3 (.alt 4 (.alt 5 (.alt 6 (.alt 7 .leaf .nil) .nil) .nil) (.alt 5 (.alt 4 (.alt 6 (.alt 7 .leaf .nil) .nil) .nil) .nil)) (.alt 5 (.alt 3 (.alt 4 (.alt 6 (.alt 7 .leaf .nil) .nil) .nil) .nil) .nil)) (.alt 3 (.alt 0 (.alt 4 (.alt 5 (.alt 6 (.alt 7 .leaf .nil) .nil) .nil) (.alt 5 (.alt 4 (.alt 6 (.alt 7 .leaf .nil) .nil) .nil) .nil)) (.alt 4 (.alt 0 (.alt 5 (.alt 6 (.alt 7 .leaf .nil) .nil) .nil) .nil) .nil)) .nil)) .nil)) .nil)
theorem alloc_call (h : Hp) (ar : Int) (v : Vl) (hl : h.cells.length ≤ 2 ^ 20) (ha : h.arenas.length ≤ 2 ^ 20) : PCall Try.prog 11 [h.av, .i ar, v.av] (resH (allocS h ar v)) := by
 have hll := liveN_le h.cells
 have hcp := clone_nc h hl ha
 have hlf := liveF_nc h
 have hsz := szok_cl h.cells
 rw [Hp.av_eq] at hcp hlf ⊢
 rw [Vl.av_eq]
 refine PCall.introM Try.func11 rfl isf11 (by simp [Try.f11]) (by simp [AV.cloL, AV.clo]) fun E Q hE hN hM hQ => K_start ?_
 repeat' (first | apply nx | refine Kq_exit_ne (by decide) ?_ | rw [wrap64 (by omega) (by omega)] | ((first | refine hK _ ?_ | refine hKp _ _ ?_); clear hK hKp K Kp; try clear hanc anc) | ((with_reducible refine And.intro ?_ ?_); (focus (first | trivial | omega | (simp only [Fits]; omega) | assumption | (rw [hanc]; rfl)))) | ((first | refine K_regA hE fun K Kp hK hKp => ?_ | refine K_drwA true mixed hE fun K Kp hK hKp anc hanc => ?_ | refine K_drwA false mixed hE fun K Kp hK hKp anc hanc => ?_); simp only [go_sem]) | ((first | refine onG_split_t (fun hg => ?_) (fun hg => ?_) | refine onG_split_f (fun hg => ?_) (fun hg => ?_)) <;> simp only [go_sem, hg]) | (refine K_condA (fun hc => ?_) (fun hc => ?_) <;> try (exact absurd hc (by decide))))
 refine Hold.mk (CallB.newP hlf (by simp [AV.cloL, AV.clo]) (by simp [AV.ids, AV.idsL]) (by intro p hp; simp only [List.mem_cons, List.not_mem_nil, or_false] at hp; subst hp; exact ⟨by show 0 < 1048576; decide, by simp [AObj.ids, Hp.cs, AV.ids, AV.idsL, go_sem]⟩) ?_)
 simp only [go_sem, AObj.ren, Hp.cs]
 repeat' (first | apply nx | refine Kq_exit_ne (by decide) ?_ | rw [wrap64 (by omega) (by omega)] | ((first | refine hK _ ?_ | refine hKp _ _ ?_); clear hK hKp K Kp; try clear hanc anc) | ((with_reducible refine And.intro ?_ ?_); (focus (first | trivial | omega | (simp only [Fits]; omega) | assumption | (rw [hanc]; rfl)))) | ((first | refine K_regA hE fun K Kp hK hKp => ?_ | refine K_drwA true mixed hE fun K Kp hK hKp anc hanc => ?_ | refine K_drwA false mixed hE fun K Kp hK hKp anc hanc => ?_); simp only [go_sem]) | ((first | refine onG_split_t (fun hg => ?_) (fun hg => ?_) | refine onG_split_f (fun hg => ?_) (fun hg => ?_)) <;> simp only [go_sem, hg]) | (refine K_condA (fun hc => ?_) (fun hc => ?_) <;> try (exact absurd hc (by decide))))
 refine AW.ent (σ' := ⟨mkFr (frAl ar), objAl h v 0, 1000000⟩) (fun i => if i = 0 then 0 else if i = 1 then 1048576 else if i = 2 then 2097152 else if i = 3 then 5242880 else 8388608) (by
  show Ent _ _ _ (mkSt [(1, .i ar), (3, .ptr 0 0), (5, .ptr 1 0), (6, .ptr 2 0), (7, .i 0), (8, .i 0), (9, .ptr 3 0), (14, .fn (.func 53) [] [.ptr 4 0])] [(0, .cells h.cs), (1, .cells v.cs), (2, .cells [.nilsl, .nilsl]), (3, .cells [.i ((0 : Nat) : Int)]), (4, .cells h.cs)] 1000000)
  refine ent_mk (by simp [go_sem, Hp.cs, Vl.cs]) (by simp [go_sem, Hp.cs, Vl.cs]) (by simp) (by simp [hN])) ?_
 refine AW_live hM h hl (objAl h v) 5 4 (by decide) (by decide) (by rw [hN]; decide) (fun s => rfl) (fun s id o ho => objAl_cases ho) (fun s id hid => ?_) (frAl ar) (by simp [AV.ids, AV.idsL]) (by simp [go_sem]) (by simp [go_sem]) [9] [.ptr 3 0] (by simp [go_sem]) (by simp [AV.ids, AV.idsL]) rfl (by rw [hE]; simp [Try.f11])
  (fun i s => s = liveN (h.cells.take i)) (fun x s => False) (fun x s h => h.elim) ?_ (fun i c s hi hc hv => ?_) 0 (by simp [liveN]) ?_ (fun x σ s' m hx => hx.elim)
 ·have : id = 0 ∨ id = 1 ∨ id = 2 ∨ id = 3 ∨ id = 4 := by omega
  rcases this with rfl | rfl | rfl | rfl | rfl <;> simp [objAl, mkHp, updo]
 ·intro l fnn i c s E' Q' hi hcc hv hE' hN' hnorm hpan
  unfold RoundGoal
  refine AW_skip ?_
  refine ⟨[.ptr 3 0], by simp [updo], K_start ?_⟩
  show AW Try.prog E' _ _ ⟨upd (upd (mkFr [(9, .ptr 3 0)]) 15 (.i i)) 16 (.agg c.cs), updo (updo (objAl h v s) 5 _) 5 _, 1000000⟩
  unfold objAl
  have hs : s ≤ 2 ^ 20 := by
   have := liveN_le (h.cells.take i); rw [List.length_take] at this; omega
  rw [hE] at hE'
  replace hE := hE'
  repeat' (first | apply nx | refine Kq_exit_ne (by decide) ?_ | rw [wrap64 (by omega) (by omega)] | ((first | refine hK _ ?_ | refine hKp _ _ ?_); clear hK hKp K Kp; try clear hanc anc) | ((with_reducible refine And.intro ?_ ?_); (focus (first | trivial | omega | (simp only [Fits]; omega) | assumption | (rw [hanc]; rfl)))) | ((first | refine K_regA hE fun K Kp hK hKp => ?_ | refine K_drwA true mixed hE fun K Kp hK hKp anc hanc => ?_ | refine K_drwA false mixed hE fun K Kp hK hKp anc hanc => ?_); simp only [go_sem]) | ((first | refine onG_split_t (fun hg => ?_) (fun hg => ?_) | refine onG_split_f (fun hg => ?_) (fun hg => ?_)) <;> simp only [go_sem, hg]) | (refine K_condA (fun hc => ?_) (fun hc => ?_) <;> try (exact absurd hc (by decide))))
  refine Kq_norm_nil (hnorm _ (s + 1) (fun i => i) (by rw [liveN_take hcc, hv, hi]; simp) ?_)
  show Ent 6 _ _ (mkSt [] [(5, _), (0, .cells h.cs), (1, .cells v.cs), (2, .cells [.nilsl, .nilsl]), (3, .cells [.i ((s + 1 : Nat) : Int)]), (4, .cells h.cs)] 1000000)
  refine ent_mk (by simp [go_sem, Hp.cs, Vl.cs]) (by simp [go_sem, Hp.cs, Vl.cs]) (by simp) (by simp; omega)
 ·rw [liveN_take hc, hv, hi]; simp
 ·intro σ s' m hi he
  rw [List.take_length] at hi
  subst hi
  clear hlf
  refine Kq_norm_blk ?_
  refine Kq_norm_code ?_
  refine AW.ent m he ?_
  unfold objAl
  have hix := idxC_call h.cells (by omega)
  have hfle := firstDead_le h.cells
  clear hM
  by_cases h1 : ar < -1
  ·have e : allocS h ar v = (hp0, 0, 1) := by rw [allocS, if_pos (.inl h1)]
   rw [e] at hQ
   have q1 : decide (ar < -1) = true := by simpa using h1
   repeat' (first | apply nx | refine Kq_exit_ne (by decide) ?_ | rw [wrap64 (by omega) (by omega)] | ((first | refine hK _ ?_ | refine hKp _ _ ?_); clear hK hKp K Kp; try clear hanc anc) | ((with_reducible refine And.intro ?_ ?_); (focus (first | trivial | omega | (simp only [Fits]; omega) | assumption | (rw [hanc]; rfl)))) | ((first | refine K_regA hE fun K Kp hK hKp => ?_ | refine K_drwA true mixed hE fun K Kp hK hKp anc hanc => ?_ | refine K_drwA false mixed hE fun K Kp hK hKp anc hanc => ?_); simp only [go_sem, q1, Hp.cs]) | ((first | refine onG_split_t (fun hg => ?_) (fun hg => ?_) | refine onG_split_f (fun hg => ?_) (fun hg => ?_)) <;> simp only [go_sem, q1, Hp.cs, hg]) | (refine K_condA (fun hc => ?_) (fun hc => ?_) <;> try (exact absurd hc (by decide))))
   refine K_ret (hQ _ ⟨.tup [.agg [.nilsl, .nilsl], .i 0, .i 1], (by simp [resA, rvA, Try.f11, go_sem]; rfl), (by simp [AV.snapOk, AV.snapOkL, go_sem]), (by rfl), (by first | rfl | simp [AV.clo, AV.cloL, go_sem])⟩).1
  have q1 : decide (ar < -1) = false := by simp; omega
  by_cases h2 : (h.arenas.length : Int) ≤ ar
  ·have e : allocS h ar v = (hp0, 0, 1) := by rw [allocS, if_pos (.inr h2)]
   rw [e] at hQ
   have q2 : decide ((h.arenas.length : Int) ≤ ar) = true := by simpa using h2
   repeat' (first | apply nx | refine Kq_exit_ne (by decide) ?_ | rw [wrap64 (by omega) (by omega)] | ((first | refine hK _ ?_ | refine hKp _ _ ?_); clear hK hKp K Kp; try clear hanc anc) | ((with_reducible refine And.intro ?_ ?_); (focus (first | trivial | omega | (simp only [Fits]; omega) | assumption | (rw [hanc]; rfl)))) | ((first | refine K_regA hE fun K Kp hK hKp => ?_ | refine K_drwA true mixed hE fun K Kp hK hKp anc hanc => ?_ | refine K_drwA false mixed hE fun K Kp hK hKp anc hanc => ?_); simp only [go_sem, q1, q2, Hp.cs]) | ((first | refine onG_split_t (fun hg => ?_) (fun hg => ?_) | refine onG_split_f (fun hg => ?_) (fun hg => ?_)) <;> simp only [go_sem, q1, q2, Hp.cs, hg]) | (refine K_condA (fun hc => ?_) (fun hc => ?_) <;> try (exact absurd hc (by decide))))
   refine K_ret (hQ _ ⟨.tup [.agg [.nilsl, .nilsl], .i 0, .i 1], (by simp [resA, rvA, Try.f11, go_sem]; rfl), (by simp [AV.snapOk, AV.snapOkL, go_sem]), (by rfl), (by first | rfl | simp [AV.clo, AV.cloL, go_sem])⟩).1
  have q2 : decide ((h.arenas.length : Int) ≤ ar) = false := by simp; omega
  have e1 : ¬ (ar < -1 ∨ ar ≥ h.arenas.length) := by omega
  by_cases h3 : 0 ≤ ar ∧ h.arenas[ar.toNat]? = some false
  ·obtain ⟨h4, h5⟩ := h3
   have e : allocS h ar v = (hp0, 0, 18) := by rw [allocS, if_neg e1, if_pos ⟨h4, h5⟩]
   rw [e] at hQ
   obtain ⟨n, rfl⟩ := Int.eq_ofNat_of_zero_le h4
   simp only [Int.toNat_natCast] at h5
   have q3 : decide ((0 : Int) ≤ (n : Int)) = true := by simp
   repeat' (first | apply nx | refine Kq_exit_ne (by decide) ?_ | rw [wrap64 (by omega) (by omega)] | ((first | refine hK _ ?_ | refine hKp _ _ ?_); clear hK hKp K Kp; try clear hanc anc) | ((with_reducible refine And.intro ?_ ?_); (focus (first | trivial | omega | (simp only [Fits]; omega) | assumption | (rw [hanc]; rfl)))) | ((first | refine K_regA hE fun K Kp hK hKp => ?_ | refine K_drwA true mixed hE fun K Kp hK hKp anc hanc => ?_ | refine K_drwA false mixed hE fun K Kp hK hKp anc hanc => ?_); simp only [go_sem, q1, q2, q3, h5, Hp.cs]) | ((first | refine onG_split_t (fun hg => ?_) (fun hg => ?_) | refine onG_split_f (fun hg => ?_) (fun hg => ?_)) <;> simp only [go_sem, q1, q2, q3, h5, Hp.cs, hg]) | (refine K_condA (fun hc => ?_) (fun hc => ?_) <;> try (exact absurd hc (by decide))))
   refine K_ret (hQ _ ⟨.tup [.agg [.nilsl, .nilsl], .i 0, .i 18], (by simp [resA, rvA, Try.f11, go_sem]; rfl), (by simp [AV.snapOk, AV.snapOkL, go_sem]), (by rfl), (by first | rfl | simp [AV.clo, AV.cloL, go_sem])⟩).1
  have q34 : decide ((0 : Int) ≤ ar) = false ∨ ∃ n : Nat, ar = n ∧ h.arenas[n]? = some true := by
   by_cases h4 : 0 ≤ ar
   ·obtain ⟨n, rfl⟩ := Int.eq_ofNat_of_zero_le h4
    obtain ⟨b, hb⟩ := get?_of (show n < h.arenas.length by omega)
    cases b
    ·exact False.elim (h3 (And.intro h4 (by simpa using hb)))
    ·exact .inr ⟨n, rfl, hb⟩
   ·exact .inl (by simp; omega)
  by_cases h6 : 4000 ≤ liveN h.cells
  ·have e : allocS h ar v = (hp0, 0, 19) := by rw [allocS, if_neg e1, if_neg h3, if_pos h6]
   rw [e] at hQ
   have q4 : decide ((4000 : Int) ≤ (liveN h.cells : Int)) = true := by simp; omega
   rcases q34 with q3 | ⟨n, rfl, q3⟩
   ·repeat' (first | apply nx | refine Kq_exit_ne (by decide) ?_ | rw [wrap64 (by omega) (by omega)] | ((first | refine hK _ ?_ | refine hKp _ _ ?_); clear hK hKp K Kp; try clear hanc anc) | ((with_reducible refine And.intro ?_ ?_); (focus (first | trivial | omega | (simp only [Fits]; omega) | assumption | (rw [hanc]; rfl)))) | ((first | refine K_regA hE fun K Kp hK hKp => ?_ | refine K_drwA true mixed hE fun K Kp hK hKp anc hanc => ?_ | refine K_drwA false mixed hE fun K Kp hK hKp anc hanc => ?_); simp only [go_sem, q1, q2, q3, q4, Hp.cs]) | ((first | refine onG_split_t (fun hg => ?_) (fun hg => ?_) | refine onG_split_f (fun hg => ?_) (fun hg => ?_)) <;> simp only [go_sem, q1, q2, q3, q4, Hp.cs, hg]) | (refine K_condA (fun hc => ?_) (fun hc => ?_) <;> try (exact absurd hc (by decide))))
    refine K_ret (hQ _ ⟨.tup [.agg [.nilsl, .nilsl], .i 0, .i 19], (by simp [resA, rvA, Try.f11, go_sem]; rfl), (by simp [AV.snapOk, AV.snapOkL, go_sem]), (by rfl), (by first | rfl | simp [AV.clo, AV.cloL, go_sem])⟩).1
   ·repeat' (first | apply nx | refine Kq_exit_ne (by decide) ?_ | rw [wrap64 (by omega) (by omega)] | ((first | refine hK _ ?_ | refine hKp _ _ ?_); clear hK hKp K Kp; try clear hanc anc) | ((with_reducible refine And.intro ?_ ?_); (focus (first | trivial | omega | (simp only [Fits]; omega) | assumption | (rw [hanc]; rfl)))) | ((first | refine K_regA hE fun K Kp hK hKp => ?_ | refine K_drwA true mixed hE fun K Kp hK hKp anc hanc => ?_ | refine K_drwA false mixed hE fun K Kp hK hKp anc hanc => ?_); simp only [go_sem, q1, q2, q3, q4, Hp.cs, show decide ((0 : Int) ≤ (n : Int)) = true by simp]) | ((first | refine onG_split_t (fun hg => ?_) (fun hg => ?_) | refine onG_split_f (fun hg => ?_) (fun hg => ?_)) <;> simp only [go_sem, q1, q2, q3, q4, Hp.cs, show decide ((0 : Int) ≤ (n : Int)) = true by simp, hg]) | (refine K_condA (fun hc => ?_) (fun hc => ?_) <;> try (exact absurd hc (by decide))))
    refine K_ret (hQ _ ⟨.tup [.agg [.nilsl, .nilsl], .i 0, .i 19], (by simp [resA, rvA, Try.f11, go_sem]; rfl), (by simp [AV.snapOk, AV.snapOkL, go_sem]), (by rfl), (by first | rfl | simp [AV.clo, AV.cloL, go_sem])⟩).1
  have q4 : decide ((4000 : Int) ≤ (liveN h.cells : Int)) = false := by simp; omega
  have e : allocS h ar v = (Hp.mk (putC h.cells (firstDead h.cells) ⟨true, ar, v⟩) h.arenas, (firstDead h.cells : Int), 0) := by rw [allocS, if_neg e1, if_neg h3, if_neg h6]
  rw [e] at hQ
  rcases q34 with q3 | ⟨n, rfl, q3⟩
  ·repeat' (first | apply nx | refine Kq_exit_ne (by decide) ?_ | rw [wrap64 (by omega) (by omega)] | ((first | refine hK _ ?_ | refine hKp _ _ ?_); clear hK hKp K Kp; try clear hanc anc) | ((with_reducible refine And.intro ?_ ?_); (focus (first | trivial | omega | (simp only [Fits]; omega) | assumption | (rw [hanc]; rfl)))) | ((first | refine K_regA hE fun K Kp hK hKp => ?_ | refine K_drwA true mixed hE fun K Kp hK hKp anc hanc => ?_ | refine K_drwA false mixed hE fun K Kp hK hKp anc hanc => ?_); simp only [go_sem, q1, q2, q3, q3, q4, Hp.cs]) | ((first | refine onG_split_t (fun hg => ?_) (fun hg => ?_) | refine onG_split_f (fun hg => ?_) (fun hg => ?_)) <;> simp only [go_sem, q1, q2, q3, q3, q4, Hp.cs, hg]) | (refine K_condA (fun hc => ?_) (fun hc => ?_) <;> try (exact absurd hc (by decide))))
   refine Hold.mk (CallB.newRows hcp (by simp [AV.cloL, AV.clo]) (cl_clo _) (bl_clo _) ?_)
   simp only [go_sem]
   refine hK _ ?_
   clear hK hKp
   by_cases hf : firstDead h.cells < h.cells.length
   ·obtain ⟨c, hcc⟩ := get?_of hf
    rw [if_pos hf] at hix
    have q5 : decide ((firstDead h.cells : Int) < 0) = false := by simp
    have hput1 : (cl h.cells).set (firstDead h.cells) (.agg (.bool true :: .i ar :: v.cs)) = cl (putC h.cells (firstDead h.cells) ⟨true, ar, v⟩) := by
     rw [putC, if_neg (by omega)]; exact cl_set _ _ ⟨true, ar, v⟩
    repeat' (first | apply nx | refine Kq_exit_ne (by decide) ?_ | rw [wrap64 (by omega) (by omega)] | ((first | refine hK _ ?_ | refine hKp _ _ ?_); clear hK hKp K Kp; try clear hanc anc) | ((with_reducible refine And.intro ?_ ?_); (focus (first | trivial | omega | (simp only [Fits]; omega) | assumption | (rw [hanc]; rfl)))) | ((first | refine K_regA hE fun K Kp hK hKp => ?_ | refine K_drwA true mixed hE fun K Kp hK hKp anc hanc => ?_ | refine K_drwA false mixed hE fun K Kp hK hKp anc hanc => ?_ | ((first | apply CallP_mk | apply CallB_mk); (focus (simp only [go_sem] <;> rfl)); (focus (exact hix)); (focus (first | (simp [go_sem]; done) | (simp [go_sem, CloRow, AV.cells, AV.clo]; done))); (focus (first | exact .inl rfl | (right; simp [go_sem]))))); simp only [go_sem, q5, hcc, Cl.av, Cl.cs_eq]) | ((first | refine onG_split_t (fun hg => ?_) (fun hg => ?_) | refine onG_split_f (fun hg => ?_) (fun hg => ?_)) <;> simp only [go_sem, q5, hcc, Cl.av, Cl.cs_eq, hg]) | (refine K_condA (fun hc => ?_) (fun hc => ?_) <;> try (exact absurd hc (by decide))))
    refine K_ret (hQ _ ⟨.tup [.agg [.rw 26165824, .rw 26165825], .i (firstDead h.cells), .i 0], (by simp [resA, rvA, Try.f11, go_sem, hput1, resH, Hp.av_eq]; rfl), (by simp [AV.snapOk, AV.snapOkL, go_sem, hput1, resH, Hp.av_eq]), (by simp [AV.snap, AV.snapL, go_sem, hput1, resH, Hp.av_eq]), (by first | rfl | simp [AV.clo, AV.cloL, go_sem, hput1, resH, Hp.av_eq])⟩).1
   ·rw [if_neg hf] at hix
    have hf2 : firstDead h.cells = h.cells.length := by omega
    have hput1 : cl h.cells ++ [.agg (.bool true :: .i ar :: v.cs)] = cl (putC h.cells (firstDead h.cells) ⟨true, ar, v⟩) := by
     rw [putC, if_pos hf2]; exact cl_app _ ⟨true, ar, v⟩
    have hXl : (putC h.cells (firstDead h.cells) ⟨true, ar, v⟩).length = h.cells.length + 1 := by
     rw [putC, if_pos hf2]; simp
    rw [hf2] at hQ
    repeat' (first | apply nx | refine Kq_exit_ne (by decide) ?_ | rw [wrap64 (by omega) (by omega)] | ((first | refine hK _ ?_ | refine hKp _ _ ?_); clear hK hKp K Kp; try clear hanc anc) | ((with_reducible refine And.intro ?_ ?_); (focus (first | trivial | omega | (simp only [Fits]; omega) | assumption | (rw [hanc]; rfl)))) | ((first | refine K_regA hE fun K Kp hK hKp => ?_ | refine K_drwA true mixed hE fun K Kp hK hKp anc hanc => ?_ | refine K_drwA false mixed hE fun K Kp hK hKp anc hanc => ?_ | ((first | apply CallP_mk | apply CallB_mk); (focus (simp only [go_sem] <;> rfl)); (focus (exact hix)); (focus (first | (simp [go_sem]; done) | (simp [go_sem, CloRow, AV.cells, AV.clo]; done))); (focus (first | exact .inl rfl | (right; simp [go_sem]))))); simp only [go_sem, hix]) | ((first | refine onG_split_t (fun hg => ?_) (fun hg => ?_) | refine onG_split_f (fun hg => ?_) (fun hg => ?_)) <;> simp only [go_sem, hix, hg]) | (refine K_condA (fun hc => ?_) (fun hc => ?_) <;> try (exact absurd hc (by decide))))
    rw [hf2] at hput1 hXl
    generalize putC h.cells h.cells.length ⟨true, ar, v⟩ = X at hput1 hXl hQ
    refine AW.ent (σ' := mkSt [(6, .ptr 0 0), (7, .i 0), (8, .i 0), (10, .ptr 1 0)] [(0, .cells [.nilsl, .nilsl]), (1, .cells [.rw 2, .rw 3]), (2, .row 10 (cl X)), (3, .row 1 (bl h.arenas))] 4) (fun i => if i = 0 then 2 else if i = 1 then 27214400 else if i = 2 then 45040192 else 26165825) (ent_mk (by simp [go_sem]) (by simp [go_sem, hput1]) (by simp) (by simp [hN])) ?_
    refine K_allG (mkSt [(6, .ptr 0 0), (7, .i ((X.length : Int) - 1)), (8, .i 0)] [(0, .cells [.rw 1, .rw 2]), (1, .row 10 (cl X)), (2, .row 1 (bl h.arenas))] 3) fT11 mixed hE (fun σ m he => ?_) fun Kp hKp => ?_
    ·refine Kq_norm_code ?_
     refine AW.ent m he ?_
     have hXe : (X.length : Int) - 1 = h.cells.length := by omega
     rw [hXe]
     refine K_ret (hQ _ ⟨.tup [.agg [.rw 1, .rw 2], .i h.cells.length, .i 0], (by simp [resA, rvA, Try.f11, go_sem, resH, Hp.av_eq]; rfl), (by simp [AV.snapOk, AV.snapOkL, go_sem, resH, Hp.av_eq]), (by simp [AV.snap, AV.snapL, go_sem, resH, Hp.av_eq]), (by first | rfl | simp [AV.clo, AV.cloL, go_sem, resH, Hp.av_eq])⟩).1
    ·unfold fT11
     repeat' (first | refine goTr_one rfl ?_ | refine goTr_alt rfl ?_ ?_ | simp only [go_sem] | rw [wrap64 (by omega) (by omega)])
     all_goals refine ⟨fun i => if i = 0 then 0 else if i = 1 then 2 else 3, ?_⟩
     all_goals show Ent E.np _ _ (mkSt [(6, .ptr 0 0), (7, .i ((X.length : Int) - 1)), (8, .i 0)] [(0, .cells [.rw 1, .rw 2]), (1, .row 10 (cl X)), (2, .row 1 (bl h.arenas))] 3)
     all_goals refine ent_mk (by simp [go_sem]) (by simp [go_sem]) (by simp) (by simp [hN])
  ·repeat' (first | apply nx | refine Kq_exit_ne (by decide) ?_ | rw [wrap64 (by omega) (by omega)] | ((first | refine hK _ ?_ | refine hKp _ _ ?_); clear hK hKp K Kp; try clear hanc anc) | ((with_reducible refine And.intro ?_ ?_); (focus (first | trivial | omega | (simp only [Fits]; omega) | assumption | (rw [hanc]; rfl)))) | ((first | refine K_regA hE fun K Kp hK hKp => ?_ | refine K_drwA true mixed hE fun K Kp hK hKp anc hanc => ?_ | refine K_drwA false mixed hE fun K Kp hK hKp anc hanc => ?_); simp only [go_sem, q1, q2, q3, (show decide ((0 : Int) ≤ (n : Int)) = true by simp), q4, Hp.cs]) | ((first | refine onG_split_t (fun hg => ?_) (fun hg => ?_) | refine onG_split_f (fun hg => ?_) (fun hg => ?_)) <;> simp only [go_sem, q1, q2, q3, (show decide ((0 : Int) ≤ (n : Int)) = true by simp), q4, Hp.cs, hg]) | (refine K_condA (fun hc => ?_) (fun hc => ?_) <;> try (exact absurd hc (by decide))))
   refine Hold.mk (CallB.newRows hcp (by simp [AV.cloL, AV.clo]) (cl_clo _) (bl_clo _) ?_)
   simp only [go_sem]
   refine hK _ ?_
   clear hK hKp
   by_cases hf : firstDead h.cells < h.cells.length
   ·obtain ⟨c, hcc⟩ := get?_of hf
    rw [if_pos hf] at hix
    have q5 : decide ((firstDead h.cells : Int) < 0) = false := by simp
    have hput1 : (cl h.cells).set (firstDead h.cells) (.agg (.bool true :: .i (n : Int) :: v.cs)) = cl (putC h.cells (firstDead h.cells) ⟨true, (n : Int), v⟩) := by
     rw [putC, if_neg (by omega)]; exact cl_set _ _ ⟨true, (n : Int), v⟩
    repeat' (first | apply nx | refine Kq_exit_ne (by decide) ?_ | rw [wrap64 (by omega) (by omega)] | ((first | refine hK _ ?_ | refine hKp _ _ ?_); clear hK hKp K Kp; try clear hanc anc) | ((with_reducible refine And.intro ?_ ?_); (focus (first | trivial | omega | (simp only [Fits]; omega) | assumption | (rw [hanc]; rfl)))) | ((first | refine K_regA hE fun K Kp hK hKp => ?_ | refine K_drwA true mixed hE fun K Kp hK hKp anc hanc => ?_ | refine K_drwA false mixed hE fun K Kp hK hKp anc hanc => ?_ | ((first | apply CallP_mk | apply CallB_mk); (focus (simp only [go_sem] <;> rfl)); (focus (exact hix)); (focus (first | (simp [go_sem]; done) | (simp [go_sem, CloRow, AV.cells, AV.clo]; done))); (focus (first | exact .inl rfl | (right; simp [go_sem]))))); simp only [go_sem, q5, hcc, Cl.av, Cl.cs_eq]) | ((first | refine onG_split_t (fun hg => ?_) (fun hg => ?_) | refine onG_split_f (fun hg => ?_) (fun hg => ?_)) <;> simp only [go_sem, q5, hcc, Cl.av, Cl.cs_eq, hg]) | (refine K_condA (fun hc => ?_) (fun hc => ?_) <;> try (exact absurd hc (by decide))))
    refine K_ret (hQ _ ⟨.tup [.agg [.rw 26165824, .rw 26165825], .i (firstDead h.cells), .i 0], (by simp [resA, rvA, Try.f11, go_sem, hput1, resH, Hp.av_eq]; rfl), (by simp [AV.snapOk, AV.snapOkL, go_sem, hput1, resH, Hp.av_eq]), (by simp [AV.snap, AV.snapL, go_sem, hput1, resH, Hp.av_eq]), (by first | rfl | simp [AV.clo, AV.cloL, go_sem, hput1, resH, Hp.av_eq])⟩).1
   ·rw [if_neg hf] at hix
    have hf2 : firstDead h.cells = h.cells.length := by omega
    have hput1 : cl h.cells ++ [.agg (.bool true :: .i (n : Int) :: v.cs)] = cl (putC h.cells (firstDead h.cells) ⟨true, (n : Int), v⟩) := by
     rw [putC, if_pos hf2]; exact cl_app _ ⟨true, (n : Int), v⟩
    have hXl : (putC h.cells (firstDead h.cells) ⟨true, (n : Int), v⟩).length = h.cells.length + 1 := by
     rw [putC, if_pos hf2]; simp
    rw [hf2] at hQ
    repeat' (first | apply nx | refine Kq_exit_ne (by decide) ?_ | rw [wrap64 (by omega) (by omega)] | ((first | refine hK _ ?_ | refine hKp _ _ ?_); clear hK hKp K Kp; try clear hanc anc) | ((with_reducible refine And.intro ?_ ?_); (focus (first | trivial | omega | (simp only [Fits]; omega) | assumption | (rw [hanc]; rfl)))) | ((first | refine K_regA hE fun K Kp hK hKp => ?_ | refine K_drwA true mixed hE fun K Kp hK hKp anc hanc => ?_ | refine K_drwA false mixed hE fun K Kp hK hKp anc hanc => ?_ | ((first | apply CallP_mk | apply CallB_mk); (focus (simp only [go_sem] <;> rfl)); (focus (exact hix)); (focus (first | (simp [go_sem]; done) | (simp [go_sem, CloRow, AV.cells, AV.clo]; done))); (focus (first | exact .inl rfl | (right; simp [go_sem]))))); simp only [go_sem, hix]) | ((first | refine onG_split_t (fun hg => ?_) (fun hg => ?_) | refine onG_split_f (fun hg => ?_) (fun hg => ?_)) <;> simp only [go_sem, hix, hg]) | (refine K_condA (fun hc => ?_) (fun hc => ?_) <;> try (exact absurd hc (by decide))))
    rw [hf2] at hput1 hXl
    generalize putC h.cells h.cells.length ⟨true, (n : Int), v⟩ = X at hput1 hXl hQ
    refine AW.ent (σ' := mkSt [(6, .ptr 0 0), (7, .i 0), (8, .i 0), (10, .ptr 1 0)] [(0, .cells [.nilsl, .nilsl]), (1, .cells [.rw 2, .rw 3]), (2, .row 10 (cl X)), (3, .row 1 (bl h.arenas))] 4) (fun i => if i = 0 then 2 else if i = 1 then 27214400 else if i = 2 then 45040192 else 26165825) (ent_mk (by simp [go_sem]) (by simp [go_sem, hput1]) (by simp) (by simp [hN])) ?_
    refine K_allG (mkSt [(6, .ptr 0 0), (7, .i ((X.length : Int) - 1)), (8, .i 0)] [(0, .cells [.rw 1, .rw 2]), (1, .row 10 (cl X)), (2, .row 1 (bl h.arenas))] 3) fT11 mixed hE (fun σ m he => ?_) fun Kp hKp => ?_
    ·refine Kq_norm_code ?_
     refine AW.ent m he ?_
     have hXe : (X.length : Int) - 1 = h.cells.length := by omega
     rw [hXe]
     refine K_ret (hQ _ ⟨.tup [.agg [.rw 1, .rw 2], .i h.cells.length, .i 0], (by simp [resA, rvA, Try.f11, go_sem, resH, Hp.av_eq]; rfl), (by simp [AV.snapOk, AV.snapOkL, go_sem, resH, Hp.av_eq]), (by simp [AV.snap, AV.snapL, go_sem, resH, Hp.av_eq]), (by first | rfl | simp [AV.clo, AV.cloL, go_sem, resH, Hp.av_eq])⟩).1
    ·unfold fT11
     repeat' (first | refine goTr_one rfl ?_ | refine goTr_alt rfl ?_ ?_ | simp only [go_sem] | rw [wrap64 (by omega) (by omega)])
     all_goals refine ⟨fun i => if i = 0 then 0 else if i = 1 then 2 else 3, ?_⟩
     all_goals show Ent E.np _ _ (mkSt [(6, .ptr 0 0), (7, .i ((X.length : Int) - 1)), (8, .i 0)] [(0, .cells [.rw 1, .rw 2]), (1, .row 10 (cl X)), (2, .row 1 (bl h.arenas))] 3)
     all_goals refine ent_mk (by simp [go_sem]) (by simp [go_sem]) (by simp) (by simp [hN])
end Go.Proofs.Ytdgmjbgjahmoaaa
