/- A part of the proof: an abstract machine for the walks, and what the walked functions compute. -/
import Derived.Test.YtdgmjbgjahmoaaaCa
set_option linter.unusedVariables false
set_option linter.unusedSimpArgs false
set_option maxHeartbeats 4000000
set_option maxRecDepth 100000
namespace Go.Proofs.Ytdgmjbgjahmoaaa
open Nat (reduceAdd reduceMul reduceEqDiff reduceLT reduceLeDiff reduceSub reduceDiv)
open Int (reduceBNe reduceLE reduceEq)
open Go.Am Go.Proofs Go.Hv
open Classical
attribute [local irreducible] AW CallP CallB
theorem Hp.eq_iff (a b : Hp) : a = b ↔ a.cells = b.cells ∧ a.arenas = b.arenas := ⟨by rintro rfl; simp, fun ⟨h1, h2⟩ => by cases a; cases b; simp_all⟩
theorem same_call (h a : Hp) (hl : h.cells.length ≤ 2 ^ 20) (hl2 : h.arenas.length ≤ 2 ^ 20) (hz : ∀ c, c ∈ h.cells → c.v.sz < 2 ^ 40) : PCall Try.prog 18 [h.av, a.av] (.bool (decide (h = a))) := by
 rw [Hp.av_eq, Hp.av_eq]
 by_cases hn1 : h.cells.length = a.cells.length
 case neg =>
  have q1 : ((h.cells.length : Int) != (a.cells.length : Int)) = true := by simp; omega
  have hne : h ≠ a := by rintro rfl; exact hn1 rfl
  refine PCall.intro Try.func18 rfl isf18 (by simp [Try.f18]) (by simp [AV.cloL, AV.clo]) fun E Q hE hN hQ => K_start ?_
  repeat' (first | apply nx | refine Kq_exit_ne (by decide) ?_ | rw [wrap64 (by omega) (by omega)] | ((first | refine hK _ ?_ | refine hKp _ _ ?_); clear hK hKp K Kp; try clear hanc anc) | ((with_reducible refine And.intro ?_ ?_); (focus (first | trivial | omega | (simp only [Fits]; omega) | assumption | (rw [hanc]; rfl)))) | ((first | refine K_regA hE fun K Kp hK hKp => ?_ | refine K_drwA false mixed hE fun K Kp hK hKp anc hanc => ?_); simp only [go_sem, q1]) | ((first | refine onG_split_t (fun hg => ?_) (fun hg => ?_) | refine onG_split_f (fun hg => ?_) (fun hg => ?_)) <;> simp only [go_sem, q1, hg]) | (refine K_condA (fun hc => ?_) (fun hc => ?_) <;> try (exact absurd hc (by decide))) | (refine K_ret ?_; refine (hQ _ ⟨_, by (try simp only [go_sem, ↓reduceIte, Nat.reduceEqDiff]); rfl, by simp [go_sem], ?_, by first | rfl | assumption⟩).1))
  simp [AV.snap, hne]
 have q1 : ((h.cells.length : Int) != (a.cells.length : Int)) = false := by simp [hn1]
 by_cases hn2 : h.arenas.length = a.arenas.length
 case neg =>
  have q2 : ((h.arenas.length : Int) != (a.arenas.length : Int)) = true := by simp; omega
  have hne : h ≠ a := by rintro rfl; exact hn2 rfl
  refine PCall.intro Try.func18 rfl isf18 (by simp [Try.f18]) (by simp [AV.cloL, AV.clo]) fun E Q hE hN hQ => K_start ?_
  repeat' (first | apply nx | refine Kq_exit_ne (by decide) ?_ | rw [wrap64 (by omega) (by omega)] | ((first | refine hK _ ?_ | refine hKp _ _ ?_); clear hK hKp K Kp; try clear hanc anc) | ((with_reducible refine And.intro ?_ ?_); (focus (first | trivial | omega | (simp only [Fits]; omega) | assumption | (rw [hanc]; rfl)))) | ((first | refine K_regA hE fun K Kp hK hKp => ?_ | refine K_drwA false mixed hE fun K Kp hK hKp anc hanc => ?_); simp only [go_sem, q1, q2]) | ((first | refine onG_split_t (fun hg => ?_) (fun hg => ?_) | refine onG_split_f (fun hg => ?_) (fun hg => ?_)) <;> simp only [go_sem, q1, q2, hg]) | (refine K_condA (fun hc => ?_) (fun hc => ?_) <;> try (exact absurd hc (by decide))) | (refine K_ret ?_; refine (hQ _ ⟨_, by (try simp only [go_sem, ↓reduceIte, Nat.reduceEqDiff]); rfl, by simp [go_sem], ?_, by first | rfl | assumption⟩).1))
  simp [AV.snap, hne]
 have q2 : ((h.arenas.length : Int) != (a.arenas.length : Int)) = false := by simp [hn2]
 have hiff := Hp.eq_iff h a
 refine PCall.intro Try.func18 rfl isf18 (by simp [Try.f18]) (by simp [AV.cloL, AV.clo]) fun E Q hE hN hQ => K_start ?_
 repeat' (first | apply nx | refine Kq_exit_ne (by decide) ?_ | rw [wrap64 (by omega) (by omega)] | ((first | refine hK _ ?_ | refine hKp _ _ ?_); clear hK hKp K Kp; try clear hanc anc) | ((with_reducible refine And.intro ?_ ?_); (focus (first | trivial | omega | (simp only [Fits]; omega) | assumption | (rw [hanc]; rfl)))) | ((first | refine K_regA hE fun K Kp hK hKp => ?_ | refine K_drwA false mixed hE fun K Kp hK hKp anc hanc => ?_); simp only [go_sem, q1, q2]) | ((first | refine onG_split_t (fun hg => ?_) (fun hg => ?_) | refine onG_split_f (fun hg => ?_) (fun hg => ?_)) <;> simp only [go_sem, q1, q2, hg]) | (refine K_condA (fun hc => ?_) (fun hc => ?_) <;> try (exact absurd hc (by decide))) | (refine K_ret ?_; refine (hQ _ ⟨_, by (try simp only [go_sem, ↓reduceIte, Nat.reduceEqDiff]); rfl, by simp [go_sem], ?_, by first | rfl | assumption⟩).1))
 refine K_loop (X := Nat) (fun i => i ≤ h.cells.length ∧ h.cells.take i = a.cells.take i) (fun i => mkSt [(2, .ptr 0 0), (3, .ptr 1 0), (5, AV.i i)] [(0, .cells [.sl (cl h.cells), .sl (bl h.arenas)]), (1, .cells [.sl (cl a.cells), .sl (bl a.arenas)])] 2) (fun i => h.cells.length - i) 0 ⟨Nat.zero_le _, by simp⟩ (fun i => if i = 0 then 0 else 1048576) (by refine ent_mk (by simp [go_sem]) (by simp [go_sem]) (by simp) (by simp [hN])) ?_
 rintro i ⟨hi, ht⟩
 by_cases hlt : i < h.cells.length
 ·obtain ⟨x, hx⟩ := get?_of hlt
  obtain ⟨y, hy⟩ := get?_of (show i < a.cells.length by omega)
  have hc0 := sameC_call x y (hz x (List.mem_of_getElem? hx))
  by_cases hxy : x = y
  ·rw [decide_eq_true hxy] at hc0
   repeat' (first | apply nx | refine Kq_exit_ne (by decide) ?_ | rw [wrap64 (by omega) (by omega)] | ((first | refine hK _ ?_ | refine hKp _ _ ?_); clear hK hKp K Kp; try clear hanc anc) | ((with_reducible refine And.intro ?_ ?_); (focus (first | trivial | omega | (simp only [Fits]; omega) | assumption | (rw [hanc]; rfl)))) | ((first | refine K_regA hE fun K Kp hK hKp => ?_ | refine K_drwA false mixed hE fun K Kp hK hKp anc hanc => ?_ | ((first | apply CallP_mk | apply CallB_mk); (focus (simp only [go_sem] <;> rfl)); (focus (exact hc0)); (focus (first | (simp [go_sem]; done) | (simp [go_sem, CloRow, AV.cells, AV.clo]; done))); (focus (first | exact .inl rfl | (right; simp [go_sem]))))); simp only [go_sem, lt_dec hlt, hx, hy, Cl.av, Cl.cs_eq]) | ((first | refine onG_split_t (fun hg => ?_) (fun hg => ?_) | refine onG_split_f (fun hg => ?_) (fun hg => ?_)) <;> simp only [go_sem, lt_dec hlt, hx, hy, Cl.av, Cl.cs_eq, hg]) | (refine K_condA (fun hc => ?_) (fun hc => ?_) <;> try (exact absurd hc (by decide))) | (refine K_ret ?_; refine (hQ _ ⟨_, by (try simp only [go_sem, ↓reduceIte, Nat.reduceEqDiff]); rfl, by simp [go_sem], ?_, by first | rfl | assumption⟩).1))
   refine ⟨i + 1, ⟨by omega, ?_⟩, by omega, fun i => i, by refine ent_mk (by simp [go_sem]) (by simp [go_sem]) (by simp) (by simp [hN])⟩
   rw [List.take_add_one, List.take_add_one, ht, hx, hy, hxy]
  ·rw [decide_eq_false hxy] at hc0
   have hne : h ≠ a := by rintro rfl; rw [hx] at hy; exact hxy (Option.some.inj hy)
   repeat' (first | apply nx | refine Kq_exit_ne (by decide) ?_ | rw [wrap64 (by omega) (by omega)] | ((first | refine hK _ ?_ | refine hKp _ _ ?_); clear hK hKp K Kp; try clear hanc anc) | ((with_reducible refine And.intro ?_ ?_); (focus (first | trivial | omega | (simp only [Fits]; omega) | assumption | (rw [hanc]; rfl)))) | ((first | refine K_regA hE fun K Kp hK hKp => ?_ | refine K_drwA false mixed hE fun K Kp hK hKp anc hanc => ?_ | ((first | apply CallP_mk | apply CallB_mk); (focus (simp only [go_sem] <;> rfl)); (focus (exact hc0)); (focus (first | (simp [go_sem]; done) | (simp [go_sem, CloRow, AV.cells, AV.clo]; done))); (focus (first | exact .inl rfl | (right; simp [go_sem]))))); simp only [go_sem, lt_dec hlt, hx, hy, Cl.av, Cl.cs_eq]) | ((first | refine onG_split_t (fun hg => ?_) (fun hg => ?_) | refine onG_split_f (fun hg => ?_) (fun hg => ?_)) <;> simp only [go_sem, lt_dec hlt, hx, hy, Cl.av, Cl.cs_eq, hg]) | (refine K_condA (fun hc => ?_) (fun hc => ?_) <;> try (exact absurd hc (by decide))) | (refine K_ret ?_; refine (hQ _ ⟨_, by (try simp only [go_sem, ↓reduceIte, Nat.reduceEqDiff]); rfl, by simp [go_sem], ?_, by first | rfl | assumption⟩).1))
   simp [AV.snap, hne]
 ·obtain rfl : i = h.cells.length := by omega
  rw [List.take_length, hn1, List.take_length] at ht
  repeat' (first | apply nx | refine Kq_exit_ne (by decide) ?_ | rw [wrap64 (by omega) (by omega)] | ((first | refine hK _ ?_ | refine hKp _ _ ?_); clear hK hKp K Kp; try clear hanc anc) | ((with_reducible refine And.intro ?_ ?_); (focus (first | trivial | omega | (simp only [Fits]; omega) | assumption | (rw [hanc]; rfl)))) | ((first | refine K_regA hE fun K Kp hK hKp => ?_ | refine K_drwA false mixed hE fun K Kp hK hKp anc hanc => ?_); simp only [go_sem, ge_dec]) | ((first | refine onG_split_t (fun hg => ?_) (fun hg => ?_) | refine onG_split_f (fun hg => ?_) (fun hg => ?_)) <;> simp only [go_sem, ge_dec, hg]) | (refine K_condA (fun hc => ?_) (fun hc => ?_) <;> try (exact absurd hc (by decide))) | (refine K_ret ?_; refine (hQ _ ⟨_, by (try simp only [go_sem, ↓reduceIte, Nat.reduceEqDiff]); rfl, by simp [go_sem], ?_, by first | rfl | assumption⟩).1))
  refine K_loop (X := Nat) (fun i => i ≤ h.arenas.length ∧ h.arenas.take i = a.arenas.take i) (fun i => mkSt [(2, .ptr 0 0), (3, .ptr 1 0), (6, AV.i i)] [(0, .cells [.sl (cl h.cells), .sl (bl h.arenas)]), (1, .cells [.sl (cl a.cells), .sl (bl a.arenas)])] 2) (fun i => h.arenas.length - i) 0 ⟨Nat.zero_le _, by simp⟩ (fun i => i) (by refine ent_mk (by simp [go_sem]) (by simp [go_sem]) (by simp) (by simp [hN])) ?_
  rintro i ⟨hi, ht2⟩
  by_cases hlt : i < h.arenas.length
  ·obtain ⟨x, hx⟩ := get?_of hlt
   obtain ⟨y, hy⟩ := get?_of (show i < a.arenas.length by omega)
   by_cases hxy : x = y
   ·have q3 : (!x == y) = false := by simp [hxy]
    repeat' (first | apply nx | refine Kq_exit_ne (by decide) ?_ | rw [wrap64 (by omega) (by omega)] | ((first | refine hK _ ?_ | refine hKp _ _ ?_); clear hK hKp K Kp; try clear hanc anc) | ((with_reducible refine And.intro ?_ ?_); (focus (first | trivial | omega | (simp only [Fits]; omega) | assumption | (rw [hanc]; rfl)))) | ((first | refine K_regA hE fun K Kp hK hKp => ?_ | refine K_drwA false mixed hE fun K Kp hK hKp anc hanc => ?_); simp only [go_sem, lt_dec hlt, hx, hy, q3]) | ((first | refine onG_split_t (fun hg => ?_) (fun hg => ?_) | refine onG_split_f (fun hg => ?_) (fun hg => ?_)) <;> simp only [go_sem, lt_dec hlt, hx, hy, q3, hg]) | (refine K_condA (fun hc => ?_) (fun hc => ?_) <;> try (exact absurd hc (by decide))) | (refine K_ret ?_; refine (hQ _ ⟨_, by (try simp only [go_sem, ↓reduceIte, Nat.reduceEqDiff]); rfl, by simp [go_sem], ?_, by first | rfl | assumption⟩).1))
    refine ⟨i + 1, ⟨by omega, ?_⟩, by omega, fun i => i, by refine ent_mk (by simp [go_sem]) (by simp [go_sem]) (by simp) (by simp [hN])⟩
    rw [List.take_add_one, List.take_add_one, ht2, hx, hy, hxy]
   ·have q3 : (!x == y) = true := by simp [hxy]
    have hne : h ≠ a := by rintro rfl; rw [hx] at hy; exact hxy (Option.some.inj hy)
    repeat' (first | apply nx | refine Kq_exit_ne (by decide) ?_ | rw [wrap64 (by omega) (by omega)] | ((first | refine hK _ ?_ | refine hKp _ _ ?_); clear hK hKp K Kp; try clear hanc anc) | ((with_reducible refine And.intro ?_ ?_); (focus (first | trivial | omega | (simp only [Fits]; omega) | assumption | (rw [hanc]; rfl)))) | ((first | refine K_regA hE fun K Kp hK hKp => ?_ | refine K_drwA false mixed hE fun K Kp hK hKp anc hanc => ?_); simp only [go_sem, lt_dec hlt, hx, hy, q3]) | ((first | refine onG_split_t (fun hg => ?_) (fun hg => ?_) | refine onG_split_f (fun hg => ?_) (fun hg => ?_)) <;> simp only [go_sem, lt_dec hlt, hx, hy, q3, hg]) | (refine K_condA (fun hc => ?_) (fun hc => ?_) <;> try (exact absurd hc (by decide))) | (refine K_ret ?_; refine (hQ _ ⟨_, by (try simp only [go_sem, ↓reduceIte, Nat.reduceEqDiff]); rfl, by simp [go_sem], ?_, by first | rfl | assumption⟩).1))
    simp [AV.snap, hne]
  ·obtain rfl : i = h.arenas.length := by omega
   rw [List.take_length, hn2, List.take_length] at ht2
   repeat' (first | apply nx | refine Kq_exit_ne (by decide) ?_ | rw [wrap64 (by omega) (by omega)] | ((first | refine hK _ ?_ | refine hKp _ _ ?_); clear hK hKp K Kp; try clear hanc anc) | ((with_reducible refine And.intro ?_ ?_); (focus (first | trivial | omega | (simp only [Fits]; omega) | assumption | (rw [hanc]; rfl)))) | ((first | refine K_regA hE fun K Kp hK hKp => ?_ | refine K_drwA false mixed hE fun K Kp hK hKp anc hanc => ?_); simp only [go_sem, ge_dec]) | ((first | refine onG_split_t (fun hg => ?_) (fun hg => ?_) | refine onG_split_f (fun hg => ?_) (fun hg => ?_)) <;> simp only [go_sem, ge_dec, hg]) | (refine K_condA (fun hc => ?_) (fun hc => ?_) <;> try (exact absurd hc (by decide))) | (refine K_ret ?_; refine (hQ _ ⟨_, by (try simp only [go_sem, ↓reduceIte, Nat.reduceEqDiff]); rfl, by simp [go_sem], ?_, by first | rfl | assumption⟩).1))
   simp [AV.snap, hiff, ht, ht2]
theorem begins_call (l p : List Int) (hl : l.length ≤ 2 ^ 40) (hp : p.length ≤ 2 ^ 40) : PCall Try.prog 19 [.sl (il l), .sl (il p)] (.bool (decide (p <+: l))) := by
 by_cases hle : p.length ≤ l.length
 ·have hc0 := ints_call (l.take p.length) p (by rw [List.length_take]; omega)
  have e : decide (p <+: l) = decide (l.take p.length = p) := by
   rw [decide_eq_decide, List.prefix_iff_eq_take]
   exact eq_comm
  have q1 : decide ((p.length : Int) ≤ (l.length : Int)) = true := by simpa using hle
  rw [e]
  refine PCall.intro Try.func19 rfl isf19 (by simp [Try.f19]) (by simp [AV.cloL, AV.clo]) fun E Q hE hN hQ => K_start ?_
  repeat' (first | apply nx | refine Kq_exit_ne (by decide) ?_ | rw [wrap64 (by omega) (by omega)] | ((first | refine hK _ ?_ | refine hKp _ _ ?_); clear hK hKp K Kp; try clear hanc anc) | ((with_reducible refine And.intro ?_ ?_); (focus (first | trivial | omega | (simp only [Fits]; omega) | assumption | (rw [hanc]; rfl)))) | ((first | refine K_regA hE fun K Kp hK hKp => ?_ | refine K_drwA false mixed hE fun K Kp hK hKp anc hanc => ?_ | ((first | apply CallP_mk | apply CallB_mk); (focus (simp only [go_sem] <;> rfl)); (focus (exact hc0)); (focus (first | (simp [go_sem]; done) | (simp [go_sem, CloRow, AV.cells, AV.clo]; done))); (focus (first | exact .inl rfl | (right; simp [go_sem]))))); simp only [go_sem, q1]) | ((first | refine onG_split_t (fun hg => ?_) (fun hg => ?_) | refine onG_split_f (fun hg => ?_) (fun hg => ?_)) <;> simp only [go_sem, q1, hg]) | (refine K_condA (fun hc => ?_) (fun hc => ?_) <;> try (exact absurd hc (by decide))) | (refine K_ret ?_; refine (hQ _ ⟨_, by (try simp only [go_sem, ↓reduceIte, Nat.reduceEqDiff]); rfl, by simp [go_sem], ?_, by first | rfl | assumption⟩).1))
  refine ⟨⟨⟨by omega, hle⟩, szok_il _⟩, ?_⟩
  repeat' (first | apply nx | refine Kq_exit_ne (by decide) ?_ | rw [wrap64 (by omega) (by omega)] | ((first | refine hK _ ?_ | refine hKp _ _ ?_); clear hK hKp K Kp; try clear hanc anc) | ((with_reducible refine And.intro ?_ ?_); (focus (first | trivial | omega | (simp only [Fits]; omega) | assumption | (rw [hanc]; rfl)))) | ((first | refine K_regA hE fun K Kp hK hKp => ?_ | refine K_drwA false mixed hE fun K Kp hK hKp anc hanc => ?_ | ((first | apply CallP_mk | apply CallB_mk); (focus (simp only [go_sem] <;> rfl)); (focus (exact hc0)); (focus (first | (simp [go_sem]; done) | (simp [go_sem, CloRow, AV.cells, AV.clo]; done))); (focus (first | exact .inl rfl | (right; simp [go_sem]))))); simp only [go_sem, q1]) | ((first | refine onG_split_t (fun hg => ?_) (fun hg => ?_) | refine onG_split_f (fun hg => ?_) (fun hg => ?_)) <;> simp only [go_sem, q1, hg]) | (refine K_condA (fun hc => ?_) (fun hc => ?_) <;> try (exact absurd hc (by decide))) | (refine K_ret ?_; refine (hQ _ ⟨_, by (try simp only [go_sem, ↓reduceIte, Nat.reduceEqDiff]); rfl, by simp [go_sem], ?_, by first | rfl | assumption⟩).1))
  simp [AV.snap]
 ·have q1 : decide ((p.length : Int) ≤ (l.length : Int)) = false := by simp; omega
  have hne : ¬ p <+: l := fun h => hle h.length_le
  refine PCall.intro Try.func19 rfl isf19 (by simp [Try.f19]) (by simp [AV.cloL, AV.clo]) fun E Q hE hN hQ => K_start ?_
  repeat' (first | apply nx | refine Kq_exit_ne (by decide) ?_ | rw [wrap64 (by omega) (by omega)] | ((first | refine hK _ ?_ | refine hKp _ _ ?_); clear hK hKp K Kp; try clear hanc anc) | ((with_reducible refine And.intro ?_ ?_); (focus (first | trivial | omega | (simp only [Fits]; omega) | assumption | (rw [hanc]; rfl)))) | ((first | refine K_regA hE fun K Kp hK hKp => ?_ | refine K_drwA false mixed hE fun K Kp hK hKp anc hanc => ?_); simp only [go_sem, q1]) | ((first | refine onG_split_t (fun hg => ?_) (fun hg => ?_) | refine onG_split_f (fun hg => ?_) (fun hg => ?_)) <;> simp only [go_sem, q1, hg]) | (refine K_condA (fun hc => ?_) (fun hc => ?_) <;> try (exact absurd hc (by decide))) | (refine K_ret ?_; refine (hQ _ ⟨_, by (try simp only [go_sem, ↓reduceIte, Nat.reduceEqDiff]); rfl, by simp [go_sem], ?_, by first | rfl | assumption⟩).1))
  simp [AV.snap, hne]
@[reducible] def numV (k n : Int) : Vl := .mk k 0 0 n [] false [] []
theorem box_call (n : Int) : PCall Try.prog 21 [.i n] (numV 3 n).av := by
 rw [Vl.av_eq]
 refine PCall.intro Try.func21 rfl isf21 (by simp [Try.f21]) (by simp [AV.cloL, AV.clo]) fun E Q hE hN hQ => K_start ?_
 repeat' (first | apply nx | refine Kq_exit_ne (by decide) ?_ | rw [wrap64 (by omega) (by omega)] | ((first | refine hK _ ?_ | refine hKp _ _ ?_); clear hK hKp K Kp; try clear hanc anc) | ((with_reducible refine And.intro ?_ ?_); (focus (first | trivial | omega | (simp only [Fits]; omega) | assumption | (rw [hanc]; rfl)))) | ((first | refine K_regA hE fun K Kp hK hKp => ?_ | refine K_drwA true mixed hE fun K Kp hK hKp anc hanc => ?_ | refine K_drwA false mixed hE fun K Kp hK hKp anc hanc => ?_); simp only [go_sem]) | ((first | refine onG_split_t (fun hg => ?_) (fun hg => ?_) | refine onG_split_f (fun hg => ?_) (fun hg => ?_)) <;> simp only [go_sem, hg]) | (refine K_condA (fun hc => ?_) (fun hc => ?_) <;> try (exact absurd hc (by decide))))
 refine K_ret (hQ _ ⟨.agg [.i 3, .i 0, .i 0, .i n, .nilsl, .bool false, .nilsl, .nilsl], (by simp [resA, rvA, Try.f21, go_sem]; rfl), (by simp [AV.snapOk, AV.snapOkL, go_sem]), (by rfl), (by first | rfl | simp [AV.clo, AV.cloL, go_sem])⟩).1
theorem number_call (n : Int) : PCall Try.prog 38 [.i n] (numV 1 n).av := by
 rw [Vl.av_eq]
 refine PCall.intro Try.func38 rfl isf38 (by simp [Try.f38]) (by simp [AV.cloL, AV.clo]) fun E Q hE hN hQ => K_start ?_
 repeat' (first | apply nx | refine Kq_exit_ne (by decide) ?_ | rw [wrap64 (by omega) (by omega)] | ((first | refine hK _ ?_ | refine hKp _ _ ?_); clear hK hKp K Kp; try clear hanc anc) | ((with_reducible refine And.intro ?_ ?_); (focus (first | trivial | omega | (simp only [Fits]; omega) | assumption | (rw [hanc]; rfl)))) | ((first | refine K_regA hE fun K Kp hK hKp => ?_ | refine K_drwA true mixed hE fun K Kp hK hKp anc hanc => ?_ | refine K_drwA false mixed hE fun K Kp hK hKp anc hanc => ?_); simp only [go_sem]) | ((first | refine onG_split_t (fun hg => ?_) (fun hg => ?_) | refine onG_split_f (fun hg => ?_) (fun hg => ?_)) <;> simp only [go_sem, hg]) | (refine K_condA (fun hc => ?_) (fun hc => ?_) <;> try (exact absurd hc (by decide))))
 refine K_ret (hQ _ ⟨.agg [.i 1, .i 0, .i 0, .i n, .nilsl, .bool false, .nilsl, .nilsl], (by simp [resA, rvA, Try.f38, go_sem]; rfl), (by simp [AV.snapOk, AV.snapOkL, go_sem]), (by rfl), (by first | rfl | simp [AV.clo, AV.cloL, go_sem])⟩).1
theorem whole_call (n : Int) (l : List Vl) : PCall Try.prog 37 [.i n, .sl (Vl.avL l)] (Vl.mk 2 n 0 0 l false [] []).av := by
 rw [Vl.av_eq]
 refine PCall.intro Try.func37 rfl isf37 (by simp [Try.f37]) (by simp [AV.cloL, AV.clo]) fun E Q hE hN hQ => K_start ?_
 repeat' (first | apply nx | refine Kq_exit_ne (by decide) ?_ | rw [wrap64 (by omega) (by omega)] | ((first | refine hK _ ?_ | refine hKp _ _ ?_); clear hK hKp K Kp; try clear hanc anc) | ((with_reducible refine And.intro ?_ ?_); (focus (first | trivial | omega | (simp only [Fits]; omega) | assumption | (rw [hanc]; rfl)))) | ((first | refine K_regA hE fun K Kp hK hKp => ?_ | refine K_drwA true mixed hE fun K Kp hK hKp anc hanc => ?_ | refine K_drwA false mixed hE fun K Kp hK hKp anc hanc => ?_); simp only [go_sem]) | ((first | refine onG_split_t (fun hg => ?_) (fun hg => ?_) | refine onG_split_f (fun hg => ?_) (fun hg => ?_)) <;> simp only [go_sem, hg]) | (refine K_condA (fun hc => ?_) (fun hc => ?_) <;> try (exact absurd hc (by decide))))
 refine K_ret (hQ _ ⟨.agg [.i 2, .i n, .i 0, .i 0, .sl (Vl.avL l), .bool false, .nilsl, .nilsl], (by simp [resA, rvA, Try.f37, go_sem]; rfl), (by simp [AV.snapOk, AV.snapOkL, go_sem]), (by rfl), (by first | rfl | simp [AV.clo, AV.cloL, go_sem])⟩).1
theorem new_call : PCall Try.prog 34 [] (Hp.mk [] []).av := by
 rw [Hp.av_eq]
 refine PCall.intro Try.func34 rfl isf34 (by simp [Try.f34]) (by simp [AV.cloL, AV.clo]) fun E Q hE hN hQ => K_start ?_
 repeat' (first | apply nx | refine Kq_exit_ne (by decide) ?_ | rw [wrap64 (by omega) (by omega)] | ((first | refine hK _ ?_ | refine hKp _ _ ?_); clear hK hKp K Kp; try clear hanc anc) | ((with_reducible refine And.intro ?_ ?_); (focus (first | trivial | omega | (simp only [Fits]; omega) | assumption | (rw [hanc]; rfl)))) | ((first | refine K_regA hE fun K Kp hK hKp => ?_ | refine K_drwA true mixed hE fun K Kp hK hKp anc hanc => ?_ | refine K_drwA false mixed hE fun K Kp hK hKp anc hanc => ?_); simp only [go_sem]) | ((first | refine onG_split_t (fun hg => ?_) (fun hg => ?_) | refine onG_split_f (fun hg => ?_) (fun hg => ?_)) <;> simp only [go_sem, hg]) | (refine K_condA (fun hc => ?_) (fun hc => ?_) <;> try (exact absurd hc (by decide))))
 refine K_ret (hQ _ ⟨.agg [.nilsl, .nilsl], (by simp [resA, rvA, Try.f34, go_sem]; rfl), (by simp [AV.snapOk, AV.snapOkL, go_sem]), (by rfl), (by first | rfl | simp [AV.clo, AV.cloL, go_sem])⟩).1
theorem rnew_call : PCall Try.prog 35 [] (Hp.mk [] []).av := by
 rw [Hp.av_eq]
 refine PCall.intro Try.func35 rfl isf35 (by simp [Try.f35]) (by simp [AV.cloL, AV.clo]) fun E Q hE hN hQ => K_start ?_
 repeat' (first | apply nx | refine Kq_exit_ne (by decide) ?_ | rw [wrap64 (by omega) (by omega)] | ((first | refine hK _ ?_ | refine hKp _ _ ?_); clear hK hKp K Kp; try clear hanc anc) | ((with_reducible refine And.intro ?_ ?_); (focus (first | trivial | omega | (simp only [Fits]; omega) | assumption | (rw [hanc]; rfl)))) | ((first | refine K_regA hE fun K Kp hK hKp => ?_ | refine K_drwA true mixed hE fun K Kp hK hKp anc hanc => ?_ | refine K_drwA false mixed hE fun K Kp hK hKp anc hanc => ?_); simp only [go_sem]) | ((first | refine onG_split_t (fun hg => ?_) (fun hg => ?_) | refine onG_split_f (fun hg => ?_) (fun hg => ?_)) <;> simp only [go_sem, hg]) | (refine K_condA (fun hc => ?_) (fun hc => ?_) <;> try (exact absurd hc (by decide))))
 refine K_ret (hQ _ ⟨.agg [.nilsl, .nilsl], (by simp [resA, rvA, Try.f35, go_sem]; rfl), (by simp [AV.snapOk, AV.snapOkL, go_sem]), (by rfl), (by first | rfl | simp [AV.clo, AV.cloL, go_sem])⟩).1
mutual
def sizeV : Vl → Int → Int
 | .mk _ _ _ _ f _ _ _, m => sizeL f 1 m
def sizeL : List Vl → Int → Int → Int
 | [], n, _ => n
 | x :: l, n, m => if n ≤ m then sizeL l (n + sizeV x (m - n)) m else n
end
theorem sizeV_eq (v : Vl) (m : Int) : sizeV v m = sizeL v.fs 1 m := by cases v; rw [sizeV]; rfl
mutual
theorem sizeV_le : ∀ (v : Vl) (m : Int), 1 ≤ sizeV v m ∧ sizeV v m ≤ v.sz
 | .mk a b c d f e g h, m => by
  rw [sizeV]
  have h0 := sizeL_le f 1 m (by omega)
  have h1 : (Vl.mk a b c d f e g h).sz = 1 + g.length + h.length + Vl.szL f := Vl.sz_eq _
  omega
theorem sizeL_le : ∀ (l : List Vl) (n m : Int), 0 ≤ n → n ≤ sizeL l n m ∧ sizeL l n m ≤ n + Vl.szL l
 | [], n, m, h => by rw [sizeL, Vl.szL]; omega
 | x :: l, n, m, h => by
  rw [sizeL, Vl.szL]
  have h1 := sizeV_le x (m - n)
  split
  ·have h2 := sizeL_le l (n + sizeV x (m - n)) m (by omega)
   omega
  ·omega
end
theorem size_call : ∀ (N : Nat) (v : Vl) (m : Int), v.sz < N → N ≤ 2 ^ 40 → -2 ^ 50 + N ≤ m → m ≤ 60 → PCall Try.prog 39 [.agg v.cs, .i m] (.i (sizeV v m)) := by
 intro N
 induction N with
 | zero => intro v m h; omega
 | succ N ih =>
 intro v m hv hN hm1 hm2
 have hsz := v.sz_eq
 have hlf := Vl.len_le v.fs
 rw [sizeV_eq]
 unfold Vl.cs
 refine PCall.intro Try.func39 rfl isf39 (by simp [Try.f39]) (by simp [AV.cloL, AV.clo]) fun E Q hE hN hQ => K_start ?_
 repeat' (first | apply nx | refine Kq_exit_ne (by decide) ?_ | rw [wrap64 (by omega) (by omega)] | ((first | refine hK _ ?_ | refine hKp _ _ ?_); clear hK hKp K Kp; try clear hanc anc) | ((with_reducible refine And.intro ?_ ?_); (focus (first | trivial | omega | (simp only [Fits]; omega) | assumption | (rw [hanc]; rfl)))) | ((first | refine K_regA hE fun K Kp hK hKp => ?_ | refine K_drwA false mixed hE fun K Kp hK hKp anc hanc => ?_); simp only [go_sem]) | ((first | refine onG_split_t (fun hg => ?_) (fun hg => ?_) | refine onG_split_f (fun hg => ?_) (fun hg => ?_)) <;> simp only [go_sem, hg]) | (refine K_condA (fun hc => ?_) (fun hc => ?_) <;> try (exact absurd hc (by decide))) | (refine K_ret ?_; refine (hQ _ ⟨_, by (try simp only [go_sem, ↓reduceIte, Nat.reduceEqDiff]); rfl, by simp [go_sem], ?_, by first | rfl | assumption⟩).1))
 refine K_loop (X := Nat × Int) (fun x => x.1 ≤ v.fs.length ∧ sizeL (v.fs.drop x.1) x.2 m = sizeL v.fs 1 m ∧ 1 ≤ x.2 ∧ x.2 ≤ 1 + Vl.szL (v.fs.take x.1)) (fun x => mkSt [(1, AV.i m), (2, .ptr 0 0), (5, AV.i x.2), (6, AV.i x.1)] [(0, .cells v.cs)] 1) (fun x => v.fs.length - x.1) (0, 1) ⟨Nat.zero_le _, by simp, by simp, by simp [Vl.szL]⟩ (fun i => i) (by refine ent_mk (by simp [go_sem, Vl.cs]) (by simp [go_sem, Vl.cs]) (by simp) (by simp [hN])) ?_
 rintro ⟨i, n⟩ ⟨hi, ht, h1, h2⟩
 simp only at hi ht h1 h2
 have htk : Vl.szL (v.fs.take i) + Vl.szL (v.fs.drop i) = Vl.szL v.fs := by
  rw [Vl.szL_eq, Vl.szL_eq, Vl.szL_eq, ← List.sum_append, ← List.map_append, List.take_append_drop]
 by_cases hlt : i < v.fs.length
 ·obtain ⟨x, hx⟩ := get?_of hlt
  rw [drop_of hx, sizeL] at ht
  rw [drop_of hx, Vl.szL] at htk
  by_cases hle : n ≤ m
  ·rw [if_pos hle] at ht
   have hsx := sizeV_le x (m - n)
   have hr := ih x (m - n) (by omega) (by omega) (by omega) (by omega)
   repeat' (first | apply nx | refine Kq_exit_ne (by decide) ?_ | rw [wrap64 (by omega) (by omega)] | ((first | refine hK _ ?_ | refine hKp _ _ ?_); clear hK hKp K Kp; try clear hanc anc) | ((with_reducible refine And.intro ?_ ?_); (focus (first | trivial | omega | (simp only [Fits]; omega) | assumption | (rw [hanc]; rfl)))) | ((first | refine K_regA hE fun K Kp hK hKp => ?_ | refine K_drwA false mixed hE fun K Kp hK hKp anc hanc => ?_ | ((first | apply CallP_mk | apply CallB_mk); (focus (simp only [go_sem] <;> rfl)); (focus (exact hr)); (focus (first | (simp [go_sem]; done) | (simp [go_sem, CloRow, AV.cells, AV.clo]; done))); (focus (first | exact .inl rfl | (right; simp [go_sem]))))); simp only [go_sem, lt_dec hlt, hx, Vl.av_cs, Vl.cs, hle]) | ((first | refine onG_split_t (fun hg => ?_) (fun hg => ?_) | refine onG_split_f (fun hg => ?_) (fun hg => ?_)) <;> simp only [go_sem, lt_dec hlt, hx, Vl.av_cs, Vl.cs, hle, hg]) | (refine K_condA (fun hc => ?_) (fun hc => ?_) <;> try (exact absurd hc (by decide))) | (refine K_ret ?_; refine (hQ _ ⟨_, by (try simp only [go_sem, ↓reduceIte, Nat.reduceEqDiff]); rfl, by simp [go_sem], ?_, by first | rfl | assumption⟩).1))
   refine ⟨(i + 1, n + sizeV x (m - n)), ⟨by simp only; omega, by simp only; exact ht, by simp only; omega, ?_⟩, by simp only; omega, fun i => i, by refine ent_mk (by simp [go_sem, Vl.cs]) (by simp [go_sem, Vl.cs]) (by simp) (by simp [hN])⟩
   simp only
   rw [List.take_add_one, hx]
   have e : Vl.szL (v.fs.take i ++ (some x).toList) = Vl.szL (v.fs.take i) + x.sz := by
    rw [Vl.szL_eq, Vl.szL_eq]; simp
   rw [e]
   omega
  ·rw [if_neg hle] at ht
   repeat' (first | apply nx | refine Kq_exit_ne (by decide) ?_ | rw [wrap64 (by omega) (by omega)] | ((first | refine hK _ ?_ | refine hKp _ _ ?_); clear hK hKp K Kp; try clear hanc anc) | ((with_reducible refine And.intro ?_ ?_); (focus (first | trivial | omega | (simp only [Fits]; omega) | assumption | (rw [hanc]; rfl)))) | ((first | refine K_regA hE fun K Kp hK hKp => ?_ | refine K_drwA false mixed hE fun K Kp hK hKp anc hanc => ?_); simp only [go_sem, lt_dec hlt, hle, Vl.cs]) | ((first | refine onG_split_t (fun hg => ?_) (fun hg => ?_) | refine onG_split_f (fun hg => ?_) (fun hg => ?_)) <;> simp only [go_sem, lt_dec hlt, hle, Vl.cs, hg]) | (refine K_condA (fun hc => ?_) (fun hc => ?_) <;> try (exact absurd hc (by decide))) | (refine K_ret ?_; refine (hQ _ ⟨_, by (try simp only [go_sem, ↓reduceIte, Nat.reduceEqDiff]); rfl, by simp [go_sem], ?_, by first | rfl | assumption⟩).1))
   simp [AV.snap, ht]
 ·obtain rfl : i = v.fs.length := by omega
  rw [List.drop_length, sizeL] at ht
  repeat' (first | apply nx | refine Kq_exit_ne (by decide) ?_ | rw [wrap64 (by omega) (by omega)] | ((first | refine hK _ ?_ | refine hKp _ _ ?_); clear hK hKp K Kp; try clear hanc anc) | ((with_reducible refine And.intro ?_ ?_); (focus (first | trivial | omega | (simp only [Fits]; omega) | assumption | (rw [hanc]; rfl)))) | ((first | refine K_regA hE fun K Kp hK hKp => ?_ | refine K_drwA false mixed hE fun K Kp hK hKp anc hanc => ?_); simp only [go_sem, ge_dec, Vl.cs]) | ((first | refine onG_split_t (fun hg => ?_) (fun hg => ?_) | refine onG_split_f (fun hg => ?_) (fun hg => ?_)) <;> simp only [go_sem, ge_dec, Vl.cs, hg]) | (refine K_condA (fun hc => ?_) (fun hc => ?_) <;> try (exact absurd hc (by decide))) | (refine K_ret ?_; refine (hQ _ ⟨_, by (try simp only [go_sem, ↓reduceIte, Nat.reduceEqDiff]); rfl, by simp [go_sem], ?_, by first | rfl | assumption⟩).1))
  simp [AV.snap, ht]
theorem size60 (v : Vl) (h : v.sz < 2 ^ 40) : PCall Try.prog 39 [.agg v.cs, .i 60] (.i (sizeV v 60)) := size_call (2 ^ 40) v 60 h (Nat.le_refl _) (by omega) (by omega)
def fewB (h : Hp) (v : Vl) : Prop := h.cells.length ≤ 60 ∧ h.arenas.length ≤ 30 ∧ sizeV v 60 ≤ 60 ∧ ∀ c, c ∈ h.cells → sizeV c.v 60 ≤ 60
theorem few_call (h : Hp) (v : Vl) (hv : v.sz < 2 ^ 40) (hz : ∀ c, c ∈ h.cells → c.v.sz < 2 ^ 40) (hl : h.cells.length ≤ 2 ^ 20) : PCall Try.prog 10 [h.av, v.av] (.bool (decide (fewB h v))) := by
 have h60 := size60 v hv
 rw [Hp.av_eq, Vl.av_eq]
 unfold Vl.cs at h60
 by_cases h1 : h.cells.length ≤ 60
 case neg =>
  have q1 : decide ((60 : Int) < (h.cells.length : Int)) = true := by simp; omega
  have hn : ¬ fewB h v := fun hf => h1 hf.1
  refine PCall.intro Try.func10 rfl isf10 (by simp [Try.f10]) (by simp [AV.cloL, AV.clo]) fun E Q hE hN hQ => K_start ?_
  repeat' (first | apply nx | refine Kq_exit_ne (by decide) ?_ | rw [wrap64 (by omega) (by omega)] | ((first | refine hK _ ?_ | refine hKp _ _ ?_); clear hK hKp K Kp; try clear hanc anc) | ((with_reducible refine And.intro ?_ ?_); (focus (first | trivial | omega | (simp only [Fits]; omega) | assumption | (rw [hanc]; rfl)))) | ((first | refine K_regA hE fun K Kp hK hKp => ?_ | refine K_drwA false mixed hE fun K Kp hK hKp anc hanc => ?_); simp only [go_sem, q1]) | ((first | refine onG_split_t (fun hg => ?_) (fun hg => ?_) | refine onG_split_f (fun hg => ?_) (fun hg => ?_)) <;> simp only [go_sem, q1, hg]) | (refine K_condA (fun hc => ?_) (fun hc => ?_) <;> try (exact absurd hc (by decide))) | (refine K_ret ?_; refine (hQ _ ⟨_, by (try simp only [go_sem, ↓reduceIte, Nat.reduceEqDiff]); rfl, by simp [go_sem], ?_, by first | rfl | assumption⟩).1))
  simp [AV.snap, hn]
 have q1 : decide ((60 : Int) < (h.cells.length : Int)) = false := by simp; omega
 by_cases h2 : h.arenas.length ≤ 30
 case neg =>
  have q2 : decide ((30 : Int) < (h.arenas.length : Int)) = true := by simp; omega
  have hn : ¬ fewB h v := fun hf => h2 hf.2.1
  refine PCall.intro Try.func10 rfl isf10 (by simp [Try.f10]) (by simp [AV.cloL, AV.clo]) fun E Q hE hN hQ => K_start ?_
  repeat' (first | apply nx | refine Kq_exit_ne (by decide) ?_ | rw [wrap64 (by omega) (by omega)] | ((first | refine hK _ ?_ | refine hKp _ _ ?_); clear hK hKp K Kp; try clear hanc anc) | ((with_reducible refine And.intro ?_ ?_); (focus (first | trivial | omega | (simp only [Fits]; omega) | assumption | (rw [hanc]; rfl)))) | ((first | refine K_regA hE fun K Kp hK hKp => ?_ | refine K_drwA false mixed hE fun K Kp hK hKp anc hanc => ?_); simp only [go_sem, q1, q2]) | ((first | refine onG_split_t (fun hg => ?_) (fun hg => ?_) | refine onG_split_f (fun hg => ?_) (fun hg => ?_)) <;> simp only [go_sem, q1, q2, hg]) | (refine K_condA (fun hc => ?_) (fun hc => ?_) <;> try (exact absurd hc (by decide))) | (refine K_ret ?_; refine (hQ _ ⟨_, by (try simp only [go_sem, ↓reduceIte, Nat.reduceEqDiff]); rfl, by simp [go_sem], ?_, by first | rfl | assumption⟩).1))
  simp [AV.snap, hn]
 have q2 : decide ((30 : Int) < (h.arenas.length : Int)) = false := by simp; omega
 by_cases h3 : sizeV v 60 ≤ 60
 case neg =>
  have q3 : decide (60 < sizeV v 60) = true := by simp; omega
  have hn : ¬ fewB h v := fun hf => h3 hf.2.2.1
  refine PCall.intro Try.func10 rfl isf10 (by simp [Try.f10]) (by simp [AV.cloL, AV.clo]) fun E Q hE hN hQ => K_start ?_
  repeat' (first | apply nx | refine Kq_exit_ne (by decide) ?_ | rw [wrap64 (by omega) (by omega)] | ((first | refine hK _ ?_ | refine hKp _ _ ?_); clear hK hKp K Kp; try clear hanc anc) | ((with_reducible refine And.intro ?_ ?_); (focus (first | trivial | omega | (simp only [Fits]; omega) | assumption | (rw [hanc]; rfl)))) | ((first | refine K_regA hE fun K Kp hK hKp => ?_ | refine K_drwA false mixed hE fun K Kp hK hKp anc hanc => ?_ | ((first | apply CallP_mk | apply CallB_mk); (focus (simp only [go_sem] <;> rfl)); (focus (exact h60)); (focus (first | (simp [go_sem]; done) | (simp [go_sem, CloRow, AV.cells, AV.clo]; done))); (focus (first | exact .inl rfl | (right; simp [go_sem]))))); simp only [go_sem, q1, q2, q3]) | ((first | refine onG_split_t (fun hg => ?_) (fun hg => ?_) | refine onG_split_f (fun hg => ?_) (fun hg => ?_)) <;> simp only [go_sem, q1, q2, q3, hg]) | (refine K_condA (fun hc => ?_) (fun hc => ?_) <;> try (exact absurd hc (by decide))) | (refine K_ret ?_; refine (hQ _ ⟨_, by (try simp only [go_sem, ↓reduceIte, Nat.reduceEqDiff]); rfl, by simp [go_sem], ?_, by first | rfl | assumption⟩).1))
  all_goals simp [AV.snap, hn]
 have q3 : decide (60 < sizeV v 60) = false := by simp; omega
 refine PCall.intro Try.func10 rfl isf10 (by simp [Try.f10]) (by simp [AV.cloL, AV.clo]) fun E Q hE hN hQ => K_start ?_
 repeat' (first | apply nx | refine Kq_exit_ne (by decide) ?_ | rw [wrap64 (by omega) (by omega)] | ((first | refine hK _ ?_ | refine hKp _ _ ?_); clear hK hKp K Kp; try clear hanc anc) | ((with_reducible refine And.intro ?_ ?_); (focus (first | trivial | omega | (simp only [Fits]; omega) | assumption | (rw [hanc]; rfl)))) | ((first | refine K_regA hE fun K Kp hK hKp => ?_ | refine K_drwA false mixed hE fun K Kp hK hKp anc hanc => ?_ | ((first | apply CallP_mk | apply CallB_mk); (focus (simp only [go_sem] <;> rfl)); (focus (exact h60)); (focus (first | (simp [go_sem]; done) | (simp [go_sem, CloRow, AV.cells, AV.clo]; done))); (focus (first | exact .inl rfl | (right; simp [go_sem]))))); simp only [go_sem, q1, q2, q3]) | ((first | refine onG_split_t (fun hg => ?_) (fun hg => ?_) | refine onG_split_f (fun hg => ?_) (fun hg => ?_)) <;> simp only [go_sem, q1, q2, q3, hg]) | (refine K_condA (fun hc => ?_) (fun hc => ?_) <;> try (exact absurd hc (by decide))) | (refine K_ret ?_; refine (hQ _ ⟨_, by (try simp only [go_sem, ↓reduceIte, Nat.reduceEqDiff]); rfl, by simp [go_sem], ?_, by first | rfl | assumption⟩).1))
 refine K_loop (X := Nat) (fun i => i ≤ h.cells.length ∧ ∀ c, c ∈ h.cells.take i → sizeV c.v 60 ≤ 60) (fun i => mkSt [(2, .ptr 0 0), (5, AV.i i)] [(0, .cells [.sl (cl h.cells), .sl (bl h.arenas)])] 2) (fun i => h.cells.length - i) 0 ⟨Nat.zero_le _, by simp⟩ (fun i => i) (by refine ent_mk (by simp [go_sem]) (by simp [go_sem]) (by simp) (by simp [hN])) ?_
 rintro i ⟨hi, ht⟩
 by_cases hlt : i < h.cells.length
 ·obtain ⟨x, hx⟩ := get?_of hlt
  have hc0 := size60 x.v (hz x (List.mem_of_getElem? hx))
  unfold Vl.cs at hc0
  by_cases hs : sizeV x.v 60 ≤ 60
  ·have q4 : decide (60 < sizeV x.v 60) = false := by simp; omega
   repeat' (first | apply nx | refine Kq_exit_ne (by decide) ?_ | rw [wrap64 (by omega) (by omega)] | ((first | refine hK _ ?_ | refine hKp _ _ ?_); clear hK hKp K Kp; try clear hanc anc) | ((with_reducible refine And.intro ?_ ?_); (focus (first | trivial | omega | (simp only [Fits]; omega) | assumption | (rw [hanc]; rfl)))) | ((first | refine K_regA hE fun K Kp hK hKp => ?_ | refine K_drwA false mixed hE fun K Kp hK hKp anc hanc => ?_ | ((first | apply CallP_mk | apply CallB_mk); (focus (simp only [go_sem] <;> rfl)); (focus (exact hc0)); (focus (first | (simp [go_sem]; done) | (simp [go_sem, CloRow, AV.cells, AV.clo]; done))); (focus (first | exact .inl rfl | (right; simp [go_sem]))))); simp only [go_sem, lt_dec hlt, hx, Cl.av, Cl.cs_eq, q4]) | ((first | refine onG_split_t (fun hg => ?_) (fun hg => ?_) | refine onG_split_f (fun hg => ?_) (fun hg => ?_)) <;> simp only [go_sem, lt_dec hlt, hx, Cl.av, Cl.cs_eq, q4, hg]) | (refine K_condA (fun hc => ?_) (fun hc => ?_) <;> try (exact absurd hc (by decide))) | (refine K_ret ?_; refine (hQ _ ⟨_, by (try simp only [go_sem, ↓reduceIte, Nat.reduceEqDiff]); rfl, by simp [go_sem], ?_, by first | rfl | assumption⟩).1))
   refine ⟨i + 1, ⟨by omega, ?_⟩, by omega, fun i => i, by refine ent_mk (by simp [go_sem]) (by simp [go_sem]) (by simp) (by simp [hN])⟩
   rw [List.take_add_one, hx]
   intro c hc
   rcases List.mem_append.1 hc with hc | hc
   ·exact ht c hc
   ·simp at hc; subst hc; exact hs
  ·have q4 : decide (60 < sizeV x.v 60) = true := by simp; omega
   have hn : ¬ fewB h v := fun hf => hs (hf.2.2.2 x (List.mem_of_getElem? hx))
   repeat' (first | apply nx | refine Kq_exit_ne (by decide) ?_ | rw [wrap64 (by omega) (by omega)] | ((first | refine hK _ ?_ | refine hKp _ _ ?_); clear hK hKp K Kp; try clear hanc anc) | ((with_reducible refine And.intro ?_ ?_); (focus (first | trivial | omega | (simp only [Fits]; omega) | assumption | (rw [hanc]; rfl)))) | ((first | refine K_regA hE fun K Kp hK hKp => ?_ | refine K_drwA false mixed hE fun K Kp hK hKp anc hanc => ?_ | ((first | apply CallP_mk | apply CallB_mk); (focus (simp only [go_sem] <;> rfl)); (focus (exact hc0)); (focus (first | (simp [go_sem]; done) | (simp [go_sem, CloRow, AV.cells, AV.clo]; done))); (focus (first | exact .inl rfl | (right; simp [go_sem]))))); simp only [go_sem, lt_dec hlt, hx, Cl.av, Cl.cs_eq, q4]) | ((first | refine onG_split_t (fun hg => ?_) (fun hg => ?_) | refine onG_split_f (fun hg => ?_) (fun hg => ?_)) <;> simp only [go_sem, lt_dec hlt, hx, Cl.av, Cl.cs_eq, q4, hg]) | (refine K_condA (fun hc => ?_) (fun hc => ?_) <;> try (exact absurd hc (by decide))) | (refine K_ret ?_; refine (hQ _ ⟨_, by (try simp only [go_sem, ↓reduceIte, Nat.reduceEqDiff]); rfl, by simp [go_sem], ?_, by first | rfl | assumption⟩).1))
   simp [AV.snap, hn]
 ·obtain rfl : i = h.cells.length := by omega
  rw [List.take_length] at ht
  have hn : fewB h v := ⟨h1, h2, h3, ht⟩
  repeat' (first | apply nx | refine Kq_exit_ne (by decide) ?_ | rw [wrap64 (by omega) (by omega)] | ((first | refine hK _ ?_ | refine hKp _ _ ?_); clear hK hKp K Kp; try clear hanc anc) | ((with_reducible refine And.intro ?_ ?_); (focus (first | trivial | omega | (simp only [Fits]; omega) | assumption | (rw [hanc]; rfl)))) | ((first | refine K_regA hE fun K Kp hK hKp => ?_ | refine K_drwA false mixed hE fun K Kp hK hKp anc hanc => ?_); simp only [go_sem, ge_dec]) | ((first | refine onG_split_t (fun hg => ?_) (fun hg => ?_) | refine onG_split_f (fun hg => ?_) (fun hg => ?_)) <;> simp only [go_sem, ge_dec, hg]) | (refine K_condA (fun hc => ?_) (fun hc => ?_) <;> try (exact absurd hc (by decide))) | (refine K_ret ?_; refine (hQ _ ⟨_, by (try simp only [go_sem, ↓reduceIte, Nat.reduceEqDiff]); rfl, by simp [go_sem], ?_, by first | rfl | assumption⟩).1))
  simp [AV.snap, hn]
end Go.Proofs.Ytdgmjbgjahmoaaa

set_option maxHeartbeats 4000000
set_option maxRecDepth 100000
namespace Go.Proofs.Ytdgmjbgjahmoaaa
open Go.Am Go.Proofs Go.Hv
open Classical
attribute [local irreducible] AW CallP CallB
def ICopy (A B : List AV) (D : Nat → Bool) (σ : St) : Prop :=
 σ.nx = 2097152 ∧ σ.fr 1 = some (.ptr 0 0) ∧ σ.fr 2 = some (.ptr 1048576 0) ∧ σ.hp 0 = some (.cells [.sl A, .sl B]) ∧ (D 9 = false → σ.hp 1048576 = some (.cells [.nilsl, .nilsl])) ∧
 (D 0 = true → σ.fr 3 = some (.rw 2097152)) ∧ (D 1 = true → σ.fr 4 = some (.ptr 0 0)) ∧ (D 2 = true → σ.fr 5 = some (.sl A)) ∧ (D 3 = true → σ.fr 6 = some (.rw 5242880)) ∧ (D 4 = true → σ.fr 7 = some (.rw 6291456)) ∧
 (D 5 = true → σ.fr 8 = some (.ptr 0 1)) ∧ (D 6 = true → σ.fr 9 = some (.sl B)) ∧ (D 7 = true → σ.fr 10 = some (.rw 9437184)) ∧ (D 8 = true → σ.fr 11 = some (.agg [.rw 5242880, .rw 9437184])) ∧
 (D 0 = true → D 3 = false → σ.hp 2097152 = some (.row 10 [])) ∧ (D 3 = true → σ.hp 5242880 = some (.row 10 A)) ∧ (D 4 = true → D 7 = false → σ.hp 6291456 = some (.row 1 [])) ∧ (D 7 = true → σ.hp 9437184 = some (.row 1 B)) ∧
 (D 9 = true → σ.hp 1048576 = some (.cells [.rw 5242880, .rw 9437184]))
theorem copy_nc (h : Hp) (hl : h.cells.length ≤ 2 ^ 20) (ha : h.arenas.length ≤ 2 ^ 20) : ACall Try.prog 50 [h.av] (fun _ => none) 0 0 (fun r hp' => r = .agg [.rw 0, .rw 1] ∧ hp' = mkHp [(0, .row 10 (cl h.cells)), (1, .row 1 (bl h.arenas))]) (fun _ _ => False) := by
 have hsz := szok_cl h.cells
 have hsz2 := szok_bl h.arenas
 rw [Hp.av_eq]
 refine ACall.of_bodyR Try.func50 isf50 rfl (by simp [Try.f50]) fun E Q hE hN hQ hQp => K_start ?_
 repeat' (first | apply nx | refine Kq_exit_ne (by decide) ?_ | rw [wrap64 (by omega) (by omega)] | ((first | refine hK _ ?_ | refine hKp _ _ ?_); clear hK hKp K Kp; try clear hanc anc) | ((with_reducible refine And.intro ?_ ?_); (focus (first | trivial | omega | (simp only [Fits]; omega) | assumption | (rw [hanc]; rfl)))) | ((first | refine K_regA hE fun K Kp hK hKp => ?_ | refine K_drwA true mixed hE fun K Kp hK hKp anc hanc => ?_ | refine K_drwA false mixed hE fun K Kp hK hKp anc hanc => ?_); simp only [go_sem]) | ((first | refine onG_split_t (fun hg => ?_) (fun hg => ?_) | refine onG_split_f (fun hg => ?_) (fun hg => ?_)) <;> simp only [go_sem, hg]) | (refine K_condA (fun hc => ?_) (fun hc => ?_) <;> try (exact absurd hc (by decide))))
 refine K_inv (n := 10) (ICopy (cl h.cells) (bl h.arenas)) mixed hE ?_ ?_ (fun Kp hKp => ?_) ?_ rfl
 ·intro D D' σ h
  have := fun j => (h j).symm
  unfold ICopy
  simp only [this]
  exact fun h => h
 ·simp [ICopy, go_sem]
 ·refine ⟨?_, ?_, ?_, ?_, ?_, ?_, ?_, ?_, ?_, ?_, trivial⟩
  all_goals rintro D ⟨fr, hp, nx⟩ hD hr ⟨hn, f1, f2, h0, h1, d0, d1, d2, d3, d4, d5, d6, d7, d8, e0, e3, e4, e7, e9⟩
  all_goals simp [Region.binds] at hn f1 f2 h0 h1 d0 d1 d2 d3 d4 d5 d6 d7 d8 e0 e3 e4 e7 e9 hD hr
  all_goals subst hn
  all_goals try clear hQ hQp
  ·simp only [go_sem]
   (simp only [ICopy, upd, updo]; simp [f1, f2, h0]; simp_all)
  ·simp only [go_sem, f1]
   (simp only [ICopy, upd, updo]; simp [f1, f2, h0]; simp_all)
  ·simp only [go_sem, d1 hr, h0]
   (simp only [ICopy, upd, updo]; simp [f1, f2, h0]; simp_all)
  ·simp only [go_sem, d0 hr.1, d2 hr.2, e0 hr.1 hD]
   refine ⟨⟨hsz, (by simp only [Fits]; omega)⟩, ?_⟩
   (simp only [ICopy, upd, updo]; simp [f1, f2, h0]; simp_all)
  ·simp only [go_sem]
   (simp only [ICopy, upd, updo]; simp [f1, f2, h0]; simp_all)
  ·simp only [go_sem, f1]
   (simp only [ICopy, upd, updo]; simp [f1, f2, h0]; simp_all)
  ·simp only [go_sem, d5 hr, h0]
   (simp only [ICopy, upd, updo]; simp [f1, f2, h0]; simp_all)
  ·simp only [go_sem, d4 hr.1, d6 hr.2.1, e4 hr.1 hD]
   refine ⟨⟨hsz2, (by simp only [Fits]; omega)⟩, ?_⟩
   (simp only [ICopy, upd, updo]; simp [f1, f2, h0]; simp_all)
  ·simp only [go_sem, d3 hr.1, d7 hr.2]
   (simp only [ICopy, upd, updo]; simp [f1, f2, h0]; simp_all)
  ·simp only [go_sem, f2, d8 hr.1, h1 hD]
   (simp only [ICopy, upd, updo]; simp [f1, f2, h0]; simp_all)
 ·rintro ⟨fr, hp, nx⟩ D hD ⟨hn, f1, f2, h0, h1, d0, d1, d2, d3, d4, d5, d6, d7, d8, e0, e3, e4, e7, e9⟩
  simp only at hn f1 f2 h0 h1 d0 d1 d2 d3 d4 d5 d6 d7 d8 e0 e3 e4 e7 e9
  have g3 := e3 (hD 3)
  have g7 := e7 (hD 7)
  have g9 := e9 (hD 9)
  refine Kq_norm_code ?_
  refine K_ret (hQ _ ⟨.agg [.rw 0, .rw 1], fun i => if i = 0 then 5242880 else 9437184, _, 2, (by simp [resA, rvA, Try.f50, go_sem, f2, g9]; rfl), (by simp [AV.ids, AV.idsL]), ?_, rfl, rfl⟩).1
  show Ent _ _ _ (mkSt [] [(0, .row 10 (cl h.cells)), (1, .row 1 (bl h.arenas))] 2)
  refine ent_mk (by simp [go_sem]) (by simp [go_sem, g3, g7]) (by simp) (by simp [hN])

def hp0 : Hp := ⟨[], []⟩
def resH (p : Hp × Int × Int) : AV := .tup [p.1.av, .i p.2.1, .i p.2.2]
def firstDead : List Cl → Nat
 | [] => 0
 | c :: l => if c.live then 1 + firstDead l else 0
theorem firstDead_le : ∀ l : List Cl, firstDead l ≤ l.length
 | [] => Nat.le_refl _
 | c :: l => by have := firstDead_le l; simp only [firstDead, List.length_cons]; split <;> omega
def putC (l : List Cl) (n : Nat) (c : Cl) : List Cl := if n = l.length then l ++ [c] else l.set n c
theorem app_get {l : List AV} {n : Nat} (h : l.length = n) (z : AV) : (l ++ [z])[n]? = some z := by subst h; simp
theorem app_set {l : List AV} {n : Nat} (h : l.length = n) (z x : AV) : (l ++ [z]).set n x = l ++ [x] := by subst h; simp
noncomputable def allocS (h : Hp) (ar : Int) (v : Vl) : Hp × Int × Int :=
 if ar < -1 ∨ ar ≥ h.arenas.length then (hp0, 0, 1)
 else if 0 ≤ ar ∧ h.arenas[ar.toNat]? = some false then (hp0, 0, 18)
 else if 4000 ≤ liveN h.cells then (hp0, 0, 19)
 else (⟨putC h.cells (firstDead h.cells) ⟨true, ar, v⟩, h.arenas⟩, firstDead h.cells, 0)
theorem ralloc_call (h : Hp) (ar : Int) (v : Vl) (hl : h.cells.length ≤ 2 ^ 20) (ha : h.arenas.length ≤ 2 ^ 20) : PCall Try.prog 23 [h.av, .i ar, v.av] (resH (allocS h ar v)) := by
 have hlv := live_call h (by omega)
 have hll := liveN_le h.cells
 have hfd := firstDead_le h.cells
 have hcp := copy_nc h hl ha
 have hsz := szok_cl h.cells
 rw [Hp.av_eq] at hlv hcp ⊢
 rw [Vl.av_eq]
 by_cases h1 : ar < -1
 ·have e : allocS h ar v = (hp0, 0, 1) := by rw [allocS, if_pos (.inl h1)]
  rw [e]
  have q1 : decide (ar < -1) = true := by simpa using h1
  refine PCall.intro Try.func23 rfl isf23 (by simp [Try.f23]) (by simp [AV.cloL, AV.clo]) fun E Q hE hN hQ => K_start ?_
  repeat' (first | apply nx | refine Kq_exit_ne (by decide) ?_ | rw [wrap64 (by omega) (by omega)] | ((first | refine hK _ ?_ | refine hKp _ _ ?_); clear hK hKp K Kp; try clear hanc anc) | ((with_reducible refine And.intro ?_ ?_); (focus (first | trivial | omega | (simp only [Fits]; omega) | assumption | (rw [hanc]; rfl)))) | ((first | refine K_regA hE fun K Kp hK hKp => ?_ | refine K_drwA true mixed hE fun K Kp hK hKp anc hanc => ?_ | refine K_drwA false mixed hE fun K Kp hK hKp anc hanc => ?_); simp only [go_sem, q1]) | ((first | refine onG_split_t (fun hg => ?_) (fun hg => ?_) | refine onG_split_f (fun hg => ?_) (fun hg => ?_)) <;> simp only [go_sem, q1, hg]) | (refine K_condA (fun hc => ?_) (fun hc => ?_) <;> try (exact absurd hc (by decide))))
  refine K_ret (hQ _ ⟨.tup [.agg [.nilsl, .nilsl], .i 0, .i 1], (by simp [resA, rvA, Try.f23, go_sem]; rfl), (by simp [AV.snapOk, AV.snapOkL, go_sem]), (by rfl), (by first | rfl | simp [AV.clo, AV.cloL, go_sem])⟩).1
 have q1 : decide (ar < -1) = false := by simp; omega
 by_cases h2 : (h.arenas.length : Int) ≤ ar
 ·have e : allocS h ar v = (hp0, 0, 1) := by rw [allocS, if_pos (.inr h2)]
  rw [e]
  have q2 : decide ((h.arenas.length : Int) ≤ ar) = true := by simpa using h2
  refine PCall.intro Try.func23 rfl isf23 (by simp [Try.f23]) (by simp [AV.cloL, AV.clo]) fun E Q hE hN hQ => K_start ?_
  repeat' (first | apply nx | refine Kq_exit_ne (by decide) ?_ | rw [wrap64 (by omega) (by omega)] | ((first | refine hK _ ?_ | refine hKp _ _ ?_); clear hK hKp K Kp; try clear hanc anc) | ((with_reducible refine And.intro ?_ ?_); (focus (first | trivial | omega | (simp only [Fits]; omega) | assumption | (rw [hanc]; rfl)))) | ((first | refine K_regA hE fun K Kp hK hKp => ?_ | refine K_drwA true mixed hE fun K Kp hK hKp anc hanc => ?_ | refine K_drwA false mixed hE fun K Kp hK hKp anc hanc => ?_); simp only [go_sem, q1, q2]) | ((first | refine onG_split_t (fun hg => ?_) (fun hg => ?_) | refine onG_split_f (fun hg => ?_) (fun hg => ?_)) <;> simp only [go_sem, q1, q2, hg]) | (refine K_condA (fun hc => ?_) (fun hc => ?_) <;> try (exact absurd hc (by decide))))
  refine K_ret (hQ _ ⟨.tup [.agg [.nilsl, .nilsl], .i 0, .i 1], (by simp [resA, rvA, Try.f23, go_sem]; rfl), (by simp [AV.snapOk, AV.snapOkL, go_sem]), (by rfl), (by first | rfl | simp [AV.clo, AV.cloL, go_sem])⟩).1
 have q2 : decide ((h.arenas.length : Int) ≤ ar) = false := by simp; omega
 have e1 : ¬ (ar < -1 ∨ ar ≥ h.arenas.length) := by omega
 by_cases h3 : 0 ≤ ar ∧ h.arenas[ar.toNat]? = some false
 ·obtain ⟨h4, h5⟩ := h3
  have e : allocS h ar v = (hp0, 0, 18) := by rw [allocS, if_neg e1, if_pos ⟨h4, h5⟩]
  rw [e]
  obtain ⟨n, rfl⟩ := Int.eq_ofNat_of_zero_le h4
  simp only [Int.toNat_natCast] at h5
  have q3 : decide ((0 : Int) ≤ (n : Int)) = true := by simp
  refine PCall.intro Try.func23 rfl isf23 (by simp [Try.f23]) (by simp [AV.cloL, AV.clo]) fun E Q hE hN hQ => K_start ?_
  repeat' (first | apply nx | refine Kq_exit_ne (by decide) ?_ | rw [wrap64 (by omega) (by omega)] | ((first | refine hK _ ?_ | refine hKp _ _ ?_); clear hK hKp K Kp; try clear hanc anc) | ((with_reducible refine And.intro ?_ ?_); (focus (first | trivial | omega | (simp only [Fits]; omega) | assumption | (rw [hanc]; rfl)))) | ((first | refine K_regA hE fun K Kp hK hKp => ?_ | refine K_drwA true mixed hE fun K Kp hK hKp anc hanc => ?_ | refine K_drwA false mixed hE fun K Kp hK hKp anc hanc => ?_); simp only [go_sem, q1, q2, q3, h5]) | ((first | refine onG_split_t (fun hg => ?_) (fun hg => ?_) | refine onG_split_f (fun hg => ?_) (fun hg => ?_)) <;> simp only [go_sem, q1, q2, q3, h5, hg]) | (refine K_condA (fun hc => ?_) (fun hc => ?_) <;> try (exact absurd hc (by decide))))
  refine K_ret (hQ _ ⟨.tup [.agg [.nilsl, .nilsl], .i 0, .i 18], (by simp [resA, rvA, Try.f23, go_sem]; rfl), (by simp [AV.snapOk, AV.snapOkL, go_sem]), (by rfl), (by first | rfl | simp [AV.clo, AV.cloL, go_sem])⟩).1
 by_cases h6 : 4000 ≤ liveN h.cells
 ·have e : allocS h ar v = (hp0, 0, 19) := by rw [allocS, if_neg e1, if_neg h3, if_pos h6]
  rw [e]
  have q4 : decide ((4000 : Int) ≤ (liveN h.cells : Int)) = true := by simp; omega
  by_cases h4 : 0 ≤ ar
  ·obtain ⟨n, rfl⟩ := Int.eq_ofNat_of_zero_le h4
   obtain ⟨b, hb⟩ := get?_of (show n < h.arenas.length by omega)
   have hbt : b = true := by
    cases b
    ·exact False.elim (h3 (And.intro h4 (by simpa using hb)))
    ·rfl
   subst hbt
   have q3 : decide ((0 : Int) ≤ (n : Int)) = true := by simp
   refine PCall.intro Try.func23 rfl isf23 (by simp [Try.f23]) (by simp [AV.cloL, AV.clo]) fun E Q hE hN hQ => K_start ?_
   repeat' (first | apply nx | refine Kq_exit_ne (by decide) ?_ | rw [wrap64 (by omega) (by omega)] | ((first | refine hK _ ?_ | refine hKp _ _ ?_); clear hK hKp K Kp; try clear hanc anc) | ((with_reducible refine And.intro ?_ ?_); (focus (first | trivial | omega | (simp only [Fits]; omega) | assumption | (rw [hanc]; rfl)))) | ((first | refine K_regA hE fun K Kp hK hKp => ?_ | refine K_drwA true mixed hE fun K Kp hK hKp anc hanc => ?_ | refine K_drwA false mixed hE fun K Kp hK hKp anc hanc => ?_ | ((first | apply CallP_mk | apply CallB_mk); (focus (simp only [go_sem] <;> rfl)); (focus (exact hlv)); (focus (first | (simp [go_sem]; done) | (simp [go_sem, CloRow, AV.cells, AV.clo]; done))); (focus (first | exact .inl rfl | (right; simp [go_sem]))))); simp only [go_sem, q1, q2, q3, hb, q4]) | ((first | refine onG_split_t (fun hg => ?_) (fun hg => ?_) | refine onG_split_f (fun hg => ?_) (fun hg => ?_)) <;> simp only [go_sem, q1, q2, q3, hb, q4, hg]) | (refine K_condA (fun hc => ?_) (fun hc => ?_) <;> try (exact absurd hc (by decide))))
   refine K_ret (hQ _ ⟨.tup [.agg [.nilsl, .nilsl], .i 0, .i 19], (by simp [resA, rvA, Try.f23, go_sem]; rfl), (by simp [AV.snapOk, AV.snapOkL, go_sem]), (by rfl), (by first | rfl | simp [AV.clo, AV.cloL, go_sem])⟩).1
  ·have q3 : decide ((0 : Int) ≤ ar) = false := by simp; omega
   refine PCall.intro Try.func23 rfl isf23 (by simp [Try.f23]) (by simp [AV.cloL, AV.clo]) fun E Q hE hN hQ => K_start ?_
   repeat' (first | apply nx | refine Kq_exit_ne (by decide) ?_ | rw [wrap64 (by omega) (by omega)] | ((first | refine hK _ ?_ | refine hKp _ _ ?_); clear hK hKp K Kp; try clear hanc anc) | ((with_reducible refine And.intro ?_ ?_); (focus (first | trivial | omega | (simp only [Fits]; omega) | assumption | (rw [hanc]; rfl)))) | ((first | refine K_regA hE fun K Kp hK hKp => ?_ | refine K_drwA true mixed hE fun K Kp hK hKp anc hanc => ?_ | refine K_drwA false mixed hE fun K Kp hK hKp anc hanc => ?_ | ((first | apply CallP_mk | apply CallB_mk); (focus (simp only [go_sem] <;> rfl)); (focus (exact hlv)); (focus (first | (simp [go_sem]; done) | (simp [go_sem, CloRow, AV.cells, AV.clo]; done))); (focus (first | exact .inl rfl | (right; simp [go_sem]))))); simp only [go_sem, q1, q2, q3, q4]) | ((first | refine onG_split_t (fun hg => ?_) (fun hg => ?_) | refine onG_split_f (fun hg => ?_) (fun hg => ?_)) <;> simp only [go_sem, q1, q2, q3, q4, hg]) | (refine K_condA (fun hc => ?_) (fun hc => ?_) <;> try (exact absurd hc (by decide))))
   refine K_ret (hQ _ ⟨.tup [.agg [.nilsl, .nilsl], .i 0, .i 19], (by simp [resA, rvA, Try.f23, go_sem]; rfl), (by simp [AV.snapOk, AV.snapOkL, go_sem]), (by rfl), (by first | rfl | simp [AV.clo, AV.cloL, go_sem])⟩).1
 have e : allocS h ar v = (Hp.mk (putC h.cells (firstDead h.cells) ⟨true, ar, v⟩) h.arenas, (firstDead h.cells : Int), 0) := by rw [allocS, if_neg e1, if_neg h3, if_neg h6]
 rw [e]
 have q4 : decide ((4000 : Int) ≤ (liveN h.cells : Int)) = false := by simp; omega
 have q34 : decide ((0 : Int) ≤ ar) = false ∨ ∃ n : Nat, ar = n ∧ h.arenas[n]? = some true := by
  by_cases h4 : 0 ≤ ar
  ·obtain ⟨n, rfl⟩ := Int.eq_ofNat_of_zero_le h4
   obtain ⟨b, hb⟩ := get?_of (show n < h.arenas.length by omega)
   cases b
   ·exact False.elim (h3 (And.intro h4 (by simpa using hb)))
   ·exact .inr ⟨n, rfl, hb⟩
  ·exact .inl (by simp; omega)
 have hput : ∀ n, n = firstDead h.cells → n ≤ h.cells.length := fun n hn => by omega
 rcases q34 with q3 | ⟨n, rfl, q3⟩
 ·refine PCall.intro Try.func23 rfl isf23 (by simp [Try.f23]) (by simp [AV.cloL, AV.clo]) fun E Q hE hN hQ => K_start ?_
  repeat' (first | apply nx | refine Kq_exit_ne (by decide) ?_ | rw [wrap64 (by omega) (by omega)] | ((first | refine hK _ ?_ | refine hKp _ _ ?_); clear hK hKp K Kp; try clear hanc anc) | ((with_reducible refine And.intro ?_ ?_); (focus (first | trivial | omega | (simp only [Fits]; omega) | assumption | (rw [hanc]; rfl)))) | ((first | refine K_regA hE fun K Kp hK hKp => ?_ | refine K_drwA true mixed hE fun K Kp hK hKp anc hanc => ?_ | refine K_drwA false mixed hE fun K Kp hK hKp anc hanc => ?_ | ((first | apply CallP_mk | apply CallB_mk); (focus (simp only [go_sem] <;> rfl)); (focus (exact hlv)); (focus (first | (simp [go_sem]; done) | (simp [go_sem, CloRow, AV.cells, AV.clo]; done))); (focus (first | exact .inl rfl | (right; simp [go_sem]))))); simp only [go_sem, q1, q2, q3, q3, q4]) | ((first | refine onG_split_t (fun hg => ?_) (fun hg => ?_) | refine onG_split_f (fun hg => ?_) (fun hg => ?_)) <;> simp only [go_sem, q1, q2, q3, q3, q4, hg]) | (refine K_condA (fun hc => ?_) (fun hc => ?_) <;> try (exact absurd hc (by decide))))
  refine Hold.mk (CallB.newRows hcp (by simp [AV.cloL, AV.clo]) (cl_clo _) (bl_clo _) ?_)
  simp only [go_sem]
  repeat' (first | apply nx | refine Kq_exit_ne (by decide) ?_ | rw [wrap64 (by omega) (by omega)] | ((first | refine hK _ ?_ | refine hKp _ _ ?_); clear hK hKp K Kp; try clear hanc anc) | ((with_reducible refine And.intro ?_ ?_); (focus (first | trivial | omega | (simp only [Fits]; omega) | assumption | (rw [hanc]; rfl)))) | ((first | refine K_regA hE fun K Kp hK hKp => ?_ | refine K_drwA true mixed hE fun K Kp hK hKp anc hanc => ?_ | refine K_drwA false mixed hE fun K Kp hK hKp anc hanc => ?_); simp only [go_sem]) | ((first | refine onG_split_t (fun hg => ?_) (fun hg => ?_) | refine onG_split_f (fun hg => ?_) (fun hg => ?_)) <;> simp only [go_sem, hg]) | (refine K_condA (fun hc => ?_) (fun hc => ?_) <;> try (exact absurd hc (by decide))))
  refine K_loop (X := Nat) (fun i => i ≤ h.cells.length ∧ firstDead h.cells = i + firstDead (h.cells.drop i)) (fun i => mkSt [(1, .i ar), (5, .ptr 1 0), (6, .ptr 2 0), (7, .i 0), (8, .i 0), (9, .ptr 3 0), (10, AV.i i)] [(1, .cells v.cs), (2, .cells [.nilsl, .nilsl]), (3, .cells [.rw 4, .rw 5]), (4, .row 10 (cl h.cells)), (5, .row 1 (bl h.arenas))] 6) (fun i => h.cells.length - i) 0 ⟨Nat.zero_le _, by simp⟩ (fun i => if i = 1 then 1048576 else if i = 2 then 2097152 else if i = 3 then 30408704 else if i = 4 then 29360128 else 29360129) (by refine ent_mk (by simp [go_sem, Vl.cs]) (by simp [go_sem, Vl.cs]) (by simp) (by simp [hN])) ?_
  rintro i ⟨hi, ht⟩
  by_cases hlt : i < h.cells.length
  ·obtain ⟨c, hcc⟩ := get?_of hlt
   rw [drop_of hcc, firstDead] at ht
   cases hv : c.live
   ·rw [hv] at ht
    have hfi : firstDead h.cells = i := by simpa using ht
    have hne : ((i : Int) == (h.cells.length : Int)) = false := by simp; omega
    have hput1 : (cl h.cells).set i (.agg (.bool true :: .i ar :: v.cs)) = cl (putC h.cells (firstDead h.cells) ⟨true, ar, v⟩) := by
     rw [hfi, putC, if_neg (by omega)]; exact cl_set _ _ ⟨true, ar, v⟩
    repeat' (first | apply nx | refine Kq_exit_ne (by decide) ?_ | rw [wrap64 (by omega) (by omega)] | ((first | refine hK _ ?_ | refine hKp _ _ ?_); clear hK hKp K Kp; try clear hanc anc) | ((with_reducible refine And.intro ?_ ?_); (focus (first | trivial | omega | (simp only [Fits]; omega) | assumption | (rw [hanc]; rfl)))) | ((first | refine K_regA hE fun K Kp hK hKp => ?_ | refine K_drwA true mixed hE fun K Kp hK hKp anc hanc => ?_ | refine K_drwA false mixed hE fun K Kp hK hKp anc hanc => ?_); simp only [go_sem, lt_dec hlt, hcc, Cl.av, Cl.cs_eq, hv, hne]) | ((first | refine onG_split_t (fun hg => ?_) (fun hg => ?_) | refine onG_split_f (fun hg => ?_) (fun hg => ?_)) <;> simp only [go_sem, lt_dec hlt, hcc, Cl.av, Cl.cs_eq, hv, hne, hg]) | (refine K_condA (fun hc => ?_) (fun hc => ?_) <;> try (exact absurd hc (by decide))))
    refine K_ret (hQ _ ⟨.tup [.agg [.rw 4, .rw 5], .i i, .i 0], (by simp [resA, rvA, Try.f23, go_sem, hput1, resH, hfi, Hp.av_eq]; rfl), (by simp [AV.snapOk, AV.snapOkL, go_sem, hput1, resH, hfi, Hp.av_eq]), (by simp [AV.snap, AV.snapL, go_sem, hput1, resH, hfi, Hp.av_eq]), (by first | rfl | simp [AV.clo, AV.cloL, go_sem, hput1, resH, hfi, Hp.av_eq])⟩).1
   ·rw [hv] at ht
    repeat' (first | apply nx | refine Kq_exit_ne (by decide) ?_ | rw [wrap64 (by omega) (by omega)] | ((first | refine hK _ ?_ | refine hKp _ _ ?_); clear hK hKp K Kp; try clear hanc anc) | ((with_reducible refine And.intro ?_ ?_); (focus (first | trivial | omega | (simp only [Fits]; omega) | assumption | (rw [hanc]; rfl)))) | ((first | refine K_regA hE fun K Kp hK hKp => ?_ | refine K_drwA true mixed hE fun K Kp hK hKp anc hanc => ?_ | refine K_drwA false mixed hE fun K Kp hK hKp anc hanc => ?_); simp only [go_sem, lt_dec hlt, hcc, Cl.av, Cl.cs_eq, hv]) | ((first | refine onG_split_t (fun hg => ?_) (fun hg => ?_) | refine onG_split_f (fun hg => ?_) (fun hg => ?_)) <;> simp only [go_sem, lt_dec hlt, hcc, Cl.av, Cl.cs_eq, hv, hg]) | (refine K_condA (fun hc => ?_) (fun hc => ?_) <;> try (exact absurd hc (by decide))))
    exact ⟨i + 1, ⟨by omega, by simp only [if_true] at ht; omega⟩, by omega, fun i => i, by refine ent_mk (by simp [go_sem, Vl.cs]) (by simp [go_sem, Vl.cs]) (by simp) (by simp [hN])⟩
  ·obtain rfl : i = h.cells.length := by omega
   rw [List.drop_length, firstDead] at ht
   have hput1 : cl h.cells ++ [.agg (.bool true :: .i ar :: v.cs)] = cl (putC h.cells (firstDead h.cells) ⟨true, ar, v⟩) := by
    rw [ht, putC, if_pos (by omega)]; exact cl_app _ ⟨true, ar, v⟩
   have a1 := app_get (cl_len h.cells)
   have a2 := app_set (cl_len h.cells)
   repeat' (first | apply nx | refine Kq_exit_ne (by decide) ?_ | rw [wrap64 (by omega) (by omega)] | ((first | refine hK _ ?_ | refine hKp _ _ ?_); clear hK hKp K Kp; try clear hanc anc) | ((with_reducible refine And.intro ?_ ?_); (focus (first | trivial | omega | (simp only [Fits]; omega) | assumption | (rw [hanc]; rfl)))) | ((first | refine K_regA hE fun K Kp hK hKp => ?_ | refine K_drwA true mixed hE fun K Kp hK hKp anc hanc => ?_ | refine K_drwA false mixed hE fun K Kp hK hKp anc hanc => ?_); simp only [go_sem, ge_dec, a1, a2]) | ((first | refine onG_split_t (fun hg => ?_) (fun hg => ?_) | refine onG_split_f (fun hg => ?_) (fun hg => ?_)) <;> simp only [go_sem, ge_dec, a1, a2, hg]) | (refine K_condA (fun hc => ?_) (fun hc => ?_) <;> try (exact absurd hc (by decide))))
   trace_state
   refine K_ret (hQ _ ⟨.tup [.agg [.rw 23068678, .rw 5], .i h.cells.length, .i 0], (by simp [resA, rvA, Try.f23, go_sem, hput1, resH, ht, Hp.av_eq]; rfl), (by simp [AV.snapOk, AV.snapOkL, go_sem, hput1, resH, ht, Hp.av_eq]), (by simp [AV.snap, AV.snapL, go_sem, hput1, resH, ht, Hp.av_eq]), (by first | rfl | simp [AV.clo, AV.cloL, go_sem, hput1, resH, ht, Hp.av_eq])⟩).1
 ·refine PCall.intro Try.func23 rfl isf23 (by simp [Try.f23]) (by simp [AV.cloL, AV.clo]) fun E Q hE hN hQ => K_start ?_
  repeat' (first | apply nx | refine Kq_exit_ne (by decide) ?_ | rw [wrap64 (by omega) (by omega)] | ((first | refine hK _ ?_ | refine hKp _ _ ?_); clear hK hKp K Kp; try clear hanc anc) | ((with_reducible refine And.intro ?_ ?_); (focus (first | trivial | omega | (simp only [Fits]; omega) | assumption | (rw [hanc]; rfl)))) | ((first | refine K_regA hE fun K Kp hK hKp => ?_ | refine K_drwA true mixed hE fun K Kp hK hKp anc hanc => ?_ | refine K_drwA false mixed hE fun K Kp hK hKp anc hanc => ?_ | ((first | apply CallP_mk | apply CallB_mk); (focus (simp only [go_sem] <;> rfl)); (focus (exact hlv)); (focus (first | (simp [go_sem]; done) | (simp [go_sem, CloRow, AV.cells, AV.clo]; done))); (focus (first | exact .inl rfl | (right; simp [go_sem]))))); simp only [go_sem, q1, q2, q3, (show decide ((0 : Int) ≤ (n : Int)) = true by simp), q4]) | ((first | refine onG_split_t (fun hg => ?_) (fun hg => ?_) | refine onG_split_f (fun hg => ?_) (fun hg => ?_)) <;> simp only [go_sem, q1, q2, q3, (show decide ((0 : Int) ≤ (n : Int)) = true by simp), q4, hg]) | (refine K_condA (fun hc => ?_) (fun hc => ?_) <;> try (exact absurd hc (by decide))))
  refine Hold.mk (CallB.newRows hcp (by simp [AV.cloL, AV.clo]) (cl_clo _) (bl_clo _) ?_)
  simp only [go_sem]
  repeat' (first | apply nx | refine Kq_exit_ne (by decide) ?_ | rw [wrap64 (by omega) (by omega)] | ((first | refine hK _ ?_ | refine hKp _ _ ?_); clear hK hKp K Kp; try clear hanc anc) | ((with_reducible refine And.intro ?_ ?_); (focus (first | trivial | omega | (simp only [Fits]; omega) | assumption | (rw [hanc]; rfl)))) | ((first | refine K_regA hE fun K Kp hK hKp => ?_ | refine K_drwA true mixed hE fun K Kp hK hKp anc hanc => ?_ | refine K_drwA false mixed hE fun K Kp hK hKp anc hanc => ?_); simp only [go_sem]) | ((first | refine onG_split_t (fun hg => ?_) (fun hg => ?_) | refine onG_split_f (fun hg => ?_) (fun hg => ?_)) <;> simp only [go_sem, hg]) | (refine K_condA (fun hc => ?_) (fun hc => ?_) <;> try (exact absurd hc (by decide))))
  refine K_loop (X := Nat) (fun i => i ≤ h.cells.length ∧ firstDead h.cells = i + firstDead (h.cells.drop i)) (fun i => mkSt [(1, .i (n : Int)), (5, .ptr 1 0), (6, .ptr 2 0), (7, .i 0), (8, .i 0), (9, .ptr 3 0), (10, AV.i i)] [(1, .cells v.cs), (2, .cells [.nilsl, .nilsl]), (3, .cells [.rw 4, .rw 5]), (4, .row 10 (cl h.cells)), (5, .row 1 (bl h.arenas))] 6) (fun i => h.cells.length - i) 0 ⟨Nat.zero_le _, by simp⟩ (fun i => if i = 1 then 1048576 else if i = 2 then 2097152 else if i = 3 then 30408704 else if i = 4 then 29360128 else 29360129) (by refine ent_mk (by simp [go_sem, Vl.cs]) (by simp [go_sem, Vl.cs]) (by simp) (by simp [hN])) ?_
  rintro i ⟨hi, ht⟩
  by_cases hlt : i < h.cells.length
  ·obtain ⟨c, hcc⟩ := get?_of hlt
   rw [drop_of hcc, firstDead] at ht
   cases hv : c.live
   ·rw [hv] at ht
    have hfi : firstDead h.cells = i := by simpa using ht
    have hne : ((i : Int) == (h.cells.length : Int)) = false := by simp; omega
    have hput1 : (cl h.cells).set i (.agg (.bool true :: .i (n : Int) :: v.cs)) = cl (putC h.cells (firstDead h.cells) ⟨true, (n : Int), v⟩) := by
     rw [hfi, putC, if_neg (by omega)]; exact cl_set _ _ ⟨true, (n : Int), v⟩
    repeat' (first | apply nx | refine Kq_exit_ne (by decide) ?_ | rw [wrap64 (by omega) (by omega)] | ((first | refine hK _ ?_ | refine hKp _ _ ?_); clear hK hKp K Kp; try clear hanc anc) | ((with_reducible refine And.intro ?_ ?_); (focus (first | trivial | omega | (simp only [Fits]; omega) | assumption | (rw [hanc]; rfl)))) | ((first | refine K_regA hE fun K Kp hK hKp => ?_ | refine K_drwA true mixed hE fun K Kp hK hKp anc hanc => ?_ | refine K_drwA false mixed hE fun K Kp hK hKp anc hanc => ?_); simp only [go_sem, lt_dec hlt, hcc, Cl.av, Cl.cs_eq, hv, hne]) | ((first | refine onG_split_t (fun hg => ?_) (fun hg => ?_) | refine onG_split_f (fun hg => ?_) (fun hg => ?_)) <;> simp only [go_sem, lt_dec hlt, hcc, Cl.av, Cl.cs_eq, hv, hne, hg]) | (refine K_condA (fun hc => ?_) (fun hc => ?_) <;> try (exact absurd hc (by decide))))
    refine K_ret (hQ _ ⟨.tup [.agg [.rw 4, .rw 5], .i i, .i 0], (by simp [resA, rvA, Try.f23, go_sem, hput1, resH, hfi, Hp.av_eq]; rfl), (by simp [AV.snapOk, AV.snapOkL, go_sem, hput1, resH, hfi, Hp.av_eq]), (by simp [AV.snap, AV.snapL, go_sem, hput1, resH, hfi, Hp.av_eq]), (by first | rfl | simp [AV.clo, AV.cloL, go_sem, hput1, resH, hfi, Hp.av_eq])⟩).1
   ·rw [hv] at ht
    repeat' (first | apply nx | refine Kq_exit_ne (by decide) ?_ | rw [wrap64 (by omega) (by omega)] | ((first | refine hK _ ?_ | refine hKp _ _ ?_); clear hK hKp K Kp; try clear hanc anc) | ((with_reducible refine And.intro ?_ ?_); (focus (first | trivial | omega | (simp only [Fits]; omega) | assumption | (rw [hanc]; rfl)))) | ((first | refine K_regA hE fun K Kp hK hKp => ?_ | refine K_drwA true mixed hE fun K Kp hK hKp anc hanc => ?_ | refine K_drwA false mixed hE fun K Kp hK hKp anc hanc => ?_); simp only [go_sem, lt_dec hlt, hcc, Cl.av, Cl.cs_eq, hv]) | ((first | refine onG_split_t (fun hg => ?_) (fun hg => ?_) | refine onG_split_f (fun hg => ?_) (fun hg => ?_)) <;> simp only [go_sem, lt_dec hlt, hcc, Cl.av, Cl.cs_eq, hv, hg]) | (refine K_condA (fun hc => ?_) (fun hc => ?_) <;> try (exact absurd hc (by decide))))
    exact ⟨i + 1, ⟨by omega, by simp only [if_true] at ht; omega⟩, by omega, fun i => i, by refine ent_mk (by simp [go_sem, Vl.cs]) (by simp [go_sem, Vl.cs]) (by simp) (by simp [hN])⟩
  ·obtain rfl : i = h.cells.length := by omega
   rw [List.drop_length, firstDead] at ht
   have hput1 : cl h.cells ++ [.agg (.bool true :: .i (n : Int) :: v.cs)] = cl (putC h.cells (firstDead h.cells) ⟨true, (n : Int), v⟩) := by
    rw [ht, putC, if_pos (by omega)]; exact cl_app _ ⟨true, (n : Int), v⟩
   have a1 := app_get (cl_len h.cells)
   have a2 := app_set (cl_len h.cells)
   repeat' (first | apply nx | refine Kq_exit_ne (by decide) ?_ | rw [wrap64 (by omega) (by omega)] | ((first | refine hK _ ?_ | refine hKp _ _ ?_); clear hK hKp K Kp; try clear hanc anc) | ((with_reducible refine And.intro ?_ ?_); (focus (first | trivial | omega | (simp only [Fits]; omega) | assumption | (rw [hanc]; rfl)))) | ((first | refine K_regA hE fun K Kp hK hKp => ?_ | refine K_drwA true mixed hE fun K Kp hK hKp anc hanc => ?_ | refine K_drwA false mixed hE fun K Kp hK hKp anc hanc => ?_); simp only [go_sem, ge_dec, a1, a2]) | ((first | refine onG_split_t (fun hg => ?_) (fun hg => ?_) | refine onG_split_f (fun hg => ?_) (fun hg => ?_)) <;> simp only [go_sem, ge_dec, a1, a2, hg]) | (refine K_condA (fun hc => ?_) (fun hc => ?_) <;> try (exact absurd hc (by decide))))
   trace_state
   refine K_ret (hQ _ ⟨.tup [.agg [.rw 23068678, .rw 5], .i h.cells.length, .i 0], (by simp [resA, rvA, Try.f23, go_sem, hput1, resH, ht, Hp.av_eq]; rfl), (by simp [AV.snapOk, AV.snapOkL, go_sem, hput1, resH, ht, Hp.av_eq]), (by simp [AV.snap, AV.snapL, go_sem, hput1, resH, ht, Hp.av_eq]), (by first | rfl | simp [AV.clo, AV.cloL, go_sem, hput1, resH, ht, Hp.av_eq])⟩).1

theorem AW_setZero {E : En} {c : Code} {Q : AEx → St → Prop} {σ : St} (X : Nat) {L : List Cl} {n : Nat} (hX : σ.hp X = some (.row 10 ((cl L).set n (.agg [.bool false, .i 0, .i 0, .i 0, .i 0, .i 0, .nilsl, .bool false, .nilsl, .nilsl]))))
    (h : AW Try.prog E c Q ⟨σ.fr, updo σ.hp X (some (.row 10 (cl (L.set n Cl.zero)))), σ.nx⟩) : AW Try.prog E c Q σ := by
  refine AW_snpRow X (cl (L.set n Cl.zero)) hX (by simp [cl_len]) (fun i hi => ?_) h
  rw [← cl_set]
  refine snp_set (.inr ⟨?_, ?_⟩) _ _ _ hi
  · simp [AV.snapOk, AV.snapOkL]
  · rfl
def zeroV : Vl := .mk 0 0 0 0 [] false [] []
def resF (p : Hp × Vl × Int) : AV := .tup [p.1.av, p.2.1.av, .i p.2.2]
noncomputable def freeS (h : Hp) (c : Int) : Hp × Vl × Int :=
 if c < 0 ∨ (h.cells.length : Int) ≤ c then (hp0, zeroV, 1)
 else match h.cells[c.toNat]? with
  | some x => if x.live = true ∧ x.arena = -1 then (⟨h.cells.set c.toNat Cl.zero, h.arenas⟩, x.v, 0) else (hp0, zeroV, 18)
  | none => (hp0, zeroV, 1)
def fT15 : Tr := .alt 0 (.alt 1 (.alt 2 (.alt 3 (.alt 4 (.alt 5 .leaf .nil) .nil) .nil) (.alt 3 (.alt 2 (.alt 4 (.alt 5 .leaf .nil) .nil) .nil) .nil)) (.alt 3 (.alt 1 (.alt 2 (.alt 4 (.alt 5 .leaf .nil) .nil) .nil) .nil) .nil)) (.alt 1 (.alt 0 (.alt 2 (.alt 3 (.alt 4 (.alt 5 .leaf .nil) .nil) .nil) (.alt 3 (.alt 2 (.alt 4 (.alt 5 .leaf .nil) .nil) .nil) .nil)) (.alt 2 (.alt 0 (.alt 3 (.alt 4 (.alt 5 .leaf .nil) .nil) .nil) .nil) .nil)) .nil)
theorem rfree_call (h : Hp) (c : Int) (hl : h.cells.length ≤ 2 ^ 20) (ha : h.arenas.length ≤ 2 ^ 20) : PCall Try.prog 26 [h.av, .i c] (resF (freeS h c)) := by
 have hcp := copy_nc h hl ha
 have hsz := szok_cl h.cells
 rw [Hp.av_eq] at hcp ⊢
 by_cases h1 : c < 0
 ·have e : freeS h c = (hp0, zeroV, 1) := by rw [freeS, if_pos (.inl h1)]
  rw [e]
  have q1 : decide (c < 0) = true := by simpa using h1
  refine PCall.intro Try.func26 rfl isf26 (by simp [Try.f26]) (by simp [AV.cloL, AV.clo]) fun E Q hE hN hQ => K_start ?_
  repeat' (first | apply nx | refine Kq_exit_ne (by decide) ?_ | rw [wrap64 (by omega) (by omega)] | ((first | refine hK _ ?_ | refine hKp _ _ ?_); clear hK hKp K Kp; try clear hanc anc) | ((with_reducible refine And.intro ?_ ?_); (focus (first | trivial | omega | (simp only [Fits]; omega) | assumption | (rw [hanc]; rfl)))) | ((first | refine K_regA hE fun K Kp hK hKp => ?_ | refine K_drwA true mixed hE fun K Kp hK hKp anc hanc => ?_ | refine K_drwA false mixed hE fun K Kp hK hKp anc hanc => ?_); simp only [go_sem, q1]) | ((first | refine onG_split_t (fun hg => ?_) (fun hg => ?_) | refine onG_split_f (fun hg => ?_) (fun hg => ?_)) <;> simp only [go_sem, q1, hg]) | (refine K_condA (fun hc => ?_) (fun hc => ?_) <;> try (exact absurd hc (by decide))))
  refine K_ret (hQ _ ⟨.tup [.agg [.nilsl, .nilsl], .agg [.i 0, .i 0, .i 0, .i 0, .nilsl, .bool false, .nilsl, .nilsl], .i 1], (by simp [resA, rvA, Try.f26, go_sem]; rfl), (by simp [AV.snapOk, AV.snapOkL, go_sem]), (by rfl), (by first | rfl | simp [AV.clo, AV.cloL, go_sem])⟩).1
 have q1 : decide (c < 0) = false := by simp; omega
 by_cases h2 : (h.cells.length : Int) ≤ c
 ·have e : freeS h c = (hp0, zeroV, 1) := by rw [freeS, if_pos (.inr h2)]
  rw [e]
  have q2 : decide ((h.cells.length : Int) ≤ c) = true := by simpa using h2
  refine PCall.intro Try.func26 rfl isf26 (by simp [Try.f26]) (by simp [AV.cloL, AV.clo]) fun E Q hE hN hQ => K_start ?_
  repeat' (first | apply nx | refine Kq_exit_ne (by decide) ?_ | rw [wrap64 (by omega) (by omega)] | ((first | refine hK _ ?_ | refine hKp _ _ ?_); clear hK hKp K Kp; try clear hanc anc) | ((with_reducible refine And.intro ?_ ?_); (focus (first | trivial | omega | (simp only [Fits]; omega) | assumption | (rw [hanc]; rfl)))) | ((first | refine K_regA hE fun K Kp hK hKp => ?_ | refine K_drwA true mixed hE fun K Kp hK hKp anc hanc => ?_ | refine K_drwA false mixed hE fun K Kp hK hKp anc hanc => ?_); simp only [go_sem, q1, q2]) | ((first | refine onG_split_t (fun hg => ?_) (fun hg => ?_) | refine onG_split_f (fun hg => ?_) (fun hg => ?_)) <;> simp only [go_sem, q1, q2, hg]) | (refine K_condA (fun hc => ?_) (fun hc => ?_) <;> try (exact absurd hc (by decide))))
  refine K_ret (hQ _ ⟨.tup [.agg [.nilsl, .nilsl], .agg [.i 0, .i 0, .i 0, .i 0, .nilsl, .bool false, .nilsl, .nilsl], .i 1], (by simp [resA, rvA, Try.f26, go_sem]; rfl), (by simp [AV.snapOk, AV.snapOkL, go_sem]), (by rfl), (by first | rfl | simp [AV.clo, AV.cloL, go_sem])⟩).1
 have q2 : decide ((h.cells.length : Int) ≤ c) = false := by simp; omega
 obtain ⟨n, rfl⟩ := Int.eq_ofNat_of_zero_le (show 0 ≤ c by omega)
 obtain ⟨x, hx⟩ := get?_of (show n < h.cells.length by omega)
 have e0 : freeS h n = if x.live = true ∧ x.arena = -1 then (⟨h.cells.set n Cl.zero, h.arenas⟩, x.v, 0) else (hp0, zeroV, 18) := by
  rw [freeS, if_neg (by omega)]; simp only [Int.toNat_natCast, hx]
 rw [e0]
 cases hv : x.live
 ·rw [if_neg (by simp)]
  refine PCall.intro Try.func26 rfl isf26 (by simp [Try.f26]) (by simp [AV.cloL, AV.clo]) fun E Q hE hN hQ => K_start ?_
  repeat' (first | apply nx | refine Kq_exit_ne (by decide) ?_ | rw [wrap64 (by omega) (by omega)] | ((first | refine hK _ ?_ | refine hKp _ _ ?_); clear hK hKp K Kp; try clear hanc anc) | ((with_reducible refine And.intro ?_ ?_); (focus (first | trivial | omega | (simp only [Fits]; omega) | assumption | (rw [hanc]; rfl)))) | ((first | refine K_regA hE fun K Kp hK hKp => ?_ | refine K_drwA true mixed hE fun K Kp hK hKp anc hanc => ?_ | refine K_drwA false mixed hE fun K Kp hK hKp anc hanc => ?_); simp only [go_sem, q1, q2, hx, Cl.av, Cl.cs_eq, hv]) | ((first | refine onG_split_t (fun hg => ?_) (fun hg => ?_) | refine onG_split_f (fun hg => ?_) (fun hg => ?_)) <;> simp only [go_sem, q1, q2, hx, Cl.av, Cl.cs_eq, hv, hg]) | (refine K_condA (fun hc => ?_) (fun hc => ?_) <;> try (exact absurd hc (by decide))))
  refine K_ret (hQ _ ⟨.tup [.agg [.nilsl, .nilsl], .agg [.i 0, .i 0, .i 0, .i 0, .nilsl, .bool false, .nilsl, .nilsl], .i 18], (by simp [resA, rvA, Try.f26, go_sem]; rfl), (by simp [AV.snapOk, AV.snapOkL, go_sem]), (by rfl), (by first | rfl | simp [AV.clo, AV.cloL, go_sem])⟩).1
 by_cases ha1 : x.arena = -1
 ·rw [if_pos ⟨rfl, ha1⟩]
  have q3 : (x.arena != -1) = false := by simp [ha1]
  refine PCall.intro Try.func26 rfl isf26 (by simp [Try.f26]) (by simp [AV.cloL, AV.clo]) fun E Q hE hN hQ => K_start ?_
  repeat' (first | apply nx | refine Kq_exit_ne (by decide) ?_ | rw [wrap64 (by omega) (by omega)] | ((first | refine hK _ ?_ | refine hKp _ _ ?_); clear hK hKp K Kp; try clear hanc anc) | ((with_reducible refine And.intro ?_ ?_); (focus (first | trivial | omega | (simp only [Fits]; omega) | assumption | (rw [hanc]; rfl)))) | ((first | refine K_regA hE fun K Kp hK hKp => ?_ | refine K_drwA true mixed hE fun K Kp hK hKp anc hanc => ?_ | refine K_drwA false mixed hE fun K Kp hK hKp anc hanc => ?_); simp only [go_sem, q1, q2, hx, Cl.av, Cl.cs_eq, hv, q3]) | ((first | refine onG_split_t (fun hg => ?_) (fun hg => ?_) | refine onG_split_f (fun hg => ?_) (fun hg => ?_)) <;> simp only [go_sem, q1, q2, hx, Cl.av, Cl.cs_eq, hv, q3, hg]) | (refine K_condA (fun hc => ?_) (fun hc => ?_) <;> try (exact absurd hc (by decide))))
  refine Hold.mk (CallB.newRows hcp (by simp [AV.cloL, AV.clo]) (cl_clo _) (bl_clo _) ?_)
  simp only [go_sem]
  repeat' (first | apply nx | refine Kq_exit_ne (by decide) ?_ | rw [wrap64 (by omega) (by omega)] | ((first | refine hK _ ?_ | refine hKp _ _ ?_); clear hK hKp K Kp; try clear hanc anc) | ((with_reducible refine And.intro ?_ ?_); (focus (first | trivial | omega | (simp only [Fits]; omega) | assumption | (rw [hanc]; rfl)))) | ((first | refine K_regA hE fun K Kp hK hKp => ?_ | refine K_drwA true mixed hE fun K Kp hK hKp anc hanc => ?_ | refine K_drwA false mixed hE fun K Kp hK hKp anc hanc => ?_); simp only [go_sem, hx, Cl.av, Cl.cs_eq, hv]) | ((first | refine onG_split_t (fun hg => ?_) (fun hg => ?_) | refine onG_split_f (fun hg => ?_) (fun hg => ?_)) <;> simp only [go_sem, hx, Cl.av, Cl.cs_eq, hv, hg]) | (refine K_condA (fun hc => ?_) (fun hc => ?_) <;> try (exact absurd hc (by decide))))
  refine AW_setZero 30408704 (L := h.cells) (n := n) (by simp [go_sem]) ?_
  refine K_allG (mkSt [(4, .ptr 0 0), (5, .ptr 1 0), (6, .i 0)] [(0, .cells [.rw 2, .rw 3]), (1, .cells x.v.cs), (2, .row 10 (cl (h.cells.set n Cl.zero))), (3, .row 1 (bl h.arenas))] 4) fT15 mixed hE (fun σ m he => ?_) fun Kp hKp => ?_
  ·refine Kq_norm_code ?_
   refine AW.ent m he ?_
   refine K_ret (hQ _ ⟨.tup [.agg [.rw 2, .rw 3], .agg x.v.cs, .i 0], (by simp [resA, rvA, Try.f26, go_sem, resF, Hp.av_eq, Vl.av_eq, Vl.cs]; rfl), (by simp [AV.snapOk, AV.snapOkL, go_sem, resF, Hp.av_eq, Vl.av_eq, Vl.cs]), (by simp [AV.snap, AV.snapL, go_sem, resF, Hp.av_eq, Vl.av_eq, Vl.cs]), (by first | rfl | simp [AV.clo, AV.cloL, go_sem, resF, Hp.av_eq, Vl.av_eq, Vl.cs])⟩).1
  ·unfold fT15
   repeat' (first | refine goTr_one rfl ?_ | refine goTr_alt rfl ?_ ?_ | simp only [go_sem])
   all_goals refine ⟨fun i => if i = 0 then 1048576 else if i = 1 then 2097152 else if i = 2 then 30408704 else 30408705, ?_⟩
   all_goals show Ent E.np _ _ (mkSt [(4, .ptr 0 0), (5, .ptr 1 0), (6, .i 0)] [(0, .cells [.rw 2, .rw 3]), (1, .cells x.v.cs), (2, .row 10 (cl (h.cells.set n Cl.zero))), (3, .row 1 (bl h.arenas))] 4)
   all_goals refine ent_mk (by simp [go_sem, Vl.cs]) (by simp [go_sem, Vl.cs]) (by simp) (by simp [hN])
 ·rw [if_neg (fun hh => ha1 hh.2)]
  have q3 : (x.arena != -1) = true := by simp [ha1]
  refine PCall.intro Try.func26 rfl isf26 (by simp [Try.f26]) (by simp [AV.cloL, AV.clo]) fun E Q hE hN hQ => K_start ?_
  repeat' (first | apply nx | refine Kq_exit_ne (by decide) ?_ | rw [wrap64 (by omega) (by omega)] | ((first | refine hK _ ?_ | refine hKp _ _ ?_); clear hK hKp K Kp; try clear hanc anc) | ((with_reducible refine And.intro ?_ ?_); (focus (first | trivial | omega | (simp only [Fits]; omega) | assumption | (rw [hanc]; rfl)))) | ((first | refine K_regA hE fun K Kp hK hKp => ?_ | refine K_drwA true mixed hE fun K Kp hK hKp anc hanc => ?_ | refine K_drwA false mixed hE fun K Kp hK hKp anc hanc => ?_); simp only [go_sem, q1, q2, hx, Cl.av, Cl.cs_eq, hv, q3]) | ((first | refine onG_split_t (fun hg => ?_) (fun hg => ?_) | refine onG_split_f (fun hg => ?_) (fun hg => ?_)) <;> simp only [go_sem, q1, q2, hx, Cl.av, Cl.cs_eq, hv, q3, hg]) | (refine K_condA (fun hc => ?_) (fun hc => ?_) <;> try (exact absurd hc (by decide))))
  refine K_ret (hQ _ ⟨.tup [.agg [.nilsl, .nilsl], .agg [.i 0, .i 0, .i 0, .i 0, .nilsl, .bool false, .nilsl, .nilsl], .i 18], (by simp [resA, rvA, Try.f26, go_sem]; rfl), (by simp [AV.snapOk, AV.snapOkL, go_sem]), (by rfl), (by first | rfl | simp [AV.clo, AV.cloL, go_sem])⟩).1
theorem free_call (h : Hp) (c : Int) (hl : h.cells.length ≤ 2 ^ 20) (ha : h.arenas.length ≤ 2 ^ 20) : PCall Try.prog 15 [h.av, .i c] (resF (freeS h c)) := by
 have hcp := clone_nc h hl ha
 have hsz := szok_cl h.cells
 rw [Hp.av_eq] at hcp ⊢
 by_cases h1 : c < 0
 ·have e : freeS h c = (hp0, zeroV, 1) := by rw [freeS, if_pos (.inl h1)]
  rw [e]
  have q1 : decide (c < 0) = true := by simpa using h1
  refine PCall.intro Try.func15 rfl isf15 (by simp [Try.f15]) (by simp [AV.cloL, AV.clo]) fun E Q hE hN hQ => K_start ?_
  repeat' (first | apply nx | refine Kq_exit_ne (by decide) ?_ | rw [wrap64 (by omega) (by omega)] | ((first | refine hK _ ?_ | refine hKp _ _ ?_); clear hK hKp K Kp; try clear hanc anc) | ((with_reducible refine And.intro ?_ ?_); (focus (first | trivial | omega | (simp only [Fits]; omega) | assumption | (rw [hanc]; rfl)))) | ((first | refine K_regA hE fun K Kp hK hKp => ?_ | refine K_drwA true mixed hE fun K Kp hK hKp anc hanc => ?_ | refine K_drwA false mixed hE fun K Kp hK hKp anc hanc => ?_); simp only [go_sem, q1]) | ((first | refine onG_split_t (fun hg => ?_) (fun hg => ?_) | refine onG_split_f (fun hg => ?_) (fun hg => ?_)) <;> simp only [go_sem, q1, hg]) | (refine K_condA (fun hc => ?_) (fun hc => ?_) <;> try (exact absurd hc (by decide))))
  refine K_ret (hQ _ ⟨.tup [.agg [.nilsl, .nilsl], .agg [.i 0, .i 0, .i 0, .i 0, .nilsl, .bool false, .nilsl, .nilsl], .i 1], (by simp [resA, rvA, Try.f15, go_sem]; rfl), (by simp [AV.snapOk, AV.snapOkL, go_sem]), (by rfl), (by first | rfl | simp [AV.clo, AV.cloL, go_sem])⟩).1
 have q1 : decide (c < 0) = false := by simp; omega
 by_cases h2 : (h.cells.length : Int) ≤ c
 ·have e : freeS h c = (hp0, zeroV, 1) := by rw [freeS, if_pos (.inr h2)]
  rw [e]
  have q2 : decide ((h.cells.length : Int) ≤ c) = true := by simpa using h2
  refine PCall.intro Try.func15 rfl isf15 (by simp [Try.f15]) (by simp [AV.cloL, AV.clo]) fun E Q hE hN hQ => K_start ?_
  repeat' (first | apply nx | refine Kq_exit_ne (by decide) ?_ | rw [wrap64 (by omega) (by omega)] | ((first | refine hK _ ?_ | refine hKp _ _ ?_); clear hK hKp K Kp; try clear hanc anc) | ((with_reducible refine And.intro ?_ ?_); (focus (first | trivial | omega | (simp only [Fits]; omega) | assumption | (rw [hanc]; rfl)))) | ((first | refine K_regA hE fun K Kp hK hKp => ?_ | refine K_drwA true mixed hE fun K Kp hK hKp anc hanc => ?_ | refine K_drwA false mixed hE fun K Kp hK hKp anc hanc => ?_); simp only [go_sem, q1, q2]) | ((first | refine onG_split_t (fun hg => ?_) (fun hg => ?_) | refine onG_split_f (fun hg => ?_) (fun hg => ?_)) <;> simp only [go_sem, q1, q2, hg]) | (refine K_condA (fun hc => ?_) (fun hc => ?_) <;> try (exact absurd hc (by decide))))
  refine K_ret (hQ _ ⟨.tup [.agg [.nilsl, .nilsl], .agg [.i 0, .i 0, .i 0, .i 0, .nilsl, .bool false, .nilsl, .nilsl], .i 1], (by simp [resA, rvA, Try.f15, go_sem]; rfl), (by simp [AV.snapOk, AV.snapOkL, go_sem]), (by rfl), (by first | rfl | simp [AV.clo, AV.cloL, go_sem])⟩).1
 have q2 : decide ((h.cells.length : Int) ≤ c) = false := by simp; omega
 obtain ⟨n, rfl⟩ := Int.eq_ofNat_of_zero_le (show 0 ≤ c by omega)
 obtain ⟨x, hx⟩ := get?_of (show n < h.cells.length by omega)
 have e0 : freeS h n = if x.live = true ∧ x.arena = -1 then (⟨h.cells.set n Cl.zero, h.arenas⟩, x.v, 0) else (hp0, zeroV, 18) := by
  rw [freeS, if_neg (by omega)]; simp only [Int.toNat_natCast, hx]
 rw [e0]
 cases hv : x.live
 ·rw [if_neg (by simp)]
  refine PCall.intro Try.func15 rfl isf15 (by simp [Try.f15]) (by simp [AV.cloL, AV.clo]) fun E Q hE hN hQ => K_start ?_
  repeat' (first | apply nx | refine Kq_exit_ne (by decide) ?_ | rw [wrap64 (by omega) (by omega)] | ((first | refine hK _ ?_ | refine hKp _ _ ?_); clear hK hKp K Kp; try clear hanc anc) | ((with_reducible refine And.intro ?_ ?_); (focus (first | trivial | omega | (simp only [Fits]; omega) | assumption | (rw [hanc]; rfl)))) | ((first | refine K_regA hE fun K Kp hK hKp => ?_ | refine K_drwA true mixed hE fun K Kp hK hKp anc hanc => ?_ | refine K_drwA false mixed hE fun K Kp hK hKp anc hanc => ?_); simp only [go_sem, q1, q2, hx, Cl.av, Cl.cs_eq, hv]) | ((first | refine onG_split_t (fun hg => ?_) (fun hg => ?_) | refine onG_split_f (fun hg => ?_) (fun hg => ?_)) <;> simp only [go_sem, q1, q2, hx, Cl.av, Cl.cs_eq, hv, hg]) | (refine K_condA (fun hc => ?_) (fun hc => ?_) <;> try (exact absurd hc (by decide))))
  refine K_ret (hQ _ ⟨.tup [.agg [.nilsl, .nilsl], .agg [.i 0, .i 0, .i 0, .i 0, .nilsl, .bool false, .nilsl, .nilsl], .i 18], (by simp [resA, rvA, Try.f15, go_sem]; rfl), (by simp [AV.snapOk, AV.snapOkL, go_sem]), (by rfl), (by first | rfl | simp [AV.clo, AV.cloL, go_sem])⟩).1
 by_cases ha1 : x.arena = -1
 ·rw [if_pos ⟨rfl, ha1⟩]
  have q3 : (x.arena != -1) = false := by simp [ha1]
  refine PCall.intro Try.func15 rfl isf15 (by simp [Try.f15]) (by simp [AV.cloL, AV.clo]) fun E Q hE hN hQ => K_start ?_
  repeat' (first | apply nx | refine Kq_exit_ne (by decide) ?_ | rw [wrap64 (by omega) (by omega)] | ((first | refine hK _ ?_ | refine hKp _ _ ?_); clear hK hKp K Kp; try clear hanc anc) | ((with_reducible refine And.intro ?_ ?_); (focus (first | trivial | omega | (simp only [Fits]; omega) | assumption | (rw [hanc]; rfl)))) | ((first | refine K_regA hE fun K Kp hK hKp => ?_ | refine K_drwA true mixed hE fun K Kp hK hKp anc hanc => ?_ | refine K_drwA false mixed hE fun K Kp hK hKp anc hanc => ?_); simp only [go_sem, q1, q2, hx, Cl.av, Cl.cs_eq, hv, q3]) | ((first | refine onG_split_t (fun hg => ?_) (fun hg => ?_) | refine onG_split_f (fun hg => ?_) (fun hg => ?_)) <;> simp only [go_sem, q1, q2, hx, Cl.av, Cl.cs_eq, hv, q3, hg]) | (refine K_condA (fun hc => ?_) (fun hc => ?_) <;> try (exact absurd hc (by decide))))
  refine Hold.mk (CallB.newRows hcp (by simp [AV.cloL, AV.clo]) (cl_clo _) (bl_clo _) ?_)
  simp only [go_sem]
  repeat' (first | apply nx | refine Kq_exit_ne (by decide) ?_ | rw [wrap64 (by omega) (by omega)] | ((first | refine hK _ ?_ | refine hKp _ _ ?_); clear hK hKp K Kp; try clear hanc anc) | ((with_reducible refine And.intro ?_ ?_); (focus (first | trivial | omega | (simp only [Fits]; omega) | assumption | (rw [hanc]; rfl)))) | ((first | refine K_regA hE fun K Kp hK hKp => ?_ | refine K_drwA true mixed hE fun K Kp hK hKp anc hanc => ?_ | refine K_drwA false mixed hE fun K Kp hK hKp anc hanc => ?_); simp only [go_sem, hx, Cl.av, Cl.cs_eq, hv]) | ((first | refine onG_split_t (fun hg => ?_) (fun hg => ?_) | refine onG_split_f (fun hg => ?_) (fun hg => ?_)) <;> simp only [go_sem, hx, Cl.av, Cl.cs_eq, hv, hg]) | (refine K_condA (fun hc => ?_) (fun hc => ?_) <;> try (exact absurd hc (by decide))))
  refine AW_setZero 30408704 (L := h.cells) (n := n) (by simp [go_sem]) ?_
  refine K_allG (mkSt [(4, .ptr 0 0), (5, .ptr 1 0), (6, .i 0)] [(0, .cells [.rw 2, .rw 3]), (1, .cells x.v.cs), (2, .row 10 (cl (h.cells.set n Cl.zero))), (3, .row 1 (bl h.arenas))] 4) fT15 mixed hE (fun σ m he => ?_) fun Kp hKp => ?_
  ·refine Kq_norm_code ?_
   refine AW.ent m he ?_
   refine K_ret (hQ _ ⟨.tup [.agg [.rw 2, .rw 3], .agg x.v.cs, .i 0], (by simp [resA, rvA, Try.f15, go_sem, resF, Hp.av_eq, Vl.av_eq, Vl.cs]; rfl), (by simp [AV.snapOk, AV.snapOkL, go_sem, resF, Hp.av_eq, Vl.av_eq, Vl.cs]), (by simp [AV.snap, AV.snapL, go_sem, resF, Hp.av_eq, Vl.av_eq, Vl.cs]), (by first | rfl | simp [AV.clo, AV.cloL, go_sem, resF, Hp.av_eq, Vl.av_eq, Vl.cs])⟩).1
  ·unfold fT15
   repeat' (first | refine goTr_one rfl ?_ | refine goTr_alt rfl ?_ ?_ | simp only [go_sem])
   all_goals refine ⟨fun i => if i = 0 then 1048576 else if i = 1 then 2097152 else if i = 2 then 30408704 else 30408705, ?_⟩
   all_goals show Ent E.np _ _ (mkSt [(4, .ptr 0 0), (5, .ptr 1 0), (6, .i 0)] [(0, .cells [.rw 2, .rw 3]), (1, .cells x.v.cs), (2, .row 10 (cl (h.cells.set n Cl.zero))), (3, .row 1 (bl h.arenas))] 4)
   all_goals refine ent_mk (by simp [go_sem, Vl.cs]) (by simp [go_sem, Vl.cs]) (by simp) (by simp [hN])
 ·rw [if_neg (fun hh => ha1 hh.2)]
  have q3 : (x.arena != -1) = true := by simp [ha1]
  refine PCall.intro Try.func15 rfl isf15 (by simp [Try.f15]) (by simp [AV.cloL, AV.clo]) fun E Q hE hN hQ => K_start ?_
  repeat' (first | apply nx | refine Kq_exit_ne (by decide) ?_ | rw [wrap64 (by omega) (by omega)] | ((first | refine hK _ ?_ | refine hKp _ _ ?_); clear hK hKp K Kp; try clear hanc anc) | ((with_reducible refine And.intro ?_ ?_); (focus (first | trivial | omega | (simp only [Fits]; omega) | assumption | (rw [hanc]; rfl)))) | ((first | refine K_regA hE fun K Kp hK hKp => ?_ | refine K_drwA true mixed hE fun K Kp hK hKp anc hanc => ?_ | refine K_drwA false mixed hE fun K Kp hK hKp anc hanc => ?_); simp only [go_sem, q1, q2, hx, Cl.av, Cl.cs_eq, hv, q3]) | ((first | refine onG_split_t (fun hg => ?_) (fun hg => ?_) | refine onG_split_f (fun hg => ?_) (fun hg => ?_)) <;> simp only [go_sem, q1, q2, hx, Cl.av, Cl.cs_eq, hv, q3, hg]) | (refine K_condA (fun hc => ?_) (fun hc => ?_) <;> try (exact absurd hc (by decide))))
  refine K_ret (hQ _ ⟨.tup [.agg [.nilsl, .nilsl], .agg [.i 0, .i 0, .i 0, .i 0, .nilsl, .bool false, .nilsl, .nilsl], .i 18], (by simp [resA, rvA, Try.f15, go_sem]; rfl), (by simp [AV.snapOk, AV.snapOkL, go_sem]), (by rfl), (by first | rfl | simp [AV.clo, AV.cloL, go_sem])⟩).1
end Go.Proofs.Ytdgmjbgjahmoaaa
