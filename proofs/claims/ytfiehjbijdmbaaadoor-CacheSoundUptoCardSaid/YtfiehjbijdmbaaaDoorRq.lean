/- A part of the proof: an abstract machine for the walks, and what the walked functions compute. -/
import Derived.Test.YtfiehjbijdmbaaaDoorRi
import Derived.Test.YtfiehjbijdmbaaaDoorRj
import Derived.Test.YtfiehjbijdmbaaaDoorRl
set_option linter.unusedVariables false
set_option linter.unusedSimpArgs false
set_option linter.unusedSimpArgs false
set_option linter.unusedVariables false
set_option maxHeartbeats 4000000
set_option maxRecDepth 100000
namespace Go.Proofs.YtfiehjbijdmbaaaDoor
open Nat (reduceAdd reduceMul reduceEqDiff reduceLT reduceLeDiff reduceSub reduceDiv)
open Int (reduceBNe reduceLE reduceEq)
open Go.Am Go.Proofs Go.Ca
open Classical
attribute [local irreducible] AW CallP CallB
theorem count_take {S : List Int} {i : Nat} {x k : Int} (h : S[i]? = some x) : (S.take (i + 1)).count k = (S.take i).count k + if x = k then 1 else 0 := by
 rw [take_get h, List.count_append]
 by_cases hh : x = k <;> simp [hh]
theorem sound_c (l : List Fl) (k : Int) (hB : FB l) (hk : I64 k) : PCall Tryd.prog 7 [.sl (fl l), .i k] (.bool true) := by
 have hl := hB.len
 have h0 := head_call
 have hfe := few_call l [] (by omega) (by simp) (fun f hf => ⟨by have := hB.bs f hf; omega, by have := hB.nm f hf; omega⟩)
 have s1 := sound_call l hB
 have hSl : (soundR l).length ≤ l.length := sndU_len l l.length
 have hSm := fun k' (h : k' ∈ soundR l) => sound_mem h
 have hSc := sound_count l k
 have g1 := get_call l k hB hk
 have gS := fun k' (h : I64 k') => get_call l k' hB h
 generalize soundR l = S at *
 cases hf : fewB l []
 ·rw [hf] at hfe
  refine PCall.intro Tryd.func7 rfl isf7 (by simp [Tryd.f7]) (by simp [AV.cloL, AV.clo]) fun E Q hE hN hQ => K_start ?_
  repeat' (first | apply nx | refine Kq_exit_ne (by decide) ?_ | rw [wrap64 (by omega) (by omega)] | ((first | refine hK _ ?_ | refine hKp _ _ ?_); clear hK hKp K Kp; try clear hanc anc) | ((with_reducible refine And.intro ?_ ?_); (focus (first | trivial | omega | (simp only [Fits]; omega) | assumption | (rw [hanc]; rfl)))) | ((first | refine K_regA hE fun K Kp hK hKp => ?_ | refine K_drwA false mixed hE fun K Kp hK hKp anc hanc => ?_ | ((first | apply CallP_mk | apply CallB_mk); (focus (simp only [go_sem] <;> rfl)); (focus (first | exact h0 | exact hfe)); (focus (first | (simp [go_sem]; done) | (simp [go_sem, CloRow, AV.cells, AV.clo]; done))); (focus (first | exact .inl rfl | (right; simp [go_sem]))))); simp only [go_sem, Bool.not_false]) | ((first | refine onG_split_t (fun hg => ?_) (fun hg => ?_) | refine onG_split_f (fun hg => ?_) (fun hg => ?_)) <;> simp only [go_sem, Bool.not_false, hg]) | (refine K_condA (fun hc => ?_) (fun hc => ?_) <;> try (exact absurd hc (by decide))) | (refine K_ret ?_; refine (hQ _ ⟨_, by (try simp only [go_sem, ↓reduceIte, Nat.reduceEqDiff]); rfl, by simp [go_sem], ?_, by first | rfl | assumption⟩).1))
  simp [AV.snap]
 ·rw [hf] at hfe
  refine PCall.intro Tryd.func7 rfl isf7 (by simp [Tryd.f7]) (by simp [AV.cloL, AV.clo]) fun E Q hE hN hQ => K_start ?_
  repeat' (first | apply nx | refine Kq_exit_ne (by decide) ?_ | rw [wrap64 (by omega) (by omega)] | ((first | refine hK _ ?_ | refine hKp _ _ ?_); clear hK hKp K Kp; try clear hanc anc) | ((with_reducible refine And.intro ?_ ?_); (focus (first | trivial | omega | (simp only [Fits]; omega) | assumption | (rw [hanc]; rfl)))) | ((first | refine K_regA hE fun K Kp hK hKp => ?_ | refine K_drwA false mixed hE fun K Kp hK hKp anc hanc => ?_ | ((first | apply CallP_mk | apply CallB_mk); (focus (simp only [go_sem] <;> rfl)); (focus (first | exact h0 | exact hfe | exact s1)); (focus (first | (simp [go_sem]; done) | (simp [go_sem, CloRow, AV.cells, AV.clo]; done))); (focus (first | exact .inl rfl | (right; simp [go_sem]))))); simp only [go_sem, Bool.not_true]) | ((first | refine onG_split_t (fun hg => ?_) (fun hg => ?_) | refine onG_split_f (fun hg => ?_) (fun hg => ?_)) <;> simp only [go_sem, Bool.not_true, hg]) | (refine K_condA (fun hc => ?_) (fun hc => ?_) <;> try (exact absurd hc (by decide))) | (refine K_ret ?_; refine (hQ _ ⟨_, by (try simp only [go_sem, ↓reduceIte, Nat.reduceEqDiff]); rfl, by simp [go_sem], ?_, by first | rfl | assumption⟩).1))
  refine K_loop (X := Nat) (fun i => i ≤ S.length) (fun i => mkSt [(0, .sl (fl l)), (1, .i k), (5, .bool true), (6, .sl (il S)), (7, .i (((S.take i).count k : Nat) : Int)), (8, .i i)] [] 0) (fun i => S.length - i) 0 (Nat.zero_le _) (fun i => i) (by refine ent_mk (by simp [go_sem]) (by simp [go_sem]) (by simp) (by simp [hN])) ?_
  intro i hi
  by_cases hlt : i < S.length
  ·obtain ⟨x, hx⟩ := get?_of hlt
   obtain ⟨hx0, hxk⟩ := hSm x (List.mem_of_getElem? hx)
   have gx := gS x hxk
   have hct := count_take (k := k) hx
   have hcl := List.count_le_length (a := k) (l := S.take i)
   rw [List.length_take] at hcl
   have q0 : ((getR l x).2 != 0) = false := by rw [hx0]; rfl
   have u1 : IntKind.i64.wrap (((S.take i).count k : Int) + 1) = (((S.take i).count k + 1 : Nat) : Int) := by rw [wrap64 (by omega) (by omega)]; omega
   by_cases hxe : x = k
   ·have q1 : (x == k) = true := by simpa using hxe
    rw [if_pos hxe] at hct
    repeat' (first | apply nx | refine Kq_exit_ne (by decide) ?_ | rw [wrap64 (by omega) (by omega)] | ((first | refine hK _ ?_ | refine hKp _ _ ?_); clear hK hKp K Kp; try clear hanc anc) | ((with_reducible refine And.intro ?_ ?_); (focus (first | trivial | omega | (simp only [Fits]; omega) | assumption | (rw [hanc]; rfl)))) | ((first | refine K_regA hE fun K Kp hK hKp => ?_ | refine K_drwA false mixed hE fun K Kp hK hKp anc hanc => ?_ | ((first | apply CallP_mk | apply CallB_mk); (focus (simp only [go_sem] <;> rfl)); (focus (exact gx)); (focus (first | (simp [go_sem]; done) | (simp [go_sem, CloRow, AV.cells, AV.clo]; done))); (focus (first | exact .inl rfl | (right; simp [go_sem]))))); simp only [go_sem, lt_dec hlt, hx, q0, q1, u1]) | ((first | refine onG_split_t (fun hg => ?_) (fun hg => ?_) | refine onG_split_f (fun hg => ?_) (fun hg => ?_)) <;> simp only [go_sem, lt_dec hlt, hx, q0, q1, u1, hg]) | (refine K_condA (fun hc => ?_) (fun hc => ?_) <;> try (exact absurd hc (by decide))) | (refine K_ret ?_; refine (hQ _ ⟨_, by (try simp only [go_sem, ↓reduceIte, Nat.reduceEqDiff]); rfl, by simp [go_sem], ?_, by first | rfl | assumption⟩).1))
    exact ⟨i + 1, by omega, by omega, fun i => i, by refine ent_mk (by simp [go_sem, hct]) (by simp [go_sem, hct]) (by simp) (by simp [hN])⟩
   ·have q1 : (x == k) = false := by simpa using hxe
    rw [if_neg hxe] at hct
    repeat' (first | apply nx | refine Kq_exit_ne (by decide) ?_ | rw [wrap64 (by omega) (by omega)] | ((first | refine hK _ ?_ | refine hKp _ _ ?_); clear hK hKp K Kp; try clear hanc anc) | ((with_reducible refine And.intro ?_ ?_); (focus (first | trivial | omega | (simp only [Fits]; omega) | assumption | (rw [hanc]; rfl)))) | ((first | refine K_regA hE fun K Kp hK hKp => ?_ | refine K_drwA false mixed hE fun K Kp hK hKp anc hanc => ?_ | ((first | apply CallP_mk | apply CallB_mk); (focus (simp only [go_sem] <;> rfl)); (focus (exact gx)); (focus (first | (simp [go_sem]; done) | (simp [go_sem, CloRow, AV.cells, AV.clo]; done))); (focus (first | exact .inl rfl | (right; simp [go_sem]))))); simp only [go_sem, lt_dec hlt, hx, q0, q1]) | ((first | refine onG_split_t (fun hg => ?_) (fun hg => ?_) | refine onG_split_f (fun hg => ?_) (fun hg => ?_)) <;> simp only [go_sem, lt_dec hlt, hx, q0, q1, hg]) | (refine K_condA (fun hc => ?_) (fun hc => ?_) <;> try (exact absurd hc (by decide))) | (refine K_ret ?_; refine (hQ _ ⟨_, by (try simp only [go_sem, ↓reduceIte, Nat.reduceEqDiff]); rfl, by simp [go_sem], ?_, by first | rfl | assumption⟩).1))
    exact ⟨i + 1, by omega, by omega, fun i => i, by refine ent_mk (by simp [go_sem, hct]) (by simp [go_sem, hct]) (by simp) (by simp [hN])⟩
  ·obtain rfl : i = S.length := by omega
   have q4 : decide ((S.length : Int) ≤ (l.length : Int)) = true := decide_eq_true (by omega)
   rw [List.take_length]
   by_cases hG : (getR l k).2 = 0
   ·rw [if_pos hG] at hSc
    have q2 : ((getR l k).2 == 0) = true := by simpa using hG
    have q3 : ((S.count k : Int) == 1) = true := by rw [hSc]; rfl
    repeat' (first | apply nx | refine Kq_exit_ne (by decide) ?_ | rw [wrap64 (by omega) (by omega)] | ((first | refine hK _ ?_ | refine hKp _ _ ?_); clear hK hKp K Kp; try clear hanc anc) | ((with_reducible refine And.intro ?_ ?_); (focus (first | trivial | omega | (simp only [Fits]; omega) | assumption | (rw [hanc]; rfl)))) | ((first | refine K_regA hE fun K Kp hK hKp => ?_ | refine K_drwA false mixed hE fun K Kp hK hKp anc hanc => ?_ | ((first | apply CallP_mk | apply CallB_mk); (focus (simp only [go_sem] <;> rfl)); (focus (exact g1)); (focus (first | (simp [go_sem]; done) | (simp [go_sem, CloRow, AV.cells, AV.clo]; done))); (focus (first | exact .inl rfl | (right; simp [go_sem]))))); simp only [go_sem, ge_dec, q2, q3, q4]) | ((first | refine onG_split_t (fun hg => ?_) (fun hg => ?_) | refine onG_split_f (fun hg => ?_) (fun hg => ?_)) <;> simp only [go_sem, ge_dec, q2, q3, q4, hg]) | (refine K_condA (fun hc => ?_) (fun hc => ?_) <;> try (exact absurd hc (by decide))) | (refine K_ret ?_; refine (hQ _ ⟨_, by (try simp only [go_sem, ↓reduceIte, Nat.reduceEqDiff]); rfl, by simp [go_sem], ?_, by first | rfl | assumption⟩).1))
    simp [AV.snap]
   ·rw [if_neg hG] at hSc
    have q2 : ((getR l k).2 == 0) = false := by simpa using hG
    have q3 : ((S.count k : Int) == 0) = true := by rw [hSc]; rfl
    repeat' (first | apply nx | refine Kq_exit_ne (by decide) ?_ | rw [wrap64 (by omega) (by omega)] | ((first | refine hK _ ?_ | refine hKp _ _ ?_); clear hK hKp K Kp; try clear hanc anc) | ((with_reducible refine And.intro ?_ ?_); (focus (first | trivial | omega | (simp only [Fits]; omega) | assumption | (rw [hanc]; rfl)))) | ((first | refine K_regA hE fun K Kp hK hKp => ?_ | refine K_drwA false mixed hE fun K Kp hK hKp anc hanc => ?_ | ((first | apply CallP_mk | apply CallB_mk); (focus (simp only [go_sem] <;> rfl)); (focus (exact g1)); (focus (first | (simp [go_sem]; done) | (simp [go_sem, CloRow, AV.cells, AV.clo]; done))); (focus (first | exact .inl rfl | (right; simp [go_sem]))))); simp only [go_sem, ge_dec, q2, q3, q4]) | ((first | refine onG_split_t (fun hg => ?_) (fun hg => ?_) | refine onG_split_f (fun hg => ?_) (fun hg => ?_)) <;> simp only [go_sem, ge_dec, q2, q3, q4, hg]) | (refine K_condA (fun hc => ?_) (fun hc => ?_) <;> try (exact absurd hc (by decide))) | (refine K_ret ?_; refine (hQ _ ⟨_, by (try simp only [go_sem, ↓reduceIte, Nat.reduceEqDiff]); rfl, by simp [go_sem], ?_, by first | rfl | assumption⟩).1))
    simp [AV.snap]
end Go.Proofs.YtfiehjbijdmbaaaDoor

set_option linter.unusedVariables false
namespace Go.Proofs.YtfiehjbijdmbaaaDoor
open Go.Am Go.Proofs Go.Ca
variable {H : Type}
theorem cacheSound_pcall {d0 d1 : DataW H} (h0 : DT Tryd.prog 22 d0) (h1 : DT Tryd.prog 3 d1) (b0 : bulk d0 ≤ 1048576) (b1 : bulk d1 ≤ 1048576) : PCall Tryd.prog 7 [avD d0, avD d1] (.bool true) := by
 obtain ⟨x0, e0, f0, g0⟩ := opn_fl h0 b0
 obtain ⟨x1, e1, f1⟩ := opn_int h1
 rw [e0, e1]
 exact sound_c x0 x1 f0 f1
end Go.Proofs.YtfiehjbijdmbaaaDoor
