/- A part of the proof: an abstract machine for the walks, and what the walked functions compute. -/
import Derived.Test.YtlhhahocjfgmdaaPc
import Derived.Test.YtlhhahocjfgmdaaMr
set_option linter.unusedVariables false
set_option linter.unusedSimpArgs false
set_option linter.unusedSimpArgs false
set_option linter.unusedVariables false
set_option maxHeartbeats 4000000
set_option maxRecDepth 100000
namespace Go.Proofs.Ytlhhahocjfgmdaa
open Nat (reduceAdd reduceMul reduceEqDiff reduceLT reduceLeDiff reduceSub reduceDiv)
open Int (reduceBNe reduceLE reduceEq)
open Go.Am Go.Proofs Go.Hv Go.Mv
open Classical
attribute [local irreducible] AW CallP CallB
def tk (out : List Int) (n : Int) : Option AV := if n ∈ out then some (.bool true) else none
theorem tk_put (out : List Int) (x : Int) : (fun m => if m = x then some (AV.bool true) else tk out m) = tk (out ++ [x]) := by
 funext m
 simp only [tk, List.mem_append, List.mem_singleton]
 by_cases h1 : m = x <;> by_cases h2 : m ∈ out <;> simp [h1, h2]
theorem diff_false {l : List Int} {n : Nat} {i : Nat} {x : Int} (hx : l[i]? = some x) (h : (n : Int) ≤ x ∨ (0 ≤ x ∧ x ∈ l.take i)) : diffB l n = false := by
 cases hd : diffB l n
 ·rfl
 ·rw [diff_iff] at hd
  rcases h with h | ⟨h1, h2⟩
  ·have := hd.1 x (List.mem_of_getElem? hx); omega
  ·obtain ⟨j, hj⟩ := List.getElem?_of_mem h2
   rw [List.getElem?_take] at hj
   split at hj
   ·have := hd.2 j i x (by omega) hj hx; omega
   ·cases hj
theorem diff_call (l : List Int) (n : Nat) (hl : l.length ≤ 2 ^ 40) : PCall Try.prog 49 [.sl (il l), .i n] (.bool (diffB l n)) := by
 refine PCall.intro Try.func49 rfl isf49 (by simp [Try.f49]) (by simp [AV.cloL, AV.clo]) fun E Q hE hN hQ => K_start ?_
 repeat' (first | apply nx | refine Kq_exit_ne (by decide) ?_ | rw [wrap64 (by omega) (by omega)] | ((first | refine hK _ ?_ | refine hKp _ _ ?_); clear hK hKp K Kp; try clear hanc anc) | ((with_reducible refine And.intro ?_ ?_); (focus (first | trivial | omega | (simp only [Fits]; omega) | assumption | (rw [hanc]; rfl)))) | ((first | refine K_regA hE fun K Kp hK hKp => ?_ | refine K_drwA true mixed hE fun K Kp hK hKp anc hanc => ?_ | refine K_drwA false mixed hE fun K Kp hK hKp anc hanc => ?_); simp only [go_sem]) | ((first | refine onG_split_t (fun hg => ?_) (fun hg => ?_) | refine onG_split_f (fun hg => ?_) (fun hg => ?_)) <;> simp only [go_sem, hg]) | (refine K_condA (fun hc => ?_) (fun hc => ?_) <;> try (exact absurd hc (by decide))))
 refine K_loop (X := Nat × List (AV × AV)) (fun x => x.1 ≤ l.length ∧ MapIs x.2 (tk (l.take x.1)) ∧ EsClo x.2 ∧ ∀ (i : Nat) y, i < x.1 → l[i]? = some y → y < n ∧ (0 ≤ y → y ∉ l.take i)) (fun x => mkSt [(1, .i n), (5, .mp 0), (9, .sl (il l)), (10, .i l.length), (11, .i x.1)] [(0, .map x.2)] 1) (fun x => l.length - x.1) (0, []) ⟨Nat.zero_le _, MapIs.nil, EsClo.nil, fun i y h => absurd h (Nat.not_lt_zero _)⟩ (fun i => 1048576) (by refine ent_mk (by simp [go_sem]) (by simp [go_sem]) (by simp) (by simp [hN])) ?_
 rintro ⟨i, es⟩ ⟨hi, hm, hec, hok⟩
 simp only at hi hm hec hok
 have hmi : ∀ (a b : AV), (a, b) ∈ es → AV.ids (fun x => x < 1) a ∧ AV.ids (fun x => x < 1) b := fun a b h => ⟨clo_ids (hec _ h).1, clo_ids (hec _ h).2⟩
 by_cases hlt : i < l.length
 ·obtain ⟨x, hx⟩ := get?_of hlt
  have hmx := hm x
  have htk : l.take (i + 1) = l.take i ++ [x] := by rw [List.take_add_one, hx]; rfl
  by_cases h1 : x < n
  case neg =>
   have q1 : decide (x ≥ (n : Int)) = true := by simpa using h1
   have e := diff_false (n := n) hx (.inl (by omega))
   rw [e] at hQ
   repeat' (first | apply nx | refine Kq_exit_ne (by decide) ?_ | rw [wrap64 (by omega) (by omega)] | ((first | refine hK _ ?_ | refine hKp _ _ ?_); clear hK hKp K Kp; try clear hanc anc) | ((with_reducible refine And.intro ?_ ?_); (focus (first | trivial | omega | (simp only [Fits]; omega) | assumption | (rw [hanc]; rfl)))) | ((first | refine K_regA hE fun K Kp hK hKp => ?_ | refine K_drwA false mixed hE fun K Kp hK hKp anc hanc => ?_); simp only [go_sem, lt_dec hlt, hx, q1]) | ((first | refine onG_split_t (fun hg => ?_) (fun hg => ?_) | refine onG_split_f (fun hg => ?_) (fun hg => ?_)) <;> simp only [go_sem, lt_dec hlt, hx, q1, hg]) | (refine K_condA (fun hc => ?_) (fun hc => ?_) <;> try (exact absurd hc (by decide))) | (refine K_ret ?_; refine (hQ _ ⟨_, by (try simp only [go_sem, ↓reduceIte, Nat.reduceEqDiff]); rfl, by simp [go_sem], ?_, by first | rfl | assumption⟩).1))
   simp [AV.snap]
  have q1 : decide (x ≥ (n : Int)) = false := by simpa using h1
  by_cases hin : x ∈ l.take i
  ·rw [tk, if_pos hin] at hmx
   have hm' := hm.put x (.bool true)
   rw [tk, if_pos hin, tk_put, ← htk] at hm'
   have hc' := hec.put x (x := .bool true) rfl (some (.bool true))
   have hmi' : ∀ (a b : AV), (a, b) ∈ putE .i64 x (.bool true) es (some (.bool true)) → AV.ids (fun x => x < 1) a ∧ AV.ids (fun x => x < 1) b := fun a b h => ⟨clo_ids (hc' _ h).1, clo_ids (hc' _ h).2⟩
   by_cases h2 : 0 ≤ x
   ·have q2 : decide (x ≥ 0) = true := by simpa using h2
    have e := diff_false (n := n) hx (.inr ⟨h2, hin⟩)
    rw [e] at hQ
    repeat' (first | apply nx | refine Kq_exit_ne (by decide) ?_ | rw [wrap64 (by omega) (by omega)] | ((first | refine hK _ ?_ | refine hKp _ _ ?_); clear hK hKp K Kp; try clear hanc anc) | ((with_reducible refine And.intro ?_ ?_); (focus (first | trivial | omega | (simp only [Fits]; omega) | assumption | (rw [hanc]; rfl)))) | ((first | refine K_regA hE fun K Kp hK hKp => ?_ | refine K_drwA false mixed hE fun K Kp hK hKp anc hanc => ?_); simp only [go_sem, lt_dec hlt, hx, q1, q2, hmx]) | ((first | refine onG_split_t (fun hg => ?_) (fun hg => ?_) | refine onG_split_f (fun hg => ?_) (fun hg => ?_)) <;> simp only [go_sem, lt_dec hlt, hx, q1, q2, hmx, hg]) | (refine K_condA (fun hc => ?_) (fun hc => ?_) <;> try (exact absurd hc (by decide))) | (refine K_ret ?_; refine (hQ _ ⟨_, by (try simp only [go_sem, ↓reduceIte, Nat.reduceEqDiff]); rfl, by simp [go_sem], ?_, by first | rfl | assumption⟩).1))
    simp [AV.snap]
   ·have q2 : decide (x ≥ 0) = false := by simpa using h2
    repeat' (first | apply nx | refine Kq_exit_ne (by decide) ?_ | rw [wrap64 (by omega) (by omega)] | ((first | refine hK _ ?_ | refine hKp _ _ ?_); clear hK hKp K Kp; try clear hanc anc) | ((with_reducible refine And.intro ?_ ?_); (focus (first | trivial | omega | (simp only [Fits]; omega) | assumption | (rw [hanc]; rfl)))) | ((first | refine K_regA hE fun K Kp hK hKp => ?_ | refine K_drwA false mixed hE fun K Kp hK hKp anc hanc => ?_); simp only [go_sem, lt_dec hlt, hx, q1, q2, hmx]) | ((first | refine onG_split_t (fun hg => ?_) (fun hg => ?_) | refine onG_split_f (fun hg => ?_) (fun hg => ?_)) <;> simp only [go_sem, lt_dec hlt, hx, q1, q2, hmx, hg]) | (refine K_condA (fun hc => ?_) (fun hc => ?_) <;> try (exact absurd hc (by decide))) | (refine K_ret ?_; refine (hQ _ ⟨_, by (try simp only [go_sem, ↓reduceIte, Nat.reduceEqDiff]); rfl, by simp [go_sem], ?_, by first | rfl | assumption⟩).1))
    refine ⟨(i + 1, putE .i64 x (.bool true) es (some (.bool true))), ⟨by simp only; omega, hm', hc', fun j y hj hy => ?_⟩, by simp only; omega, fun j => j, ent_mk (by simp [go_sem]) (by simp [hc'.ren, go_sem]; exact fun a b h => ⟨clo_ids (hc' _ h).1, clo_ids (hc' _ h).2⟩) (by simp) (by simp [hN])⟩
    simp only at hj
    by_cases e : j = i
    ·subst e; rw [hx] at hy; cases hy; exact ⟨h1, fun h => absurd h h2⟩
    ·exact hok j y (by omega) hy
  ·rw [tk, if_neg hin] at hmx
   have hm' := hm.put x (.bool true)
   rw [tk, if_neg hin, tk_put, ← htk] at hm'
   have hc' := hec.put x (x := .bool true) rfl none
   have hmi' : ∀ (a b : AV), (a, b) ∈ putE .i64 x (.bool true) es none → AV.ids (fun x => x < 1) a ∧ AV.ids (fun x => x < 1) b := fun a b h => ⟨clo_ids (hc' _ h).1, clo_ids (hc' _ h).2⟩
   cases q2 : decide (x ≥ 0)
   all_goals
    repeat' (first | apply nx | refine Kq_exit_ne (by decide) ?_ | rw [wrap64 (by omega) (by omega)] | ((first | refine hK _ ?_ | refine hKp _ _ ?_); clear hK hKp K Kp; try clear hanc anc) | ((with_reducible refine And.intro ?_ ?_); (focus (first | trivial | omega | (simp only [Fits]; omega) | assumption | (rw [hanc]; rfl)))) | ((first | refine K_regA hE fun K Kp hK hKp => ?_ | refine K_drwA false mixed hE fun K Kp hK hKp anc hanc => ?_); simp only [go_sem, lt_dec hlt, hx, q1, q2, hmx]) | ((first | refine onG_split_t (fun hg => ?_) (fun hg => ?_) | refine onG_split_f (fun hg => ?_) (fun hg => ?_)) <;> simp only [go_sem, lt_dec hlt, hx, q1, q2, hmx, hg]) | (refine K_condA (fun hc => ?_) (fun hc => ?_) <;> try (exact absurd hc (by decide))) | (refine K_ret ?_; refine (hQ _ ⟨_, by (try simp only [go_sem, ↓reduceIte, Nat.reduceEqDiff]); rfl, by simp [go_sem], ?_, by first | rfl | assumption⟩).1))
    refine ⟨(i + 1, putE .i64 x (.bool true) es none), ⟨by simp only; omega, hm', hc', fun j y hj hy => ?_⟩, by simp only; omega, fun j => j, ent_mk (by simp [go_sem]) (by simp [hc'.ren, go_sem]; exact fun a b h => ⟨clo_ids (hc' _ h).1, clo_ids (hc' _ h).2⟩) (by simp) (by simp [hN])⟩
    simp only at hj
    by_cases e : j = i
    ·subst e; rw [hx] at hy; cases hy; exact ⟨h1, fun _ => hin⟩
    ·exact hok j y (by omega) hy
 ·obtain rfl : i = l.length := by omega
  have e : diffB l n = true := by
   rw [diff_iff]
   refine ⟨fun x hx => ?_, fun a b x hab ha hb => ?_⟩
   ·obtain ⟨j, hj⟩ := List.getElem?_of_mem hx
    exact (hok j x (List.getElem?_eq_some_iff.1 hj).1 hj).1
   ·have := (hok b x (List.getElem?_eq_some_iff.1 hb).1 hb).2
    rcases Int.lt_or_le x 0 with h | h
    ·exact h
    ·exact absurd (List.mem_of_getElem? (i := a) (by rw [List.getElem?_take, if_pos hab]; exact ha)) (this h)
  rw [e] at hQ
  repeat' (first | apply nx | refine Kq_exit_ne (by decide) ?_ | rw [wrap64 (by omega) (by omega)] | ((first | refine hK _ ?_ | refine hKp _ _ ?_); clear hK hKp K Kp; try clear hanc anc) | ((with_reducible refine And.intro ?_ ?_); (focus (first | trivial | omega | (simp only [Fits]; omega) | assumption | (rw [hanc]; rfl)))) | ((first | refine K_regA hE fun K Kp hK hKp => ?_ | refine K_drwA false mixed hE fun K Kp hK hKp anc hanc => ?_); simp only [go_sem, ge_dec]) | ((first | refine onG_split_t (fun hg => ?_) (fun hg => ?_) | refine onG_split_f (fun hg => ?_) (fun hg => ?_)) <;> simp only [go_sem, ge_dec, hg]) | (refine K_condA (fun hc => ?_) (fun hc => ?_) <;> try (exact absurd hc (by decide))) | (refine K_ret ?_; refine (hQ _ ⟨_, by (try simp only [go_sem, ↓reduceIte, Nat.reduceEqDiff]); rfl, by simp [go_sem], ?_, by first | rfl | assumption⟩).1))
  simp [AV.snap]
theorem idx68_hc (l : List Ty) (g : Nat) (cap : List AV) (hp : Nat → Option AObj) (np : Nat) (b : Ty → Bool) (hcap : AV.idsL (· < np) cap) (hw : WF hp np) (hl : l.length ≤ 2 ^ 40) (hg : ∀ x, x ∈ l → HC Try.prog g (x.av :: cap) hp np (.bool (b x))) : HC Try.prog 68 [.sl (Ty.avL l), .fn (.func g) [] cap] hp np (.i (fidx b l 0)) := by
 have hwl : ∀ id ob, hp id = some ob → id < 1000000 ∧ ob.ids (· < 1000000) := fun id ob h => by
  have := hw.1 id ob h; have := hw.2.2
  exact ⟨by omega, objids_mono _ (fun i hi => by omega) (hw.1 id ob h).2⟩
 have hcap2 : AV.idsL (· < 1000000) cap := idsL_imp (fun i hi => by have := hw.2.2; omega) hcap
 have hnp2 : np ≤ 1000000 := by have := hw.2.2; omega
 refine HC.intro hw rfl Try.func68 rfl isf68 (by simp [Try.f68]) fun E Q hE hN hQ => K_start ?_
 repeat' (first | apply nx | refine Kq_exit_ne (by decide) ?_ | rw [wrap64 (by omega) (by omega)] | ((first | refine hK _ ?_ | refine hKp _ _ ?_); clear hK hKp K Kp; try clear hanc anc) | ((with_reducible refine And.intro ?_ ?_); (focus (first | trivial | omega | (simp only [Fits]; omega) | assumption | (rw [hanc]; rfl)))) | ((first | refine K_regA hE fun K Kp hK hKp => ?_ | refine K_drwA true mixed hE fun K Kp hK hKp anc hanc => ?_ | refine K_drwA false mixed hE fun K Kp hK hKp anc hanc => ?_); simp only [go_sem]) | ((first | refine onG_split_t (fun hg => ?_) (fun hg => ?_) | refine onG_split_f (fun hg => ?_) (fun hg => ?_)) <;> simp only [go_sem, hg]) | (refine K_condA (fun hc => ?_) (fun hc => ?_) <;> try (exact absurd hc (by decide))))
 refine K_loop (X := Nat) (fun i => i ≤ l.length ∧ fidx b l 0 = fidx b (l.drop i) i) (fun i => ⟨mkFr [(0, .sl (Ty.avL l)), (1, .fn (.func g) [] cap), (7, AV.i l.length), (8, AV.i i)], hp, 1000000⟩) (fun i => l.length - i) 0 ⟨Nat.zero_le _, rfl⟩ (fun i => i) (ent_keep (by simp [go_sem, AV.ids, hcap2]) (fun id ob h => ⟨h, hwl id ob h⟩) (by omega)) ?_
 rintro i ⟨hi, ht⟩
 by_cases hlt : i < l.length
 ·obtain ⟨x, hx⟩ := get?_of hlt
  rw [drop_of hx, fidx] at ht
  have hgx := hg x (List.mem_of_getElem? hx)
  rw [Ty.av_eq] at hgx
  repeat' (first | apply nx | refine Kq_exit_ne (by decide) ?_ | rw [wrap64 (by omega) (by omega)] | ((first | refine hK _ ?_ | refine hKp _ _ ?_); clear hK hKp K Kp; try clear hanc anc) | ((with_reducible refine And.intro ?_ ?_); (focus (first | trivial | omega | (simp only [Fits]; omega) | assumption | (rw [hanc]; rfl)))) | ((first | refine K_regA hE fun K Kp hK hKp => ?_ | refine K_drwA true mixed hE fun K Kp hK hKp anc hanc => ?_ | refine K_drwA false mixed hE fun K Kp hK hKp anc hanc => ?_); simp only [go_sem, lt_dec hlt, hx, Ty.av_eq]) | ((first | refine onG_split_t (fun hg => ?_) (fun hg => ?_) | refine onG_split_f (fun hg => ?_) (fun hg => ?_)) <;> simp only [go_sem, lt_dec hlt, hx, Ty.av_eq, hg]) | (refine K_condA (fun hc => ?_) (fun hc => ?_) <;> try (exact absurd hc (by decide))))
  refine Hold.mk (HC.use hgx (fun i => i) (by rw [renL_id]) (by refine ⟨?_, hcap⟩; simp [go_sem, AV.ids, AV.idsL]) (fun id ob h => by rw [oren_id]; exact h) (fun _ _ _ _ e => e) ?_)
  rintro hpn hold
  simp only [go_sem]
  refine hK _ ?_; clear hK hKp K Kp; try clear hanc anc
  repeat (first | refine Kq_norm_code ?_ | refine Kq_norm_blk ?_ | refine Kq_norm_lp ?_)
  refine AW.ent (fun i => i) (σ' := ⟨mkFr [(0, .sl (Ty.avL l)), (1, .fn (.func g) [] cap), (5, AV.i i), (7, AV.i l.length), (8, AV.i i), (16, .bool (b x))], hp, 1000000⟩) (ent_keep (by simp [go_sem, AV.ids, hcap2]) (fun id ob h => ⟨hold id ob h, hwl id ob h⟩) (by omega)) ?_
  cases hbx : b x
  ·rw [hbx] at ht
   repeat' (first | apply nx | refine Kq_exit_ne (by decide) ?_ | rw [wrap64 (by omega) (by omega)] | ((first | refine hK _ ?_ | refine hKp _ _ ?_); clear hK hKp K Kp; try clear hanc anc) | ((with_reducible refine And.intro ?_ ?_); (focus (first | trivial | omega | (simp only [Fits]; omega) | assumption | (rw [hanc]; rfl)))) | ((first | refine K_regA hE fun K Kp hK hKp => ?_ | refine K_drwA true mixed hE fun K Kp hK hKp anc hanc => ?_ | refine K_drwA false mixed hE fun K Kp hK hKp anc hanc => ?_); simp only [go_sem]) | ((first | refine onG_split_t (fun hg => ?_) (fun hg => ?_) | refine onG_split_f (fun hg => ?_) (fun hg => ?_)) <;> simp only [go_sem, hg]) | (refine K_condA (fun hc => ?_) (fun hc => ?_) <;> try (exact absurd hc (by decide))))
   exact ⟨i + 1, ⟨by omega, by simpa using ht⟩, by omega, fun i => i, ent_keep (by simp [go_sem, AV.ids, hcap2]) (fun id ob h => ⟨h, hwl id ob h⟩) (by omega)⟩
  ·rw [hbx, if_pos rfl] at ht
   rw [ht] at hQ
   repeat' (first | apply nx | refine Kq_exit_ne (by decide) ?_ | rw [wrap64 (by omega) (by omega)] | ((first | refine hK _ ?_ | refine hKp _ _ ?_); clear hK hKp K Kp; try clear hanc anc) | ((with_reducible refine And.intro ?_ ?_); (focus (first | trivial | omega | (simp only [Fits]; omega) | assumption | (rw [hanc]; rfl)))) | ((first | refine K_regA hE fun K Kp hK hKp => ?_ | refine K_drwA true mixed hE fun K Kp hK hKp anc hanc => ?_ | refine K_drwA false mixed hE fun K Kp hK hKp anc hanc => ?_); simp only [go_sem]) | ((first | refine onG_split_t (fun hg => ?_) (fun hg => ?_) | refine onG_split_f (fun hg => ?_) (fun hg => ?_)) <;> simp only [go_sem, hg]) | (refine K_condA (fun hc => ?_) (fun hc => ?_) <;> try (exact absurd hc (by decide))))
   exact K_ret (hQ _ (by simp only [go_sem]; rfl) (fun id ob h => h)).1
 ·obtain rfl : i = l.length := by omega
  rw [List.drop_length, fidx] at ht
  rw [ht] at hQ
  repeat' (first | apply nx | refine Kq_exit_ne (by decide) ?_ | rw [wrap64 (by omega) (by omega)] | ((first | refine hK _ ?_ | refine hKp _ _ ?_); clear hK hKp K Kp; try clear hanc anc) | ((with_reducible refine And.intro ?_ ?_); (focus (first | trivial | omega | (simp only [Fits]; omega) | assumption | (rw [hanc]; rfl)))) | ((first | refine K_regA hE fun K Kp hK hKp => ?_ | refine K_drwA true mixed hE fun K Kp hK hKp anc hanc => ?_ | refine K_drwA false mixed hE fun K Kp hK hKp anc hanc => ?_); simp only [go_sem, ge_dec]) | ((first | refine onG_split_t (fun hg => ?_) (fun hg => ?_) | refine onG_split_f (fun hg => ?_) (fun hg => ?_)) <;> simp only [go_sem, ge_dec, hg]) | (refine K_condA (fun hc => ?_) (fun hc => ?_) <;> try (exact absurd hc (by decide))))
  exact K_ret (hQ _ (by simp only [go_sem]; rfl) (fun id ob h => h)).1
theorem con57_hc (l : List Ty) (g : Nat) (cap : List AV) (hp : Nat → Option AObj) (np : Nat) (b : Ty → Bool) (hcap : AV.idsL (· < np) cap) (hw : WF hp np) (hl : l.length ≤ 2 ^ 40) (hg : ∀ x, x ∈ l → HC Try.prog g (x.av :: cap) hp np (.bool (b x))) : HC Try.prog 57 [.sl (Ty.avL l), .fn (.func g) [] cap] hp np (.bool (l.any b)) := by
 have hx := idx68_hc l g cap hp np b hcap hw hl hg
 refine HC.intro hw rfl Try.func57 rfl isf57 (by simp [Try.f57]) fun E Q hE hN hQ => K_start ?_
 repeat' (first | apply nx | refine Kq_exit_ne (by decide) ?_ | rw [wrap64 (by omega) (by omega)] | ((first | refine hK _ ?_ | refine hKp _ _ ?_); clear hK hKp K Kp; try clear hanc anc) | ((with_reducible refine And.intro ?_ ?_); (focus (first | trivial | omega | (simp only [Fits]; omega) | assumption | (rw [hanc]; rfl)))) | ((first | refine K_regA hE fun K Kp hK hKp => ?_ | refine K_drwA true mixed hE fun K Kp hK hKp anc hanc => ?_ | refine K_drwA false mixed hE fun K Kp hK hKp anc hanc => ?_); simp only [go_sem]) | ((first | refine onG_split_t (fun hg => ?_) (fun hg => ?_) | refine onG_split_f (fun hg => ?_) (fun hg => ?_)) <;> simp only [go_sem, hg]) | (refine K_condA (fun hc => ?_) (fun hc => ?_) <;> try (exact absurd hc (by decide))))
 refine Hold.mk (HC.use hx (fun i => i) (by rw [renL_id]) (by simp [go_sem, AV.idsL, AV.ids, hcap]) (fun id ob h => by rw [oren_id]; exact h) (fun _ _ _ _ e => e) ?_)
 rintro hpn hold
 have q : decide (fidx b l 0 ≥ 0) = l.any b := fidx_ge b l 0
 simp only [go_sem, q]
 refine hK _ ?_; clear hK hKp K Kp; try clear hanc anc
 repeat (first | refine Kq_norm_code ?_ | refine Kq_norm_blk ?_ | refine Kq_norm_lp ?_)
 repeat' (first | apply nx | refine Kq_exit_ne (by decide) ?_ | rw [wrap64 (by omega) (by omega)] | ((first | refine hK _ ?_ | refine hKp _ _ ?_); clear hK hKp K Kp; try clear hanc anc) | ((with_reducible refine And.intro ?_ ?_); (focus (first | trivial | omega | (simp only [Fits]; omega) | assumption | (rw [hanc]; rfl)))) | ((first | refine K_regA hE fun K Kp hK hKp => ?_ | refine K_drwA true mixed hE fun K Kp hK hKp anc hanc => ?_ | refine K_drwA false mixed hE fun K Kp hK hKp anc hanc => ?_); simp only [go_sem, q]) | ((first | refine onG_split_t (fun hg => ?_) (fun hg => ?_) | refine onG_split_f (fun hg => ?_) (fun hg => ?_)) <;> simp only [go_sem, q, hg]) | (refine K_condA (fun hc => ?_) (fun hc => ?_) <;> try (exact absurd hc (by decide))))
 exact K_ret (hQ _ (by simp only [go_sem]; rfl) hold).1
theorem idx69_hc (l : List Dd) (g : Nat) (cap : List AV) (hp : Nat → Option AObj) (np : Nat) (b : Dd → Bool) (hcap : AV.idsL (· < np) cap) (hw : WF hp np) (hl : l.length ≤ 2 ^ 40) (hg : ∀ x, x ∈ l → HC Try.prog g (x.av :: cap) hp np (.bool (b x))) : HC Try.prog 69 [.sl (ddl l), .fn (.func g) [] cap] hp np (.i (fidx b l 0)) := by
 have hwl : ∀ id ob, hp id = some ob → id < 1000000 ∧ ob.ids (· < 1000000) := fun id ob h => by
  have := hw.1 id ob h; have := hw.2.2
  exact ⟨by omega, objids_mono _ (fun i hi => by omega) (hw.1 id ob h).2⟩
 have hcap2 : AV.idsL (· < 1000000) cap := idsL_imp (fun i hi => by have := hw.2.2; omega) hcap
 have hnp2 : np ≤ 1000000 := by have := hw.2.2; omega
 refine HC.intro hw rfl Try.func69 rfl isf69 (by simp [Try.f69]) fun E Q hE hN hQ => K_start ?_
 repeat' (first | apply nx | refine Kq_exit_ne (by decide) ?_ | rw [wrap64 (by omega) (by omega)] | ((first | refine hK _ ?_ | refine hKp _ _ ?_); clear hK hKp K Kp; try clear hanc anc) | ((with_reducible refine And.intro ?_ ?_); (focus (first | trivial | omega | (simp only [Fits]; omega) | assumption | (rw [hanc]; rfl)))) | ((first | refine K_regA hE fun K Kp hK hKp => ?_ | refine K_drwA true mixed hE fun K Kp hK hKp anc hanc => ?_ | refine K_drwA false mixed hE fun K Kp hK hKp anc hanc => ?_); simp only [go_sem]) | ((first | refine onG_split_t (fun hg => ?_) (fun hg => ?_) | refine onG_split_f (fun hg => ?_) (fun hg => ?_)) <;> simp only [go_sem, hg]) | (refine K_condA (fun hc => ?_) (fun hc => ?_) <;> try (exact absurd hc (by decide))))
 refine K_loop (X := Nat) (fun i => i ≤ l.length ∧ fidx b l 0 = fidx b (l.drop i) i) (fun i => ⟨mkFr [(0, .sl (ddl l)), (1, .fn (.func g) [] cap), (7, AV.i l.length), (8, AV.i i)], hp, 1000000⟩) (fun i => l.length - i) 0 ⟨Nat.zero_le _, rfl⟩ (fun i => i) (ent_keep (by simp [go_sem, AV.ids, hcap2]) (fun id ob h => ⟨h, hwl id ob h⟩) (by omega)) ?_
 rintro i ⟨hi, ht⟩
 by_cases hlt : i < l.length
 ·obtain ⟨x, hx⟩ := get?_of hlt
  rw [drop_of hx, fidx] at ht
  have hgx := hg x (List.mem_of_getElem? hx)
  rw [Dd.av_eq] at hgx
  repeat' (first | apply nx | refine Kq_exit_ne (by decide) ?_ | rw [wrap64 (by omega) (by omega)] | ((first | refine hK _ ?_ | refine hKp _ _ ?_); clear hK hKp K Kp; try clear hanc anc) | ((with_reducible refine And.intro ?_ ?_); (focus (first | trivial | omega | (simp only [Fits]; omega) | assumption | (rw [hanc]; rfl)))) | ((first | refine K_regA hE fun K Kp hK hKp => ?_ | refine K_drwA true mixed hE fun K Kp hK hKp anc hanc => ?_ | refine K_drwA false mixed hE fun K Kp hK hKp anc hanc => ?_); simp only [go_sem, lt_dec hlt, hx, Dd.av_eq]) | ((first | refine onG_split_t (fun hg => ?_) (fun hg => ?_) | refine onG_split_f (fun hg => ?_) (fun hg => ?_)) <;> simp only [go_sem, lt_dec hlt, hx, Dd.av_eq, hg]) | (refine K_condA (fun hc => ?_) (fun hc => ?_) <;> try (exact absurd hc (by decide))))
  refine Hold.mk (HC.use hgx (fun i => i) (by rw [renL_id]) (by refine ⟨?_, hcap⟩; simp [go_sem, AV.ids, AV.idsL]) (fun id ob h => by rw [oren_id]; exact h) (fun _ _ _ _ e => e) ?_)
  rintro hpn hold
  simp only [go_sem]
  refine hK _ ?_; clear hK hKp K Kp; try clear hanc anc
  repeat (first | refine Kq_norm_code ?_ | refine Kq_norm_blk ?_ | refine Kq_norm_lp ?_)
  refine AW.ent (fun i => i) (σ' := ⟨mkFr [(0, .sl (ddl l)), (1, .fn (.func g) [] cap), (5, AV.i i), (7, AV.i l.length), (8, AV.i i), (16, .bool (b x))], hp, 1000000⟩) (ent_keep (by simp [go_sem, AV.ids, hcap2]) (fun id ob h => ⟨hold id ob h, hwl id ob h⟩) (by omega)) ?_
  cases hbx : b x
  ·rw [hbx] at ht
   repeat' (first | apply nx | refine Kq_exit_ne (by decide) ?_ | rw [wrap64 (by omega) (by omega)] | ((first | refine hK _ ?_ | refine hKp _ _ ?_); clear hK hKp K Kp; try clear hanc anc) | ((with_reducible refine And.intro ?_ ?_); (focus (first | trivial | omega | (simp only [Fits]; omega) | assumption | (rw [hanc]; rfl)))) | ((first | refine K_regA hE fun K Kp hK hKp => ?_ | refine K_drwA true mixed hE fun K Kp hK hKp anc hanc => ?_ | refine K_drwA false mixed hE fun K Kp hK hKp anc hanc => ?_); simp only [go_sem]) | ((first | refine onG_split_t (fun hg => ?_) (fun hg => ?_) | refine onG_split_f (fun hg => ?_) (fun hg => ?_)) <;> simp only [go_sem, hg]) | (refine K_condA (fun hc => ?_) (fun hc => ?_) <;> try (exact absurd hc (by decide))))
   exact ⟨i + 1, ⟨by omega, by simpa using ht⟩, by omega, fun i => i, ent_keep (by simp [go_sem, AV.ids, hcap2]) (fun id ob h => ⟨h, hwl id ob h⟩) (by omega)⟩
  ·rw [hbx, if_pos rfl] at ht
   rw [ht] at hQ
   repeat' (first | apply nx | refine Kq_exit_ne (by decide) ?_ | rw [wrap64 (by omega) (by omega)] | ((first | refine hK _ ?_ | refine hKp _ _ ?_); clear hK hKp K Kp; try clear hanc anc) | ((with_reducible refine And.intro ?_ ?_); (focus (first | trivial | omega | (simp only [Fits]; omega) | assumption | (rw [hanc]; rfl)))) | ((first | refine K_regA hE fun K Kp hK hKp => ?_ | refine K_drwA true mixed hE fun K Kp hK hKp anc hanc => ?_ | refine K_drwA false mixed hE fun K Kp hK hKp anc hanc => ?_); simp only [go_sem]) | ((first | refine onG_split_t (fun hg => ?_) (fun hg => ?_) | refine onG_split_f (fun hg => ?_) (fun hg => ?_)) <;> simp only [go_sem, hg]) | (refine K_condA (fun hc => ?_) (fun hc => ?_) <;> try (exact absurd hc (by decide))))
   exact K_ret (hQ _ (by simp only [go_sem]; rfl) (fun id ob h => h)).1
 ·obtain rfl : i = l.length := by omega
  rw [List.drop_length, fidx] at ht
  rw [ht] at hQ
  repeat' (first | apply nx | refine Kq_exit_ne (by decide) ?_ | rw [wrap64 (by omega) (by omega)] | ((first | refine hK _ ?_ | refine hKp _ _ ?_); clear hK hKp K Kp; try clear hanc anc) | ((with_reducible refine And.intro ?_ ?_); (focus (first | trivial | omega | (simp only [Fits]; omega) | assumption | (rw [hanc]; rfl)))) | ((first | refine K_regA hE fun K Kp hK hKp => ?_ | refine K_drwA true mixed hE fun K Kp hK hKp anc hanc => ?_ | refine K_drwA false mixed hE fun K Kp hK hKp anc hanc => ?_); simp only [go_sem, ge_dec]) | ((first | refine onG_split_t (fun hg => ?_) (fun hg => ?_) | refine onG_split_f (fun hg => ?_) (fun hg => ?_)) <;> simp only [go_sem, ge_dec, hg]) | (refine K_condA (fun hc => ?_) (fun hc => ?_) <;> try (exact absurd hc (by decide))))
  exact K_ret (hQ _ (by simp only [go_sem]; rfl) (fun id ob h => h)).1
theorem con59_hc (l : List Dd) (g : Nat) (cap : List AV) (hp : Nat → Option AObj) (np : Nat) (b : Dd → Bool) (hcap : AV.idsL (· < np) cap) (hw : WF hp np) (hl : l.length ≤ 2 ^ 40) (hg : ∀ x, x ∈ l → HC Try.prog g (x.av :: cap) hp np (.bool (b x))) : HC Try.prog 59 [.sl (ddl l), .fn (.func g) [] cap] hp np (.bool (l.any b)) := by
 have hx := idx69_hc l g cap hp np b hcap hw hl hg
 refine HC.intro hw rfl Try.func59 rfl isf59 (by simp [Try.f59]) fun E Q hE hN hQ => K_start ?_
 repeat' (first | apply nx | refine Kq_exit_ne (by decide) ?_ | rw [wrap64 (by omega) (by omega)] | ((first | refine hK _ ?_ | refine hKp _ _ ?_); clear hK hKp K Kp; try clear hanc anc) | ((with_reducible refine And.intro ?_ ?_); (focus (first | trivial | omega | (simp only [Fits]; omega) | assumption | (rw [hanc]; rfl)))) | ((first | refine K_regA hE fun K Kp hK hKp => ?_ | refine K_drwA true mixed hE fun K Kp hK hKp anc hanc => ?_ | refine K_drwA false mixed hE fun K Kp hK hKp anc hanc => ?_); simp only [go_sem]) | ((first | refine onG_split_t (fun hg => ?_) (fun hg => ?_) | refine onG_split_f (fun hg => ?_) (fun hg => ?_)) <;> simp only [go_sem, hg]) | (refine K_condA (fun hc => ?_) (fun hc => ?_) <;> try (exact absurd hc (by decide))))
 refine Hold.mk (HC.use hx (fun i => i) (by rw [renL_id]) (by simp [go_sem, AV.idsL, AV.ids, hcap]) (fun id ob h => by rw [oren_id]; exact h) (fun _ _ _ _ e => e) ?_)
 rintro hpn hold
 have q : decide (fidx b l 0 ≥ 0) = l.any b := fidx_ge b l 0
 simp only [go_sem, q]
 refine hK _ ?_; clear hK hKp K Kp; try clear hanc anc
 repeat (first | refine Kq_norm_code ?_ | refine Kq_norm_blk ?_ | refine Kq_norm_lp ?_)
 repeat' (first | apply nx | refine Kq_exit_ne (by decide) ?_ | rw [wrap64 (by omega) (by omega)] | ((first | refine hK _ ?_ | refine hKp _ _ ?_); clear hK hKp K Kp; try clear hanc anc) | ((with_reducible refine And.intro ?_ ?_); (focus (first | trivial | omega | (simp only [Fits]; omega) | assumption | (rw [hanc]; rfl)))) | ((first | refine K_regA hE fun K Kp hK hKp => ?_ | refine K_drwA true mixed hE fun K Kp hK hKp anc hanc => ?_ | refine K_drwA false mixed hE fun K Kp hK hKp anc hanc => ?_); simp only [go_sem, q]) | ((first | refine onG_split_t (fun hg => ?_) (fun hg => ?_) | refine onG_split_f (fun hg => ?_) (fun hg => ?_)) <;> simp only [go_sem, q, hg]) | (refine K_condA (fun hc => ?_) (fun hc => ?_) <;> try (exact absurd hc (by decide))))
 exact K_ret (hQ _ (by simp only [go_sem]; rfl) hold).1
theorem idx70_hc (l : List Dv) (g : Nat) (cap : List AV) (hp : Nat → Option AObj) (np : Nat) (b : Dv → Bool) (hcap : AV.idsL (· < np) cap) (hw : WF hp np) (hl : l.length ≤ 2 ^ 40) (hg : ∀ x, x ∈ l → HC Try.prog g (x.av :: cap) hp np (.bool (b x))) : HC Try.prog 70 [.sl (dvl l), .fn (.func g) [] cap] hp np (.i (fidx b l 0)) := by
 have hwl : ∀ id ob, hp id = some ob → id < 1000000 ∧ ob.ids (· < 1000000) := fun id ob h => by
  have := hw.1 id ob h; have := hw.2.2
  exact ⟨by omega, objids_mono _ (fun i hi => by omega) (hw.1 id ob h).2⟩
 have hcap2 : AV.idsL (· < 1000000) cap := idsL_imp (fun i hi => by have := hw.2.2; omega) hcap
 have hnp2 : np ≤ 1000000 := by have := hw.2.2; omega
 refine HC.intro hw rfl Try.func70 rfl isf70 (by simp [Try.f70]) fun E Q hE hN hQ => K_start ?_
 repeat' (first | apply nx | refine Kq_exit_ne (by decide) ?_ | rw [wrap64 (by omega) (by omega)] | ((first | refine hK _ ?_ | refine hKp _ _ ?_); clear hK hKp K Kp; try clear hanc anc) | ((with_reducible refine And.intro ?_ ?_); (focus (first | trivial | omega | (simp only [Fits]; omega) | assumption | (rw [hanc]; rfl)))) | ((first | refine K_regA hE fun K Kp hK hKp => ?_ | refine K_drwA true mixed hE fun K Kp hK hKp anc hanc => ?_ | refine K_drwA false mixed hE fun K Kp hK hKp anc hanc => ?_); simp only [go_sem]) | ((first | refine onG_split_t (fun hg => ?_) (fun hg => ?_) | refine onG_split_f (fun hg => ?_) (fun hg => ?_)) <;> simp only [go_sem, hg]) | (refine K_condA (fun hc => ?_) (fun hc => ?_) <;> try (exact absurd hc (by decide))))
 refine K_loop (X := Nat) (fun i => i ≤ l.length ∧ fidx b l 0 = fidx b (l.drop i) i) (fun i => ⟨mkFr [(0, .sl (dvl l)), (1, .fn (.func g) [] cap), (7, AV.i l.length), (8, AV.i i)], hp, 1000000⟩) (fun i => l.length - i) 0 ⟨Nat.zero_le _, rfl⟩ (fun i => i) (ent_keep (by simp [go_sem, AV.ids, hcap2]) (fun id ob h => ⟨h, hwl id ob h⟩) (by omega)) ?_
 rintro i ⟨hi, ht⟩
 by_cases hlt : i < l.length
 ·obtain ⟨x, hx⟩ := get?_of hlt
  rw [drop_of hx, fidx] at ht
  have hgx := hg x (List.mem_of_getElem? hx)
  rw [Dv.av_eq] at hgx
  repeat' (first | apply nx | refine Kq_exit_ne (by decide) ?_ | rw [wrap64 (by omega) (by omega)] | ((first | refine hK _ ?_ | refine hKp _ _ ?_); clear hK hKp K Kp; try clear hanc anc) | ((with_reducible refine And.intro ?_ ?_); (focus (first | trivial | omega | (simp only [Fits]; omega) | assumption | (rw [hanc]; rfl)))) | ((first | refine K_regA hE fun K Kp hK hKp => ?_ | refine K_drwA true mixed hE fun K Kp hK hKp anc hanc => ?_ | refine K_drwA false mixed hE fun K Kp hK hKp anc hanc => ?_); simp only [go_sem, lt_dec hlt, hx, Dv.av_eq]) | ((first | refine onG_split_t (fun hg => ?_) (fun hg => ?_) | refine onG_split_f (fun hg => ?_) (fun hg => ?_)) <;> simp only [go_sem, lt_dec hlt, hx, Dv.av_eq, hg]) | (refine K_condA (fun hc => ?_) (fun hc => ?_) <;> try (exact absurd hc (by decide))))
  refine Hold.mk (HC.use hgx (fun i => i) (by rw [renL_id]) (by refine ⟨?_, hcap⟩; simp [go_sem, AV.ids, AV.idsL]) (fun id ob h => by rw [oren_id]; exact h) (fun _ _ _ _ e => e) ?_)
  rintro hpn hold
  simp only [go_sem]
  refine hK _ ?_; clear hK hKp K Kp; try clear hanc anc
  repeat (first | refine Kq_norm_code ?_ | refine Kq_norm_blk ?_ | refine Kq_norm_lp ?_)
  refine AW.ent (fun i => i) (σ' := ⟨mkFr [(0, .sl (dvl l)), (1, .fn (.func g) [] cap), (5, AV.i i), (7, AV.i l.length), (8, AV.i i), (16, .bool (b x))], hp, 1000000⟩) (ent_keep (by simp [go_sem, AV.ids, hcap2]) (fun id ob h => ⟨hold id ob h, hwl id ob h⟩) (by omega)) ?_
  cases hbx : b x
  ·rw [hbx] at ht
   repeat' (first | apply nx | refine Kq_exit_ne (by decide) ?_ | rw [wrap64 (by omega) (by omega)] | ((first | refine hK _ ?_ | refine hKp _ _ ?_); clear hK hKp K Kp; try clear hanc anc) | ((with_reducible refine And.intro ?_ ?_); (focus (first | trivial | omega | (simp only [Fits]; omega) | assumption | (rw [hanc]; rfl)))) | ((first | refine K_regA hE fun K Kp hK hKp => ?_ | refine K_drwA true mixed hE fun K Kp hK hKp anc hanc => ?_ | refine K_drwA false mixed hE fun K Kp hK hKp anc hanc => ?_); simp only [go_sem]) | ((first | refine onG_split_t (fun hg => ?_) (fun hg => ?_) | refine onG_split_f (fun hg => ?_) (fun hg => ?_)) <;> simp only [go_sem, hg]) | (refine K_condA (fun hc => ?_) (fun hc => ?_) <;> try (exact absurd hc (by decide))))
   exact ⟨i + 1, ⟨by omega, by simpa using ht⟩, by omega, fun i => i, ent_keep (by simp [go_sem, AV.ids, hcap2]) (fun id ob h => ⟨h, hwl id ob h⟩) (by omega)⟩
  ·rw [hbx, if_pos rfl] at ht
   rw [ht] at hQ
   repeat' (first | apply nx | refine Kq_exit_ne (by decide) ?_ | rw [wrap64 (by omega) (by omega)] | ((first | refine hK _ ?_ | refine hKp _ _ ?_); clear hK hKp K Kp; try clear hanc anc) | ((with_reducible refine And.intro ?_ ?_); (focus (first | trivial | omega | (simp only [Fits]; omega) | assumption | (rw [hanc]; rfl)))) | ((first | refine K_regA hE fun K Kp hK hKp => ?_ | refine K_drwA true mixed hE fun K Kp hK hKp anc hanc => ?_ | refine K_drwA false mixed hE fun K Kp hK hKp anc hanc => ?_); simp only [go_sem]) | ((first | refine onG_split_t (fun hg => ?_) (fun hg => ?_) | refine onG_split_f (fun hg => ?_) (fun hg => ?_)) <;> simp only [go_sem, hg]) | (refine K_condA (fun hc => ?_) (fun hc => ?_) <;> try (exact absurd hc (by decide))))
   exact K_ret (hQ _ (by simp only [go_sem]; rfl) (fun id ob h => h)).1
 ·obtain rfl : i = l.length := by omega
  rw [List.drop_length, fidx] at ht
  rw [ht] at hQ
  repeat' (first | apply nx | refine Kq_exit_ne (by decide) ?_ | rw [wrap64 (by omega) (by omega)] | ((first | refine hK _ ?_ | refine hKp _ _ ?_); clear hK hKp K Kp; try clear hanc anc) | ((with_reducible refine And.intro ?_ ?_); (focus (first | trivial | omega | (simp only [Fits]; omega) | assumption | (rw [hanc]; rfl)))) | ((first | refine K_regA hE fun K Kp hK hKp => ?_ | refine K_drwA true mixed hE fun K Kp hK hKp anc hanc => ?_ | refine K_drwA false mixed hE fun K Kp hK hKp anc hanc => ?_); simp only [go_sem, ge_dec]) | ((first | refine onG_split_t (fun hg => ?_) (fun hg => ?_) | refine onG_split_f (fun hg => ?_) (fun hg => ?_)) <;> simp only [go_sem, ge_dec, hg]) | (refine K_condA (fun hc => ?_) (fun hc => ?_) <;> try (exact absurd hc (by decide))))
  exact K_ret (hQ _ (by simp only [go_sem]; rfl) (fun id ob h => h)).1
theorem con61_hc (l : List Dv) (g : Nat) (cap : List AV) (hp : Nat → Option AObj) (np : Nat) (b : Dv → Bool) (hcap : AV.idsL (· < np) cap) (hw : WF hp np) (hl : l.length ≤ 2 ^ 40) (hg : ∀ x, x ∈ l → HC Try.prog g (x.av :: cap) hp np (.bool (b x))) : HC Try.prog 61 [.sl (dvl l), .fn (.func g) [] cap] hp np (.bool (l.any b)) := by
 have hx := idx70_hc l g cap hp np b hcap hw hl hg
 refine HC.intro hw rfl Try.func61 rfl isf61 (by simp [Try.f61]) fun E Q hE hN hQ => K_start ?_
 repeat' (first | apply nx | refine Kq_exit_ne (by decide) ?_ | rw [wrap64 (by omega) (by omega)] | ((first | refine hK _ ?_ | refine hKp _ _ ?_); clear hK hKp K Kp; try clear hanc anc) | ((with_reducible refine And.intro ?_ ?_); (focus (first | trivial | omega | (simp only [Fits]; omega) | assumption | (rw [hanc]; rfl)))) | ((first | refine K_regA hE fun K Kp hK hKp => ?_ | refine K_drwA true mixed hE fun K Kp hK hKp anc hanc => ?_ | refine K_drwA false mixed hE fun K Kp hK hKp anc hanc => ?_); simp only [go_sem]) | ((first | refine onG_split_t (fun hg => ?_) (fun hg => ?_) | refine onG_split_f (fun hg => ?_) (fun hg => ?_)) <;> simp only [go_sem, hg]) | (refine K_condA (fun hc => ?_) (fun hc => ?_) <;> try (exact absurd hc (by decide))))
 refine Hold.mk (HC.use hx (fun i => i) (by rw [renL_id]) (by simp [go_sem, AV.idsL, AV.ids, hcap]) (fun id ob h => by rw [oren_id]; exact h) (fun _ _ _ _ e => e) ?_)
 rintro hpn hold
 have q : decide (fidx b l 0 ≥ 0) = l.any b := fidx_ge b l 0
 simp only [go_sem, q]
 refine hK _ ?_; clear hK hKp K Kp; try clear hanc anc
 repeat (first | refine Kq_norm_code ?_ | refine Kq_norm_blk ?_ | refine Kq_norm_lp ?_)
 repeat' (first | apply nx | refine Kq_exit_ne (by decide) ?_ | rw [wrap64 (by omega) (by omega)] | ((first | refine hK _ ?_ | refine hKp _ _ ?_); clear hK hKp K Kp; try clear hanc anc) | ((with_reducible refine And.intro ?_ ?_); (focus (first | trivial | omega | (simp only [Fits]; omega) | assumption | (rw [hanc]; rfl)))) | ((first | refine K_regA hE fun K Kp hK hKp => ?_ | refine K_drwA true mixed hE fun K Kp hK hKp anc hanc => ?_ | refine K_drwA false mixed hE fun K Kp hK hKp anc hanc => ?_); simp only [go_sem, q]) | ((first | refine onG_split_t (fun hg => ?_) (fun hg => ?_) | refine onG_split_f (fun hg => ?_) (fun hg => ?_)) <;> simp only [go_sem, q, hg]) | (refine K_condA (fun hc => ?_) (fun hc => ?_) <;> try (exact absurd hc (by decide))))
 exact K_ret (hQ _ (by simp only [go_sem]; rfl) hold).1
theorem idx72_hc (l : List Vl) (g : Nat) (cap : List AV) (hp : Nat → Option AObj) (np : Nat) (b : Vl → Bool) (hcap : AV.idsL (· < np) cap) (hw : WF hp np) (hl : l.length ≤ 2 ^ 40) (hg : ∀ x, x ∈ l → HC Try.prog g (x.av :: cap) hp np (.bool (b x))) : HC Try.prog 72 [.sl (Vl.avL l), .fn (.func g) [] cap] hp np (.i (fidx b l 0)) := by
 have hwl : ∀ id ob, hp id = some ob → id < 1000000 ∧ ob.ids (· < 1000000) := fun id ob h => by
  have := hw.1 id ob h; have := hw.2.2
  exact ⟨by omega, objids_mono _ (fun i hi => by omega) (hw.1 id ob h).2⟩
 have hcap2 : AV.idsL (· < 1000000) cap := idsL_imp (fun i hi => by have := hw.2.2; omega) hcap
 have hnp2 : np ≤ 1000000 := by have := hw.2.2; omega
 refine HC.intro hw rfl Try.func72 rfl isf72 (by simp [Try.f72]) fun E Q hE hN hQ => K_start ?_
 repeat' (first | apply nx | refine Kq_exit_ne (by decide) ?_ | rw [wrap64 (by omega) (by omega)] | ((first | refine hK _ ?_ | refine hKp _ _ ?_); clear hK hKp K Kp; try clear hanc anc) | ((with_reducible refine And.intro ?_ ?_); (focus (first | trivial | omega | (simp only [Fits]; omega) | assumption | (rw [hanc]; rfl)))) | ((first | refine K_regA hE fun K Kp hK hKp => ?_ | refine K_drwA true mixed hE fun K Kp hK hKp anc hanc => ?_ | refine K_drwA false mixed hE fun K Kp hK hKp anc hanc => ?_); simp only [go_sem]) | ((first | refine onG_split_t (fun hg => ?_) (fun hg => ?_) | refine onG_split_f (fun hg => ?_) (fun hg => ?_)) <;> simp only [go_sem, hg]) | (refine K_condA (fun hc => ?_) (fun hc => ?_) <;> try (exact absurd hc (by decide))))
 refine K_loop (X := Nat) (fun i => i ≤ l.length ∧ fidx b l 0 = fidx b (l.drop i) i) (fun i => ⟨mkFr [(0, .sl (Vl.avL l)), (1, .fn (.func g) [] cap), (7, AV.i l.length), (8, AV.i i)], hp, 1000000⟩) (fun i => l.length - i) 0 ⟨Nat.zero_le _, rfl⟩ (fun i => i) (ent_keep (by simp [go_sem, AV.ids, hcap2]) (fun id ob h => ⟨h, hwl id ob h⟩) (by omega)) ?_
 rintro i ⟨hi, ht⟩
 by_cases hlt : i < l.length
 ·obtain ⟨x, hx⟩ := get?_of hlt
  rw [drop_of hx, fidx] at ht
  have hgx := hg x (List.mem_of_getElem? hx)
  rw [Vl.av_eq] at hgx
  repeat' (first | apply nx | refine Kq_exit_ne (by decide) ?_ | rw [wrap64 (by omega) (by omega)] | ((first | refine hK _ ?_ | refine hKp _ _ ?_); clear hK hKp K Kp; try clear hanc anc) | ((with_reducible refine And.intro ?_ ?_); (focus (first | trivial | omega | (simp only [Fits]; omega) | assumption | (rw [hanc]; rfl)))) | ((first | refine K_regA hE fun K Kp hK hKp => ?_ | refine K_drwA true mixed hE fun K Kp hK hKp anc hanc => ?_ | refine K_drwA false mixed hE fun K Kp hK hKp anc hanc => ?_); simp only [go_sem, lt_dec hlt, hx, Vl.av_eq]) | ((first | refine onG_split_t (fun hg => ?_) (fun hg => ?_) | refine onG_split_f (fun hg => ?_) (fun hg => ?_)) <;> simp only [go_sem, lt_dec hlt, hx, Vl.av_eq, hg]) | (refine K_condA (fun hc => ?_) (fun hc => ?_) <;> try (exact absurd hc (by decide))))
  refine Hold.mk (HC.use hgx (fun i => i) (by rw [renL_id]) (by refine ⟨?_, hcap⟩; simp [go_sem, AV.ids, AV.idsL]) (fun id ob h => by rw [oren_id]; exact h) (fun _ _ _ _ e => e) ?_)
  rintro hpn hold
  simp only [go_sem]
  refine hK _ ?_; clear hK hKp K Kp; try clear hanc anc
  repeat (first | refine Kq_norm_code ?_ | refine Kq_norm_blk ?_ | refine Kq_norm_lp ?_)
  refine AW.ent (fun i => i) (σ' := ⟨mkFr [(0, .sl (Vl.avL l)), (1, .fn (.func g) [] cap), (5, AV.i i), (7, AV.i l.length), (8, AV.i i), (16, .bool (b x))], hp, 1000000⟩) (ent_keep (by simp [go_sem, AV.ids, hcap2]) (fun id ob h => ⟨hold id ob h, hwl id ob h⟩) (by omega)) ?_
  cases hbx : b x
  ·rw [hbx] at ht
   repeat' (first | apply nx | refine Kq_exit_ne (by decide) ?_ | rw [wrap64 (by omega) (by omega)] | ((first | refine hK _ ?_ | refine hKp _ _ ?_); clear hK hKp K Kp; try clear hanc anc) | ((with_reducible refine And.intro ?_ ?_); (focus (first | trivial | omega | (simp only [Fits]; omega) | assumption | (rw [hanc]; rfl)))) | ((first | refine K_regA hE fun K Kp hK hKp => ?_ | refine K_drwA true mixed hE fun K Kp hK hKp anc hanc => ?_ | refine K_drwA false mixed hE fun K Kp hK hKp anc hanc => ?_); simp only [go_sem]) | ((first | refine onG_split_t (fun hg => ?_) (fun hg => ?_) | refine onG_split_f (fun hg => ?_) (fun hg => ?_)) <;> simp only [go_sem, hg]) | (refine K_condA (fun hc => ?_) (fun hc => ?_) <;> try (exact absurd hc (by decide))))
   exact ⟨i + 1, ⟨by omega, by simpa using ht⟩, by omega, fun i => i, ent_keep (by simp [go_sem, AV.ids, hcap2]) (fun id ob h => ⟨h, hwl id ob h⟩) (by omega)⟩
  ·rw [hbx, if_pos rfl] at ht
   rw [ht] at hQ
   repeat' (first | apply nx | refine Kq_exit_ne (by decide) ?_ | rw [wrap64 (by omega) (by omega)] | ((first | refine hK _ ?_ | refine hKp _ _ ?_); clear hK hKp K Kp; try clear hanc anc) | ((with_reducible refine And.intro ?_ ?_); (focus (first | trivial | omega | (simp only [Fits]; omega) | assumption | (rw [hanc]; rfl)))) | ((first | refine K_regA hE fun K Kp hK hKp => ?_ | refine K_drwA true mixed hE fun K Kp hK hKp anc hanc => ?_ | refine K_drwA false mixed hE fun K Kp hK hKp anc hanc => ?_); simp only [go_sem]) | ((first | refine onG_split_t (fun hg => ?_) (fun hg => ?_) | refine onG_split_f (fun hg => ?_) (fun hg => ?_)) <;> simp only [go_sem, hg]) | (refine K_condA (fun hc => ?_) (fun hc => ?_) <;> try (exact absurd hc (by decide))))
   exact K_ret (hQ _ (by simp only [go_sem]; rfl) (fun id ob h => h)).1
 ·obtain rfl : i = l.length := by omega
  rw [List.drop_length, fidx] at ht
  rw [ht] at hQ
  repeat' (first | apply nx | refine Kq_exit_ne (by decide) ?_ | rw [wrap64 (by omega) (by omega)] | ((first | refine hK _ ?_ | refine hKp _ _ ?_); clear hK hKp K Kp; try clear hanc anc) | ((with_reducible refine And.intro ?_ ?_); (focus (first | trivial | omega | (simp only [Fits]; omega) | assumption | (rw [hanc]; rfl)))) | ((first | refine K_regA hE fun K Kp hK hKp => ?_ | refine K_drwA true mixed hE fun K Kp hK hKp anc hanc => ?_ | refine K_drwA false mixed hE fun K Kp hK hKp anc hanc => ?_); simp only [go_sem, ge_dec]) | ((first | refine onG_split_t (fun hg => ?_) (fun hg => ?_) | refine onG_split_f (fun hg => ?_) (fun hg => ?_)) <;> simp only [go_sem, ge_dec, hg]) | (refine K_condA (fun hc => ?_) (fun hc => ?_) <;> try (exact absurd hc (by decide))))
  exact K_ret (hQ _ (by simp only [go_sem]; rfl) (fun id ob h => h)).1
theorem con66_hc (l : List Vl) (g : Nat) (cap : List AV) (hp : Nat → Option AObj) (np : Nat) (b : Vl → Bool) (hcap : AV.idsL (· < np) cap) (hw : WF hp np) (hl : l.length ≤ 2 ^ 40) (hg : ∀ x, x ∈ l → HC Try.prog g (x.av :: cap) hp np (.bool (b x))) : HC Try.prog 66 [.sl (Vl.avL l), .fn (.func g) [] cap] hp np (.bool (l.any b)) := by
 have hx := idx72_hc l g cap hp np b hcap hw hl hg
 refine HC.intro hw rfl Try.func66 rfl isf66 (by simp [Try.f66]) fun E Q hE hN hQ => K_start ?_
 repeat' (first | apply nx | refine Kq_exit_ne (by decide) ?_ | rw [wrap64 (by omega) (by omega)] | ((first | refine hK _ ?_ | refine hKp _ _ ?_); clear hK hKp K Kp; try clear hanc anc) | ((with_reducible refine And.intro ?_ ?_); (focus (first | trivial | omega | (simp only [Fits]; omega) | assumption | (rw [hanc]; rfl)))) | ((first | refine K_regA hE fun K Kp hK hKp => ?_ | refine K_drwA true mixed hE fun K Kp hK hKp anc hanc => ?_ | refine K_drwA false mixed hE fun K Kp hK hKp anc hanc => ?_); simp only [go_sem]) | ((first | refine onG_split_t (fun hg => ?_) (fun hg => ?_) | refine onG_split_f (fun hg => ?_) (fun hg => ?_)) <;> simp only [go_sem, hg]) | (refine K_condA (fun hc => ?_) (fun hc => ?_) <;> try (exact absurd hc (by decide))))
 refine Hold.mk (HC.use hx (fun i => i) (by rw [renL_id]) (by simp [go_sem, AV.idsL, AV.ids, hcap]) (fun id ob h => by rw [oren_id]; exact h) (fun _ _ _ _ e => e) ?_)
 rintro hpn hold
 have q : decide (fidx b l 0 ≥ 0) = l.any b := fidx_ge b l 0
 simp only [go_sem, q]
 refine hK _ ?_; clear hK hKp K Kp; try clear hanc anc
 repeat (first | refine Kq_norm_code ?_ | refine Kq_norm_blk ?_ | refine Kq_norm_lp ?_)
 repeat' (first | apply nx | refine Kq_exit_ne (by decide) ?_ | rw [wrap64 (by omega) (by omega)] | ((first | refine hK _ ?_ | refine hKp _ _ ?_); clear hK hKp K Kp; try clear hanc anc) | ((with_reducible refine And.intro ?_ ?_); (focus (first | trivial | omega | (simp only [Fits]; omega) | assumption | (rw [hanc]; rfl)))) | ((first | refine K_regA hE fun K Kp hK hKp => ?_ | refine K_drwA true mixed hE fun K Kp hK hKp anc hanc => ?_ | refine K_drwA false mixed hE fun K Kp hK hKp anc hanc => ?_); simp only [go_sem, q]) | ((first | refine onG_split_t (fun hg => ?_) (fun hg => ?_) | refine onG_split_f (fun hg => ?_) (fun hg => ?_)) <;> simp only [go_sem, q, hg]) | (refine K_condA (fun hc => ?_) (fun hc => ?_) <;> try (exact absurd hc (by decide))))
 exact K_ret (hQ _ (by simp only [go_sem]; rfl) hold).1
end Go.Proofs.Ytlhhahocjfgmdaa

set_option linter.unusedSimpArgs false
set_option linter.unusedVariables false
set_option maxHeartbeats 4000000
set_option maxRecDepth 100000
namespace Go.Proofs.Ytlhhahocjfgmdaa
open Go.Am Go.Proofs Go.Hv Go.Mv
open Classical
attribute [local irreducible] AW CallP CallB
def mN (np : Nat) (i : Nat) : Nat := if i = np then 1000000 else i
theorem mN_at (np : Nat) : mN np np = 1000000 := if_pos rfl
theorem mN_ne {np i : Nat} (h : i ≠ np) : mN np i = i := if_neg h
theorem mN_cap {np : Nat} {cap : List AV} (h : AV.idsL (· < np) cap) : AV.renL (mN np) cap = cap := by
 rw [renL_cong (m' := fun i => i) (fun i hi => mN_ne (by omega)) h, renL_id]
theorem mN_obj {np : Nat} {ob : AObj} (h : ob.ids (· < np)) : ob.ren (mN np) = ob := by
 rw [oren_congr (m' := fun i => i) (fun i hi => mN_ne (by omega)) h, oren_id]
theorem mN_inj {np id id' : Nat} (hn : np < 900000) (h1 : id < np + 1) (h2 : id' < np + 1) (h : mN np id = mN np id') : id = id' := by
 unfold mN at h
 split at h <;> split at h <;> omega
theorem clo58_hc (x : Ty) (g : Nat) (cap : List AV) (hp : Nat → Option AObj) (np : Nat) (b : Bool) (hcap : AV.idsL (· < np) cap) (hw : WF hp np) (hnp : np < 899000) (hg : HC Try.prog g (x.av :: cap) hp np (.bool b)) :
    HC Try.prog 58 [x.av, .ptr np 0] (updo hp np (some (.cells [.fn (.func g) [] cap]))) (np + 1) (.bool (!b)) := by
  have hne : (np = 1000000) = False := eq_false (by omega)
  rw [Ty.av_eq] at hg ⊢
  refine HC.intro (hw.put (by omega) (by simp [AObj.ids, AV.ids, AV.idsL]; exact idsL_imp (fun i hi => by omega) hcap)) rfl Try.func58 rfl isf58 (by simp [Try.f58]) fun E Q hE hN hQ => K_start ?_
  repeat' (first | apply nx | refine Kq_exit_ne (by decide) ?_ | rw [wrap64 (by omega) (by omega)] | ((first | refine hK _ ?_ | refine hKp _ _ ?_); clear hK hKp K Kp; try clear hanc anc) | ((with_reducible refine And.intro ?_ ?_); (focus (first | trivial | omega | (simp only [Fits]; omega) | assumption | (rw [hanc]; rfl)))) | ((first | refine K_regA hE fun K Kp hK hKp => ?_ | refine K_drwA true mixed hE fun K Kp hK hKp anc hanc => ?_ | refine K_drwA false mixed hE fun K Kp hK hKp anc hanc => ?_); simp only [go_sem, hne]) | ((first | refine onG_split_t (fun hg => ?_) (fun hg => ?_) | refine onG_split_f (fun hg => ?_) (fun hg => ?_)) <;> simp only [go_sem, hne, hg]) | (refine K_condA (fun hc => ?_) (fun hc => ?_) <;> try (exact absurd hc (by decide))))
  refine Hold.mk (HC.use hg (fun i => i) (by rw [renL_id]) (by simp [go_sem, AV.idsL, AV.ids, hcap]) (fun id ob h => ?_) (fun _ _ _ _ e => e) ?_)
  · rw [oren_id]
    have := hw.lt h
    simp only [updo]
    rw [if_neg (by omega), if_neg (by omega)]
    exact h
  rintro hpn hold
  simp only [go_sem]
  refine hK _ ?_; clear hK hKp K Kp; try clear hanc anc
  repeat (first | refine Kq_norm_code ?_ | refine Kq_norm_blk ?_ | refine Kq_norm_lp ?_)
  repeat' (first | apply nx | refine Kq_exit_ne (by decide) ?_ | rw [wrap64 (by omega) (by omega)] | ((first | refine hK _ ?_ | refine hKp _ _ ?_); clear hK hKp K Kp; try clear hanc anc) | ((with_reducible refine And.intro ?_ ?_); (focus (first | trivial | omega | (simp only [Fits]; omega) | assumption | (rw [hanc]; rfl)))) | ((first | refine K_regA hE fun K Kp hK hKp => ?_ | refine K_drwA true mixed hE fun K Kp hK hKp anc hanc => ?_ | refine K_drwA false mixed hE fun K Kp hK hKp anc hanc => ?_); simp only [go_sem]) | ((first | refine onG_split_t (fun hg => ?_) (fun hg => ?_) | refine onG_split_f (fun hg => ?_) (fun hg => ?_)) <;> simp only [go_sem, hg]) | (refine K_condA (fun hc => ?_) (fun hc => ?_) <;> try (exact absurd hc (by decide))))
  refine K_ret (hQ _ (by simp only [go_sem]; rfl) (fun id ob h => hold id ob ?_)).1
  simp only [updo]
  rw [if_neg ?_]
  · exact h
  · rintro rfl
    simp only [updo] at h
    rw [if_neg (by omega)] at h
    have := hw.lt h
    omega
theorem all42_hc (l : List Ty) (g : Nat) (cap : List AV) (hp : Nat → Option AObj) (np : Nat) (b : Ty → Bool) (hcap : AV.idsL (· < np) cap) (hw : WF hp np) (hnp : np < 899000) (hl : l.length ≤ 2 ^ 40) (hg : ∀ x, x ∈ l → HC Try.prog g (x.av :: cap) hp np (.bool (b x))) : HC Try.prog 42 [.sl (Ty.avL l), .fn (.func g) [] cap] hp np (.bool (l.all b)) := by
 have hw2 := hw.put (o := .cells [.fn (.func g) [] cap]) (by omega) (by simp [AObj.ids, AV.ids, AV.idsL]; exact idsL_imp (fun i hi => by omega) hcap)
 have hx := con57_hc l 58 [.ptr np 0] _ (np + 1) (fun x => !b x) (by simp [AV.idsL, AV.ids]) hw2 hl (fun x hx => clo58_hc x g cap hp np (b x) hcap hw hnp (hg x hx))
 have e := any_not b l
 refine HC.intro hw rfl Try.func42 rfl isf42 (by simp [Try.f42]) fun E Q hE hN hQ => K_start ?_
 repeat' (first | apply nx | refine Kq_exit_ne (by decide) ?_ | rw [wrap64 (by omega) (by omega)] | ((first | refine hK _ ?_ | refine hKp _ _ ?_); clear hK hKp K Kp; try clear hanc anc) | ((with_reducible refine And.intro ?_ ?_); (focus (first | trivial | omega | (simp only [Fits]; omega) | assumption | (rw [hanc]; rfl)))) | ((first | refine K_regA hE fun K Kp hK hKp => ?_ | refine K_drwA true mixed hE fun K Kp hK hKp anc hanc => ?_ | refine K_drwA false mixed hE fun K Kp hK hKp anc hanc => ?_); simp only [go_sem]) | ((first | refine onG_split_t (fun hg => ?_) (fun hg => ?_) | refine onG_split_f (fun hg => ?_) (fun hg => ?_)) <;> simp only [go_sem, hg]) | (refine K_condA (fun hc => ?_) (fun hc => ?_) <;> try (exact absurd hc (by decide))))
 refine Hold.mk (HC.use hx (mN np) (by simp [AV.renL, AV.ren, mN_at, go_sem]) (by simp [go_sem, AV.idsL, AV.ids]) (fun id ob h => ?_) (fun id id' h1 h2 e => mN_inj (by omega) h1 h2 e) ?_)
 ·simp only [updo] at h
  split at h
  ·rename_i e
   cases h
   rw [e, mN_at]
   simp only [updo, if_true, AObj.ren, AV.renL, AV.ren, mN_cap hcap]
  ·rename_i e
   have := hw.lt h
   rw [mN_ne e, mN_obj (hw.1 id ob h).2]
   simp only [updo]
   rw [if_neg (by omega)]
   exact h
 rintro hpn hold
 simp only [go_sem, e]
 refine hK _ ?_; clear hK hKp K Kp; try clear hanc anc
 repeat (first | refine Kq_norm_code ?_ | refine Kq_norm_blk ?_ | refine Kq_norm_lp ?_)
 repeat' (first | apply nx | refine Kq_exit_ne (by decide) ?_ | rw [wrap64 (by omega) (by omega)] | ((first | refine hK _ ?_ | refine hKp _ _ ?_); clear hK hKp K Kp; try clear hanc anc) | ((with_reducible refine And.intro ?_ ?_); (focus (first | trivial | omega | (simp only [Fits]; omega) | assumption | (rw [hanc]; rfl)))) | ((first | refine K_regA hE fun K Kp hK hKp => ?_ | refine K_drwA true mixed hE fun K Kp hK hKp anc hanc => ?_ | refine K_drwA false mixed hE fun K Kp hK hKp anc hanc => ?_); simp only [go_sem]) | ((first | refine onG_split_t (fun hg => ?_) (fun hg => ?_) | refine onG_split_f (fun hg => ?_) (fun hg => ?_)) <;> simp only [go_sem, hg]) | (refine K_condA (fun hc => ?_) (fun hc => ?_) <;> try (exact absurd hc (by decide))))
 refine K_ret (hQ _ (by simp only [go_sem, e]; rfl) (fun id ob h => hold id ob ?_)).1
 have := hw.lt h
 simp only [updo]
 rw [if_neg (by omega)]
 exact h
theorem clo60_hc (x : Dd) (g : Nat) (cap : List AV) (hp : Nat → Option AObj) (np : Nat) (b : Bool) (hcap : AV.idsL (· < np) cap) (hw : WF hp np) (hnp : np < 899000) (hg : HC Try.prog g (x.av :: cap) hp np (.bool b)) :
    HC Try.prog 60 [x.av, .ptr np 0] (updo hp np (some (.cells [.fn (.func g) [] cap]))) (np + 1) (.bool (!b)) := by
  have hne : (np = 1000000) = False := eq_false (by omega)
  rw [Dd.av_eq] at hg ⊢
  refine HC.intro (hw.put (by omega) (by simp [AObj.ids, AV.ids, AV.idsL]; exact idsL_imp (fun i hi => by omega) hcap)) rfl Try.func60 rfl isf60 (by simp [Try.f60]) fun E Q hE hN hQ => K_start ?_
  repeat' (first | apply nx | refine Kq_exit_ne (by decide) ?_ | rw [wrap64 (by omega) (by omega)] | ((first | refine hK _ ?_ | refine hKp _ _ ?_); clear hK hKp K Kp; try clear hanc anc) | ((with_reducible refine And.intro ?_ ?_); (focus (first | trivial | omega | (simp only [Fits]; omega) | assumption | (rw [hanc]; rfl)))) | ((first | refine K_regA hE fun K Kp hK hKp => ?_ | refine K_drwA true mixed hE fun K Kp hK hKp anc hanc => ?_ | refine K_drwA false mixed hE fun K Kp hK hKp anc hanc => ?_); simp only [go_sem, hne]) | ((first | refine onG_split_t (fun hg => ?_) (fun hg => ?_) | refine onG_split_f (fun hg => ?_) (fun hg => ?_)) <;> simp only [go_sem, hne, hg]) | (refine K_condA (fun hc => ?_) (fun hc => ?_) <;> try (exact absurd hc (by decide))))
  refine Hold.mk (HC.use hg (fun i => i) (by rw [renL_id]) (by simp [go_sem, AV.idsL, AV.ids, hcap]) (fun id ob h => ?_) (fun _ _ _ _ e => e) ?_)
  · rw [oren_id]
    have := hw.lt h
    simp only [updo]
    rw [if_neg (by omega), if_neg (by omega)]
    exact h
  rintro hpn hold
  simp only [go_sem]
  refine hK _ ?_; clear hK hKp K Kp; try clear hanc anc
  repeat (first | refine Kq_norm_code ?_ | refine Kq_norm_blk ?_ | refine Kq_norm_lp ?_)
  repeat' (first | apply nx | refine Kq_exit_ne (by decide) ?_ | rw [wrap64 (by omega) (by omega)] | ((first | refine hK _ ?_ | refine hKp _ _ ?_); clear hK hKp K Kp; try clear hanc anc) | ((with_reducible refine And.intro ?_ ?_); (focus (first | trivial | omega | (simp only [Fits]; omega) | assumption | (rw [hanc]; rfl)))) | ((first | refine K_regA hE fun K Kp hK hKp => ?_ | refine K_drwA true mixed hE fun K Kp hK hKp anc hanc => ?_ | refine K_drwA false mixed hE fun K Kp hK hKp anc hanc => ?_); simp only [go_sem]) | ((first | refine onG_split_t (fun hg => ?_) (fun hg => ?_) | refine onG_split_f (fun hg => ?_) (fun hg => ?_)) <;> simp only [go_sem, hg]) | (refine K_condA (fun hc => ?_) (fun hc => ?_) <;> try (exact absurd hc (by decide))))
  refine K_ret (hQ _ (by simp only [go_sem]; rfl) (fun id ob h => hold id ob ?_)).1
  simp only [updo]
  rw [if_neg ?_]
  · exact h
  · rintro rfl
    simp only [updo] at h
    rw [if_neg (by omega)] at h
    have := hw.lt h
    omega
theorem all43_hc (l : List Dd) (g : Nat) (cap : List AV) (hp : Nat → Option AObj) (np : Nat) (b : Dd → Bool) (hcap : AV.idsL (· < np) cap) (hw : WF hp np) (hnp : np < 899000) (hl : l.length ≤ 2 ^ 40) (hg : ∀ x, x ∈ l → HC Try.prog g (x.av :: cap) hp np (.bool (b x))) : HC Try.prog 43 [.sl (ddl l), .fn (.func g) [] cap] hp np (.bool (l.all b)) := by
 have hw2 := hw.put (o := .cells [.fn (.func g) [] cap]) (by omega) (by simp [AObj.ids, AV.ids, AV.idsL]; exact idsL_imp (fun i hi => by omega) hcap)
 have hx := con59_hc l 60 [.ptr np 0] _ (np + 1) (fun x => !b x) (by simp [AV.idsL, AV.ids]) hw2 hl (fun x hx => clo60_hc x g cap hp np (b x) hcap hw hnp (hg x hx))
 have e := any_not b l
 refine HC.intro hw rfl Try.func43 rfl isf43 (by simp [Try.f43]) fun E Q hE hN hQ => K_start ?_
 repeat' (first | apply nx | refine Kq_exit_ne (by decide) ?_ | rw [wrap64 (by omega) (by omega)] | ((first | refine hK _ ?_ | refine hKp _ _ ?_); clear hK hKp K Kp; try clear hanc anc) | ((with_reducible refine And.intro ?_ ?_); (focus (first | trivial | omega | (simp only [Fits]; omega) | assumption | (rw [hanc]; rfl)))) | ((first | refine K_regA hE fun K Kp hK hKp => ?_ | refine K_drwA true mixed hE fun K Kp hK hKp anc hanc => ?_ | refine K_drwA false mixed hE fun K Kp hK hKp anc hanc => ?_); simp only [go_sem]) | ((first | refine onG_split_t (fun hg => ?_) (fun hg => ?_) | refine onG_split_f (fun hg => ?_) (fun hg => ?_)) <;> simp only [go_sem, hg]) | (refine K_condA (fun hc => ?_) (fun hc => ?_) <;> try (exact absurd hc (by decide))))
 refine Hold.mk (HC.use hx (mN np) (by simp [AV.renL, AV.ren, mN_at, go_sem]) (by simp [go_sem, AV.idsL, AV.ids]) (fun id ob h => ?_) (fun id id' h1 h2 e => mN_inj (by omega) h1 h2 e) ?_)
 ·simp only [updo] at h
  split at h
  ·rename_i e
   cases h
   rw [e, mN_at]
   simp only [updo, if_true, AObj.ren, AV.renL, AV.ren, mN_cap hcap]
  ·rename_i e
   have := hw.lt h
   rw [mN_ne e, mN_obj (hw.1 id ob h).2]
   simp only [updo]
   rw [if_neg (by omega)]
   exact h
 rintro hpn hold
 simp only [go_sem, e]
 refine hK _ ?_; clear hK hKp K Kp; try clear hanc anc
 repeat (first | refine Kq_norm_code ?_ | refine Kq_norm_blk ?_ | refine Kq_norm_lp ?_)
 repeat' (first | apply nx | refine Kq_exit_ne (by decide) ?_ | rw [wrap64 (by omega) (by omega)] | ((first | refine hK _ ?_ | refine hKp _ _ ?_); clear hK hKp K Kp; try clear hanc anc) | ((with_reducible refine And.intro ?_ ?_); (focus (first | trivial | omega | (simp only [Fits]; omega) | assumption | (rw [hanc]; rfl)))) | ((first | refine K_regA hE fun K Kp hK hKp => ?_ | refine K_drwA true mixed hE fun K Kp hK hKp anc hanc => ?_ | refine K_drwA false mixed hE fun K Kp hK hKp anc hanc => ?_); simp only [go_sem]) | ((first | refine onG_split_t (fun hg => ?_) (fun hg => ?_) | refine onG_split_f (fun hg => ?_) (fun hg => ?_)) <;> simp only [go_sem, hg]) | (refine K_condA (fun hc => ?_) (fun hc => ?_) <;> try (exact absurd hc (by decide))))
 refine K_ret (hQ _ (by simp only [go_sem, e]; rfl) (fun id ob h => hold id ob ?_)).1
 have := hw.lt h
 simp only [updo]
 rw [if_neg (by omega)]
 exact h
theorem clo62_hc (x : Dv) (g : Nat) (cap : List AV) (hp : Nat → Option AObj) (np : Nat) (b : Bool) (hcap : AV.idsL (· < np) cap) (hw : WF hp np) (hnp : np < 899000) (hg : HC Try.prog g (x.av :: cap) hp np (.bool b)) :
    HC Try.prog 62 [x.av, .ptr np 0] (updo hp np (some (.cells [.fn (.func g) [] cap]))) (np + 1) (.bool (!b)) := by
  have hne : (np = 1000000) = False := eq_false (by omega)
  rw [Dv.av_eq] at hg ⊢
  refine HC.intro (hw.put (by omega) (by simp [AObj.ids, AV.ids, AV.idsL]; exact idsL_imp (fun i hi => by omega) hcap)) rfl Try.func62 rfl isf62 (by simp [Try.f62]) fun E Q hE hN hQ => K_start ?_
  repeat' (first | apply nx | refine Kq_exit_ne (by decide) ?_ | rw [wrap64 (by omega) (by omega)] | ((first | refine hK _ ?_ | refine hKp _ _ ?_); clear hK hKp K Kp; try clear hanc anc) | ((with_reducible refine And.intro ?_ ?_); (focus (first | trivial | omega | (simp only [Fits]; omega) | assumption | (rw [hanc]; rfl)))) | ((first | refine K_regA hE fun K Kp hK hKp => ?_ | refine K_drwA true mixed hE fun K Kp hK hKp anc hanc => ?_ | refine K_drwA false mixed hE fun K Kp hK hKp anc hanc => ?_); simp only [go_sem, hne]) | ((first | refine onG_split_t (fun hg => ?_) (fun hg => ?_) | refine onG_split_f (fun hg => ?_) (fun hg => ?_)) <;> simp only [go_sem, hne, hg]) | (refine K_condA (fun hc => ?_) (fun hc => ?_) <;> try (exact absurd hc (by decide))))
  refine Hold.mk (HC.use hg (fun i => i) (by rw [renL_id]) (by simp [go_sem, AV.idsL, AV.ids, hcap]) (fun id ob h => ?_) (fun _ _ _ _ e => e) ?_)
  · rw [oren_id]
    have := hw.lt h
    simp only [updo]
    rw [if_neg (by omega), if_neg (by omega)]
    exact h
  rintro hpn hold
  simp only [go_sem]
  refine hK _ ?_; clear hK hKp K Kp; try clear hanc anc
  repeat (first | refine Kq_norm_code ?_ | refine Kq_norm_blk ?_ | refine Kq_norm_lp ?_)
  repeat' (first | apply nx | refine Kq_exit_ne (by decide) ?_ | rw [wrap64 (by omega) (by omega)] | ((first | refine hK _ ?_ | refine hKp _ _ ?_); clear hK hKp K Kp; try clear hanc anc) | ((with_reducible refine And.intro ?_ ?_); (focus (first | trivial | omega | (simp only [Fits]; omega) | assumption | (rw [hanc]; rfl)))) | ((first | refine K_regA hE fun K Kp hK hKp => ?_ | refine K_drwA true mixed hE fun K Kp hK hKp anc hanc => ?_ | refine K_drwA false mixed hE fun K Kp hK hKp anc hanc => ?_); simp only [go_sem]) | ((first | refine onG_split_t (fun hg => ?_) (fun hg => ?_) | refine onG_split_f (fun hg => ?_) (fun hg => ?_)) <;> simp only [go_sem, hg]) | (refine K_condA (fun hc => ?_) (fun hc => ?_) <;> try (exact absurd hc (by decide))))
  refine K_ret (hQ _ (by simp only [go_sem]; rfl) (fun id ob h => hold id ob ?_)).1
  simp only [updo]
  rw [if_neg ?_]
  · exact h
  · rintro rfl
    simp only [updo] at h
    rw [if_neg (by omega)] at h
    have := hw.lt h
    omega
theorem all45_hc (l : List Dv) (g : Nat) (cap : List AV) (hp : Nat → Option AObj) (np : Nat) (b : Dv → Bool) (hcap : AV.idsL (· < np) cap) (hw : WF hp np) (hnp : np < 899000) (hl : l.length ≤ 2 ^ 40) (hg : ∀ x, x ∈ l → HC Try.prog g (x.av :: cap) hp np (.bool (b x))) : HC Try.prog 45 [.sl (dvl l), .fn (.func g) [] cap] hp np (.bool (l.all b)) := by
 have hw2 := hw.put (o := .cells [.fn (.func g) [] cap]) (by omega) (by simp [AObj.ids, AV.ids, AV.idsL]; exact idsL_imp (fun i hi => by omega) hcap)
 have hx := con61_hc l 62 [.ptr np 0] _ (np + 1) (fun x => !b x) (by simp [AV.idsL, AV.ids]) hw2 hl (fun x hx => clo62_hc x g cap hp np (b x) hcap hw hnp (hg x hx))
 have e := any_not b l
 refine HC.intro hw rfl Try.func45 rfl isf45 (by simp [Try.f45]) fun E Q hE hN hQ => K_start ?_
 repeat' (first | apply nx | refine Kq_exit_ne (by decide) ?_ | rw [wrap64 (by omega) (by omega)] | ((first | refine hK _ ?_ | refine hKp _ _ ?_); clear hK hKp K Kp; try clear hanc anc) | ((with_reducible refine And.intro ?_ ?_); (focus (first | trivial | omega | (simp only [Fits]; omega) | assumption | (rw [hanc]; rfl)))) | ((first | refine K_regA hE fun K Kp hK hKp => ?_ | refine K_drwA true mixed hE fun K Kp hK hKp anc hanc => ?_ | refine K_drwA false mixed hE fun K Kp hK hKp anc hanc => ?_); simp only [go_sem]) | ((first | refine onG_split_t (fun hg => ?_) (fun hg => ?_) | refine onG_split_f (fun hg => ?_) (fun hg => ?_)) <;> simp only [go_sem, hg]) | (refine K_condA (fun hc => ?_) (fun hc => ?_) <;> try (exact absurd hc (by decide))))
 refine Hold.mk (HC.use hx (mN np) (by simp [AV.renL, AV.ren, mN_at, go_sem]) (by simp [go_sem, AV.idsL, AV.ids]) (fun id ob h => ?_) (fun id id' h1 h2 e => mN_inj (by omega) h1 h2 e) ?_)
 ·simp only [updo] at h
  split at h
  ·rename_i e
   cases h
   rw [e, mN_at]
   simp only [updo, if_true, AObj.ren, AV.renL, AV.ren, mN_cap hcap]
  ·rename_i e
   have := hw.lt h
   rw [mN_ne e, mN_obj (hw.1 id ob h).2]
   simp only [updo]
   rw [if_neg (by omega)]
   exact h
 rintro hpn hold
 simp only [go_sem, e]
 refine hK _ ?_; clear hK hKp K Kp; try clear hanc anc
 repeat (first | refine Kq_norm_code ?_ | refine Kq_norm_blk ?_ | refine Kq_norm_lp ?_)
 repeat' (first | apply nx | refine Kq_exit_ne (by decide) ?_ | rw [wrap64 (by omega) (by omega)] | ((first | refine hK _ ?_ | refine hKp _ _ ?_); clear hK hKp K Kp; try clear hanc anc) | ((with_reducible refine And.intro ?_ ?_); (focus (first | trivial | omega | (simp only [Fits]; omega) | assumption | (rw [hanc]; rfl)))) | ((first | refine K_regA hE fun K Kp hK hKp => ?_ | refine K_drwA true mixed hE fun K Kp hK hKp anc hanc => ?_ | refine K_drwA false mixed hE fun K Kp hK hKp anc hanc => ?_); simp only [go_sem]) | ((first | refine onG_split_t (fun hg => ?_) (fun hg => ?_) | refine onG_split_f (fun hg => ?_) (fun hg => ?_)) <;> simp only [go_sem, hg]) | (refine K_condA (fun hc => ?_) (fun hc => ?_) <;> try (exact absurd hc (by decide))))
 refine K_ret (hQ _ (by simp only [go_sem, e]; rfl) (fun id ob h => hold id ob ?_)).1
 have := hw.lt h
 simp only [updo]
 rw [if_neg (by omega)]
 exact h
theorem clo67_hc (x : Vl) (g : Nat) (cap : List AV) (hp : Nat → Option AObj) (np : Nat) (b : Bool) (hcap : AV.idsL (· < np) cap) (hw : WF hp np) (hnp : np < 899000) (hg : HC Try.prog g (x.av :: cap) hp np (.bool b)) :
    HC Try.prog 67 [x.av, .ptr np 0] (updo hp np (some (.cells [.fn (.func g) [] cap]))) (np + 1) (.bool (!b)) := by
  have hne : (np = 1000000) = False := eq_false (by omega)
  rw [Vl.av_eq] at hg ⊢
  refine HC.intro (hw.put (by omega) (by simp [AObj.ids, AV.ids, AV.idsL]; exact idsL_imp (fun i hi => by omega) hcap)) rfl Try.func67 rfl isf67 (by simp [Try.f67]) fun E Q hE hN hQ => K_start ?_
  repeat' (first | apply nx | refine Kq_exit_ne (by decide) ?_ | rw [wrap64 (by omega) (by omega)] | ((first | refine hK _ ?_ | refine hKp _ _ ?_); clear hK hKp K Kp; try clear hanc anc) | ((with_reducible refine And.intro ?_ ?_); (focus (first | trivial | omega | (simp only [Fits]; omega) | assumption | (rw [hanc]; rfl)))) | ((first | refine K_regA hE fun K Kp hK hKp => ?_ | refine K_drwA true mixed hE fun K Kp hK hKp anc hanc => ?_ | refine K_drwA false mixed hE fun K Kp hK hKp anc hanc => ?_); simp only [go_sem, hne]) | ((first | refine onG_split_t (fun hg => ?_) (fun hg => ?_) | refine onG_split_f (fun hg => ?_) (fun hg => ?_)) <;> simp only [go_sem, hne, hg]) | (refine K_condA (fun hc => ?_) (fun hc => ?_) <;> try (exact absurd hc (by decide))))
  refine Hold.mk (HC.use hg (fun i => i) (by rw [renL_id]) (by simp [go_sem, AV.idsL, AV.ids, hcap]) (fun id ob h => ?_) (fun _ _ _ _ e => e) ?_)
  · rw [oren_id]
    have := hw.lt h
    simp only [updo]
    rw [if_neg (by omega), if_neg (by omega)]
    exact h
  rintro hpn hold
  simp only [go_sem]
  refine hK _ ?_; clear hK hKp K Kp; try clear hanc anc
  repeat (first | refine Kq_norm_code ?_ | refine Kq_norm_blk ?_ | refine Kq_norm_lp ?_)
  repeat' (first | apply nx | refine Kq_exit_ne (by decide) ?_ | rw [wrap64 (by omega) (by omega)] | ((first | refine hK _ ?_ | refine hKp _ _ ?_); clear hK hKp K Kp; try clear hanc anc) | ((with_reducible refine And.intro ?_ ?_); (focus (first | trivial | omega | (simp only [Fits]; omega) | assumption | (rw [hanc]; rfl)))) | ((first | refine K_regA hE fun K Kp hK hKp => ?_ | refine K_drwA true mixed hE fun K Kp hK hKp anc hanc => ?_ | refine K_drwA false mixed hE fun K Kp hK hKp anc hanc => ?_); simp only [go_sem]) | ((first | refine onG_split_t (fun hg => ?_) (fun hg => ?_) | refine onG_split_f (fun hg => ?_) (fun hg => ?_)) <;> simp only [go_sem, hg]) | (refine K_condA (fun hc => ?_) (fun hc => ?_) <;> try (exact absurd hc (by decide))))
  refine K_ret (hQ _ (by simp only [go_sem]; rfl) (fun id ob h => hold id ob ?_)).1
  simp only [updo]
  rw [if_neg ?_]
  · exact h
  · rintro rfl
    simp only [updo] at h
    rw [if_neg (by omega)] at h
    have := hw.lt h
    omega
theorem all51_hc (l : List Vl) (g : Nat) (cap : List AV) (hp : Nat → Option AObj) (np : Nat) (b : Vl → Bool) (hcap : AV.idsL (· < np) cap) (hw : WF hp np) (hnp : np < 899000) (hl : l.length ≤ 2 ^ 40) (hg : ∀ x, x ∈ l → HC Try.prog g (x.av :: cap) hp np (.bool (b x))) : HC Try.prog 51 [.sl (Vl.avL l), .fn (.func g) [] cap] hp np (.bool (l.all b)) := by
 have hw2 := hw.put (o := .cells [.fn (.func g) [] cap]) (by omega) (by simp [AObj.ids, AV.ids, AV.idsL]; exact idsL_imp (fun i hi => by omega) hcap)
 have hx := con66_hc l 67 [.ptr np 0] _ (np + 1) (fun x => !b x) (by simp [AV.idsL, AV.ids]) hw2 hl (fun x hx => clo67_hc x g cap hp np (b x) hcap hw hnp (hg x hx))
 have e := any_not b l
 refine HC.intro hw rfl Try.func51 rfl isf51 (by simp [Try.f51]) fun E Q hE hN hQ => K_start ?_
 repeat' (first | apply nx | refine Kq_exit_ne (by decide) ?_ | rw [wrap64 (by omega) (by omega)] | ((first | refine hK _ ?_ | refine hKp _ _ ?_); clear hK hKp K Kp; try clear hanc anc) | ((with_reducible refine And.intro ?_ ?_); (focus (first | trivial | omega | (simp only [Fits]; omega) | assumption | (rw [hanc]; rfl)))) | ((first | refine K_regA hE fun K Kp hK hKp => ?_ | refine K_drwA true mixed hE fun K Kp hK hKp anc hanc => ?_ | refine K_drwA false mixed hE fun K Kp hK hKp anc hanc => ?_); simp only [go_sem]) | ((first | refine onG_split_t (fun hg => ?_) (fun hg => ?_) | refine onG_split_f (fun hg => ?_) (fun hg => ?_)) <;> simp only [go_sem, hg]) | (refine K_condA (fun hc => ?_) (fun hc => ?_) <;> try (exact absurd hc (by decide))))
 refine Hold.mk (HC.use hx (mN np) (by simp [AV.renL, AV.ren, mN_at, go_sem]) (by simp [go_sem, AV.idsL, AV.ids]) (fun id ob h => ?_) (fun id id' h1 h2 e => mN_inj (by omega) h1 h2 e) ?_)
 ·simp only [updo] at h
  split at h
  ·rename_i e
   cases h
   rw [e, mN_at]
   simp only [updo, if_true, AObj.ren, AV.renL, AV.ren, mN_cap hcap]
  ·rename_i e
   have := hw.lt h
   rw [mN_ne e, mN_obj (hw.1 id ob h).2]
   simp only [updo]
   rw [if_neg (by omega)]
   exact h
 rintro hpn hold
 simp only [go_sem, e]
 refine hK _ ?_; clear hK hKp K Kp; try clear hanc anc
 repeat (first | refine Kq_norm_code ?_ | refine Kq_norm_blk ?_ | refine Kq_norm_lp ?_)
 repeat' (first | apply nx | refine Kq_exit_ne (by decide) ?_ | rw [wrap64 (by omega) (by omega)] | ((first | refine hK _ ?_ | refine hKp _ _ ?_); clear hK hKp K Kp; try clear hanc anc) | ((with_reducible refine And.intro ?_ ?_); (focus (first | trivial | omega | (simp only [Fits]; omega) | assumption | (rw [hanc]; rfl)))) | ((first | refine K_regA hE fun K Kp hK hKp => ?_ | refine K_drwA true mixed hE fun K Kp hK hKp anc hanc => ?_ | refine K_drwA false mixed hE fun K Kp hK hKp anc hanc => ?_); simp only [go_sem]) | ((first | refine onG_split_t (fun hg => ?_) (fun hg => ?_) | refine onG_split_f (fun hg => ?_) (fun hg => ?_)) <;> simp only [go_sem, hg]) | (refine K_condA (fun hc => ?_) (fun hc => ?_) <;> try (exact absurd hc (by decide))))
 refine K_ret (hQ _ (by simp only [go_sem, e]; rfl) (fun id ob h => hold id ob ?_)).1
 have := hw.lt h
 simp only [updo]
 rw [if_neg (by omega)]
 exact h
end Go.Proofs.Ytlhhahocjfgmdaa

set_option linter.unusedSimpArgs false
set_option linter.unusedVariables false
set_option maxHeartbeats 4000000
set_option maxRecDepth 100000
namespace Go.Proofs.Ytlhhahocjfgmdaa
open Go.Am Go.Proofs Go.Hv Go.Mv
open Classical
attribute [local irreducible] AW CallP CallB
theorem idx71_hc (l : List Int) (g : Nat) (cap : List AV) (hp : Nat → Option AObj) (np : Nat) (b : Int → Bool) (hcap : AV.idsL (· < np) cap) (hw : WF hp np) (hl : l.length ≤ 2 ^ 40) (hg : ∀ x, x ∈ l → HC Try.prog g (.i x :: cap) hp np (.bool (b x))) : HC Try.prog 71 [.sl (il l), .fn (.func g) [] cap] hp np (.i (fidx b l 0)) := by
 have hwl : ∀ id ob, hp id = some ob → id < 1000000 ∧ ob.ids (· < 1000000) := fun id ob h => by
  have := hw.1 id ob h; have := hw.2.2
  exact ⟨by omega, objids_mono _ (fun i hi => by omega) (hw.1 id ob h).2⟩
 have hcap2 : AV.idsL (· < 1000000) cap := idsL_imp (fun i hi => by have := hw.2.2; omega) hcap
 have hnp2 : np ≤ 1000000 := by have := hw.2.2; omega
 refine HC.intro hw rfl Try.func71 rfl isf71 (by simp [Try.f71]) fun E Q hE hN hQ => K_start ?_
 repeat' (first | apply nx | refine Kq_exit_ne (by decide) ?_ | rw [wrap64 (by omega) (by omega)] | ((first | refine hK _ ?_ | refine hKp _ _ ?_); clear hK hKp K Kp; try clear hanc anc) | ((with_reducible refine And.intro ?_ ?_); (focus (first | trivial | omega | (simp only [Fits]; omega) | assumption | (rw [hanc]; rfl)))) | ((first | refine K_regA hE fun K Kp hK hKp => ?_ | refine K_drwA true mixed hE fun K Kp hK hKp anc hanc => ?_ | refine K_drwA false mixed hE fun K Kp hK hKp anc hanc => ?_); simp only [go_sem]) | ((first | refine onG_split_t (fun hg => ?_) (fun hg => ?_) | refine onG_split_f (fun hg => ?_) (fun hg => ?_)) <;> simp only [go_sem, hg]) | (refine K_condA (fun hc => ?_) (fun hc => ?_) <;> try (exact absurd hc (by decide))))
 refine K_loop (X := Nat) (fun i => i ≤ l.length ∧ fidx b l 0 = fidx b (l.drop i) i) (fun i => ⟨mkFr [(0, .sl (il l)), (1, .fn (.func g) [] cap), (7, AV.i l.length), (8, AV.i i)], hp, 1000000⟩) (fun i => l.length - i) 0 ⟨Nat.zero_le _, rfl⟩ (fun i => i) (ent_keep (by simp [go_sem, AV.ids, hcap2]) (fun id ob h => ⟨h, hwl id ob h⟩) (by omega)) ?_
 rintro i ⟨hi, ht⟩
 by_cases hlt : i < l.length
 ·obtain ⟨x, hx⟩ := get?_of hlt
  rw [drop_of hx, fidx] at ht
  have hgx := hg x (List.mem_of_getElem? hx)
  repeat' (first | apply nx | refine Kq_exit_ne (by decide) ?_ | rw [wrap64 (by omega) (by omega)] | ((first | refine hK _ ?_ | refine hKp _ _ ?_); clear hK hKp K Kp; try clear hanc anc) | ((with_reducible refine And.intro ?_ ?_); (focus (first | trivial | omega | (simp only [Fits]; omega) | assumption | (rw [hanc]; rfl)))) | ((first | refine K_regA hE fun K Kp hK hKp => ?_ | refine K_drwA true mixed hE fun K Kp hK hKp anc hanc => ?_ | refine K_drwA false mixed hE fun K Kp hK hKp anc hanc => ?_); simp only [go_sem, lt_dec hlt, hx]) | ((first | refine onG_split_t (fun hg => ?_) (fun hg => ?_) | refine onG_split_f (fun hg => ?_) (fun hg => ?_)) <;> simp only [go_sem, lt_dec hlt, hx, hg]) | (refine K_condA (fun hc => ?_) (fun hc => ?_) <;> try (exact absurd hc (by decide))))
  refine Hold.mk (HC.use hgx (fun i => i) (by rw [renL_id]) (by refine ⟨?_, hcap⟩; simp [go_sem, AV.ids, AV.idsL]) (fun id ob h => by rw [oren_id]; exact h) (fun _ _ _ _ e => e) ?_)
  rintro hpn hold
  simp only [go_sem]
  refine hK _ ?_; clear hK hKp K Kp; try clear hanc anc
  repeat (first | refine Kq_norm_code ?_ | refine Kq_norm_blk ?_ | refine Kq_norm_lp ?_)
  refine AW.ent (fun i => i) (σ' := ⟨mkFr [(0, .sl (il l)), (1, .fn (.func g) [] cap), (5, AV.i i), (7, AV.i l.length), (8, AV.i i), (16, .bool (b x))], hp, 1000000⟩) (ent_keep (by simp [go_sem, AV.ids, hcap2]) (fun id ob h => ⟨hold id ob h, hwl id ob h⟩) (by omega)) ?_
  cases hbx : b x
  ·rw [hbx] at ht
   repeat' (first | apply nx | refine Kq_exit_ne (by decide) ?_ | rw [wrap64 (by omega) (by omega)] | ((first | refine hK _ ?_ | refine hKp _ _ ?_); clear hK hKp K Kp; try clear hanc anc) | ((with_reducible refine And.intro ?_ ?_); (focus (first | trivial | omega | (simp only [Fits]; omega) | assumption | (rw [hanc]; rfl)))) | ((first | refine K_regA hE fun K Kp hK hKp => ?_ | refine K_drwA true mixed hE fun K Kp hK hKp anc hanc => ?_ | refine K_drwA false mixed hE fun K Kp hK hKp anc hanc => ?_); simp only [go_sem]) | ((first | refine onG_split_t (fun hg => ?_) (fun hg => ?_) | refine onG_split_f (fun hg => ?_) (fun hg => ?_)) <;> simp only [go_sem, hg]) | (refine K_condA (fun hc => ?_) (fun hc => ?_) <;> try (exact absurd hc (by decide))))
   exact ⟨i + 1, ⟨by omega, by simpa using ht⟩, by omega, fun i => i, ent_keep (by simp [go_sem, AV.ids, hcap2]) (fun id ob h => ⟨h, hwl id ob h⟩) (by omega)⟩
  ·rw [hbx, if_pos rfl] at ht
   rw [ht] at hQ
   repeat' (first | apply nx | refine Kq_exit_ne (by decide) ?_ | rw [wrap64 (by omega) (by omega)] | ((first | refine hK _ ?_ | refine hKp _ _ ?_); clear hK hKp K Kp; try clear hanc anc) | ((with_reducible refine And.intro ?_ ?_); (focus (first | trivial | omega | (simp only [Fits]; omega) | assumption | (rw [hanc]; rfl)))) | ((first | refine K_regA hE fun K Kp hK hKp => ?_ | refine K_drwA true mixed hE fun K Kp hK hKp anc hanc => ?_ | refine K_drwA false mixed hE fun K Kp hK hKp anc hanc => ?_); simp only [go_sem]) | ((first | refine onG_split_t (fun hg => ?_) (fun hg => ?_) | refine onG_split_f (fun hg => ?_) (fun hg => ?_)) <;> simp only [go_sem, hg]) | (refine K_condA (fun hc => ?_) (fun hc => ?_) <;> try (exact absurd hc (by decide))))
   exact K_ret (hQ _ (by simp only [go_sem]; rfl) (fun id ob h => h)).1
 ·obtain rfl : i = l.length := by omega
  rw [List.drop_length, fidx] at ht
  rw [ht] at hQ
  repeat' (first | apply nx | refine Kq_exit_ne (by decide) ?_ | rw [wrap64 (by omega) (by omega)] | ((first | refine hK _ ?_ | refine hKp _ _ ?_); clear hK hKp K Kp; try clear hanc anc) | ((with_reducible refine And.intro ?_ ?_); (focus (first | trivial | omega | (simp only [Fits]; omega) | assumption | (rw [hanc]; rfl)))) | ((first | refine K_regA hE fun K Kp hK hKp => ?_ | refine K_drwA true mixed hE fun K Kp hK hKp anc hanc => ?_ | refine K_drwA false mixed hE fun K Kp hK hKp anc hanc => ?_); simp only [go_sem, ge_dec]) | ((first | refine onG_split_t (fun hg => ?_) (fun hg => ?_) | refine onG_split_f (fun hg => ?_) (fun hg => ?_)) <;> simp only [go_sem, ge_dec, hg]) | (refine K_condA (fun hc => ?_) (fun hc => ?_) <;> try (exact absurd hc (by decide))))
  exact K_ret (hQ _ (by simp only [go_sem]; rfl) (fun id ob h => h)).1
theorem con63_hc (l : List Int) (g : Nat) (cap : List AV) (hp : Nat → Option AObj) (np : Nat) (b : Int → Bool) (hcap : AV.idsL (· < np) cap) (hw : WF hp np) (hl : l.length ≤ 2 ^ 40) (hg : ∀ x, x ∈ l → HC Try.prog g (.i x :: cap) hp np (.bool (b x))) : HC Try.prog 63 [.sl (il l), .fn (.func g) [] cap] hp np (.bool (l.any b)) := by
 have hx := idx71_hc l g cap hp np b hcap hw hl hg
 refine HC.intro hw rfl Try.func63 rfl isf63 (by simp [Try.f63]) fun E Q hE hN hQ => K_start ?_
 repeat' (first | apply nx | refine Kq_exit_ne (by decide) ?_ | rw [wrap64 (by omega) (by omega)] | ((first | refine hK _ ?_ | refine hKp _ _ ?_); clear hK hKp K Kp; try clear hanc anc) | ((with_reducible refine And.intro ?_ ?_); (focus (first | trivial | omega | (simp only [Fits]; omega) | assumption | (rw [hanc]; rfl)))) | ((first | refine K_regA hE fun K Kp hK hKp => ?_ | refine K_drwA true mixed hE fun K Kp hK hKp anc hanc => ?_ | refine K_drwA false mixed hE fun K Kp hK hKp anc hanc => ?_); simp only [go_sem]) | ((first | refine onG_split_t (fun hg => ?_) (fun hg => ?_) | refine onG_split_f (fun hg => ?_) (fun hg => ?_)) <;> simp only [go_sem, hg]) | (refine K_condA (fun hc => ?_) (fun hc => ?_) <;> try (exact absurd hc (by decide))))
 refine Hold.mk (HC.use hx (fun i => i) (by rw [renL_id]) (by simp [go_sem, AV.idsL, AV.ids, hcap]) (fun id ob h => by rw [oren_id]; exact h) (fun _ _ _ _ e => e) ?_)
 rintro hpn hold
 have q : decide (fidx b l 0 ≥ 0) = l.any b := fidx_ge b l 0
 simp only [go_sem, q]
 refine hK _ ?_; clear hK hKp K Kp; try clear hanc anc
 repeat (first | refine Kq_norm_code ?_ | refine Kq_norm_blk ?_ | refine Kq_norm_lp ?_)
 repeat' (first | apply nx | refine Kq_exit_ne (by decide) ?_ | rw [wrap64 (by omega) (by omega)] | ((first | refine hK _ ?_ | refine hKp _ _ ?_); clear hK hKp K Kp; try clear hanc anc) | ((with_reducible refine And.intro ?_ ?_); (focus (first | trivial | omega | (simp only [Fits]; omega) | assumption | (rw [hanc]; rfl)))) | ((first | refine K_regA hE fun K Kp hK hKp => ?_ | refine K_drwA true mixed hE fun K Kp hK hKp anc hanc => ?_ | refine K_drwA false mixed hE fun K Kp hK hKp anc hanc => ?_); simp only [go_sem, q]) | ((first | refine onG_split_t (fun hg => ?_) (fun hg => ?_) | refine onG_split_f (fun hg => ?_) (fun hg => ?_)) <;> simp only [go_sem, q, hg]) | (refine K_condA (fun hc => ?_) (fun hc => ?_) <;> try (exact absurd hc (by decide))))
 exact K_ret (hQ _ (by simp only [go_sem]; rfl) hold).1
theorem clo64_hc (x : Int) (g : Nat) (cap : List AV) (hp : Nat → Option AObj) (np : Nat) (b : Bool) (hcap : AV.idsL (· < np) cap) (hw : WF hp np) (hnp : np < 899000) (hg : HC Try.prog g (.i x :: cap) hp np (.bool b)) :
    HC Try.prog 64 [.i x, .ptr np 0] (updo hp np (some (.cells [.fn (.func g) [] cap]))) (np + 1) (.bool (!b)) := by
  refine HC.intro (hw.put (by omega) (by simp [AObj.ids, AV.ids, AV.idsL]; exact idsL_imp (fun i hi => by omega) hcap)) rfl Try.func64 rfl isf64 (by simp [Try.f64]) fun E Q hE hN hQ => K_start ?_
  repeat' (first | apply nx | refine Kq_exit_ne (by decide) ?_ | rw [wrap64 (by omega) (by omega)] | ((first | refine hK _ ?_ | refine hKp _ _ ?_); clear hK hKp K Kp; try clear hanc anc) | ((with_reducible refine And.intro ?_ ?_); (focus (first | trivial | omega | (simp only [Fits]; omega) | assumption | (rw [hanc]; rfl)))) | ((first | refine K_regA hE fun K Kp hK hKp => ?_ | refine K_drwA true mixed hE fun K Kp hK hKp anc hanc => ?_ | refine K_drwA false mixed hE fun K Kp hK hKp anc hanc => ?_); simp only [go_sem]) | ((first | refine onG_split_t (fun hg => ?_) (fun hg => ?_) | refine onG_split_f (fun hg => ?_) (fun hg => ?_)) <;> simp only [go_sem, hg]) | (refine K_condA (fun hc => ?_) (fun hc => ?_) <;> try (exact absurd hc (by decide))))
  refine Hold.mk (HC.use hg (fun i => i) (by rw [renL_id]) (by simp [go_sem, AV.idsL, AV.ids, hcap]) (fun id ob h => ?_) (fun _ _ _ _ e => e) ?_)
  · rw [oren_id]
    have := hw.lt h
    simp only [updo]
    rw [if_neg (by omega)]
    exact h
  rintro hpn hold
  simp only [go_sem]
  refine hK _ ?_; clear hK hKp K Kp; try clear hanc anc
  repeat (first | refine Kq_norm_code ?_ | refine Kq_norm_blk ?_ | refine Kq_norm_lp ?_)
  repeat' (first | apply nx | refine Kq_exit_ne (by decide) ?_ | rw [wrap64 (by omega) (by omega)] | ((first | refine hK _ ?_ | refine hKp _ _ ?_); clear hK hKp K Kp; try clear hanc anc) | ((with_reducible refine And.intro ?_ ?_); (focus (first | trivial | omega | (simp only [Fits]; omega) | assumption | (rw [hanc]; rfl)))) | ((first | refine K_regA hE fun K Kp hK hKp => ?_ | refine K_drwA true mixed hE fun K Kp hK hKp anc hanc => ?_ | refine K_drwA false mixed hE fun K Kp hK hKp anc hanc => ?_); simp only [go_sem]) | ((first | refine onG_split_t (fun hg => ?_) (fun hg => ?_) | refine onG_split_f (fun hg => ?_) (fun hg => ?_)) <;> simp only [go_sem, hg]) | (refine K_condA (fun hc => ?_) (fun hc => ?_) <;> try (exact absurd hc (by decide))))
  refine K_ret (hQ _ (by simp only [go_sem]; rfl) (fun id ob h => hold id ob ?_)).1
  exact h
theorem all46_hc (l : List Int) (g : Nat) (cap : List AV) (hp : Nat → Option AObj) (np : Nat) (b : Int → Bool) (hcap : AV.idsL (· < np) cap) (hw : WF hp np) (hnp : np < 899000) (hl : l.length ≤ 2 ^ 40) (hg : ∀ x, x ∈ l → HC Try.prog g (.i x :: cap) hp np (.bool (b x))) : HC Try.prog 46 [.sl (il l), .fn (.func g) [] cap] hp np (.bool (l.all b)) := by
 have hw2 := hw.put (o := .cells [.fn (.func g) [] cap]) (by omega) (by simp [AObj.ids, AV.ids, AV.idsL]; exact idsL_imp (fun i hi => by omega) hcap)
 have hx := con63_hc l 64 [.ptr np 0] _ (np + 1) (fun x => !b x) (by simp [AV.idsL, AV.ids]) hw2 hl (fun x hx => clo64_hc x g cap hp np (b x) hcap hw hnp (hg x hx))
 have e := any_not b l
 refine HC.intro hw rfl Try.func46 rfl isf46 (by simp [Try.f46]) fun E Q hE hN hQ => K_start ?_
 repeat' (first | apply nx | refine Kq_exit_ne (by decide) ?_ | rw [wrap64 (by omega) (by omega)] | ((first | refine hK _ ?_ | refine hKp _ _ ?_); clear hK hKp K Kp; try clear hanc anc) | ((with_reducible refine And.intro ?_ ?_); (focus (first | trivial | omega | (simp only [Fits]; omega) | assumption | (rw [hanc]; rfl)))) | ((first | refine K_regA hE fun K Kp hK hKp => ?_ | refine K_drwA true mixed hE fun K Kp hK hKp anc hanc => ?_ | refine K_drwA false mixed hE fun K Kp hK hKp anc hanc => ?_); simp only [go_sem]) | ((first | refine onG_split_t (fun hg => ?_) (fun hg => ?_) | refine onG_split_f (fun hg => ?_) (fun hg => ?_)) <;> simp only [go_sem, hg]) | (refine K_condA (fun hc => ?_) (fun hc => ?_) <;> try (exact absurd hc (by decide))))
 refine Hold.mk (HC.use hx (mN np) (by simp [AV.renL, AV.ren, mN_at, go_sem]) (by simp [go_sem, AV.idsL, AV.ids]) (fun id ob h => ?_) (fun id id' h1 h2 e => mN_inj (by omega) h1 h2 e) ?_)
 ·simp only [updo] at h
  split at h
  ·rename_i e
   cases h
   rw [e, mN_at]
   simp only [updo, if_true, AObj.ren, AV.renL, AV.ren, mN_cap hcap]
  ·rename_i e
   have := hw.lt h
   rw [mN_ne e, mN_obj (hw.1 id ob h).2]
   simp only [updo]
   rw [if_neg (by omega)]
   exact h
 rintro hpn hold
 simp only [go_sem, e]
 refine hK _ ?_; clear hK hKp K Kp; try clear hanc anc
 repeat (first | refine Kq_norm_code ?_ | refine Kq_norm_blk ?_ | refine Kq_norm_lp ?_)
 repeat' (first | apply nx | refine Kq_exit_ne (by decide) ?_ | rw [wrap64 (by omega) (by omega)] | ((first | refine hK _ ?_ | refine hKp _ _ ?_); clear hK hKp K Kp; try clear hanc anc) | ((with_reducible refine And.intro ?_ ?_); (focus (first | trivial | omega | (simp only [Fits]; omega) | assumption | (rw [hanc]; rfl)))) | ((first | refine K_regA hE fun K Kp hK hKp => ?_ | refine K_drwA true mixed hE fun K Kp hK hKp anc hanc => ?_ | refine K_drwA false mixed hE fun K Kp hK hKp anc hanc => ?_); simp only [go_sem]) | ((first | refine onG_split_t (fun hg => ?_) (fun hg => ?_) | refine onG_split_f (fun hg => ?_) (fun hg => ?_)) <;> simp only [go_sem, hg]) | (refine K_condA (fun hc => ?_) (fun hc => ?_) <;> try (exact absurd hc (by decide))))
 refine K_ret (hQ _ (by simp only [go_sem, e]; rfl) (fun id ob h => hold id ob ?_)).1
 have := hw.lt h
 simp only [updo]
 rw [if_neg (by omega)]
 exact h
end Go.Proofs.Ytlhhahocjfgmdaa

set_option linter.unusedSimpArgs false
set_option linter.unusedVariables false
set_option maxHeartbeats 4000000
set_option maxRecDepth 100000
namespace Go.Proofs.Ytlhhahocjfgmdaa
open Nat (reduceAdd reduceMul reduceEqDiff reduceLT reduceLeDiff reduceSub reduceDiv)
open Int (reduceBNe reduceLE reduceEq)
open Go.Am Go.Proofs Go.Hv Go.Mv
open Classical
attribute [local irreducible] AW CallP CallB
def dvB (n : Int) (v : Dv) : Bool := decide ((v.fs.length : Int) ≤ 8) && v.fs.all fun t => stB n t 8
def ddB (n : Int) (x : Dd) : Bool := x.pr == 0 && decide ((x.vs.length : Int) ≥ 1) && decide ((x.vs.length : Int) ≤ 16) && x.vs.all (dvB n)
def dtB (d : List Dd) : Bool := decide ((d.length : Int) ≤ 200) && d.all (ddB d.length)
def dSz (d : List Dd) : Nat := (d.map fun x => 1 + (x.vs.map Dv.sz).sum).sum
theorem sum_memN {α : Type} (f : α → Nat) : ∀ {l : List α} {x : α}, x ∈ l → f x ≤ (l.map f).sum
 | y :: l, x, h => by
  simp only [List.map_cons, List.sum_cons]
  rcases List.mem_cons.1 h with rfl | h
  ·omega
  ·have := sum_memN f h; omega
theorem len_sumN {α : Type} (f : α → Nat) (hf : ∀ x, 1 ≤ f x) : ∀ (l : List α), l.length ≤ (l.map f).sum
 | [] => Nat.zero_le _
 | y :: l => by
  simp only [List.map_cons, List.sum_cons, List.length_cons]
  have := len_sumN f hf l; have := hf y; omega
theorem dSz_len (d : List Dd) : d.length ≤ dSz d := len_sumN (fun x : Dd => 1 + (x.vs.map Dv.sz).sum) (fun x => Nat.le_add_right 1 _) d
theorem dSz_vs {d : List Dd} {x : Dd} (h : x ∈ d) : x.vs.length ≤ dSz d ∧ ∀ v, v ∈ x.vs → v.fs.length ≤ dSz d ∧ ∀ t, t ∈ v.fs → t.sz < dSz d := by
 have h1 := sum_memN (fun x : Dd => 1 + (x.vs.map Dv.sz).sum) h
 have h2 := len_sumN Dv.sz (fun v => by unfold Dv.sz; omega) x.vs
 have e : dSz d = (d.map fun x => 1 + (x.vs.map Dv.sz).sum).sum := rfl
 refine ⟨by omega, fun v hv => ?_⟩
 have h3 := sum_memN Dv.sz hv
 have h4 : v.sz = 1 + Ty.szL v.fs := rfl
 have h5 := Ty.len_le v.fs
 exact ⟨by omega, fun t ht => by have := Ty.sz_mem ht; omega⟩
theorem c39_hc (d : List Dd) (t : Ty) (hp : Nat → Option AObj) (np a : Nat) (hw : WF hp np) (ha : hp a = some (.cells [.sl (ddl d)])) (ht : t.sz < 2 ^ 40) : HC Try.prog 39 [t.av, .ptr a 0] hp np (.bool (stB d.length t 8)) := by
 have hne : (a = 1000000) = False := eq_false (by have := hw.lt ha; have := hw.2.2; omega)
 have hc0 := stored_call (2 ^ 40) t d.length 8 ht (Nat.le_refl _) (by decide)
 rw [Ty.av_eq] at hc0 ⊢
 refine HC.intro hw rfl Try.func39 rfl isf39 (by simp [Try.f39]) fun E Q hE hN hQ => K_start ?_
 repeat' (first | apply nx | refine Kq_exit_ne (by decide) ?_ | rw [wrap64 (by omega) (by omega)] | ((first | refine hK _ ?_ | refine hKp _ _ ?_); clear hK hKp K Kp; try clear hanc anc) | ((with_reducible refine And.intro ?_ ?_); (focus (first | trivial | omega | (simp only [Fits]; omega) | assumption | (rw [hanc]; rfl)))) | ((first | refine K_regA hE fun K Kp hK hKp => ?_ | refine K_drwA true mixed hE fun K Kp hK hKp anc hanc => ?_ | refine K_drwA false mixed hE fun K Kp hK hKp anc hanc => ?_ | ((first | apply CallP_mk | apply CallB_mk); (focus (simp only [go_sem] <;> rfl)); (focus (exact hc0)); (focus (first | (simp [go_sem]; done) | (simp [go_sem, CloRow, AV.cells, AV.clo]; done))); (focus (first | exact .inl rfl | (right; simp [go_sem]))))); simp only [go_sem, hne, ha]) | ((first | refine onG_split_t (fun hg => ?_) (fun hg => ?_) | refine onG_split_f (fun hg => ?_) (fun hg => ?_)) <;> simp only [go_sem, hne, ha, hg]) | (refine K_condA (fun hc => ?_) (fun hc => ?_) <;> try (exact absurd hc (by decide))))
 exact K_ret (hQ _ (by simp only [go_sem]; rfl) (fun id ob h => hw.keep h (by decide) _)).1
theorem c41_hc (d : List Dd) (v : Dv) (hp : Nat → Option AObj) (np a b : Nat) (hw : WF hp np) (hnp : np < 899000) (ha : hp a = some (.cells [.sl (ddl d)])) (hb : hp b = some (.cells [.fn (.func 39) [] [.ptr a 0]])) (hl : v.fs.length ≤ 2 ^ 40) (ht : ∀ t, t ∈ v.fs → t.sz < 2 ^ 40) : HC Try.prog 41 [v.av, .ptr b 0] hp np (.bool (dvB d.length v)) := by
 have hne : (b = 1000000) = False := eq_false (by have := hw.lt hb; have := hw.2.2; omega)
 have hx := all42_hc v.fs 39 [.ptr a 0] hp np (fun t => stB d.length t 8) (by simp [AV.idsL, AV.ids]; exact hw.lt ha) hw hnp hl (fun t h => c39_hc d t hp np a hw ha (ht t h))
 unfold dvB
 refine HC.intro hw rfl Try.func41 rfl isf41 (by simp [Try.f41]) fun E Q hE hN hQ => K_start ?_
 unfold Dv.av Dv.cs
 cases q1 : decide ((v.fs.length : Int) ≤ 8)
 ·repeat' (first | apply nx | refine Kq_exit_ne (by decide) ?_ | rw [wrap64 (by omega) (by omega)] | ((first | refine hK _ ?_ | refine hKp _ _ ?_); clear hK hKp K Kp; try clear hanc anc) | ((with_reducible refine And.intro ?_ ?_); (focus (first | trivial | omega | (simp only [Fits]; omega) | assumption | (rw [hanc]; rfl)))) | ((first | refine K_regA hE fun K Kp hK hKp => ?_ | refine K_drwA true mixed hE fun K Kp hK hKp anc hanc => ?_ | refine K_drwA false mixed hE fun K Kp hK hKp anc hanc => ?_); simp only [go_sem, q1]) | ((first | refine onG_split_t (fun hg => ?_) (fun hg => ?_) | refine onG_split_f (fun hg => ?_) (fun hg => ?_)) <;> simp only [go_sem, q1, hg]) | (refine K_condA (fun hc => ?_) (fun hc => ?_) <;> try (exact absurd hc (by decide))))
  exact K_ret (hQ _ (by simp only [go_sem, q1]; rfl) (fun id ob h => hw.keep h (by decide) _)).1
 ·repeat' (first | apply nx | refine Kq_exit_ne (by decide) ?_ | rw [wrap64 (by omega) (by omega)] | ((first | refine hK _ ?_ | refine hKp _ _ ?_); clear hK hKp K Kp; try clear hanc anc) | ((with_reducible refine And.intro ?_ ?_); (focus (first | trivial | omega | (simp only [Fits]; omega) | assumption | (rw [hanc]; rfl)))) | ((first | refine K_regA hE fun K Kp hK hKp => ?_ | refine K_drwA true mixed hE fun K Kp hK hKp anc hanc => ?_ | refine K_drwA false mixed hE fun K Kp hK hKp anc hanc => ?_); simp only [go_sem, q1, hne, hb]) | ((first | refine onG_split_t (fun hg => ?_) (fun hg => ?_) | refine onG_split_f (fun hg => ?_) (fun hg => ?_)) <;> simp only [go_sem, q1, hne, hb, hg]) | (refine K_condA (fun hc => ?_) (fun hc => ?_) <;> try (exact absurd hc (by decide))))
  refine Hold.mk (HC.use hx (fun i => i) (by rw [renL_id]) (by simp [go_sem, AV.idsL, AV.ids]; exact hw.lt ha) (fun id ob h => by rw [oren_id]; exact hw.keep h (by decide) _) (fun _ _ _ _ e => e) ?_)
  rintro hpn hold
  simp only [go_sem]
  refine hK _ ?_; clear hK hKp K Kp; try clear hanc anc
  repeat (first | refine Kq_norm_code ?_ | refine Kq_norm_blk ?_ | refine Kq_norm_lp ?_)
  repeat' (first | apply nx | refine Kq_exit_ne (by decide) ?_ | rw [wrap64 (by omega) (by omega)] | ((first | refine hK _ ?_ | refine hKp _ _ ?_); clear hK hKp K Kp; try clear hanc anc) | ((with_reducible refine And.intro ?_ ?_); (focus (first | trivial | omega | (simp only [Fits]; omega) | assumption | (rw [hanc]; rfl)))) | ((first | refine K_regA hE fun K Kp hK hKp => ?_ | refine K_drwA true mixed hE fun K Kp hK hKp anc hanc => ?_ | refine K_drwA false mixed hE fun K Kp hK hKp anc hanc => ?_); simp only [go_sem]) | ((first | refine onG_split_t (fun hg => ?_) (fun hg => ?_) | refine onG_split_f (fun hg => ?_) (fun hg => ?_)) <;> simp only [go_sem, hg]) | (refine K_condA (fun hc => ?_) (fun hc => ?_) <;> try (exact absurd hc (by decide))))
  exact K_ret (hQ _ (by simp only [go_sem, q1, Bool.true_and]; rfl) (fun id ob h => hold id ob (hw.keep h (by decide) _))).1
theorem c44_hc (d : List Dd) (x : Dd) (hp : Nat → Option AObj) (np a b c : Nat) (hw : WF hp np) (hnp : np < 899000) (ha : hp a = some (.cells [.sl (ddl d)])) (hb : hp b = some (.cells [.fn (.func 39) [] [.ptr a 0]])) (hcc : hp c = some (.cells [.fn (.func 41) [] [.ptr b 0]]))
    (hl : x.vs.length ≤ 2 ^ 40) (ht : ∀ v, v ∈ x.vs → v.fs.length ≤ 2 ^ 40 ∧ ∀ t, t ∈ v.fs → t.sz < 2 ^ 40) : HC Try.prog 44 [x.av, .ptr c 0] hp np (.bool (ddB d.length x)) := by
  have hne : (c = 1000000) = False := eq_false (by have := hw.lt hcc; have := hw.2.2; omega)
  have hx := all45_hc x.vs 41 [.ptr b 0] hp np (dvB d.length) (by simp [AV.idsL, AV.ids]; exact hw.lt hb) hw hnp hl (fun v h => c41_hc d v hp np a b hw hnp ha hb (ht v h).1 (ht v h).2)
  unfold ddB
  refine HC.intro hw rfl Try.func44 rfl isf44 (by simp [Try.f44]) fun E Q hE hN hQ => K_start ?_
  unfold Dd.av Dd.cs
  cases q1 : x.pr == 0
  · repeat' (first | apply nx | refine Kq_exit_ne (by decide) ?_ | rw [wrap64 (by omega) (by omega)] | ((first | refine hK _ ?_ | refine hKp _ _ ?_); clear hK hKp K Kp; try clear hanc anc) | ((with_reducible refine And.intro ?_ ?_); (focus (first | trivial | omega | (simp only [Fits]; omega) | assumption | (rw [hanc]; rfl)))) | ((first | refine K_regA hE fun K Kp hK hKp => ?_ | refine K_drwA true mixed hE fun K Kp hK hKp anc hanc => ?_ | refine K_drwA false mixed hE fun K Kp hK hKp anc hanc => ?_); simp only [go_sem, q1]) | ((first | refine onG_split_t (fun hg => ?_) (fun hg => ?_) | refine onG_split_f (fun hg => ?_) (fun hg => ?_)) <;> simp only [go_sem, q1, hg]) | (refine K_condA (fun hc => ?_) (fun hc => ?_) <;> try (exact absurd hc (by decide))))
    exact K_ret (hQ _ (by simp only [go_sem, q1]; rfl) (fun id ob h => hw.keep h (by decide) _)).1
  cases q2 : decide ((x.vs.length : Int) ≥ 1)
  · repeat' (first | apply nx | refine Kq_exit_ne (by decide) ?_ | rw [wrap64 (by omega) (by omega)] | ((first | refine hK _ ?_ | refine hKp _ _ ?_); clear hK hKp K Kp; try clear hanc anc) | ((with_reducible refine And.intro ?_ ?_); (focus (first | trivial | omega | (simp only [Fits]; omega) | assumption | (rw [hanc]; rfl)))) | ((first | refine K_regA hE fun K Kp hK hKp => ?_ | refine K_drwA true mixed hE fun K Kp hK hKp anc hanc => ?_ | refine K_drwA false mixed hE fun K Kp hK hKp anc hanc => ?_); simp only [go_sem, q1, q2]) | ((first | refine onG_split_t (fun hg => ?_) (fun hg => ?_) | refine onG_split_f (fun hg => ?_) (fun hg => ?_)) <;> simp only [go_sem, q1, q2, hg]) | (refine K_condA (fun hc => ?_) (fun hc => ?_) <;> try (exact absurd hc (by decide))))
    exact K_ret (hQ _ (by simp only [go_sem, q1, q2]; rfl) (fun id ob h => hw.keep h (by decide) _)).1
  cases q3 : decide ((x.vs.length : Int) ≤ 16)
  · repeat' (first | apply nx | refine Kq_exit_ne (by decide) ?_ | rw [wrap64 (by omega) (by omega)] | ((first | refine hK _ ?_ | refine hKp _ _ ?_); clear hK hKp K Kp; try clear hanc anc) | ((with_reducible refine And.intro ?_ ?_); (focus (first | trivial | omega | (simp only [Fits]; omega) | assumption | (rw [hanc]; rfl)))) | ((first | refine K_regA hE fun K Kp hK hKp => ?_ | refine K_drwA true mixed hE fun K Kp hK hKp anc hanc => ?_ | refine K_drwA false mixed hE fun K Kp hK hKp anc hanc => ?_); simp only [go_sem, q1, q2, q3]) | ((first | refine onG_split_t (fun hg => ?_) (fun hg => ?_) | refine onG_split_f (fun hg => ?_) (fun hg => ?_)) <;> simp only [go_sem, q1, q2, q3, hg]) | (refine K_condA (fun hc => ?_) (fun hc => ?_) <;> try (exact absurd hc (by decide))))
    exact K_ret (hQ _ (by simp only [go_sem, q1, q2, q3]; rfl) (fun id ob h => hw.keep h (by decide) _)).1
  repeat' (first | apply nx | refine Kq_exit_ne (by decide) ?_ | rw [wrap64 (by omega) (by omega)] | ((first | refine hK _ ?_ | refine hKp _ _ ?_); clear hK hKp K Kp; try clear hanc anc) | ((with_reducible refine And.intro ?_ ?_); (focus (first | trivial | omega | (simp only [Fits]; omega) | assumption | (rw [hanc]; rfl)))) | ((first | refine K_regA hE fun K Kp hK hKp => ?_ | refine K_drwA true mixed hE fun K Kp hK hKp anc hanc => ?_ | refine K_drwA false mixed hE fun K Kp hK hKp anc hanc => ?_); simp only [go_sem, q1, q2, q3, hne, hcc]) | ((first | refine onG_split_t (fun hg => ?_) (fun hg => ?_) | refine onG_split_f (fun hg => ?_) (fun hg => ?_)) <;> simp only [go_sem, q1, q2, q3, hne, hcc, hg]) | (refine K_condA (fun hc => ?_) (fun hc => ?_) <;> try (exact absurd hc (by decide))))
  refine Hold.mk (HC.use hx (fun i => i) (by rw [renL_id]) (by simp [go_sem, AV.idsL, AV.ids]; exact hw.lt hb) (fun id ob h => by rw [oren_id]; exact hw.keep h (by decide) _) (fun _ _ _ _ e => e) ?_)
  rintro hpn hold
  simp only [go_sem]
  refine hK _ ?_; clear hK hKp K Kp; try clear hanc anc
  repeat (first | refine Kq_norm_code ?_ | refine Kq_norm_blk ?_ | refine Kq_norm_lp ?_)
  repeat' (first | apply nx | refine Kq_exit_ne (by decide) ?_ | rw [wrap64 (by omega) (by omega)] | ((first | refine hK _ ?_ | refine hKp _ _ ?_); clear hK hKp K Kp; try clear hanc anc) | ((with_reducible refine And.intro ?_ ?_); (focus (first | trivial | omega | (simp only [Fits]; omega) | assumption | (rw [hanc]; rfl)))) | ((first | refine K_regA hE fun K Kp hK hKp => ?_ | refine K_drwA true mixed hE fun K Kp hK hKp anc hanc => ?_ | refine K_drwA false mixed hE fun K Kp hK hKp anc hanc => ?_); simp only [go_sem]) | ((first | refine onG_split_t (fun hg => ?_) (fun hg => ?_) | refine onG_split_f (fun hg => ?_) (fun hg => ?_)) <;> simp only [go_sem, hg]) | (refine K_condA (fun hc => ?_) (fun hc => ?_) <;> try (exact absurd hc (by decide))))
  exact K_ret (hQ _ (by simp only [go_sem, q1, q2, q3, Bool.true_and]; rfl) (fun id ob h => hold id ob (hw.keep h (by decide) _))).1
def dHp (d : List Dd) : Nat → Option AObj := mkHp [(0, .cells [.sl (ddl d)]), (1, .cells [.fn (.func 39) [] [.ptr 0 0]]), (2, .cells [.fn (.func 41) [] [.ptr 1 0]])]
theorem dHp_wf (d : List Dd) : WF (dHp d) 3 := WF.of_list (by decide) (by simp [AObj.ids, AV.ids, AV.idsL, go_sem]) (fun id hid => by
 rcases (by omega : id = 0 ∨ id = 1 ∨ id = 2) with rfl | rfl | rfl <;> simp [mkHp, updo])
theorem datas_call (d : List Dd) (hd : dSz d ≤ 2 ^ 30) : PCall Try.prog 25 [.sl (ddl d)] (.bool (dtB d)) := by
 have hw := dHp_wf d
 have hx := all43_hc d 44 [.ptr 2 0] (dHp d) 3 (ddB d.length) (by simp [AV.idsL, AV.ids]) hw (by decide) (by have := dSz_len d; omega) (fun x h => c44_hc d x (dHp d) 3 0 1 2 hw (by decide) rfl rfl rfl (by have := (dSz_vs h).1; omega) fun v hv => by
  have := (dSz_vs h).2 v hv
  exact ⟨by omega, fun t ht => by have := this.2 t ht; omega⟩)
 unfold dtB
 refine PCall.intro Try.func25 rfl isf25 (by simp [Try.f25]) (by simp [AV.cloL, AV.clo]) fun E Q hE hN hQ => K_start ?_
 cases q1 : decide ((d.length : Int) ≤ 200)
 ·repeat' (first | apply nx | refine Kq_exit_ne (by decide) ?_ | rw [wrap64 (by omega) (by omega)] | ((first | refine hK _ ?_ | refine hKp _ _ ?_); clear hK hKp K Kp; try clear hanc anc) | ((with_reducible refine And.intro ?_ ?_); (focus (first | trivial | omega | (simp only [Fits]; omega) | assumption | (rw [hanc]; rfl)))) | ((first | refine K_regA hE fun K Kp hK hKp => ?_ | refine K_drwA false mixed hE fun K Kp hK hKp anc hanc => ?_); simp only [go_sem, q1]) | ((first | refine onG_split_t (fun hg => ?_) (fun hg => ?_) | refine onG_split_f (fun hg => ?_) (fun hg => ?_)) <;> simp only [go_sem, q1, hg]) | (refine K_condA (fun hc => ?_) (fun hc => ?_) <;> try (exact absurd hc (by decide))) | (refine K_ret ?_; refine (hQ _ ⟨_, by (try simp only [go_sem, ↓reduceIte, Nat.reduceEqDiff]); rfl, by simp [go_sem], ?_, by first | rfl | assumption⟩).1))
  simp only [AV.snap, q1, Bool.false_and]
 ·repeat' (first | apply nx | refine Kq_exit_ne (by decide) ?_ | rw [wrap64 (by omega) (by omega)] | ((first | refine hK _ ?_ | refine hKp _ _ ?_); clear hK hKp K Kp; try clear hanc anc) | ((with_reducible refine And.intro ?_ ?_); (focus (first | trivial | omega | (simp only [Fits]; omega) | assumption | (rw [hanc]; rfl)))) | ((first | refine K_regA hE fun K Kp hK hKp => ?_ | refine K_drwA true mixed hE fun K Kp hK hKp anc hanc => ?_ | refine K_drwA false mixed hE fun K Kp hK hKp anc hanc => ?_); simp only [go_sem, q1]) | ((first | refine onG_split_t (fun hg => ?_) (fun hg => ?_) | refine onG_split_f (fun hg => ?_) (fun hg => ?_)) <;> simp only [go_sem, q1, hg]) | (refine K_condA (fun hc => ?_) (fun hc => ?_) <;> try (exact absurd hc (by decide))))
  refine Hold.mk (HC.use hx (fun i => if i = 1 then 3145728 else if i = 2 then 6291456 else i) (by simp [AV.renL, AV.ren, go_sem]) (by simp [go_sem, AV.idsL, AV.ids]) (mkHp_allP (by simp [go_sem, AObj.ren, AV.renL, AV.ren])) (fun i j _ _ (e : (if i = 1 then 3145728 else if i = 2 then 6291456 else i) = (if j = 1 then 3145728 else if j = 2 then 6291456 else j)) => by split at e <;> split at e <;> (try split at e) <;> (try split at e) <;> omega) ?_)
  rintro hpn hold
  simp only [go_sem]
  refine hK _ ?_; clear hK hKp K Kp; try clear hanc anc
  repeat (first | refine Kq_norm_code ?_ | refine Kq_norm_blk ?_ | refine Kq_norm_lp ?_)
  repeat' (first | apply nx | refine Kq_exit_ne (by decide) ?_ | rw [wrap64 (by omega) (by omega)] | ((first | refine hK _ ?_ | refine hKp _ _ ?_); clear hK hKp K Kp; try clear hanc anc) | ((with_reducible refine And.intro ?_ ?_); (focus (first | trivial | omega | (simp only [Fits]; omega) | assumption | (rw [hanc]; rfl)))) | ((first | refine K_regA hE fun K Kp hK hKp => ?_ | refine K_drwA false mixed hE fun K Kp hK hKp anc hanc => ?_); simp only [go_sem]) | ((first | refine onG_split_t (fun hg => ?_) (fun hg => ?_) | refine onG_split_f (fun hg => ?_) (fun hg => ?_)) <;> simp only [go_sem, hg]) | (refine K_condA (fun hc => ?_) (fun hc => ?_) <;> try (exact absurd hc (by decide))) | (refine K_ret ?_; refine (hQ _ ⟨_, by (try simp only [go_sem, ↓reduceIte, Nat.reduceEqDiff]); rfl, by simp [go_sem], ?_, by first | rfl | assumption⟩).1))
  simp only [AV.snap, q1, Bool.true_and]
end Go.Proofs.Ytlhhahocjfgmdaa
