/- A part of the proof: an abstract machine for the walks, and what the walked functions compute. -/
import Derived.Test.YtlhhahocjfgmdaaPd
import Derived.Test.YtlhhahocjfgmdaaPa
set_option linter.unusedVariables false
set_option linter.unusedSimpArgs false
set_option linter.unusedSimpArgs false
set_option linter.unusedVariables false
set_option maxHeartbeats 4000000
set_option maxRecDepth 100000
namespace Go.Proofs.Ytlhhahocjfgmdaa
open Nat (reduceAdd reduceMul reduceEqDiff reduceLT reduceLeDiff reduceSub reduceDiv)
open Int (reduceBNe reduceLE reduceEq)
open Go.Am Go.Proofs Go.Hv Go.Mv
open Classical
attribute [local irreducible] AW CallP CallB
theorem c52_hc (l : List Mg) (v : Vl) (hp : Nat → Option AObj) (np a : Nat) (hw : WF hp np) (ha : hp a = some (.cells [.sl (mgl l)])) (hc0 : PCall Try.prog 28 [.sl (mgl l), v.av] (.bool (fitB l v))) : HC Try.prog 52 [v.av, .ptr a 0] hp np (.bool (fitB l v)) := by
 have hne : (a = 1000000) = False := eq_false (by have := hw.lt ha; have := hw.2.2; omega)
 rw [Vl.av_eq] at hc0 ⊢
 refine HC.intro hw rfl Try.func52 rfl isf52 (by simp [Try.f52]) fun E Q hE hN hQ => K_start ?_
 repeat' (first | apply nx | refine Kq_exit_ne (by decide) ?_ | rw [wrap64 (by omega) (by omega)] | ((first | refine hK _ ?_ | refine hKp _ _ ?_); clear hK hKp K Kp; try clear hanc anc) | ((with_reducible refine And.intro ?_ ?_); (focus (first | trivial | omega | (simp only [Fits]; omega) | assumption | (rw [hanc]; rfl)))) | ((first | refine K_regA hE fun K Kp hK hKp => ?_ | refine K_drwA true mixed hE fun K Kp hK hKp anc hanc => ?_ | refine K_drwA false mixed hE fun K Kp hK hKp anc hanc => ?_ | ((first | apply CallP_mk | apply CallB_mk); (focus (simp only [go_sem] <;> rfl)); (focus (exact hc0)); (focus (first | (simp [go_sem]; done) | (simp [go_sem, CloRow, AV.cells, AV.clo]; done))); (focus (first | exact .inl rfl | (right; simp [go_sem]))))); simp only [go_sem, hne, ha]) | ((first | refine onG_split_t (fun hg => ?_) (fun hg => ?_) | refine onG_split_f (fun hg => ?_) (fun hg => ?_)) <;> simp only [go_sem, hne, ha, hg]) | (refine K_condA (fun hc => ?_) (fun hc => ?_) <;> try (exact absurd hc (by decide))))
 exact K_ret (hQ _ (by simp only [go_sem]; rfl) (fun id ob h => hw.keep h (by decide) _)).1
theorem fits_call : ∀ (N : Nat) (v : Vl) (l : List Mg), v.sz < N → N ≤ 2 ^ 40 → (∀ x, x ∈ l → ∀ f, f ∈ x.fss → f.length ≤ 2 ^ 40) → PCall Try.prog 28 [.sl (mgl l), v.av] (.bool (fitB l v)) := by
 intro N
 induction N with
 | zero => intro v l h; omega
 | succ N ih =>
 intro v l hn hN hl
 have hsz := v.sz_eq
 have hlf := Vl.len_le v.fs
 have hw : WF (mkHp [(0, .cells [.sl (mgl l)])]) 1 := WF.of_list (by decide) (by simp [AObj.ids, AV.ids, AV.idsL, go_sem]) (fun id hid => by
  obtain rfl : id = 0 := by omega
  simp [mkHp, updo])
 have hx := all51_hc v.fs 52 [.ptr 0 0] _ 1 (fitB l) (by simp [AV.idsL, AV.ids]) hw (by decide) (by omega) (fun f hf => c52_hc l f _ 1 0 hw rfl (ih f l (by have := Vl.sz_mem hf; omega) (by omega) hl))
 have e0 : v.fs.all (fitB l) = fitL l v.fs := by
  cases e : fitL l v.fs
  ·cases e2 : v.fs.all (fitB l)
   ·rfl
   ·rw [List.all_eq_true] at e2
    rw [(fitL_iff l v.fs).2 e2] at e; cases e
  ·rw [fitL_iff] at e
   rw [List.all_eq_true]; exact e
 rw [e0] at hx
 cases v with | mk k id var n fs ex p q =>
 simp only [Vl.fs] at hsz hlf hx
 rw [Vl.av, fitB]
 by_cases k2 : k = 2
 case neg =>
  have q1 : (k != 2) = true := by simp [k2]
  rw [if_neg k2]
  refine PCall.intro Try.func28 rfl isf28 (by simp [Try.f28]) (by simp [AV.cloL, AV.clo]) fun E Q hE hN hQ => K_start ?_
  repeat' (first | apply nx | refine Kq_exit_ne (by decide) ?_ | rw [wrap64 (by omega) (by omega)] | ((first | refine hK _ ?_ | refine hKp _ _ ?_); clear hK hKp K Kp; try clear hanc anc) | ((with_reducible refine And.intro ?_ ?_); (focus (first | trivial | omega | (simp only [Fits]; omega) | assumption | (rw [hanc]; rfl)))) | ((first | refine K_regA hE fun K Kp hK hKp => ?_ | refine K_drwA false mixed hE fun K Kp hK hKp anc hanc => ?_); simp only [go_sem, q1]) | ((first | refine onG_split_t (fun hg => ?_) (fun hg => ?_) | refine onG_split_f (fun hg => ?_) (fun hg => ?_)) <;> simp only [go_sem, q1, hg]) | (refine K_condA (fun hc => ?_) (fun hc => ?_) <;> try (exact absurd hc (by decide))) | (refine K_ret ?_; refine (hQ _ ⟨_, by (try simp only [go_sem, ↓reduceIte, Nat.reduceEqDiff]); rfl, by simp [go_sem], ?_, by first | rfl | assumption⟩).1))
  simp only [AV.snap]
 subst k2
 rw [if_pos rfl]
 by_cases h1 : 0 ≤ id
 case neg =>
  have q1 : decide (id < 0) = true := by simp; omega
  rw [at_neg _ (by omega)]
  refine PCall.intro Try.func28 rfl isf28 (by simp [Try.f28]) (by simp [AV.cloL, AV.clo]) fun E Q hE hN hQ => K_start ?_
  repeat' (first | apply nx | refine Kq_exit_ne (by decide) ?_ | rw [wrap64 (by omega) (by omega)] | ((first | refine hK _ ?_ | refine hKp _ _ ?_); clear hK hKp K Kp; try clear hanc anc) | ((with_reducible refine And.intro ?_ ?_); (focus (first | trivial | omega | (simp only [Fits]; omega) | assumption | (rw [hanc]; rfl)))) | ((first | refine K_regA hE fun K Kp hK hKp => ?_ | refine K_drwA false mixed hE fun K Kp hK hKp anc hanc => ?_); simp only [go_sem, q1]) | ((first | refine onG_split_t (fun hg => ?_) (fun hg => ?_) | refine onG_split_f (fun hg => ?_) (fun hg => ?_)) <;> simp only [go_sem, q1, hg]) | (refine K_condA (fun hc => ?_) (fun hc => ?_) <;> try (exact absurd hc (by decide))) | (refine K_ret ?_; refine (hQ _ ⟨_, by (try simp only [go_sem, ↓reduceIte, Nat.reduceEqDiff]); rfl, by simp [go_sem], ?_, by first | rfl | assumption⟩).1))
  simp only [AV.snap]
 have q1 : decide (id < 0) = false := by simp; omega
 obtain ⟨i, rfl⟩ := Int.eq_ofNat_of_zero_le h1
 rw [at_nat]
 by_cases h2 : i < l.length
 case neg =>
  have q2 : decide ((i : Int) ≥ (l.length : Int)) = true := by simp; omega
  rw [List.getElem?_eq_none (by omega)]
  refine PCall.intro Try.func28 rfl isf28 (by simp [Try.f28]) (by simp [AV.cloL, AV.clo]) fun E Q hE hN hQ => K_start ?_
  repeat' (first | apply nx | refine Kq_exit_ne (by decide) ?_ | rw [wrap64 (by omega) (by omega)] | ((first | refine hK _ ?_ | refine hKp _ _ ?_); clear hK hKp K Kp; try clear hanc anc) | ((with_reducible refine And.intro ?_ ?_); (focus (first | trivial | omega | (simp only [Fits]; omega) | assumption | (rw [hanc]; rfl)))) | ((first | refine K_regA hE fun K Kp hK hKp => ?_ | refine K_drwA false mixed hE fun K Kp hK hKp anc hanc => ?_); simp only [go_sem, q1, q2]) | ((first | refine onG_split_t (fun hg => ?_) (fun hg => ?_) | refine onG_split_f (fun hg => ?_) (fun hg => ?_)) <;> simp only [go_sem, q1, q2, hg]) | (refine K_condA (fun hc => ?_) (fun hc => ?_) <;> try (exact absurd hc (by decide))) | (refine K_ret ?_; refine (hQ _ ⟨_, by (try simp only [go_sem, ↓reduceIte, Nat.reduceEqDiff]); rfl, by simp [go_sem], ?_, by first | rfl | assumption⟩).1))
  simp only [AV.snap]
 have q2 : decide ((i : Int) ≥ (l.length : Int)) = false := by simp; omega
 obtain ⟨x, hx1⟩ := get?_of h2
 rw [hx1]
 simp only
 by_cases h3 : 0 ≤ var
 case neg =>
  have q3 : decide (var < 0) = true := by simp; omega
  rw [at_neg _ (by omega)]
  simp only
  refine PCall.intro Try.func28 rfl isf28 (by simp [Try.f28]) (by simp [AV.cloL, AV.clo]) fun E Q hE hN hQ => K_start ?_
  repeat' (first | apply nx | refine Kq_exit_ne (by decide) ?_ | rw [wrap64 (by omega) (by omega)] | ((first | refine hK _ ?_ | refine hKp _ _ ?_); clear hK hKp K Kp; try clear hanc anc) | ((with_reducible refine And.intro ?_ ?_); (focus (first | trivial | omega | (simp only [Fits]; omega) | assumption | (rw [hanc]; rfl)))) | ((first | refine K_regA hE fun K Kp hK hKp => ?_ | refine K_drwA false mixed hE fun K Kp hK hKp anc hanc => ?_); simp only [go_sem, q1, q2, q3]) | ((first | refine onG_split_t (fun hg => ?_) (fun hg => ?_) | refine onG_split_f (fun hg => ?_) (fun hg => ?_)) <;> simp only [go_sem, q1, q2, q3, hg]) | (refine K_condA (fun hc => ?_) (fun hc => ?_) <;> try (exact absurd hc (by decide))) | (refine K_ret ?_; refine (hQ _ ⟨_, by (try simp only [go_sem, ↓reduceIte, Nat.reduceEqDiff]); rfl, by simp [go_sem], ?_, by first | rfl | assumption⟩).1))
  simp only [AV.snap]
 have q3 : decide (var < 0) = false := by simp; omega
 obtain ⟨m, rfl⟩ := Int.eq_ofNat_of_zero_le h3
 rw [at_nat, at_nat]
 by_cases h4 : m < x.vars.length ∧ m < x.fss.length
 case neg =>
  have q4 : decide ((m : Int) ≥ min (x.vars.length : Int) (x.fss.length : Int)) = true := by simp; omega
  have hr : ∀ r : Bool, r = false → PCall Try.prog 28 [.sl (mgl l), .agg [.i 2, .i i, .i m, .i n, .sl (Vl.avL fs), .bool ex, .sl (il p), .sl (il q)]] (.bool r) := by
   rintro r rfl
   refine PCall.intro Try.func28 rfl isf28 (by simp [Try.f28]) (by simp [AV.cloL, AV.clo]) fun E Q hE hN hQ => K_start ?_
   repeat' (first | apply nx | refine Kq_exit_ne (by decide) ?_ | rw [wrap64 (by omega) (by omega)] | ((first | refine hK _ ?_ | refine hKp _ _ ?_); clear hK hKp K Kp; try clear hanc anc) | ((with_reducible refine And.intro ?_ ?_); (focus (first | trivial | omega | (simp only [Fits]; omega) | assumption | (rw [hanc]; rfl)))) | ((first | refine K_regA hE fun K Kp hK hKp => ?_ | refine K_drwA false mixed hE fun K Kp hK hKp anc hanc => ?_); simp only [go_sem, q1, q2, q3, q4, hx1, Mg.av, Mg.cs_eq]) | ((first | refine onG_split_t (fun hg => ?_) (fun hg => ?_) | refine onG_split_f (fun hg => ?_) (fun hg => ?_)) <;> simp only [go_sem, q1, q2, q3, q4, hx1, Mg.av, Mg.cs_eq, hg]) | (refine K_condA (fun hc => ?_) (fun hc => ?_) <;> try (exact absurd hc (by decide))) | (refine K_ret ?_; refine (hQ _ ⟨_, by (try simp only [go_sem, ↓reduceIte, Nat.reduceEqDiff]); rfl, by simp [go_sem], ?_, by first | rfl | assumption⟩).1))
   simp only [AV.snap]
  refine hr _ ?_
  rcases Nat.lt_or_ge m x.vars.length with g | g
  ·obtain ⟨y, hy⟩ := get?_of g
   rw [hy, List.getElem?_eq_none (show x.fss.length ≤ m by omega)]
  ·rw [List.getElem?_eq_none g]
 obtain ⟨h4, h5⟩ := h4
 have q4 : decide ((m : Int) ≥ min (x.vars.length : Int) (x.fss.length : Int)) = false := by simp; omega
 obtain ⟨y, hy⟩ := get?_of h4
 obtain ⟨f, hf⟩ := get?_of h5
 rw [hy, hf]
 simp only
 have hd := diff_call f fs.length (hl x (List.mem_of_getElem? hx1) f (List.mem_of_getElem? hf))
 refine PCall.intro Try.func28 rfl isf28 (by simp [Try.f28]) (by simp [AV.cloL, AV.clo]) fun E Q hE hN hQ => K_start ?_
 cases q5 : diffB f fs.length
 ·rw [q5] at hd hQ
  repeat' (first | apply nx | refine Kq_exit_ne (by decide) ?_ | rw [wrap64 (by omega) (by omega)] | ((first | refine hK _ ?_ | refine hKp _ _ ?_); clear hK hKp K Kp; try clear hanc anc) | ((with_reducible refine And.intro ?_ ?_); (focus (first | trivial | omega | (simp only [Fits]; omega) | assumption | (rw [hanc]; rfl)))) | ((first | refine K_regA hE fun K Kp hK hKp => ?_ | refine K_drwA false mixed hE fun K Kp hK hKp anc hanc => ?_ | ((first | apply CallP_mk | apply CallB_mk); (focus (simp only [go_sem] <;> rfl)); (focus (exact hd)); (focus (first | (simp [go_sem]; done) | (simp [go_sem, CloRow, AV.cells, AV.clo]; done))); (focus (first | exact .inl rfl | (right; simp [go_sem]))))); simp only [go_sem, q1, q2, q3, q4, hx1, hf, Mg.av, Mg.cs_eq]) | ((first | refine onG_split_t (fun hg => ?_) (fun hg => ?_) | refine onG_split_f (fun hg => ?_) (fun hg => ?_)) <;> simp only [go_sem, q1, q2, q3, q4, hx1, hf, Mg.av, Mg.cs_eq, hg]) | (refine K_condA (fun hc => ?_) (fun hc => ?_) <;> try (exact absurd hc (by decide))) | (refine K_ret ?_; refine (hQ _ ⟨_, by (try simp only [go_sem, ↓reduceIte, Nat.reduceEqDiff]); rfl, by simp [go_sem], ?_, by first | rfl | assumption⟩).1))
  simp only [AV.snap, Bool.false_and]
 ·rw [q5] at hd hQ
  repeat' (first | apply nx | refine Kq_exit_ne (by decide) ?_ | rw [wrap64 (by omega) (by omega)] | ((first | refine hK _ ?_ | refine hKp _ _ ?_); clear hK hKp K Kp; try clear hanc anc) | ((with_reducible refine And.intro ?_ ?_); (focus (first | trivial | omega | (simp only [Fits]; omega) | assumption | (rw [hanc]; rfl)))) | ((first | refine K_regA hE fun K Kp hK hKp => ?_ | refine K_drwA true mixed hE fun K Kp hK hKp anc hanc => ?_ | refine K_drwA false mixed hE fun K Kp hK hKp anc hanc => ?_ | ((first | apply CallP_mk | apply CallB_mk); (focus (simp only [go_sem] <;> rfl)); (focus (exact hd)); (focus (first | (simp [go_sem]; done) | (simp [go_sem, CloRow, AV.cells, AV.clo]; done))); (focus (first | exact .inl rfl | (right; simp [go_sem]))))); simp only [go_sem, q1, q2, q3, q4, hx1, hf, Mg.av, Mg.cs_eq]) | ((first | refine onG_split_t (fun hg => ?_) (fun hg => ?_) | refine onG_split_f (fun hg => ?_) (fun hg => ?_)) <;> simp only [go_sem, q1, q2, q3, q4, hx1, hf, Mg.av, Mg.cs_eq, hg]) | (refine K_condA (fun hc => ?_) (fun hc => ?_) <;> try (exact absurd hc (by decide))))
  refine Hold.mk (HC.use hx (fun i => i) (by rw [renL_id]) (by simp [go_sem, AV.idsL, AV.ids]) (mkHp_allP (by simp [go_sem, AObj.ren, AV.renL, AV.ren])) (fun _ _ _ _ e => e) ?_)
  rintro hpn hold
  simp only [go_sem]
  try (refine ⟨by rw [hanc]; rfl, ?_⟩)
  refine hK _ ?_; clear hK hKp K Kp; try clear hanc anc
  repeat (first | refine Kq_norm_code ?_ | refine Kq_norm_blk ?_ | refine Kq_norm_lp ?_)
  repeat' (first | apply nx | refine Kq_exit_ne (by decide) ?_ | rw [wrap64 (by omega) (by omega)] | ((first | refine hK _ ?_ | refine hKp _ _ ?_); clear hK hKp K Kp; try clear hanc anc) | ((with_reducible refine And.intro ?_ ?_); (focus (first | trivial | omega | (simp only [Fits]; omega) | assumption | (rw [hanc]; rfl)))) | ((first | refine K_regA hE fun K Kp hK hKp => ?_ | refine K_drwA false mixed hE fun K Kp hK hKp anc hanc => ?_); simp only [go_sem]) | ((first | refine onG_split_t (fun hg => ?_) (fun hg => ?_) | refine onG_split_f (fun hg => ?_) (fun hg => ?_)) <;> simp only [go_sem, hg]) | (refine K_condA (fun hc => ?_) (fun hc => ?_) <;> try (exact absurd hc (by decide))) | (refine K_ret ?_; refine (hQ _ ⟨_, by (try simp only [go_sem, ↓reduceIte, Nat.reduceEqDiff]); rfl, by simp [go_sem], ?_, by first | rfl | assumption⟩).1))
  simp only [AV.snap, Bool.true_and]
def pidx (n : Int) : List Int → Nat → Int
 | [], _ => -1
 | x :: l, i => if n = x then i else pidx n l (i + 1)
theorem pidx_ge (n : Int) : ∀ (l : List Int) (i : Nat), decide (0 ≤ pidx n l i) = decide (n ∈ l)
 | [], i => by simp [pidx]
 | x :: l, i => by
  rw [pidx]
  by_cases h : n = x
  ·rw [if_pos h]; simp [h]
  ·rw [if_neg h, pidx_ge n l (i + 1)]; simp [h]
theorem index_call (l : List Int) (n : Int) (hl : l.length ≤ 2 ^ 40) : PCall Try.prog 53 [.sl (il l), .i n] (.i (pidx n l 0)) := by
 refine PCall.intro Try.func53 rfl isf53 (by simp [Try.f53]) (by simp [AV.cloL, AV.clo]) fun E Q hE hN hQ => K_start ?_
 repeat' (first | apply nx | refine Kq_exit_ne (by decide) ?_ | rw [wrap64 (by omega) (by omega)] | ((first | refine hK _ ?_ | refine hKp _ _ ?_); clear hK hKp K Kp; try clear hanc anc) | ((with_reducible refine And.intro ?_ ?_); (focus (first | trivial | omega | (simp only [Fits]; omega) | assumption | (rw [hanc]; rfl)))) | ((first | refine K_regA hE fun K Kp hK hKp => ?_ | refine K_drwA false mixed hE fun K Kp hK hKp anc hanc => ?_); simp only [go_sem, il_len]) | ((first | refine onG_split_t (fun hg => ?_) (fun hg => ?_) | refine onG_split_f (fun hg => ?_) (fun hg => ?_)) <;> simp only [go_sem, il_len, hg]) | (refine K_condA (fun hc => ?_) (fun hc => ?_) <;> try (exact absurd hc (by decide))) | (refine K_ret ?_; refine (hQ _ ⟨_, by (try simp only [go_sem, ↓reduceIte, Nat.reduceEqDiff]); rfl, by simp [go_sem], ?_, by first | rfl | assumption⟩).1))
 refine K_loop (X := Nat) (fun i => i ≤ l.length ∧ pidx n l 0 = pidx n (l.drop i) i) (fun i => mkSt [(0, .sl (il l)), (1, .i n), (7, .i l.length), (8, AV.i i)] [] 0) (fun i => l.length - i) 0 ⟨Nat.zero_le _, rfl⟩ (fun i => i) (by refine ent_mk (by simp [go_sem]) (by simp [go_sem]) (by simp) (by simp [hN])) ?_
 rintro i ⟨hi, ht⟩
 by_cases hlt : i < l.length
 ·obtain ⟨x, hx⟩ := get?_of hlt
  rw [drop_of hx, pidx] at ht
  by_cases hxy : n = x
  ·have q1 : (n == x) = true := by simp [hxy]
   rw [if_pos hxy] at ht
   repeat' (first | apply nx | refine Kq_exit_ne (by decide) ?_ | rw [wrap64 (by omega) (by omega)] | ((first | refine hK _ ?_ | refine hKp _ _ ?_); clear hK hKp K Kp; try clear hanc anc) | ((with_reducible refine And.intro ?_ ?_); (focus (first | trivial | omega | (simp only [Fits]; omega) | assumption | (rw [hanc]; rfl)))) | ((first | refine K_regA hE fun K Kp hK hKp => ?_ | refine K_drwA false mixed hE fun K Kp hK hKp anc hanc => ?_); simp only [go_sem, lt_dec hlt, hx, q1]) | ((first | refine onG_split_t (fun hg => ?_) (fun hg => ?_) | refine onG_split_f (fun hg => ?_) (fun hg => ?_)) <;> simp only [go_sem, lt_dec hlt, hx, q1, hg]) | (refine K_condA (fun hc => ?_) (fun hc => ?_) <;> try (exact absurd hc (by decide))) | (refine K_ret ?_; refine (hQ _ ⟨_, by (try simp only [go_sem, ↓reduceIte, Nat.reduceEqDiff]); rfl, by simp [go_sem], ?_, by first | rfl | assumption⟩).1))
   simp [AV.snap, ht]
  ·have q1 : (n == x) = false := by simp [hxy]
   rw [if_neg hxy] at ht
   repeat' (first | apply nx | refine Kq_exit_ne (by decide) ?_ | rw [wrap64 (by omega) (by omega)] | ((first | refine hK _ ?_ | refine hKp _ _ ?_); clear hK hKp K Kp; try clear hanc anc) | ((with_reducible refine And.intro ?_ ?_); (focus (first | trivial | omega | (simp only [Fits]; omega) | assumption | (rw [hanc]; rfl)))) | ((first | refine K_regA hE fun K Kp hK hKp => ?_ | refine K_drwA false mixed hE fun K Kp hK hKp anc hanc => ?_); simp only [go_sem, lt_dec hlt, hx, q1]) | ((first | refine onG_split_t (fun hg => ?_) (fun hg => ?_) | refine onG_split_f (fun hg => ?_) (fun hg => ?_)) <;> simp only [go_sem, lt_dec hlt, hx, q1, hg]) | (refine K_condA (fun hc => ?_) (fun hc => ?_) <;> try (exact absurd hc (by decide))) | (refine K_ret ?_; refine (hQ _ ⟨_, by (try simp only [go_sem, ↓reduceIte, Nat.reduceEqDiff]); rfl, by simp [go_sem], ?_, by first | rfl | assumption⟩).1))
   exact ⟨i + 1, ⟨by omega, ht⟩, by omega, fun i => i, by refine ent_mk (by simp [go_sem]) (by simp [go_sem]) (by simp) (by simp [hN])⟩
 ·obtain rfl : i = l.length := by omega
  rw [List.drop_length, pidx] at ht
  repeat' (first | apply nx | refine Kq_exit_ne (by decide) ?_ | rw [wrap64 (by omega) (by omega)] | ((first | refine hK _ ?_ | refine hKp _ _ ?_); clear hK hKp K Kp; try clear hanc anc) | ((with_reducible refine And.intro ?_ ?_); (focus (first | trivial | omega | (simp only [Fits]; omega) | assumption | (rw [hanc]; rfl)))) | ((first | refine K_regA hE fun K Kp hK hKp => ?_ | refine K_drwA false mixed hE fun K Kp hK hKp anc hanc => ?_); simp only [go_sem, ge_dec]) | ((first | refine onG_split_t (fun hg => ?_) (fun hg => ?_) | refine onG_split_f (fun hg => ?_) (fun hg => ?_)) <;> simp only [go_sem, ge_dec, hg]) | (refine K_condA (fun hc => ?_) (fun hc => ?_) <;> try (exact absurd hc (by decide))) | (refine K_ret ?_; refine (hQ _ ⟨_, by (try simp only [go_sem, ↓reduceIte, Nat.reduceEqDiff]); rfl, by simp [go_sem], ?_, by first | rfl | assumption⟩).1))
  simp [AV.snap, ht]
theorem contains_call (l : List Int) (n : Int) (hl : l.length ≤ 2 ^ 40) : PCall Try.prog 29 [.sl (il l), .i n] (.bool (decide (n ∈ l))) := by
 have hc0 := index_call l n hl
 have q := pidx_ge n l 0
 generalize pidx n l 0 = z at hc0 q
 have q' : decide (z ≥ 0) = decide (n ∈ l) := q
 refine PCall.intro Try.func29 rfl isf29 (by simp [Try.f29]) (by simp [AV.cloL, AV.clo]) fun E Q hE hN hQ => K_start ?_
 repeat' (first | apply nx | refine Kq_exit_ne (by decide) ?_ | rw [wrap64 (by omega) (by omega)] | ((first | refine hK _ ?_ | refine hKp _ _ ?_); clear hK hKp K Kp; try clear hanc anc) | ((with_reducible refine And.intro ?_ ?_); (focus (first | trivial | omega | (simp only [Fits]; omega) | assumption | (rw [hanc]; rfl)))) | ((first | refine K_regA hE fun K Kp hK hKp => ?_ | refine K_drwA false mixed hE fun K Kp hK hKp anc hanc => ?_ | ((first | apply CallP_mk | apply CallB_mk); (focus (simp only [go_sem] <;> rfl)); (focus (exact hc0)); (focus (first | (simp [go_sem]; done) | (simp [go_sem, CloRow, AV.cells, AV.clo]; done))); (focus (first | exact .inl rfl | (right; simp [go_sem]))))); simp only [go_sem, q']) | ((first | refine onG_split_t (fun hg => ?_) (fun hg => ?_) | refine onG_split_f (fun hg => ?_) (fun hg => ?_)) <;> simp only [go_sem, q', hg]) | (refine K_condA (fun hc => ?_) (fun hc => ?_) <;> try (exact absurd hc (by decide))) | (refine K_ret ?_; refine (hQ _ ⟨_, by (try simp only [go_sem, ↓reduceIte, Nat.reduceEqDiff]); rfl, by simp [go_sem], ?_, by first | rfl | assumption⟩).1))
 simp only [AV.snap]
end Go.Proofs.Ytlhhahocjfgmdaa

set_option linter.unusedSimpArgs false
set_option linter.unusedVariables false
set_option maxHeartbeats 4000000
set_option maxRecDepth 100000
namespace Go.Proofs.Ytlhhahocjfgmdaa
open Nat (reduceAdd reduceMul reduceEqDiff reduceLT reduceLeDiff reduceSub reduceDiv)
open Int (reduceBNe reduceLE reduceEq)
open Go.Am Go.Proofs Go.Hv Go.Mv
open Classical
attribute [local irreducible] AW CallP CallB
def zeroV : Vl := .mk 0 0 0 0 [] false [] []
def resV (l : List Mg) (v : Vl) : Vl × List Vl := if fitB l v then valM l v else (zeroV, [])
def MgB (l : List Mg) : Prop := l.length ≤ 2 ^ 40 ∧ ∀ x, x ∈ l → x.vars.length ≤ 2 ^ 40 ∧ x.fss.length ≤ 2 ^ 40 ∧ ∀ f, f ∈ x.fss → f.length ≤ 2 ^ 40 ∧ ∀ j, j ∈ f → -2 ^ 62 ≤ j
def MgL (l : List Mg) : Prop := l.length ≤ 2 ^ 40 ∧ ∀ x, x ∈ l → x.vars.length ≤ 2 ^ 40 ∧ x.fss.length ≤ 2 ^ 40 ∧ ∀ f, f ∈ x.fss → f.length ≤ 2 ^ 40
theorem MgB.toL {l : List Mg} (h : MgB l) : MgL l := ⟨h.1, fun x hx => ⟨(h.2 x hx).1, (h.2 x hx).2.1, fun f hf => ((h.2 x hx).2.2 f hf).1⟩⟩
theorem lost_step {f : List Int} {fs : List Vl} {i : Nat} {x : Vl} (h : fs[i]? = some x) : lost f (fs.take (i + 1)) = lost f (fs.take i) ++ (if (i : Int) ∈ f then [] else [x]) := by
 have hl : i < fs.length := (List.getElem?_eq_some_iff.1 h).1
 have e : fs.take (i + 1) = fs.take i ++ [x] := by rw [List.take_add_one, h]; rfl
 unfold lost
 rw [e, List.zipIdx_append, List.filter_append, List.map_append, List.length_take, Nat.min_eq_left (Nat.le_of_lt hl)]
 congr 1
 by_cases hi : (i : Int) ∈ f
 ·simp [hi]
 ·simp [hi]
theorem pick_step {f : List Int} {r : List (Vl × List Vl)} {j : Nat} {m : Int} (h : f[j]? = some m) : pick (f.take (j + 1)) r = pick (f.take j) r ++ [match at? r m with | some p => p.1 | none => numV (-1 - m)] := by
 unfold pick
 rw [List.take_add_one, h, List.map_append]; rfl
theorem later_step {f : List Int} {r : List (Vl × List Vl)} {j : Nat} {m : Int} (h : f[j]? = some m) : later (f.take (j + 1)) r = later (f.take j) r ++ (match at? r m with | some p => p.2 | none => []) := by
 unfold later
 rw [List.take_add_one, h, List.flatMap_append]
 congr 1
 cases h : at? r m <;> simp [h]
theorem avL_app1 (l : List Vl) (x : Vl) : Vl.avL l ++ [.agg [.i x.kind, .i x.id, .i x.var, .i x.n, .sl (Vl.avL x.fs), .bool x.excl, .sl (il x.path), .sl (il x.loans)]] = Vl.avL (l ++ [x]) := by
 simp [Vl.avL_eq]
 exact (Vl.av_eq x).symm ▸ by rw [Vl.avL_eq]
theorem avL_app2 (l m : List Vl) : Vl.avL l ++ Vl.avL m = Vl.avL (l ++ m) := by simp [Vl.avL_eq]
theorem snp_app {F : Nat → Option AObj} {x x' : AV} (h : Snp F x x') (l : List AV) (i : Nat) (hi : i < (l ++ [x]).length) : Snp F ((l ++ [x]).getD i default) ((l ++ [x']).getD i default) := by
 by_cases e : i < l.length
 ·simp only [List.getD_eq_getElem?_getD, List.getElem?_append_left e]
  exact .inl rfl
 ·have : i = l.length := by simp at hi; omega
  subst this
  simpa [List.getD_eq_getElem?_getD] using h
def IVa (l : List Mg) (f : List Int) (fs : List Vl) (ex : Bool) (p q : List Int) (x : Mg) (y n : Int) (i m : Nat) (D : Nat → Bool) (σ : St) : Prop :=
 σ.nx = 4 ∧ σ.fr 0 = some (.sl (mgl l)) ∧ σ.fr 3 = some (.ptr 0 0) ∧ σ.fr 4 = some (.ptr 1 0) ∧ σ.fr 6 = some (.ptr 3 0) ∧ σ.fr 7 = some (.sl (il f)) ∧ σ.fr 8 = some (.ptr 2 0) ∧ σ.hp 0 = some (.cells [.i 2, .i i, .i m, .i n, .sl (Vl.avL fs), .bool ex, .sl (il p), .sl (il q)]) ∧ σ.hp 1 = some (.cells [.i 0, .i 0, .i 0, .i 0, .nilsl, .bool false, .nilsl, .nilsl]) ∧ (D 9 = false → σ.hp 2 = some (.cells [.i 2, .i i, .i m, .i n, .sl (Vl.avL fs), .bool ex, .sl (il p), .sl (il q)])) ∧ σ.hp 3 = some (.cells [.i x.data, .sl (il x.vars), .sl (ill x.fss)]) ∧ (D 0 = true → σ.fr 38 = some (.ptr 3 0)) ∧ (D 1 = true → σ.fr 39 = some (.i x.data)) ∧ (D 2 = true → σ.fr 40 = some (.ptr 3 1)) ∧ (D 3 = true → σ.fr 41 = some (.sl (il x.vars))) ∧ (D 4 = true → σ.fr 42 = some (.ptr 0 2)) ∧ (D 5 = true → σ.fr 43 = some (.i m)) ∧ (D 6 = true → σ.fr 44 = some (.eptr (.i y) 0)) ∧ (D 7 = true → σ.fr 45 = some (.i y)) ∧ (D 8 = true → σ.fr 46 = some (.ptr 2 1)) ∧ (D 10 = true → σ.fr 47 = some (.ptr 2 2)) ∧ (D 12 = true → σ.fr 48 = some (.ptr 2 4)) ∧ (D 9 = true → D 11 = false → σ.hp 2 = some (.cells [.i 2, .i x.data, .i m, .i n, .sl (Vl.avL fs), .bool ex, .sl (il p), .sl (il q)])) ∧ (D 11 = true → D 13 = false → σ.hp 2 = some (.cells [.i 2, .i x.data, .i y, .i n, .sl (Vl.avL fs), .bool ex, .sl (il p), .sl (il q)])) ∧ (D 13 = true → σ.hp 2 = some (.cells [.i 2, .i x.data, .i y, .i n, .nilsl, .bool ex, .sl (il p), .sl (il q)]))
theorem value_call : ∀ (N : Nat) (v : Vl) (l : List Mg), v.sz < N → N ≤ 2 ^ 38 → MgB l → PCall Try.prog 11 [.sl (mgl l), v.av] (.tup [(resV l v).1.av, .sl (Vl.avL (resV l v).2)]) := by
 intro N
 induction N with
 | zero => intro v l h; omega
 | succ N ih =>
 intro v l hn hN hB
 have hsz := v.sz_eq
 have hlf := Vl.len_le v.fs
 have hfc := fits_call (N + 1) v l hn (by omega) (fun x hx f hf => ((hB.2 x hx).2.2 f hf).1)
 rw [resV]
 cases hfit : fitB l v
 ·rw [hfit] at hfc
  rw [Vl.av_eq] at *
  refine PCall.intro Try.func11 rfl isf11 (by simp [Try.f11]) (by simp [AV.cloL, AV.clo]) fun E Q hE hN hQ => K_start ?_
  repeat' (first | apply nx | refine Kq_exit_ne (by decide) ?_ | rw [wrap64 (by omega) (by omega)] | ((first | refine hK _ ?_ | refine hKp _ _ ?_); clear hK hKp K Kp; try clear hanc anc) | ((with_reducible refine And.intro ?_ ?_); (focus (first | trivial | omega | (simp only [Fits]; omega) | assumption | (rw [hanc]; rfl)))) | ((first | refine K_regA hE fun K Kp hK hKp => ?_ | refine K_drwA true mixed hE fun K Kp hK hKp anc hanc => ?_ | refine K_drwA false mixed hE fun K Kp hK hKp anc hanc => ?_ | ((first | apply CallP_mk | apply CallB_mk); (focus (simp only [go_sem] <;> rfl)); (focus (exact hfc)); (focus (first | (simp [go_sem]; done) | (simp [go_sem, CloRow, AV.cells, AV.clo]; done))); (focus (first | exact .inl rfl | (right; simp [go_sem]))))); simp only [go_sem]) | ((first | refine onG_split_t (fun hg => ?_) (fun hg => ?_) | refine onG_split_f (fun hg => ?_) (fun hg => ?_)) <;> simp only [go_sem, hg]) | (refine K_condA (fun hc => ?_) (fun hc => ?_) <;> try (exact absurd hc (by decide))))
  refine K_ret (hQ _ ⟨.tup [.agg [.i 0, .i 0, .i 0, .i 0, .nilsl, .bool false, .nilsl, .nilsl], .nilsl], (by simp [resA, rvA, Try.f11, go_sem, zeroV, Vl.av, Vl.avL]; rfl), (by simp [AV.snapOk, AV.snapOkL, go_sem, zeroV, Vl.av, Vl.avL]), (by simp [AV.snap, AV.snapL, go_sem, zeroV, Vl.av, Vl.avL]), (by first | rfl | simp [AV.clo, AV.cloL, go_sem, zeroV, Vl.av, Vl.avL])⟩).1
 rw [hfit] at hfc
 rw [if_pos rfl]
 cases v with | mk k id var n fs ex p q =>
 simp only [Vl.fs] at hsz hlf
 by_cases k2 : k = 2
 case neg =>
  have q1 : (k != 2) = true := by simp [k2]
  rw [valM, if_neg k2]
  rw [Vl.av] at *
  refine PCall.intro Try.func11 rfl isf11 (by simp [Try.f11]) (by simp [AV.cloL, AV.clo]) fun E Q hE hN hQ => K_start ?_
  repeat' (first | apply nx | refine Kq_exit_ne (by decide) ?_ | rw [wrap64 (by omega) (by omega)] | ((first | refine hK _ ?_ | refine hKp _ _ ?_); clear hK hKp K Kp; try clear hanc anc) | ((with_reducible refine And.intro ?_ ?_); (focus (first | trivial | omega | (simp only [Fits]; omega) | assumption | (rw [hanc]; rfl)))) | ((first | refine K_regA hE fun K Kp hK hKp => ?_ | refine K_drwA true mixed hE fun K Kp hK hKp anc hanc => ?_ | refine K_drwA false mixed hE fun K Kp hK hKp anc hanc => ?_ | ((first | apply CallP_mk | apply CallB_mk); (focus (simp only [go_sem] <;> rfl)); (focus (exact hfc)); (focus (first | (simp [go_sem]; done) | (simp [go_sem, CloRow, AV.cells, AV.clo]; done))); (focus (first | exact .inl rfl | (right; simp [go_sem]))))); simp only [go_sem, q1]) | ((first | refine onG_split_t (fun hg => ?_) (fun hg => ?_) | refine onG_split_f (fun hg => ?_) (fun hg => ?_)) <;> simp only [go_sem, q1, hg]) | (refine K_condA (fun hc => ?_) (fun hc => ?_) <;> try (exact absurd hc (by decide))))
  refine K_ret (hQ _ ⟨.tup [.agg [.i k, .i id, .i var, .i n, .sl (Vl.avL fs), .bool ex, .sl (il p), .sl (il q)], .nilsl], (by simp [resA, rvA, Try.f11, go_sem, Vl.avL]; rfl), (by simp [AV.snapOk, AV.snapOkL, go_sem, Vl.avL]), (by simp [AV.snap, AV.snapL, go_sem, Vl.avL]), (by first | rfl | simp [AV.clo, AV.cloL, go_sem, Vl.avL])⟩).1
 subst k2
 rw [fitB, if_pos rfl] at hfit
 rw [valM, if_pos rfl]
 cases hx0 : at? l id with
 | none => rw [hx0] at hfit; cases hfit
 | some x =>
 rw [hx0] at hfit
 simp only at hfit ⊢
 cases hy0 : at? x.vars var with
 | none => rw [hy0] at hfit; cases hfit
 | some y =>
 rw [hy0] at hfit
 cases hf0 : at? x.fss var with
 | none => rw [hf0] at hfit; cases hfit
 | some f =>
 rw [hf0] at hfit
 simp only [Bool.and_eq_true] at hfit ⊢
 obtain ⟨i, rfl, hx1⟩ := at_some hx0
 obtain ⟨m, rfl, hy1⟩ := at_some hy0
 rw [at_nat] at hf0
 obtain ⟨hdf, hfl⟩ := hfit
 have hfl0 := hfl
 rw [fitL_iff] at hfl
 have hBx := hB.2 x (List.mem_of_getElem? hx1)
 have hBf := hBx.2.2 f (List.mem_of_getElem? hf0)
 rw [Vl.av] at hfc
 have hll : (Vl.avL fs).length = fs.length := Vl.avL_len fs
 rw [Vl.av, Vl.av]
 have hpk : ∀ j, (pick (f.take j) (valL l fs)).length ≤ f.length := fun j => by rw [pick, List.length_map, List.length_take]; omega
 have hlo : ∀ j, (lost f (fs.take j)).length ≤ fs.length := fun j => by
  have := lost_len f (fs.take j)
  rw [List.length_take] at this; omega
 have hla : ∀ j, (later (f.take j) (valL l fs)).length ≤ 2 ^ 38 := fun j => Nat.le_trans (later_all hdf hfl0 j) (by omega)
 have hr : ∀ (j : Nat) u, fs[j]? = some u → at? (valL l fs) (j : Int) = some (valM l u) := fun j u hu => by rw [at_nat, valL_eq, List.getElem?_map, hu]; rfl
 refine PCall.intro Try.func11 rfl isf11 (by simp [Try.f11]) (by simp [AV.cloL, AV.clo]) fun E Q hE hN hQ => K_start ?_
 repeat' (first | apply nx | refine Kq_exit_ne (by decide) ?_ | rw [wrap64 (by omega) (by omega)] | ((first | refine hK _ ?_ | refine hKp _ _ ?_); clear hK hKp K Kp; try clear hanc anc) | ((with_reducible refine And.intro ?_ ?_); (focus (first | trivial | omega | (simp only [Fits]; omega) | assumption | (rw [hanc]; rfl)))) | ((fail_if_success refine K_stop 8 ?_); (first | refine K_regA hE fun K Kp hK hKp => ?_ | refine K_drwA true mixed hE fun K Kp hK hKp anc hanc => ?_ | refine K_drwA false mixed hE fun K Kp hK hKp anc hanc => ?_ | ((first | apply CallP_mk | apply CallB_mk); (focus (simp only [go_sem] <;> rfl)); (focus (exact hfc)); (focus (first | (simp [go_sem]; done) | (simp [go_sem, CloRow, AV.cells, AV.clo]; done))); (focus (first | exact .inl rfl | (right; simp [go_sem]))))); simp only [go_sem, hx1, hf0, hy1, Mg.av, Mg.cs_eq]) | ((first | refine onG_split_t (fun hg => ?_) (fun hg => ?_) | refine onG_split_f (fun hg => ?_) (fun hg => ?_)) <;> simp only [go_sem, hx1, hf0, hy1, Mg.av, Mg.cs_eq, hg]) | (refine K_condA (fun hc => ?_) (fun hc => ?_) <;> try (exact absurd hc (by decide))))
 refine AW.ent (σ' := mkSt [(0, .sl (mgl l)), (3, .ptr 0 0), (4, .ptr 1 0), (6, .ptr 3 0), (7, .sl (il f)), (8, .ptr 2 0)]
  [(0, .cells [.i 2, .i i, .i m, .i n, .sl (Vl.avL fs), .bool ex, .sl (il p), .sl (il q)]), (1, .cells [.i 0, .i 0, .i 0, .i 0, .nilsl, .bool false, .nilsl, .nilsl]), (2, .cells [.i 2, .i i, .i m, .i n, .sl (Vl.avL fs), .bool ex, .sl (il p), .sl (il q)]), (3, .cells [.i x.data, .sl (il x.vars), .sl (ill x.fss)])] 4)
  (fun i => if i = 1 then 1048576 else if i = 2 then 26214400 else if i = 3 then 15728640 else i) (by refine ent_mk (by simp [go_sem]) (by simp [go_sem]) (by simp) (by simp [hN])) ?_
 repeat (first | apply w1 | apply w2)
 refine K_inv (n := 14) (IVa l f fs ex p q x y n i m) mixed hE ?_ ?_ (fun Kp hKp => ?_) ?_ rfl
 ·intro D D' σ h
  have := fun j => (h j).symm
  unfold IVa
  simp only [this]
  exact fun h => h
 ·simp [IVa, go_sem, hy1]
 ·refine ⟨?_, ?_, ?_, ?_, ?_, ?_, ?_, ?_, ?_, ?_, ?_, ?_, ?_, ?_, trivial⟩
  all_goals rintro D' ⟨fr, hp, nx⟩ hD' hr ⟨hn, f0, f3, f4, f6, f7, f8, h0, h1, h2, h3, d0, d1, d2, d3, d4, d5, d6, d7, d8, d10, d12, s9, s11, s13⟩
  all_goals simp [Region.binds] at hn f0 f3 f4 f6 f7 f8 h0 h1 h2 h3 d0 d1 d2 d3 d4 d5 d6 d7 d8 d10 d12 s9 s11 s13 hD' hr
  all_goals subst hn
  all_goals try clear hQ
  ·skip
   simp only [go_sem, f6, hy1]
   (simp only [IVa, upd, updo]; simp [f0, f3, f4, f6, f7, f8, h0, h1, h3]; simp_all)
  ·skip
   have zd0 := d0 (by simp [hr, hD'])
   simp only [go_sem, zd0, h3, hy1]
   (simp only [IVa, upd, updo]; simp [f0, f3, f4, f6, f7, f8, h0, h1, h3]; simp_all)
  ·skip
   simp only [go_sem, f6, hy1]
   (simp only [IVa, upd, updo]; simp [f0, f3, f4, f6, f7, f8, h0, h1, h3]; simp_all)
  ·skip
   have zd2 := d2 (by simp [hr, hD'])
   simp only [go_sem, zd2, h3, hy1]
   (simp only [IVa, upd, updo]; simp [f0, f3, f4, f6, f7, f8, h0, h1, h3]; simp_all)
  ·skip
   simp only [go_sem, f3, hy1]
   (simp only [IVa, upd, updo]; simp [f0, f3, f4, f6, f7, f8, h0, h1, h3]; simp_all)
  ·skip
   have zd4 := d4 (by simp [hr, hD'])
   simp only [go_sem, zd4, h0, hy1]
   (simp only [IVa, upd, updo]; simp [f0, f3, f4, f6, f7, f8, h0, h1, h3]; simp_all)
  ·skip
   have zd3 := d3 (by simp [hr, hD'])
   have zd5 := d5 (by simp [hr, hD'])
   simp only [go_sem, zd3, zd5, hy1]
   (simp only [IVa, upd, updo]; simp [f0, f3, f4, f6, f7, f8, h0, h1, h3]; simp_all)
  ·skip
   have zd6 := d6 (by simp [hr, hD'])
   simp only [go_sem, zd6, hy1]
   (simp only [IVa, upd, updo]; simp [f0, f3, f4, f6, f7, f8, h0, h1, h3]; simp_all)
  ·skip
   simp only [go_sem, f8, hy1]
   (simp only [IVa, upd, updo]; simp [f0, f3, f4, f6, f7, f8, h0, h1, h3]; simp_all)
  ·skip
   have zd8 := d8 (by simp [hr, hD'])
   have zd1 := d1 (by simp [hr, hD'])
   have zh2 := h2 (by simp [hr, hD'])
   simp only [go_sem, zd8, zd1, zh2, hy1]
   (simp only [IVa, upd, updo]; simp [f0, f3, f4, f6, f7, f8, h0, h1, h3]; simp_all)
  ·skip
   simp only [go_sem, f8, hy1]
   (simp only [IVa, upd, updo]; simp [f0, f3, f4, f6, f7, f8, h0, h1, h3]; simp_all)
  ·skip
   have zd10 := d10 (by simp [hr, hD'])
   have zd7 := d7 (by simp [hr, hD'])
   have zs9 := s9 (by simp [hr, hD']) (by simp [hr, hD'])
   simp only [go_sem, zd10, zd7, zs9, hy1]
   (simp only [IVa, upd, updo]; simp [f0, f3, f4, f6, f7, f8, h0, h1, h3]; simp_all)
  ·skip
   simp only [go_sem, f8, hy1]
   (simp only [IVa, upd, updo]; simp [f0, f3, f4, f6, f7, f8, h0, h1, h3]; simp_all)
  ·skip
   have zd12 := d12 (by simp [hr, hD'])
   have zs11 := s11 (by simp [hr, hD']) (by simp [hr, hD'])
   simp only [go_sem, zd12, zs11, hy1]
   (simp only [IVa, upd, updo]; simp [f0, f3, f4, f6, f7, f8, h0, h1, h3]; simp_all)
 rintro ⟨fr, hp, nx⟩ D' hD' ⟨hn, f0, f3, f4, f6, f7, f8, h0, h1, h2, h3, d0, d1, d2, d3, d4, d5, d6, d7, d8, d10, d12, s9, s11, s13⟩
 simp only at hn f0 f3 f4 f6 f7 f8 h0 h1 h2 h3 d0 d1 d2 d3 d4 d5 d6 d7 d8 d10 d12 s9 s11 s13
 have zd0 := d0 (hD' 0)
 have zd1 := d1 (hD' 1)
 have zd2 := d2 (hD' 2)
 have zd3 := d3 (hD' 3)
 have zd4 := d4 (hD' 4)
 have zd5 := d5 (hD' 5)
 have zd6 := d6 (hD' 6)
 have zd7 := d7 (hD' 7)
 have zd8 := d8 (hD' 8)
 have zd10 := d10 (hD' 10)
 have zd12 := d12 (hD' 12)
 have zs13 := s13 (hD' 13)
 first | refine Kq_norm_code ?_ | refine Kq_norm_blk ?_ | refine Kq_norm_lp ?_
 refine AW.ent (σ' := mkSt [(0, .sl (mgl l)), (3, .ptr 0 0), (4, .ptr 1 0), (7, .sl (il f)), (8, .ptr 2 0)] [(0, .cells [.i 2, .i i, .i m, .i n, .sl (Vl.avL fs), .bool ex, .sl (il p), .sl (il q)]), (1, .cells [.i 0, .i 0, .i 0, .i 0, .nilsl, .bool false, .nilsl, .nilsl]), (2, .cells [.i 2, .i x.data, .i y, .i n, .nilsl, .bool ex, .sl (il p), .sl (il q)])] 3) (fun i => if i = 0 then 0 else if i = 1 then 1 else 2) (by refine ent_mk (by simp [go_sem, f0, f3, f4, f6, f7, f8, h0, h1, h3, zd0, zd1, zd2, zd3, zd4, zd5, zd6, zd7, zd8, zd10, zd12, zs13, hy1]) (by simp [go_sem, f0, f3, f4, f6, f7, f8, h0, h1, h3, zd0, zd1, zd2, zd3, zd4, zd5, zd6, zd7, zd8, zd10, zd12, zs13, hy1]) (by simp) (by simp [hN])) ?_
 clear zd0 zd1 zd2 zd3 zd4 zd5 zd6 zd7 zd8 zd10 zd12 zs13 hn f0 f3 f4 f6 f7 f8 h0 h1 h2 h3 d0 d1 d2 d3 d4 d5 d6 d7 d8 d10 d12 s9 s11 s13 hD' fr hp nx D'
 repeat' (first | apply nx | refine Kq_exit_ne (by decide) ?_ | rw [wrap64 (by omega) (by omega)] | ((first | refine hK _ ?_ | refine hKp _ _ ?_); clear hK hKp K Kp; try clear hanc anc) | ((with_reducible refine And.intro ?_ ?_); (focus (first | trivial | omega | (simp only [Fits]; omega) | assumption | (rw [hanc]; rfl)))) | ((first | refine K_regA hE fun K Kp hK hKp => ?_ | refine K_drwA true mixed hE fun K Kp hK hKp anc hanc => ?_ | refine K_drwA false mixed hE fun K Kp hK hKp anc hanc => ?_); simp only [go_sem]) | ((first | refine onG_split_t (fun hg => ?_) (fun hg => ?_) | refine onG_split_f (fun hg => ?_) (fun hg => ?_)) <;> simp only [go_sem, hg]) | (refine K_condA (fun hc => ?_) (fun hc => ?_) <;> try (exact absurd hc (by decide))))
 refine AW_nil 9 8 (by rw [hE]; decide) (by simp only [go_sem]) ?_
 refine AW_nil 10 8 (by rw [hE]; decide) (by simp only [go_sem]) ?_
 refine AW_nilc 2 4 8 (by simp [go_sem]; rfl) rfl ?_
 refine K_loop (X := Nat) (fun j => j ≤ fs.length) (fun j => mkSt [(0, .sl (mgl l)), (3, .ptr 0 0), (4, .ptr 1 0), (7, .sl (il f)), (8, .ptr 2 0), (9, .rw 4), (10, .rw 5), (50, .sl (Vl.avL fs)), (51, .i fs.length), (52, AV.i j)]
  [(0, .cells [.i 2, .i i, .i m, .i n, .sl (Vl.avL fs), .bool ex, .sl (il p), .sl (il q)]), (1, .cells [.i 0, .i 0, .i 0, .i 0, .nilsl, .bool false, .nilsl, .nilsl]), (2, .cells [.i 2, .i x.data, .i y, .i n, .rw 3, .bool ex, .sl (il p), .sl (il q)]), (3, .row 8 []), (4, .row 8 (Vl.avL (lost f (fs.take j)))), (5, .row 8 [])] 6)
  (fun j => fs.length - j) 0 (Nat.zero_le _) (fun i => if i = 3 then 6291461 else if i = 4 then 6291459 else if i = 5 then 6291460 else i) (by refine ent_mk (by simp [go_sem, lost, Vl.avL]) (by simp [go_sem, lost, Vl.avL]) (by simp) (by simp [hN])) ?_
 intro j hj
 by_cases hlt : j < fs.length
 ·obtain ⟨u, hu⟩ := get?_of hlt
  have hc0 := contains_call f j hBf.1
  have hls := lost_step (f := f) hu
  by_cases hin : (j : Int) ∈ f
  ·rw [decide_eq_true hin] at hc0
   rw [if_pos hin, List.append_nil] at hls
   repeat' (first | apply nx | refine Kq_exit_ne (by decide) ?_ | rw [wrap64 (by omega) (by omega)] | ((first | refine hK _ ?_ | refine hKp _ _ ?_); clear hK hKp K Kp; try clear hanc anc) | ((with_reducible refine And.intro ?_ ?_); (focus (first | trivial | omega | (simp only [Fits]; omega) | assumption | (rw [hanc]; rfl)))) | ((first | refine K_regA hE fun K Kp hK hKp => ?_ | refine K_drwA false mixed hE fun K Kp hK hKp anc hanc => ?_ | ((first | apply CallP_mk | apply CallB_mk); (focus (simp only [go_sem] <;> rfl)); (focus (exact hc0)); (focus (first | (simp [go_sem]; done) | (simp [go_sem, CloRow, AV.cells, AV.clo]; done))); (focus (first | exact .inl rfl | (right; simp [go_sem]))))); simp only [go_sem, lt_dec hlt, hu, Vl.av_eq]) | ((first | refine onG_split_t (fun hg => ?_) (fun hg => ?_) | refine onG_split_f (fun hg => ?_) (fun hg => ?_)) <;> simp only [go_sem, lt_dec hlt, hu, Vl.av_eq, hg]) | (refine K_condA (fun hc => ?_) (fun hc => ?_) <;> try (exact absurd hc (by decide))) | (refine K_ret ?_; refine (hQ _ ⟨_, by (try simp only [go_sem, ↓reduceIte, Nat.reduceEqDiff]); rfl, by simp [go_sem], ?_, by first | rfl | assumption⟩).1))
   exact ⟨j + 1, by omega, by omega, fun i => i, by refine ent_mk (by simp [go_sem, hls]) (by simp [go_sem, hls]) (by simp) (by simp [hN])⟩
  ·rw [decide_eq_false hin] at hc0
   rw [if_neg hin] at hls
   have e := avL_app1 (lost f (fs.take j)) u
   rw [← hls] at e
   have := hlo j
   repeat' (first | apply nx | refine Kq_exit_ne (by decide) ?_ | rw [wrap64 (by omega) (by omega)] | ((first | refine hK _ ?_ | refine hKp _ _ ?_); clear hK hKp K Kp; try clear hanc anc) | ((with_reducible refine And.intro ?_ ?_); (focus (first | trivial | omega | (simp only [Fits]; omega) | assumption | (rw [hanc]; rfl)))) | ((first | refine K_regA hE fun K Kp hK hKp => ?_ | refine K_drwA false mixed hE fun K Kp hK hKp anc hanc => ?_ | ((first | apply CallP_mk | apply CallB_mk); (focus (simp only [go_sem] <;> rfl)); (focus (exact hc0)); (focus (first | (simp [go_sem]; done) | (simp [go_sem, CloRow, AV.cells, AV.clo]; done))); (focus (first | exact .inl rfl | (right; simp [go_sem]))))); simp only [go_sem, lt_dec hlt, hu, Vl.av_eq, e]) | ((first | refine onG_split_t (fun hg => ?_) (fun hg => ?_) | refine onG_split_f (fun hg => ?_) (fun hg => ?_)) <;> simp only [go_sem, lt_dec hlt, hu, Vl.av_eq, e, hg]) | (refine K_condA (fun hc => ?_) (fun hc => ?_) <;> try (exact absurd hc (by decide))) | (refine K_ret ?_; refine (hQ _ ⟨_, by (try simp only [go_sem, ↓reduceIte, Nat.reduceEqDiff]); rfl, by simp [go_sem], ?_, by first | rfl | assumption⟩).1))
   exact ⟨j + 1, by omega, by omega, fun i => if i = 4 then 14680070 else i, by refine ent_mk (by simp [go_sem]) (by simp [go_sem]) (by simp) (by simp [hN])⟩
 obtain rfl : j = fs.length := by omega
 rw [List.take_length]
 repeat' (first | apply nx | refine Kq_exit_ne (by decide) ?_ | rw [wrap64 (by omega) (by omega)] | ((first | refine hK _ ?_ | refine hKp _ _ ?_); clear hK hKp K Kp; try clear hanc anc) | ((with_reducible refine And.intro ?_ ?_); (focus (first | trivial | omega | (simp only [Fits]; omega) | assumption | (rw [hanc]; rfl)))) | ((first | refine K_regA hE fun K Kp hK hKp => ?_ | refine K_drwA true mixed hE fun K Kp hK hKp anc hanc => ?_ | refine K_drwA false mixed hE fun K Kp hK hKp anc hanc => ?_); simp only [go_sem, ge_dec]) | ((first | refine onG_split_t (fun hg => ?_) (fun hg => ?_) | refine onG_split_f (fun hg => ?_) (fun hg => ?_)) <;> simp only [go_sem, ge_dec, hg]) | (refine K_condA (fun hc => ?_) (fun hc => ?_) <;> try (exact absurd hc (by decide))))
 refine K_loop (X := Nat) (fun j => j ≤ f.length) (fun j => mkSt [(0, .sl (mgl l)), (3, .ptr 0 0), (4, .ptr 1 0), (7, .sl (il f)), (8, .ptr 2 0), (9, .rw 4), (10, .rw 5), (66, .sl (il f)), (67, .i f.length), (68, AV.i j)]
  [(0, .cells [.i 2, .i i, .i m, .i n, .sl (Vl.avL fs), .bool ex, .sl (il p), .sl (il q)]), (1, .cells [.i 0, .i 0, .i 0, .i 0, .nilsl, .bool false, .nilsl, .nilsl]), (2, .cells [.i 2, .i x.data, .i y, .i n, .rw 3, .bool ex, .sl (il p), .sl (il q)]), (3, .row 8 (Vl.avL (pick (f.take j) (valL l fs)))), (4, .row 8 (Vl.avL (lost f fs))), (5, .row 8 (Vl.avL (later (f.take j) (valL l fs))))] 6)
  (fun j => f.length - j) 0 (Nat.zero_le _) (fun i => i) (by refine ent_mk (by simp [go_sem, pick, later, Vl.avL]) (by simp [go_sem, pick, later, Vl.avL]) (by simp) (by simp [hN])) ?_
 intro j hj
 by_cases hlt : j < f.length
 ·obtain ⟨u, hu⟩ := get?_of hlt
  have hps := pick_step (r := valL l fs) hu
  have hls := later_step (r := valL l fs) hu
  have hbu := hBf.2 u (List.mem_of_getElem? hu)
  have h1 := hpk j
  have h2 := hla j
  by_cases hu0 : u < 0
  ·rw [at_neg _ hu0] at hps hls
   simp only [List.append_nil] at hps hls
   have e := avL_app1 (pick (f.take j) (valL l fs)) (numV (-1 - u))
   rw [← hps] at e
   have q1 : decide (u < 0) = true := by simpa using hu0
   have w : IntKind.i64.wrap (-1 - u) = -1 - u := wrap64 (by omega) (by omega)
   simp only [numV, Vl.kind, Vl.id, Vl.var, Vl.n, Vl.fs, Vl.excl, Vl.path, Vl.loans, Vl.avL, il, List.map_nil] at e
   repeat' (first | apply nx | refine Kq_exit_ne (by decide) ?_ | rw [wrap64 (by omega) (by omega)] | ((first | refine hK _ ?_ | refine hKp _ _ ?_); clear hK hKp K Kp; try clear hanc anc) | ((with_reducible refine And.intro ?_ ?_); (focus (first | trivial | omega | (simp only [Fits]; omega) | assumption | (rw [hanc]; rfl)))) | ((fail_if_success refine K_stop 23 ?_); (first | refine K_regA hE fun K Kp hK hKp => ?_ | refine K_drwA true mixed hE fun K Kp hK hKp anc hanc => ?_ | refine K_drwA false mixed hE fun K Kp hK hKp anc hanc => ?_); simp only [go_sem, lt_dec hlt, hu, q1, w]) | ((first | refine onG_split_t (fun hg => ?_) (fun hg => ?_) | refine onG_split_f (fun hg => ?_) (fun hg => ?_)) <;> simp only [go_sem, lt_dec hlt, hu, q1, w, hg]) | (refine K_condA (fun hc => ?_) (fun hc => ?_) <;> try (exact absurd hc (by decide))))
   refine AW.wk (Wk.snpRow 12582918 (sz := 8) (l := Vl.avL (pick (f.take j) (valL l fs)) ++ [.agg [.i 1, .i 0, .i 0, .i (-1 - u), .nilsl, .bool false, .nilsl, .nilsl]]) (Vl.avL (pick (f.take (j + 1)) (valL l fs))) (by simp [go_sem]) (by rw [← e]; simp) (fun i hi => by rw [← e]; exact snp_app (.inr ⟨by simp [AV.snapOk, AV.snapOkL], rfl⟩) _ _ hi)) ?_
   repeat' (first | apply nx | refine Kq_exit_ne (by decide) ?_ | rw [wrap64 (by omega) (by omega)] | ((first | refine hK _ ?_ | refine hKp _ _ ?_); clear hK hKp K Kp; try clear hanc anc) | ((with_reducible refine And.intro ?_ ?_); (focus (first | trivial | omega | (simp only [Fits]; omega) | assumption | (rw [hanc]; rfl)))) | ((first | refine K_regA hE fun K Kp hK hKp => ?_ | refine K_drwA true mixed hE fun K Kp hK hKp anc hanc => ?_ | refine K_drwA false mixed hE fun K Kp hK hKp anc hanc => ?_); simp only [go_sem]) | ((first | refine onG_split_t (fun hg => ?_) (fun hg => ?_) | refine onG_split_f (fun hg => ?_) (fun hg => ?_)) <;> simp only [go_sem, hg]) | (refine K_condA (fun hc => ?_) (fun hc => ?_) <;> try (exact absurd hc (by decide))))
   exact ⟨j + 1, by omega, by omega, fun i => if i = 3 then 12582918 else i, by refine ent_mk (by simp [go_sem, hls]) (by simp [go_sem, hls]) (by simp) (by simp [hN])⟩
  ·have hlt2 := diff_lt hdf hu
   obtain ⟨a, rfl⟩ := Int.eq_ofNat_of_zero_le (show 0 ≤ u by omega)
   obtain ⟨z, hz⟩ := get?_of (show a < fs.length by omega)
   rw [hr a z hz] at hps hls
   simp only at hps hls
   have hzs := Vl.sz_mem (List.mem_of_getElem? hz)
   have hc0 := ih z l (by omega) (by omega) hB
   rw [resV, if_pos (hfl z (List.mem_of_getElem? hz))] at hc0
   have e := avL_app1 (pick (f.take j) (valL l fs)) (valM l z).1
   rw [← hps] at e
   have e2 := avL_app2 (later (f.take j) (valL l fs)) (valM l z).2
   rw [← hls] at e2
   have q1 : decide ((a : Int) < 0) = false := by simp
   rw [Vl.av_eq, Vl.av_eq] at hc0
   have h3 := left_len z (hfl z (List.mem_of_getElem? hz))
   repeat' (first | apply nx | refine Kq_exit_ne (by decide) ?_ | rw [wrap64 (by omega) (by omega)] | ((first | refine hK _ ?_ | refine hKp _ _ ?_); clear hK hKp K Kp; try clear hanc anc) | ((with_reducible refine And.intro ?_ ?_); (focus (first | trivial | omega | (simp only [Fits]; omega) | assumption | (rw [hanc]; rfl)))) | ((first | refine K_regA hE fun K Kp hK hKp => ?_ | refine K_drwA false mixed hE fun K Kp hK hKp anc hanc => ?_ | ((first | apply CallP_mk | apply CallB_mk); (focus (simp only [go_sem] <;> rfl)); (focus (exact hc0)); (focus (first | (simp [go_sem]; done) | (simp [go_sem, CloRow, AV.cells, AV.clo]; done))); (focus (first | exact .inl rfl | (right; simp [go_sem]))))); simp only [go_sem, lt_dec hlt, hu, hz, q1, Vl.av_eq, e, e2]) | ((first | refine onG_split_t (fun hg => ?_) (fun hg => ?_) | refine onG_split_f (fun hg => ?_) (fun hg => ?_)) <;> simp only [go_sem, lt_dec hlt, hu, hz, q1, Vl.av_eq, e, e2, hg]) | (refine K_condA (fun hc => ?_) (fun hc => ?_) <;> try (exact absurd hc (by decide))) | (refine K_ret ?_; refine (hQ _ ⟨_, by (try simp only [go_sem, ↓reduceIte, Nat.reduceEqDiff]); rfl, by simp [go_sem], ?_, by first | rfl | assumption⟩).1))
   have h5 := hla (j + 1)
   rw [hls, List.length_append] at h5
   refine ⟨⟨Vl.szok_avL _, (by simp only [Fits]; omega)⟩, ?_⟩
   repeat' (first | apply nx | refine Kq_exit_ne (by decide) ?_ | rw [wrap64 (by omega) (by omega)] | ((first | refine hK _ ?_ | refine hKp _ _ ?_); clear hK hKp K Kp; try clear hanc anc) | ((with_reducible refine And.intro ?_ ?_); (focus (first | trivial | omega | (simp only [Fits]; omega) | assumption | (rw [hanc]; rfl)))) | ((first | refine K_regA hE fun K Kp hK hKp => ?_ | refine K_drwA false mixed hE fun K Kp hK hKp anc hanc => ?_); simp only [go_sem, e, e2]) | ((first | refine onG_split_t (fun hg => ?_) (fun hg => ?_) | refine onG_split_f (fun hg => ?_) (fun hg => ?_)) <;> simp only [go_sem, e, e2, hg]) | (refine K_condA (fun hc => ?_) (fun hc => ?_) <;> try (exact absurd hc (by decide))) | (refine K_ret ?_; refine (hQ _ ⟨_, by (try simp only [go_sem, ↓reduceIte, Nat.reduceEqDiff]); rfl, by simp [go_sem], ?_, by first | rfl | assumption⟩).1))
   exact ⟨j + 1, by omega, by omega, fun i => if i = 3 then 24117254 else if i = 5 then 27262982 else i, by refine ent_mk (by simp [go_sem]) (by simp [go_sem]) (by simp) (by simp [hN])⟩
 obtain rfl : j = f.length := by omega
 rw [List.take_length]
 repeat' (first | apply nx | refine Kq_exit_ne (by decide) ?_ | rw [wrap64 (by omega) (by omega)] | ((first | refine hK _ ?_ | refine hKp _ _ ?_); clear hK hKp K Kp; try clear hanc anc) | ((with_reducible refine And.intro ?_ ?_); (focus (first | trivial | omega | (simp only [Fits]; omega) | assumption | (rw [hanc]; rfl)))) | ((first | refine K_regA hE fun K Kp hK hKp => ?_ | refine K_drwA true mixed hE fun K Kp hK hKp anc hanc => ?_ | refine K_drwA false mixed hE fun K Kp hK hKp anc hanc => ?_); simp only [go_sem, ge_dec]) | ((first | refine onG_split_t (fun hg => ?_) (fun hg => ?_) | refine onG_split_f (fun hg => ?_) (fun hg => ?_)) <;> simp only [go_sem, ge_dec, hg]) | (refine K_condA (fun hc => ?_) (fun hc => ?_) <;> try (exact absurd hc (by decide))))
 have h2 := hla f.length
 rw [List.take_length] at h2
 have h3 := hlo fs.length
 rw [List.take_length] at h3
 have e3 := avL_app2 (lost f fs) (later f (valL l fs))
 simp only [go_sem, e3]
 refine ⟨(by simp only [Fits]; omega), (by rw [hanc]; rfl), ?_⟩
 refine hK _ ?_; clear hK hKp K Kp; try clear hanc anc
 repeat (first | refine Kq_norm_code ?_ | refine Kq_norm_blk ?_ | refine Kq_norm_lp ?_)
 repeat' (first | apply nx | refine Kq_exit_ne (by decide) ?_ | rw [wrap64 (by omega) (by omega)] | ((first | refine hK _ ?_ | refine hKp _ _ ?_); clear hK hKp K Kp; try clear hanc anc) | ((with_reducible refine And.intro ?_ ?_); (focus (first | trivial | omega | (simp only [Fits]; omega) | assumption | (rw [hanc]; rfl)))) | ((first | refine K_regA hE fun K Kp hK hKp => ?_ | refine K_drwA true mixed hE fun K Kp hK hKp anc hanc => ?_ | refine K_drwA false mixed hE fun K Kp hK hKp anc hanc => ?_); simp only [go_sem]) | ((first | refine onG_split_t (fun hg => ?_) (fun hg => ?_) | refine onG_split_f (fun hg => ?_) (fun hg => ?_)) <;> simp only [go_sem, hg]) | (refine K_condA (fun hc => ?_) (fun hc => ?_) <;> try (exact absurd hc (by decide))))
 refine K_ret (hQ _ ⟨.tup [.agg [.i 2, .i x.data, .i y, .i n, .rw 3, .bool ex, .sl (il p), .sl (il q)], .rw 4194310], (by simp [resA, rvA, Try.f11, go_sem, Vl.av]; rfl), (by simp [AV.snapOk, AV.snapOkL, go_sem, Vl.av]), (by simp [AV.snap, AV.snapL, go_sem, Vl.av]), (by first | rfl | simp [AV.clo, AV.cloL, go_sem, Vl.av])⟩).1
end Go.Proofs.Ytlhhahocjfgmdaa
