/- A part of the proof: an abstract machine for the walks, and what the walked functions compute. -/
import Derived.Test.YtihfjibkmhclfaaDoorPh
import Derived.Test.YtihfjibkmhclfaaDoorPi
set_option linter.unusedVariables false
set_option linter.unusedSimpArgs false
set_option linter.unusedSimpArgs false
set_option linter.unusedVariables false
set_option maxHeartbeats 4000000
set_option maxRecDepth 100000
namespace Go.Proofs.YtihfjibkmhclfaaDoor
open Nat (reduceAdd reduceMul reduceEqDiff reduceLT reduceLeDiff reduceSub reduceDiv)
open Int (reduceBNe reduceLE reduceEq)
open Go.Am Go.Proofs Go.Lx
open Classical
attribute [local irreducible] AW CallP CallB
theorem sp_app (a : List UInt8) : tx a ++ (⟨#[32]⟩ : ByteArray) = tx (a ++ [32]) := tx_app a [32]
theorem sp_nil : (⟨#[]⟩ : ByteArray) = tx [] := rfl
theorem sepT_step {l : List Tk} {i : Nat} {t : Tk} (h : l[i]? = some t) : sepT (l.take i) ++ t.text ++ [32] = sepT (l.take (i + 1)) := by
 rw [← sepT_snoc, List.take_add_one, h]; rfl
theorem separates_c (l : List UInt8) (hl : l.length ≤ 2 ^ 30) : PCall Tryd.prog 7 [.str (tx l)] (.bool true) := by
 have h0 := head_call
 have c1 := lex_call l hl
 have hn := lexT_len l
 unfold resL at c1
 by_cases hb : 20000 < l.length
 ·have q : decide ((l.length : Int) > 20000) = true := decide_eq_true (by omega)
  refine PCall.intro Tryd.func7 rfl isf7 (by simp [Tryd.f7]) (by simp [AV.cloL, AV.clo]) fun E Q hE hN hQ => K_start ?_
  repeat' (first | apply nx | refine Kq_exit_ne (by decide) ?_ | rw [wrap64 (by omega) (by omega)] | ((first | refine hK _ ?_ | refine hKp _ _ ?_); clear hK hKp K Kp; try clear hanc anc) | ((with_reducible refine And.intro ?_ ?_); (focus (first | trivial | omega | (simp only [Fits]; omega) | assumption | (rw [hanc]; rfl)))) | ((first | refine K_regA hE fun K Kp hK hKp => ?_ | refine K_drwA false mixed hE fun K Kp hK hKp anc hanc => ?_ | ((first | apply CallP_mk | apply CallB_mk); (focus (simp only [go_sem] <;> rfl)); (focus (exact h0)); (focus (first | (simp [go_sem]; done) | (simp [go_sem, CloRow, AV.cells, AV.clo]; done))); (focus (first | exact .inl rfl | (right; simp [go_sem]))))); simp only [go_sem, q]) | ((first | refine onG_split_t (fun hg => ?_) (fun hg => ?_) | refine onG_split_f (fun hg => ?_) (fun hg => ?_)) <;> simp only [go_sem, q, hg]) | (refine K_condA (fun hc => ?_) (fun hc => ?_) <;> try (exact absurd hc (by decide))) | (refine K_ret ?_; refine (hQ _ ⟨_, by (try simp only [go_sem, ↓reduceIte, Nat.reduceEqDiff]); rfl, by simp [go_sem], ?_, by first | rfl | assumption⟩).1))
  simp [AV.snap]
 have q : decide ((l.length : Int) > 20000) = false := decide_eq_false (by omega)
 by_cases he : (lexT l).2.1 = 0
 case neg =>
  have q1 : ((lexT l).2.1 != 0) = true := by simpa using he
  generalize lexT l = r at *
  refine PCall.intro Tryd.func7 rfl isf7 (by simp [Tryd.f7]) (by simp [AV.cloL, AV.clo]) fun E Q hE hN hQ => K_start ?_
  repeat' (first | apply nx | refine Kq_exit_ne (by decide) ?_ | rw [wrap64 (by omega) (by omega)] | ((first | refine hK _ ?_ | refine hKp _ _ ?_); clear hK hKp K Kp; try clear hanc anc) | ((with_reducible refine And.intro ?_ ?_); (focus (first | trivial | omega | (simp only [Fits]; omega) | assumption | (rw [hanc]; rfl)))) | ((first | refine K_regA hE fun K Kp hK hKp => ?_ | refine K_drwA false mixed hE fun K Kp hK hKp anc hanc => ?_ | ((first | apply CallP_mk | apply CallB_mk); (focus (simp only [go_sem] <;> rfl)); (focus (first | exact h0 | exact c1)); (focus (first | (simp [go_sem]; done) | (simp [go_sem, CloRow, AV.cells, AV.clo]; done))); (focus (first | exact .inl rfl | (right; simp [go_sem]))))); simp only [go_sem, q, q1]) | ((first | refine onG_split_t (fun hg => ?_) (fun hg => ?_) | refine onG_split_f (fun hg => ?_) (fun hg => ?_)) <;> simp only [go_sem, q, q1, hg]) | (refine K_condA (fun hc => ?_) (fun hc => ?_) <;> try (exact absurd hc (by decide))) | (refine K_ret ?_; refine (hQ _ ⟨_, by (try simp only [go_sem, ↓reduceIte, Nat.reduceEqDiff]); rfl, by simp [go_sem], ?_, by first | rfl | assumption⟩).1))
  simp [AV.snap]
 obtain ⟨h1, h2⟩ := lexT_ok (by omega) he
 rw [h1] at c1 hn
 simp only at c1 hn
 have hsm := lx_small (l.length + 1) 0 l (Nat.lt_succ_self _)
 obtain ⟨s1, s2⟩ := sep_ok h2 hn
 generalize (lx 0 l).1 = ts at *
 have hsl := sepT_len ts hsm
 have c2 := lex_call (sepT ts) (by omega)
 unfold resL at c2
 have q1 : decide ((ts.length : Int) > 6000) = false := decide_eq_false (by omega)
 refine PCall.intro Tryd.func7 rfl isf7 (by simp [Tryd.f7]) (by simp [AV.cloL, AV.clo]) fun E Q hE hN hQ => K_start ?_
 repeat' (first | apply nx | refine Kq_exit_ne (by decide) ?_ | rw [wrap64 (by omega) (by omega)] | ((first | refine hK _ ?_ | refine hKp _ _ ?_); clear hK hKp K Kp; try clear hanc anc) | ((with_reducible refine And.intro ?_ ?_); (focus (first | trivial | omega | (simp only [Fits]; omega) | assumption | (rw [hanc]; rfl)))) | ((first | refine K_regA hE fun K Kp hK hKp => ?_ | refine K_drwA false mixed hE fun K Kp hK hKp anc hanc => ?_ | ((first | apply CallP_mk | apply CallB_mk); (focus (simp only [go_sem] <;> rfl)); (focus (first | exact h0 | exact c1)); (focus (first | (simp [go_sem]; done) | (simp [go_sem, CloRow, AV.cells, AV.clo]; done))); (focus (first | exact .inl rfl | (right; simp [go_sem]))))); simp only [go_sem, q, q1]) | ((first | refine onG_split_t (fun hg => ?_) (fun hg => ?_) | refine onG_split_f (fun hg => ?_) (fun hg => ?_)) <;> simp only [go_sem, q, q1, hg]) | (refine K_condA (fun hc => ?_) (fun hc => ?_) <;> try (exact absurd hc (by decide))) | (refine K_ret ?_; refine (hQ _ ⟨_, by (try simp only [go_sem, ↓reduceIte, Nat.reduceEqDiff]); rfl, by simp [go_sem], ?_, by first | rfl | assumption⟩).1))
 refine K_loop (X := Nat) (fun i => i ≤ ts.length) (fun i => mkSt [(0, .str (tx l)), (3, .bool true), (4, .sl (tkl ts)), (7, .str (tx (sepT (ts.take i)))), (8, .i i)] [] 0) (fun i => ts.length - i) 0 (Nat.zero_le _) (fun i => i) (by refine ent_mk (by simp [go_sem, sp_nil, sepT]) (by simp [go_sem, sp_nil, sepT]) (by simp) (by simp [hN])) ?_
 intro i hi
 by_cases hlt : i < ts.length
 ·obtain ⟨t, ht⟩ := get?_of hlt
  have v1 : IntKind.i64.wrap ((i : Int) + 1) = ((i + 1 : Nat) : Int) := by rw [wrap64 (by omega) (by omega)]; omega
  have q2 : decide ((t.text.length : Int) > 24) = false := decide_eq_false (by have := hsm t (List.mem_of_getElem? ht); omega)
  have hz : (sepT (ts.take i)).length + t.text.length + (#[32] : Array UInt8).size ≤ 4611686018427387904 := by
   have a1 := sepT_len (ts.take i) fun u hu => hsm u (List.mem_of_mem_take hu)
   have a2 := hsm t (List.mem_of_getElem? ht)
   rw [List.length_take] at a1
   have a3 : (#[32] : Array UInt8).size = 1 := rfl
   omega
  have hz2 : (sepT (ts.take i)).length + t.text.length ≤ 4611686018427387904 := Nat.le_trans (Nat.le_add_right _ _) hz
  repeat' (first | apply nx | refine Kq_exit_ne (by decide) ?_ | rw [wrap64 (by omega) (by omega)] | ((first | refine hK _ ?_ | refine hKp _ _ ?_); clear hK hKp K Kp; try clear hanc anc) | ((with_reducible refine And.intro ?_ ?_); (focus (first | trivial | omega | (simp only [Fits]; omega) | assumption | (rw [hanc]; rfl)))) | ((first | refine K_regA hE fun K Kp hK hKp => ?_ | refine K_drwA false mixed hE fun K Kp hK hKp anc hanc => ?_); simp only [go_sem, lt_dec hlt, ht, Tk.av_eq, q2, v1, tx_app, sp_app, sepT_step ht]) | ((first | refine onG_split_t (fun hg => ?_) (fun hg => ?_) | refine onG_split_f (fun hg => ?_) (fun hg => ?_)) <;> simp only [go_sem, lt_dec hlt, ht, Tk.av_eq, q2, v1, tx_app, sp_app, sepT_step ht, hg]) | (refine K_condA (fun hc => ?_) (fun hc => ?_) <;> try (exact absurd hc (by decide))) | (refine K_ret ?_; refine (hQ _ ⟨_, by (try simp only [go_sem, ↓reduceIte, Nat.reduceEqDiff]); rfl, by simp [go_sem], ?_, by first | rfl | assumption⟩).1))
  exact ⟨i + 1, hlt, by omega, fun i => i, by refine ent_mk (by simp [go_sem]) (by simp [go_sem]) (by simp) (by simp [hN])⟩
 obtain rfl : i = ts.length := by omega
 rw [List.take_length]
 by_cases hs : 20000 < (sepT ts).length
 ·have q2 : decide (((sepT ts).length : Int) > 20000) = true := decide_eq_true (by omega)
  repeat' (first | apply nx | refine Kq_exit_ne (by decide) ?_ | rw [wrap64 (by omega) (by omega)] | ((first | refine hK _ ?_ | refine hKp _ _ ?_); clear hK hKp K Kp; try clear hanc anc) | ((with_reducible refine And.intro ?_ ?_); (focus (first | trivial | omega | (simp only [Fits]; omega) | assumption | (rw [hanc]; rfl)))) | ((first | refine K_regA hE fun K Kp hK hKp => ?_ | refine K_drwA false mixed hE fun K Kp hK hKp anc hanc => ?_); simp only [go_sem, ge_dec, q2]) | ((first | refine onG_split_t (fun hg => ?_) (fun hg => ?_) | refine onG_split_f (fun hg => ?_) (fun hg => ?_)) <;> simp only [go_sem, ge_dec, q2, hg]) | (refine K_condA (fun hc => ?_) (fun hc => ?_) <;> try (exact absurd hc (by decide))) | (refine K_ret ?_; refine (hQ _ ⟨_, by (try simp only [go_sem, ↓reduceIte, Nat.reduceEqDiff]); rfl, by simp [go_sem], ?_, by first | rfl | assumption⟩).1))
  simp [AV.snap]
 have q2 : decide (((sepT ts).length : Int) > 20000) = false := decide_eq_false (by omega)
 rw [lexT_le (by omega)] at c2
 rw [(lexM_ok s1).1] at c2 s2
 simp only at c2 s2
 generalize (lx 0 (sepT ts)).1 = us at *
 have hlen := s2.length
 have q3 : ((ts.length : Int) != (us.length : Int)) = false := by rw [hlen]; simp
 repeat' (first | apply nx | refine Kq_exit_ne (by decide) ?_ | rw [wrap64 (by omega) (by omega)] | ((first | refine hK _ ?_ | refine hKp _ _ ?_); clear hK hKp K Kp; try clear hanc anc) | ((with_reducible refine And.intro ?_ ?_); (focus (first | trivial | omega | (simp only [Fits]; omega) | assumption | (rw [hanc]; rfl)))) | ((first | refine K_regA hE fun K Kp hK hKp => ?_ | refine K_drwA false mixed hE fun K Kp hK hKp anc hanc => ?_ | ((first | apply CallP_mk | apply CallB_mk); (focus (simp only [go_sem] <;> rfl)); (focus (exact c2)); (focus (first | (simp [go_sem]; done) | (simp [go_sem, CloRow, AV.cells, AV.clo]; done))); (focus (first | exact .inl rfl | (right; simp [go_sem]))))); simp only [go_sem, ge_dec, q2, q3]) | ((first | refine onG_split_t (fun hg => ?_) (fun hg => ?_) | refine onG_split_f (fun hg => ?_) (fun hg => ?_)) <;> simp only [go_sem, ge_dec, q2, q3, hg]) | (refine K_condA (fun hc => ?_) (fun hc => ?_) <;> try (exact absurd hc (by decide))) | (refine K_ret ?_; refine (hQ _ ⟨_, by (try simp only [go_sem, ↓reduceIte, Nat.reduceEqDiff]); rfl, by simp [go_sem], ?_, by first | rfl | assumption⟩).1))
 refine K_loop (X := Nat) (fun i => i ≤ ts.length) (fun i => mkSt [(0, .str (tx l)), (3, .bool true), (4, .sl (tkl ts)), (9, .sl (tkl us)), (12, .i i)] [] 0) (fun i => ts.length - i) 0 (Nat.zero_le _) (fun i => i) (by refine ent_mk (by simp [go_sem]) (by simp [go_sem]) (by simp) (by simp [hN])) ?_
 intro i hi
 by_cases hlt : i < ts.length
 ·obtain ⟨t, ht⟩ := get?_of hlt
  obtain ⟨u, hu, r1, r2, r3⟩ := s2.get ht
  have hlu : i < us.length := by omega
  have v1 : IntKind.i64.wrap ((i : Int) + 1) = ((i + 1 : Nat) : Int) := by rw [wrap64 (by omega) (by omega)]; omega
  have e1 : (t.kind != u.kind) = false := by simp [r1]
  have e2 : (!decide (t.text = u.text)) = false := by simp [r2]
  have e3 : (t.num != u.num) = false := by simp [r3]
  repeat' (first | apply nx | refine Kq_exit_ne (by decide) ?_ | rw [wrap64 (by omega) (by omega)] | ((first | refine hK _ ?_ | refine hKp _ _ ?_); clear hK hKp K Kp; try clear hanc anc) | ((with_reducible refine And.intro ?_ ?_); (focus (first | trivial | omega | (simp only [Fits]; omega) | assumption | (rw [hanc]; rfl)))) | ((first | refine K_regA hE fun K Kp hK hKp => ?_ | refine K_drwA false mixed hE fun K Kp hK hKp anc hanc => ?_); simp only [go_sem, lt_dec hlt, lt_dec hlu, ht, hu, Tk.av_eq, v1, e1, e2, e3]) | ((first | refine onG_split_t (fun hg => ?_) (fun hg => ?_) | refine onG_split_f (fun hg => ?_) (fun hg => ?_)) <;> simp only [go_sem, lt_dec hlt, lt_dec hlu, ht, hu, Tk.av_eq, v1, e1, e2, e3, hg]) | (refine K_condA (fun hc => ?_) (fun hc => ?_) <;> try (exact absurd hc (by decide))) | (refine K_ret ?_; refine (hQ _ ⟨_, by (try simp only [go_sem, ↓reduceIte, Nat.reduceEqDiff]); rfl, by simp [go_sem], ?_, by first | rfl | assumption⟩).1))
  exact ⟨i + 1, hlt, by omega, fun i => i, by refine ent_mk (by simp [go_sem]) (by simp [go_sem]) (by simp) (by simp [hN])⟩
 obtain rfl : i = ts.length := by omega
 repeat' (first | apply nx | refine Kq_exit_ne (by decide) ?_ | rw [wrap64 (by omega) (by omega)] | ((first | refine hK _ ?_ | refine hKp _ _ ?_); clear hK hKp K Kp; try clear hanc anc) | ((with_reducible refine And.intro ?_ ?_); (focus (first | trivial | omega | (simp only [Fits]; omega) | assumption | (rw [hanc]; rfl)))) | ((first | refine K_regA hE fun K Kp hK hKp => ?_ | refine K_drwA false mixed hE fun K Kp hK hKp anc hanc => ?_); simp only [go_sem, ge_dec]) | ((first | refine onG_split_t (fun hg => ?_) (fun hg => ?_) | refine onG_split_f (fun hg => ?_) (fun hg => ?_)) <;> simp only [go_sem, ge_dec, hg]) | (refine K_condA (fun hc => ?_) (fun hc => ?_) <;> try (exact absurd hc (by decide))) | (refine K_ret ?_; refine (hQ _ ⟨_, by (try simp only [go_sem, ↓reduceIte, Nat.reduceEqDiff]); rfl, by simp [go_sem], ?_, by first | rfl | assumption⟩).1))
 simp [AV.snap]
end Go.Proofs.YtihfjibkmhclfaaDoor

set_option linter.unusedVariables false
namespace Go.Proofs.YtihfjibkmhclfaaDoor
open Go.Am Go.Proofs Go.Lx
variable {H : Type}
theorem lexerSeparates_pcall {d0 : DataW H} (h0 : DT Tryd.prog 9 d0) (b0 : bulk d0 ≤ 1048576) : PCall Tryd.prog 7 [avD d0] (.bool true) := by
 obtain ⟨x0, e0, f0⟩ := opn_s h0
 rw [e0]
 exact separates_c x0 (by omega)
end Go.Proofs.YtihfjibkmhclfaaDoor
