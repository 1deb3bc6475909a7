/- A part of the proof: an abstract machine for the walks, and what the walked functions compute. -/
import Derived.Test.YtfiehjbijdmbaaaDoorRa
set_option linter.unusedVariables false
set_option linter.unusedSimpArgs false
set_option linter.unusedSimpArgs false
set_option linter.unusedVariables false
set_option maxHeartbeats 4000000
set_option maxRecDepth 100000
namespace Go.Proofs.YtfiehjbijdmbaaaDoor
open Nat (reduceAdd reduceMul reduceEqDiff reduceLT reduceLeDiff reduceSub reduceDiv)
open Int (reduceBNe reduceLE reduceEq)
open Go.Am Go.Proofs Go.Ca
open Classical
attribute [local irreducible] AW CallP CallB
theorem tmod_pos {a b : Int} (h : 0 ≤ a) : a.tmod b = a % b := Int.tmod_eq_emod_of_nonneg h
theorem take_get {α : Type} {l : List α} {i : Nat} {b : α} (h : l[i]? = some b) : l.take (i + 1) = l.take i ++ [b] := by rw [List.take_add_one, h]; rfl
theorem sum1_call (b : UInt8) : PCall Tryd.prog 38 [.int .u8 (b.toNat : Int)] (.i (b.toNat : Int)) := by
 have hb := u8_lt b
 have u : IntKind.i64.wrap (b.toNat : Int) = (b.toNat : Int) := wrap64 (by omega) (by omega)
 refine PCall.intro Tryd.func38 rfl isf38 (by simp [Tryd.f38]) (by simp [AV.cloL, AV.clo]) fun E Q hE hN hQ => K_start ?_
 repeat' (first | apply nx | refine Kq_exit_ne (by decide) ?_ | rw [wrap64 (by omega) (by omega)] | ((first | refine hK _ ?_ | refine hKp _ _ ?_); clear hK hKp K Kp; try clear hanc anc) | ((with_reducible refine And.intro ?_ ?_); (focus (first | trivial | omega | (simp only [Fits]; omega) | assumption | (rw [hanc]; rfl)))) | ((first | refine K_regA hE fun K Kp hK hKp => ?_ | refine K_drwA false mixed hE fun K Kp hK hKp anc hanc => ?_); simp only [go_sem, u]) | ((first | refine onG_split_t (fun hg => ?_) (fun hg => ?_) | refine onG_split_f (fun hg => ?_) (fun hg => ?_)) <;> simp only [go_sem, u, hg]) | (refine K_condA (fun hc => ?_) (fun hc => ?_) <;> try (exact absurd hc (by decide))) | (refine K_ret ?_; refine (hQ _ ⟨_, by (try simp only [go_sem, ↓reduceIte, Nat.reduceEqDiff]); rfl, by simp [go_sem], ?_, by first | rfl | assumption⟩).1))
 simp [AV.snap]
theorem fold_call (l : List UInt8) (hl : l.length ≤ 2 ^ 40) : PCall Tryd.prog 37 [.sl (ub l), .fn (.func 38) [] []] (.i (sumD l)) := by
 refine PCall.intro Tryd.func37 rfl isf37 (by simp [Tryd.f37]) (by simp [AV.cloL, AV.clo]) fun E Q hE hN hQ => K_start ?_
 repeat' (first | apply nx | refine Kq_exit_ne (by decide) ?_ | rw [wrap64 (by omega) (by omega)] | ((first | refine hK _ ?_ | refine hKp _ _ ?_); clear hK hKp K Kp; try clear hanc anc) | ((with_reducible refine And.intro ?_ ?_); (focus (first | trivial | omega | (simp only [Fits]; omega) | assumption | (rw [hanc]; rfl)))) | ((first | refine K_regA hE fun K Kp hK hKp => ?_ | refine K_drwA false mixed hE fun K Kp hK hKp anc hanc => ?_); simp only [go_sem]) | ((first | refine onG_split_t (fun hg => ?_) (fun hg => ?_) | refine onG_split_f (fun hg => ?_) (fun hg => ?_)) <;> simp only [go_sem, hg]) | (refine K_condA (fun hc => ?_) (fun hc => ?_) <;> try (exact absurd hc (by decide))) | (refine K_ret ?_; refine (hQ _ ⟨_, by (try simp only [go_sem, ↓reduceIte, Nat.reduceEqDiff]); rfl, by simp [go_sem], ?_, by first | rfl | assumption⟩).1))
 refine K_loop (X := Nat) (fun i => i ≤ l.length) (fun i => mkSt [(1, .fn (.func 38) [] []), (5, .i (sumD (l.take i))), (8, .sl (ub l)), (9, .i l.length), (10, .i i)] [] 0) (fun i => l.length - i) 0 (Nat.zero_le _) (fun i => i) (by refine ent_mk (by simp [go_sem, sumD]) (by simp [go_sem, sumD]) (by simp) (by simp [hN])) ?_
 intro i hi
 by_cases hlt : i < l.length
 ·obtain ⟨b, hb⟩ := get?_of hlt
  have hc0 := sum1_call b
  have hr := sumD_range (l.take i)
  have h8 := u8_lt b
  have e : sumD (l.take (i + 1)) = (sumD (l.take i) * 1000003 + (b.toNat : Int) + 1) % 2147483647 := by rw [take_get hb]; exact sumD_snoc _ _
  generalize sumD (l.take i) = s at hr e
  have u1 : IntKind.i64.wrap (s * 1000003) = s * 1000003 := wrap64 (by omega) (by omega)
  have u2 : IntKind.i64.wrap (s * 1000003 + (b.toNat : Int)) = s * 1000003 + (b.toNat : Int) := wrap64 (by omega) (by omega)
  have u3 : IntKind.i64.wrap (s * 1000003 + (b.toNat : Int) + 1) = s * 1000003 + (b.toNat : Int) + 1 := wrap64 (by omega) (by omega)
  have u4 : (s * 1000003 + (b.toNat : Int) + 1).tmod 2147483647 = (s * 1000003 + (b.toNat : Int) + 1) % 2147483647 := tmod_pos (by omega)
  repeat' (first | apply nx | refine Kq_exit_ne (by decide) ?_ | rw [wrap64 (by omega) (by omega)] | ((first | refine hK _ ?_ | refine hKp _ _ ?_); clear hK hKp K Kp; try clear hanc anc) | ((with_reducible refine And.intro ?_ ?_); (focus (first | trivial | omega | (simp only [Fits]; omega) | assumption | (rw [hanc]; rfl)))) | ((first | refine K_regA hE fun K Kp hK hKp => ?_ | refine K_drwA false mixed hE fun K Kp hK hKp anc hanc => ?_ | ((first | apply CallP_mk | apply CallB_mk); (focus (simp only [go_sem] <;> rfl)); (focus (exact hc0)); (focus (first | (simp [go_sem]; done) | (simp [go_sem, CloRow, AV.cells, AV.clo]; done))); (focus (first | exact .inl rfl | (right; simp [go_sem]))))); simp only [go_sem, lt_dec hlt, hb, u1, u2, u3, u4]) | ((first | refine onG_split_t (fun hg => ?_) (fun hg => ?_) | refine onG_split_f (fun hg => ?_) (fun hg => ?_)) <;> simp only [go_sem, lt_dec hlt, hb, u1, u2, u3, u4, hg]) | (refine K_condA (fun hc => ?_) (fun hc => ?_) <;> try (exact absurd hc (by decide))) | (refine K_ret ?_; refine (hQ _ ⟨_, by (try simp only [go_sem, ↓reduceIte, Nat.reduceEqDiff]); rfl, by simp [go_sem], ?_, by first | rfl | assumption⟩).1))
  exact ⟨i + 1, by omega, by omega, fun i => i, by refine ent_mk (by simp [go_sem, e]) (by simp [go_sem, e]) (by simp) (by simp [hN])⟩
 ·obtain rfl : i = l.length := by omega
  repeat' (first | apply nx | refine Kq_exit_ne (by decide) ?_ | rw [wrap64 (by omega) (by omega)] | ((first | refine hK _ ?_ | refine hKp _ _ ?_); clear hK hKp K Kp; try clear hanc anc) | ((with_reducible refine And.intro ?_ ?_); (focus (first | trivial | omega | (simp only [Fits]; omega) | assumption | (rw [hanc]; rfl)))) | ((first | refine K_regA hE fun K Kp hK hKp => ?_ | refine K_drwA false mixed hE fun K Kp hK hKp anc hanc => ?_); simp only [go_sem, ge_dec, List.take_length]) | ((first | refine onG_split_t (fun hg => ?_) (fun hg => ?_) | refine onG_split_f (fun hg => ?_) (fun hg => ?_)) <;> simp only [go_sem, ge_dec, List.take_length, hg]) | (refine K_condA (fun hc => ?_) (fun hc => ?_) <;> try (exact absurd hc (by decide))) | (refine K_ret ?_; refine (hQ _ ⟨_, by (try simp only [go_sem, ↓reduceIte, Nat.reduceEqDiff]); rfl, by simp [go_sem], ?_, by first | rfl | assumption⟩).1))
  simp [AV.snap]
theorem sum_call (l : List UInt8) (hl : l.length ≤ 2 ^ 40) : PCall Tryd.prog 23 [.sl (ub l)] (.i (sumD l)) := by
 have hc0 := fold_call l hl
 refine PCall.intro Tryd.func23 rfl isf23 (by simp [Tryd.f23]) (by simp [AV.cloL, AV.clo]) fun E Q hE hN hQ => K_start ?_
 repeat' (first | apply nx | refine Kq_exit_ne (by decide) ?_ | rw [wrap64 (by omega) (by omega)] | ((first | refine hK _ ?_ | refine hKp _ _ ?_); clear hK hKp K Kp; try clear hanc anc) | ((with_reducible refine And.intro ?_ ?_); (focus (first | trivial | omega | (simp only [Fits]; omega) | assumption | (rw [hanc]; rfl)))) | ((first | refine K_regA hE fun K Kp hK hKp => ?_ | refine K_drwA false mixed hE fun K Kp hK hKp anc hanc => ?_ | ((first | apply CallP_mk | apply CallB_mk); (focus (simp only [go_sem] <;> rfl)); (focus (exact hc0)); (focus (first | (simp [go_sem]; done) | (simp [go_sem, CloRow, AV.cells, AV.clo]; done))); (focus (first | exact .inl rfl | (right; simp [go_sem]))))); simp only [go_sem]) | ((first | refine onG_split_t (fun hg => ?_) (fun hg => ?_) | refine onG_split_f (fun hg => ?_) (fun hg => ?_)) <;> simp only [go_sem, hg]) | (refine K_condA (fun hc => ?_) (fun hc => ?_) <;> try (exact absurd hc (by decide))) | (refine K_ret ?_; refine (hQ _ ⟨_, by (try simp only [go_sem, ↓reduceIte, Nat.reduceEqDiff]); rfl, by simp [go_sem], ?_, by first | rfl | assumption⟩).1))
 simp [AV.snap]
theorem rsum_call (l : List UInt8) (hl : l.length ≤ 2 ^ 40) : PCall Tryd.prog 44 [.sl (ub l)] (.i (sumD l)) := by
 refine PCall.intro Tryd.func44 rfl isf44 (by simp [Tryd.f44]) (by simp [AV.cloL, AV.clo]) fun E Q hE hN hQ => K_start ?_
 repeat' (first | apply nx | refine Kq_exit_ne (by decide) ?_ | rw [wrap64 (by omega) (by omega)] | ((first | refine hK _ ?_ | refine hKp _ _ ?_); clear hK hKp K Kp; try clear hanc anc) | ((with_reducible refine And.intro ?_ ?_); (focus (first | trivial | omega | (simp only [Fits]; omega) | assumption | (rw [hanc]; rfl)))) | ((first | refine K_regA hE fun K Kp hK hKp => ?_ | refine K_drwA false mixed hE fun K Kp hK hKp anc hanc => ?_); simp only [go_sem]) | ((first | refine onG_split_t (fun hg => ?_) (fun hg => ?_) | refine onG_split_f (fun hg => ?_) (fun hg => ?_)) <;> simp only [go_sem, hg]) | (refine K_condA (fun hc => ?_) (fun hc => ?_) <;> try (exact absurd hc (by decide))) | (refine K_ret ?_; refine (hQ _ ⟨_, by (try simp only [go_sem, ↓reduceIte, Nat.reduceEqDiff]); rfl, by simp [go_sem], ?_, by first | rfl | assumption⟩).1))
 refine K_loop (X := Nat) (fun i => i ≤ l.length) (fun i => mkSt [(0, .sl (ub l)), (3, .i (sumD (l.take i))), (4, .i i)] [] 0) (fun i => l.length - i) 0 (Nat.zero_le _) (fun i => i) (by refine ent_mk (by simp [go_sem, sumD]) (by simp [go_sem, sumD]) (by simp) (by simp [hN])) ?_
 intro i hi
 by_cases hlt : i < l.length
 ·obtain ⟨b, hb⟩ := get?_of hlt
  have hr := sumD_range (l.take i)
  have h8 := u8_lt b
  have e : sumD (l.take (i + 1)) = (sumD (l.take i) * 1000003 + (b.toNat : Int) + 1) % 2147483647 := by rw [take_get hb]; exact sumD_snoc _ _
  generalize sumD (l.take i) = s at hr e
  have u0 : IntKind.i64.wrap (b.toNat : Int) = (b.toNat : Int) := wrap64 (by omega) (by omega)
  have u1 : IntKind.i64.wrap (s * 1000003) = s * 1000003 := wrap64 (by omega) (by omega)
  have u2 : IntKind.i64.wrap (s * 1000003 + (b.toNat : Int)) = s * 1000003 + (b.toNat : Int) := wrap64 (by omega) (by omega)
  have u3 : IntKind.i64.wrap (s * 1000003 + (b.toNat : Int) + 1) = s * 1000003 + (b.toNat : Int) + 1 := wrap64 (by omega) (by omega)
  have u4 : (s * 1000003 + (b.toNat : Int) + 1).tmod 2147483647 = (s * 1000003 + (b.toNat : Int) + 1) % 2147483647 := tmod_pos (by omega)
  repeat' (first | apply nx | refine Kq_exit_ne (by decide) ?_ | rw [wrap64 (by omega) (by omega)] | ((first | refine hK _ ?_ | refine hKp _ _ ?_); clear hK hKp K Kp; try clear hanc anc) | ((with_reducible refine And.intro ?_ ?_); (focus (first | trivial | omega | (simp only [Fits]; omega) | assumption | (rw [hanc]; rfl)))) | ((first | refine K_regA hE fun K Kp hK hKp => ?_ | refine K_drwA false mixed hE fun K Kp hK hKp anc hanc => ?_); simp only [go_sem, lt_dec hlt, hb, u0, u1, u2, u3, u4]) | ((first | refine onG_split_t (fun hg => ?_) (fun hg => ?_) | refine onG_split_f (fun hg => ?_) (fun hg => ?_)) <;> simp only [go_sem, lt_dec hlt, hb, u0, u1, u2, u3, u4, hg]) | (refine K_condA (fun hc => ?_) (fun hc => ?_) <;> try (exact absurd hc (by decide))) | (refine K_ret ?_; refine (hQ _ ⟨_, by (try simp only [go_sem, ↓reduceIte, Nat.reduceEqDiff]); rfl, by simp [go_sem], ?_, by first | rfl | assumption⟩).1))
  exact ⟨i + 1, by omega, by omega, fun i => i, by refine ent_mk (by simp [go_sem, e]) (by simp [go_sem, e]) (by simp) (by simp [hN])⟩
 ·obtain rfl : i = l.length := by omega
  repeat' (first | apply nx | refine Kq_exit_ne (by decide) ?_ | rw [wrap64 (by omega) (by omega)] | ((first | refine hK _ ?_ | refine hKp _ _ ?_); clear hK hKp K Kp; try clear hanc anc) | ((with_reducible refine And.intro ?_ ?_); (focus (first | trivial | omega | (simp only [Fits]; omega) | assumption | (rw [hanc]; rfl)))) | ((first | refine K_regA hE fun K Kp hK hKp => ?_ | refine K_drwA false mixed hE fun K Kp hK hKp anc hanc => ?_); simp only [go_sem, ge_dec, List.take_length]) | ((first | refine onG_split_t (fun hg => ?_) (fun hg => ?_) | refine onG_split_f (fun hg => ?_) (fun hg => ?_)) <;> simp only [go_sem, ge_dec, List.take_length, hg]) | (refine K_condA (fun hc => ?_) (fun hc => ?_) <;> try (exact absurd hc (by decide))) | (refine K_ret ?_; refine (hQ _ ⟨_, by (try simp only [go_sem, ↓reduceIte, Nat.reduceEqDiff]); rfl, by simp [go_sem], ?_, by first | rfl | assumption⟩).1))
  simp [AV.snap]
theorem wrap_u64 (n : Int) : IntKind.u64.wrap n = n % 18446744073709551616 := by simp [IntKind.wrap, IntKind.bits, IntKind.signed]
theorem or_u64 (a : Int) (b : UInt8) : IntKind.u64.wrap ((BitVec.ofInt 64 (IntKind.u64.wrap (a * 256)) ||| BitVec.ofInt 64 (b.toNat : Int)).toNat : Int) = (a * 256 + (b.toNat : Int)) % 18446744073709551616 := by
 rw [wrap_u64, wrap_u64]
 have h8 := b.toNat_lt
 obtain ⟨m, hm, hmlt⟩ : ∃ m : Nat, (a * 256) % 18446744073709551616 = ((m * 256 : Nat) : Int) ∧ m < 2 ^ 56 := by
  refine ⟨((a * 256) % 18446744073709551616 / 256).toNat, ?_, ?_⟩ <;> omega
 rw [hm]
 have e1 : (BitVec.ofInt 64 ((m * 256 : Nat) : Int) ||| BitVec.ofInt 64 (b.toNat : Int)).toNat = m * 256 + b.toNat := by
  rw [BitVec.toNat_or]
  have g1 : (BitVec.ofInt 64 ((m * 256 : Nat) : Int)).toNat = m * 256 := by
   rw [BitVec.ofInt_natCast, BitVec.toNat_ofNat]
   exact Nat.mod_eq_of_lt (by omega)
  have g2 : (BitVec.ofInt 64 (b.toNat : Int)).toNat = b.toNat := by
   rw [BitVec.ofInt_natCast, BitVec.toNat_ofNat]
   exact Nat.mod_eq_of_lt (by omega)
  rw [g1, g2]
  have := Nat.shiftLeft_add_eq_or_of_lt (i := 8) (b := b.toNat) h8 m
  rw [Nat.shiftLeft_eq] at this
  exact this.symm
 rw [e1]
 omega
theorem value_call (l : List UInt8) (hl : l.length ≤ 2 ^ 40) : PCall Tryd.prog 46 [.sl (ub l)] (.i (sv l)) := by
 refine PCall.intro Tryd.func46 rfl isf46 (by simp [Tryd.f46]) (by simp [AV.cloL, AV.clo]) fun E Q hE hN hQ => K_start ?_
 repeat' (first | apply nx | refine Kq_exit_ne (by decide) ?_ | rw [wrap64 (by omega) (by omega)] | ((first | refine hK _ ?_ | refine hKp _ _ ?_); clear hK hKp K Kp; try clear hanc anc) | ((with_reducible refine And.intro ?_ ?_); (focus (first | trivial | omega | (simp only [Fits]; omega) | assumption | (rw [hanc]; rfl)))) | ((first | refine K_regA hE fun K Kp hK hKp => ?_ | refine K_drwA false mixed hE fun K Kp hK hKp anc hanc => ?_); simp only [go_sem]) | ((first | refine onG_split_t (fun hg => ?_) (fun hg => ?_) | refine onG_split_f (fun hg => ?_) (fun hg => ?_)) <;> simp only [go_sem, hg]) | (refine K_condA (fun hc => ?_) (fun hc => ?_) <;> try (exact absurd hc (by decide))) | (refine K_ret ?_; refine (hQ _ ⟨_, by (try simp only [go_sem, ↓reduceIte, Nat.reduceEqDiff]); rfl, by simp [go_sem], ?_, by first | rfl | assumption⟩).1))
 refine K_loop (X := Nat) (fun i => i ≤ l.length) (fun i => mkSt [(3, .int .u64 (vn (l.take i))), (6, .sl (ub l)), (7, .i l.length), (8, .i i)] [] 0) (fun i => l.length - i) 0 (Nat.zero_le _) (fun i => i) (by refine ent_mk (by simp [go_sem, vn]) (by simp [go_sem, vn]) (by simp) (by simp [hN])) ?_
 intro i hi
 by_cases hlt : i < l.length
 ·obtain ⟨b, hb⟩ := get?_of hlt
  have e : vn (l.take (i + 1)) = (vn (l.take i) * 256 + (b.toNat : Int)) % 18446744073709551616 := by rw [take_get hb]; exact vn_snoc _ _
  generalize vn (l.take i) = s at e
  have h8 := u8_lt b
  have u0 : IntKind.u64.wrap (b.toNat : Int) = (b.toNat : Int) := by rw [wrap_u64]; omega
  have u1 : s * 2 ^ min (Int.toNat 8) IntKind.u64.bits = s * 256 := rfl
  have u2 := or_u64 s b
  simp only [BitVec.ofInt_natCast] at u2
  repeat' (first | apply nx | refine Kq_exit_ne (by decide) ?_ | rw [wrap64 (by omega) (by omega)] | ((first | refine hK _ ?_ | refine hKp _ _ ?_); clear hK hKp K Kp; try clear hanc anc) | ((with_reducible refine And.intro ?_ ?_); (focus (first | trivial | omega | (simp only [Fits]; omega) | assumption | (rw [hanc]; rfl)))) | ((first | refine K_regA hE fun K Kp hK hKp => ?_ | refine K_drwA false mixed hE fun K Kp hK hKp anc hanc => ?_); simp only [go_sem, lt_dec hlt, hb, u0, u1]) | ((first | refine onG_split_t (fun hg => ?_) (fun hg => ?_) | refine onG_split_f (fun hg => ?_) (fun hg => ?_)) <;> simp only [go_sem, lt_dec hlt, hb, u0, u1, hg]) | (refine K_condA (fun hc => ?_) (fun hc => ?_) <;> try (exact absurd hc (by decide))) | (refine K_ret ?_; refine (hQ _ ⟨_, by (try simp only [go_sem, ↓reduceIte, Nat.reduceEqDiff]); rfl, by simp [go_sem], ?_, by first | rfl | assumption⟩).1))
  exact ⟨i + 1, by omega, by omega, fun i => i, ent_mk (by simp [go_sem, e]; exact u2) (by simp [go_sem]) (by simp) (by simp [hN])⟩
 ·obtain rfl : i = l.length := by omega
  repeat' (first | apply nx | refine Kq_exit_ne (by decide) ?_ | rw [wrap64 (by omega) (by omega)] | ((first | refine hK _ ?_ | refine hKp _ _ ?_); clear hK hKp K Kp; try clear hanc anc) | ((with_reducible refine And.intro ?_ ?_); (focus (first | trivial | omega | (simp only [Fits]; omega) | assumption | (rw [hanc]; rfl)))) | ((first | refine K_regA hE fun K Kp hK hKp => ?_ | refine K_drwA false mixed hE fun K Kp hK hKp anc hanc => ?_); simp only [go_sem, ge_dec, List.take_length]) | ((first | refine onG_split_t (fun hg => ?_) (fun hg => ?_) | refine onG_split_f (fun hg => ?_) (fun hg => ?_)) <;> simp only [go_sem, ge_dec, List.take_length, hg]) | (refine K_condA (fun hc => ?_) (fun hc => ?_) <;> try (exact absurd hc (by decide))) | (refine K_ret ?_; refine (hQ _ ⟨_, by (try simp only [go_sem, ↓reduceIte, Nat.reduceEqDiff]); rfl, by simp [go_sem], ?_, by first | rfl | assumption⟩).1))
  simp [AV.snap, sv]
theorem rvalue_call (l : List UInt8) (hl : l.length ≤ 2 ^ 40) : PCall Tryd.prog 34 [.sl (ub l)] (.int .u64 (vn l)) := by
 refine PCall.intro Tryd.func34 rfl isf34 (by simp [Tryd.f34]) (by simp [AV.cloL, AV.clo]) fun E Q hE hN hQ => K_start ?_
 repeat' (first | apply nx | refine Kq_exit_ne (by decide) ?_ | rw [wrap64 (by omega) (by omega)] | ((first | refine hK _ ?_ | refine hKp _ _ ?_); clear hK hKp K Kp; try clear hanc anc) | ((with_reducible refine And.intro ?_ ?_); (focus (first | trivial | omega | (simp only [Fits]; omega) | assumption | (rw [hanc]; rfl)))) | ((first | refine K_regA hE fun K Kp hK hKp => ?_ | refine K_drwA false mixed hE fun K Kp hK hKp anc hanc => ?_); simp only [go_sem]) | ((first | refine onG_split_t (fun hg => ?_) (fun hg => ?_) | refine onG_split_f (fun hg => ?_) (fun hg => ?_)) <;> simp only [go_sem, hg]) | (refine K_condA (fun hc => ?_) (fun hc => ?_) <;> try (exact absurd hc (by decide))) | (refine K_ret ?_; refine (hQ _ ⟨_, by (try simp only [go_sem, ↓reduceIte, Nat.reduceEqDiff]); rfl, by simp [go_sem], ?_, by first | rfl | assumption⟩).1))
 refine K_loop (X := Nat) (fun i => i ≤ l.length) (fun i => mkSt [(0, .sl (ub l)), (3, .int .u64 (vn (l.take i))), (4, .i i)] [] 0) (fun i => l.length - i) 0 (Nat.zero_le _) (fun i => i) (by refine ent_mk (by simp [go_sem, vn]) (by simp [go_sem, vn]) (by simp) (by simp [hN])) ?_
 intro i hi
 by_cases hlt : i < l.length
 ·obtain ⟨b, hb⟩ := get?_of hlt
  have e : vn (l.take (i + 1)) = (vn (l.take i) * 256 + (b.toNat : Int)) % 18446744073709551616 := by rw [take_get hb]; exact vn_snoc _ _
  generalize vn (l.take i) = s at e
  have h8 := u8_lt b
  have u0 : IntKind.u64.wrap (b.toNat : Int) = (b.toNat : Int) := by rw [wrap_u64]; omega
  have u1 : IntKind.u64.wrap (IntKind.u64.wrap (s * 256) + (b.toNat : Int)) = (s * 256 + (b.toNat : Int)) % 18446744073709551616 := by rw [wrap_u64, wrap_u64]; omega
  repeat' (first | apply nx | refine Kq_exit_ne (by decide) ?_ | rw [wrap64 (by omega) (by omega)] | ((first | refine hK _ ?_ | refine hKp _ _ ?_); clear hK hKp K Kp; try clear hanc anc) | ((with_reducible refine And.intro ?_ ?_); (focus (first | trivial | omega | (simp only [Fits]; omega) | assumption | (rw [hanc]; rfl)))) | ((first | refine K_regA hE fun K Kp hK hKp => ?_ | refine K_drwA false mixed hE fun K Kp hK hKp anc hanc => ?_); simp only [go_sem, lt_dec hlt, hb, u0, u1]) | ((first | refine onG_split_t (fun hg => ?_) (fun hg => ?_) | refine onG_split_f (fun hg => ?_) (fun hg => ?_)) <;> simp only [go_sem, lt_dec hlt, hb, u0, u1, hg]) | (refine K_condA (fun hc => ?_) (fun hc => ?_) <;> try (exact absurd hc (by decide))) | (refine K_ret ?_; refine (hQ _ ⟨_, by (try simp only [go_sem, ↓reduceIte, Nat.reduceEqDiff]); rfl, by simp [go_sem], ?_, by first | rfl | assumption⟩).1))
  exact ⟨i + 1, by omega, by omega, fun i => i, by refine ent_mk (by simp [go_sem, e]) (by simp [go_sem, e]) (by simp) (by simp [hN])⟩
 ·obtain rfl : i = l.length := by omega
  repeat' (first | apply nx | refine Kq_exit_ne (by decide) ?_ | rw [wrap64 (by omega) (by omega)] | ((first | refine hK _ ?_ | refine hKp _ _ ?_); clear hK hKp K Kp; try clear hanc anc) | ((with_reducible refine And.intro ?_ ?_); (focus (first | trivial | omega | (simp only [Fits]; omega) | assumption | (rw [hanc]; rfl)))) | ((first | refine K_regA hE fun K Kp hK hKp => ?_ | refine K_drwA false mixed hE fun K Kp hK hKp anc hanc => ?_); simp only [go_sem, ge_dec, List.take_length]) | ((first | refine onG_split_t (fun hg => ?_) (fun hg => ?_) | refine onG_split_f (fun hg => ?_) (fun hg => ?_)) <;> simp only [go_sem, ge_dec, List.take_length, hg]) | (refine K_condA (fun hc => ?_) (fun hc => ?_) <;> try (exact absurd hc (by decide))) | (refine K_ret ?_; refine (hQ _ ⟨_, by (try simp only [go_sem, ↓reduceIte, Nat.reduceEqDiff]); rfl, by simp [go_sem], ?_, by first | rfl | assumption⟩).1))
  simp [AV.snap]
theorem fdiv_pos {a b : Int} (h : 0 ≤ b) : a.fdiv b = a / b := Int.fdiv_eq_ediv_of_nonneg a h
theorem word_call (n : Int) (k : Nat) (hk : k ≤ 8) : PCall Tryd.prog 28 [.i n, .i k] (.sl (ub (be (n % 18446744073709551616) k))) := by
 have hk1 : IntKind.i64.wrap ((k : Int) - 1) = (k : Int) - 1 := wrap64 (by omega) (by omega)
 refine PCall.intro Tryd.func28 rfl isf28 (by simp [Tryd.f28]) (by simp [AV.cloL, AV.clo]) fun E Q hE hN hQ => K_start ?_
 repeat' (first | apply nx | refine Kq_exit_ne (by decide) ?_ | rw [wrap64 (by omega) (by omega)] | ((first | refine hK _ ?_ | refine hKp _ _ ?_); clear hK hKp K Kp; try clear hanc anc) | ((with_reducible refine And.intro ?_ ?_); (focus (first | trivial | omega | (simp only [Fits]; omega) | assumption | (rw [hanc]; rfl)))) | ((first | refine K_regA hE fun K Kp hK hKp => ?_ | refine K_drwA false mixed hE fun K Kp hK hKp anc hanc => ?_); simp only [go_sem, hk1]) | ((first | refine onG_split_t (fun hg => ?_) (fun hg => ?_) | refine onG_split_f (fun hg => ?_) (fun hg => ?_)) <;> simp only [go_sem, hk1, hg]) | (refine K_condA (fun hc => ?_) (fun hc => ?_) <;> try (exact absurd hc (by decide))) | (refine K_ret ?_; refine (hQ _ ⟨_, by (try simp only [go_sem, ↓reduceIte, Nat.reduceEqDiff]); rfl, by simp [go_sem], ?_, by first | rfl | assumption⟩).1))
 refine AW_nil 5 1 (by rw [hE]; decide) (by simp only [go_sem]) ?_
 refine K_loop (X := Nat) (fun j => j ≤ k) (fun j => mkSt [(0, .i n), (1, .i k), (5, .rw 0), (6, .i ((j : Int) - 1))] [(0, .row 1 (ub (be (n % 18446744073709551616 / 256 ^ j) (k - j))))] 1) (fun j => j) k (Nat.le_refl _) (fun i => 5242880) (by refine ent_mk (by simp [go_sem, be]) (by simp [go_sem, be]) (by simp) (by simp [hN])) ?_
 intro j hj
 cases j with
 | zero =>
  have q : decide (((0 : Nat) : Int) - 1 ≥ 0) = false := by simp
  repeat' (first | apply nx | refine Kq_exit_ne (by decide) ?_ | rw [wrap64 (by omega) (by omega)] | ((first | refine hK _ ?_ | refine hKp _ _ ?_); clear hK hKp K Kp; try clear hanc anc) | ((with_reducible refine And.intro ?_ ?_); (focus (first | trivial | omega | (simp only [Fits]; omega) | assumption | (rw [hanc]; rfl)))) | ((first | refine K_regA hE fun K Kp hK hKp => ?_ | refine K_drwA false mixed hE fun K Kp hK hKp anc hanc => ?_); simp only [go_sem, q, Int.pow_zero, Int.ediv_one]) | ((first | refine onG_split_t (fun hg => ?_) (fun hg => ?_) | refine onG_split_f (fun hg => ?_) (fun hg => ?_)) <;> simp only [go_sem, q, Int.pow_zero, Int.ediv_one, hg]) | (refine K_condA (fun hc => ?_) (fun hc => ?_) <;> try (exact absurd hc (by decide))) | (refine K_ret ?_; refine (hQ _ ⟨_, by (try simp only [go_sem, ↓reduceIte, Nat.reduceEqDiff]); rfl, by simp [go_sem], ?_, by first | rfl | assumption⟩).1))
  simp [AV.snap, go_sem]
 | succ m =>
  have e0 : ((m + 1 : Nat) : Int) - 1 = (m : Int) := by omega
  have q : decide ((m : Int) ≥ 0) = true := by simp
  have u0 : IntKind.u64.wrap n = n % 18446744073709551616 := wrap_u64 n
  have u1 : IntKind.i64.wrap (8 * (m : Int)) = 8 * (m : Int) := wrap64 (by omega) (by omega)
  have u2 : (n % 18446744073709551616).fdiv (2 ^ min (8 * (m : Int)).toNat 64) = n % 18446744073709551616 / 256 ^ m := by
   have g1 : min (8 * (m : Int)).toNat 64 = 8 * m := by omega
   rw [g1, Int.pow_mul]
   exact fdiv_pos (Int.le_of_lt (Int.pow_pos (by decide)))
  have u3 : IntKind.i64.wrap ((m : Int) - 1) = (m : Int) - 1 := wrap64 (by omega) (by omega)
  have e1 : be (n % 18446744073709551616 / 256 ^ m) (k - m) = be (n % 18446744073709551616 / 256 ^ (m + 1)) (k - (m + 1)) ++ [u8 (n % 18446744073709551616 / 256 ^ m)] := by
   rw [show k - m = (k - (m + 1)) + 1 by omega, be, div_div _ _ _ (Int.le_of_lt (Int.pow_pos (by decide))), Int.pow_succ]
  repeat' (first | apply nx | refine Kq_exit_ne (by decide) ?_ | rw [wrap64 (by omega) (by omega)] | ((first | refine hK _ ?_ | refine hKp _ _ ?_); clear hK hKp K Kp; try clear hanc anc) | ((with_reducible refine And.intro ?_ ?_); (focus (first | trivial | omega | (simp only [Fits]; omega) | assumption | (rw [hanc]; rfl)))) | ((first | refine K_regA hE fun K Kp hK hKp => ?_ | refine K_drwA false mixed hE fun K Kp hK hKp anc hanc => ?_); simp only [go_sem, e0, q, u0, u1, u2, u3]) | ((first | refine onG_split_t (fun hg => ?_) (fun hg => ?_) | refine onG_split_f (fun hg => ?_) (fun hg => ?_)) <;> simp only [go_sem, e0, q, u0, u1, u2, u3, hg]) | (refine K_condA (fun hc => ?_) (fun hc => ?_) <;> try (exact absurd hc (by decide))) | (refine K_ret ?_; refine (hQ _ ⟨_, by (try simp only [go_sem, ↓reduceIte, Nat.reduceEqDiff]); rfl, by simp [go_sem], ?_, by first | rfl | assumption⟩).1))
  exact ⟨m, by omega, by omega, fun i => if i = 0 then 10485761 else i, by refine ent_mk (by simp [go_sem, e1, u2]) (by simp [go_sem, e1, u2]) (by simp) (by simp [hN])⟩
end Go.Proofs.YtfiehjbijdmbaaaDoor

set_option linter.unusedSimpArgs false
set_option linter.unusedVariables false
set_option maxHeartbeats 4000000
set_option maxRecDepth 100000
namespace Go.Proofs.YtfiehjbijdmbaaaDoor
open Nat (reduceAdd reduceMul reduceEqDiff reduceLT reduceLeDiff reduceSub reduceDiv)
open Int (reduceBNe reduceLE reduceEq)
open Go.Am Go.Proofs Go.Ca
open Classical
attribute [local irreducible] AW CallP CallB
@[go_sem] theorem u8s_cons (n : Int) (l : List AV) : U8s (.int .u8 n :: l) = U8s l := by
 apply propext
 constructor
 ·intro h x hx; exact h x (by simp [hx])
 ·intro h x hx
  rcases List.mem_cons.1 hx with rfl | hx
  ·exact ⟨_, rfl⟩
  ·exact h x hx
@[go_sem] theorem u8s_nil : U8s [] = True := eq_true fun x hx => by cases hx
@[go_sem] theorem str_one (b : UInt8) : strOf [.int .u8 (b.toNat : Int)] = tx [b] := str_ub [b]
@[go_sem] theorem lit1 (b : UInt8) (l : List UInt8) : (⟨#[b]⟩ : ByteArray) ++ tx l = tx (b :: l) := tx_app [b] l
@[go_sem] theorem lit1_size (b : UInt8) : (⟨#[b]⟩ : ByteArray).size = 1 := rfl
@[go_sem] theorem arr1_size (b : UInt8) : #[b].size = 1 := rfl
theorem td10 (n : Int) : (0 ≤ n ∧ n.tdiv 10 = n / 10 ∧ n.tmod 10 = n % 10) ∨ (n < 0 ∧ n.tdiv 10 = -((-n) / 10) ∧ n.tmod 10 = -((-n) % 10)) := by
 rcases Int.lt_or_le n 0 with h | h
 ·right
  obtain ⟨m, rfl⟩ : ∃ m, n = -m := ⟨-n, by omega⟩
  rw [Int.neg_tdiv, Int.neg_tmod, Int.tdiv_eq_ediv_of_nonneg (by omega), Int.tmod_eq_emod_of_nonneg (by omega), Int.neg_neg]
  exact ⟨h, rfl, rfl⟩
 ·exact .inl ⟨h, Int.tdiv_eq_ediv_of_nonneg h, Int.tmod_eq_emod_of_nonneg h⟩
theorem digit_eq (n : Int) : max (n.tmod 10) (0 - n.tmod 10) = ((n.natAbs % 10 : Nat) : Int) := by
 rcases td10 n with ⟨h, h1, h2⟩ | ⟨h, h1, h2⟩ <;> omega
def dg (u : Nat) : UInt8 := UInt8.ofNat (48 + u % 10)
theorem u8_digit (u : Nat) : u8 (48 + ((u % 10 : Nat) : Int)) = dg u := by
 rw [u8, dg]
 congr 1
 omega
theorem dd_step {u : Nat} (h : ¬ u < 10) : Lib.decDigits u = Lib.decDigits (u / 10) ++ [dg u] := by rw [Lib.decDigits, dif_neg h]; rfl
theorem dd_one {u : Nat} (h : u < 10) : Lib.decDigits u = [dg u] := by rw [Lib.decDigits, dif_pos h, dg, Nat.mod_eq_of_lt h]
theorem itoa_step {n : Int} (h : n.tdiv 10 ≠ 0) : Lib.itoa n = Lib.itoa (n.tdiv 10) ++ [dg n.natAbs] := by
 have ht := td10 n
 unfold Lib.itoa
 by_cases h0 : n < 0
 ·rw [if_pos h0, if_pos (by omega), dd_step (by omega), show (n.tdiv 10).natAbs = n.natAbs / 10 by omega]
  rfl
 ·rw [if_neg h0, if_neg (by omega), show n.natAbs = n.toNat by omega, dd_step (by omega), show (n.tdiv 10).toNat = n.toNat / 10 by omega]
theorem itoa_neg1 {n : Int} (h : n.tdiv 10 = 0) (h0 : n < 0) : Lib.itoa n = 45 :: [dg n.natAbs] := by
 have ht := td10 n
 unfold Lib.itoa
 rw [if_pos h0, dd_one (by omega)]
theorem itoa_pos1 {n : Int} (h : n.tdiv 10 = 0) (h0 : ¬ n < 0) : Lib.itoa n = [dg n.natAbs] := by
 have ht := td10 n
 unfold Lib.itoa
 rw [if_neg h0, dd_one (by omega), show n.natAbs = n.toNat by omega]
theorem dec_call : ∀ (N : Nat) (n : Int), n.natAbs < N → -9223372036854775808 ≤ n → n ≤ 9223372036854775807 → PCall Tryd.prog 36 [.i n] (.str (tx (Lib.itoa n))) := by
 intro N
 induction N with
 | zero => intro n h; omega
 | succ N ih =>
 intro n hn h1 h2
 have hd := digit_eq n
 have ht := td10 n
 have hd2 : n.natAbs % 10 < 10 := Nat.mod_lt _ (by decide)
 have u1 : IntKind.i64.wrap (0 - n.tmod 10) = 0 - n.tmod 10 := wrap64 (by omega) (by omega)
 have u2 : IntKind.i64.wrap (48 + ((n.natAbs % 10 : Nat) : Int)) = 48 + ((n.natAbs % 10 : Nat) : Int) := wrap64 (by omega) (by omega)
 have u3 := u8_digit n.natAbs
 have u4 : IntKind.i64.wrap (n.tdiv 10) = n.tdiv 10 := wrap64 (by omega) (by omega)
 have hlen := Lib.itoa_length_le (n.tdiv 10) (by omega) (by omega)
 by_cases hz : n.tdiv 10 = 0
 ·have q : (n.tdiv 10 != 0) = false := by simp [hz]
  by_cases h0 : n < 0
  ·have q2 : decide (n < 0) = true := by simpa using h0
   rw [itoa_neg1 hz h0]
   refine PCall.intro Tryd.func36 rfl isf36 (by simp [Tryd.f36]) (by simp [AV.cloL, AV.clo]) fun E Q hE hN hQ => K_start ?_
   repeat' (first | apply nx | refine Kq_exit_ne (by decide) ?_ | rw [wrap64 (by omega) (by omega)] | ((first | refine hK _ ?_ | refine hKp _ _ ?_); clear hK hKp K Kp; try clear hanc anc) | ((with_reducible refine And.intro ?_ ?_); (focus (first | trivial | omega | (simp only [Fits]; omega) | assumption | (rw [hanc]; rfl)))) | ((first | refine K_regA hE fun K Kp hK hKp => ?_ | refine K_drwA false mixed hE fun K Kp hK hKp anc hanc => ?_); simp only [go_sem, u1, hd, u2, u3, u4, q, q2]) | ((first | refine onG_split_t (fun hg => ?_) (fun hg => ?_) | refine onG_split_f (fun hg => ?_) (fun hg => ?_)) <;> simp only [go_sem, u1, hd, u2, u3, u4, q, q2, hg]) | (refine K_condA (fun hc => ?_) (fun hc => ?_) <;> try (exact absurd hc (by decide))) | (refine K_ret ?_; refine (hQ _ ⟨_, by (try simp only [go_sem, ↓reduceIte, Nat.reduceEqDiff]); rfl, by simp [go_sem], ?_, by first | rfl | assumption⟩).1))
   simp [AV.snap]
  ·have q2 : decide (n < 0) = false := by simpa using h0
   rw [itoa_pos1 hz h0]
   refine PCall.intro Tryd.func36 rfl isf36 (by simp [Tryd.f36]) (by simp [AV.cloL, AV.clo]) fun E Q hE hN hQ => K_start ?_
   repeat' (first | apply nx | refine Kq_exit_ne (by decide) ?_ | rw [wrap64 (by omega) (by omega)] | ((first | refine hK _ ?_ | refine hKp _ _ ?_); clear hK hKp K Kp; try clear hanc anc) | ((with_reducible refine And.intro ?_ ?_); (focus (first | trivial | omega | (simp only [Fits]; omega) | assumption | (rw [hanc]; rfl)))) | ((first | refine K_regA hE fun K Kp hK hKp => ?_ | refine K_drwA false mixed hE fun K Kp hK hKp anc hanc => ?_); simp only [go_sem, u1, hd, u2, u3, u4, q, q2]) | ((first | refine onG_split_t (fun hg => ?_) (fun hg => ?_) | refine onG_split_f (fun hg => ?_) (fun hg => ?_)) <;> simp only [go_sem, u1, hd, u2, u3, u4, q, q2, hg]) | (refine K_condA (fun hc => ?_) (fun hc => ?_) <;> try (exact absurd hc (by decide))) | (refine K_ret ?_; refine (hQ _ ⟨_, by (try simp only [go_sem, ↓reduceIte, Nat.reduceEqDiff]); rfl, by simp [go_sem], ?_, by first | rfl | assumption⟩).1))
   simp [AV.snap]
 ·have q : (n.tdiv 10 != 0) = true := by simpa using hz
  have hc0 := ih (n.tdiv 10) (by omega) (by omega) (by omega)
  rw [itoa_step hz]
  refine PCall.intro Tryd.func36 rfl isf36 (by simp [Tryd.f36]) (by simp [AV.cloL, AV.clo]) fun E Q hE hN hQ => K_start ?_
  repeat' (first | apply nx | refine Kq_exit_ne (by decide) ?_ | rw [wrap64 (by omega) (by omega)] | ((first | refine hK _ ?_ | refine hKp _ _ ?_); clear hK hKp K Kp; try clear hanc anc) | ((with_reducible refine And.intro ?_ ?_); (focus (first | trivial | omega | (simp only [Fits]; omega) | assumption | (rw [hanc]; rfl)))) | ((first | refine K_regA hE fun K Kp hK hKp => ?_ | refine K_drwA false mixed hE fun K Kp hK hKp anc hanc => ?_ | ((first | apply CallP_mk | apply CallB_mk); (focus (simp only [go_sem] <;> rfl)); (focus (exact hc0)); (focus (first | (simp [go_sem]; done) | (simp [go_sem, CloRow, AV.cells, AV.clo]; done))); (focus (first | exact .inl rfl | (right; simp [go_sem]))))); simp only [go_sem, u1, hd, u2, u3, u4, q, tx_app]) | ((first | refine onG_split_t (fun hg => ?_) (fun hg => ?_) | refine onG_split_f (fun hg => ?_) (fun hg => ?_)) <;> simp only [go_sem, u1, hd, u2, u3, u4, q, tx_app, hg]) | (refine K_condA (fun hc => ?_) (fun hc => ?_) <;> try (exact absurd hc (by decide))) | (refine K_ret ?_; refine (hQ _ ⟨_, by (try simp only [go_sem, ↓reduceIte, Nat.reduceEqDiff]); rfl, by simp [go_sem], ?_, by first | rfl | assumption⟩).1))
  simp [AV.snap]
theorem rname_call (n : Int) (h1 : -9223372036854775808 ≤ n) (h2 : n ≤ 9223372036854775807) : PCall Tryd.prog 20 [.i n] (.str (nm n)) := by
 have hc0 := dec_call (n.natAbs + 1) n (by omega) h1 h2
 have hlen := Lib.itoa_length_le n h1 h2
 refine PCall.intro Tryd.func20 rfl isf20 (by simp [Tryd.f20]) (by simp [AV.cloL, AV.clo]) fun E Q hE hN hQ => K_start ?_
 repeat' (first | apply nx | refine Kq_exit_ne (by decide) ?_ | rw [wrap64 (by omega) (by omega)] | ((first | refine hK _ ?_ | refine hKp _ _ ?_); clear hK hKp K Kp; try clear hanc anc) | ((with_reducible refine And.intro ?_ ?_); (focus (first | trivial | omega | (simp only [Fits]; omega) | assumption | (rw [hanc]; rfl)))) | ((first | refine K_regA hE fun K Kp hK hKp => ?_ | refine K_drwA false mixed hE fun K Kp hK hKp anc hanc => ?_ | ((first | apply CallP_mk | apply CallB_mk); (focus (simp only [go_sem] <;> rfl)); (focus (exact hc0)); (focus (first | (simp [go_sem]; done) | (simp [go_sem, CloRow, AV.cells, AV.clo]; done))); (focus (first | exact .inl rfl | (right; simp [go_sem]))))); simp only [go_sem]) | ((first | refine onG_split_t (fun hg => ?_) (fun hg => ?_) | refine onG_split_f (fun hg => ?_) (fun hg => ?_)) <;> simp only [go_sem, hg]) | (refine K_condA (fun hc => ?_) (fun hc => ?_) <;> try (exact absurd hc (by decide))) | (refine K_ret ?_; refine (hQ _ ⟨_, by (try simp only [go_sem, ↓reduceIte, Nat.reduceEqDiff]); rfl, by simp [go_sem], ?_, by first | rfl | assumption⟩).1))
 simp [AV.snap, nm, nmL]
theorem name_call (n : Int) (h1 : -9223372036854775808 ≤ n) (h2 : n ≤ 9223372036854775807) : PCall Tryd.prog 26 [.i n] (.str (nm n)) := by
 have hc0 : PCall Tryd.prog 41 [.i n] (.str (tx (Lib.itoa n))) := itoa_call n h1 h2
 have hlen := Lib.itoa_length_le n h1 h2
 refine PCall.intro Tryd.func26 rfl isf26 (by simp [Tryd.f26]) (by simp [AV.cloL, AV.clo]) fun E Q hE hN hQ => K_start ?_
 repeat' (first | apply nx | refine Kq_exit_ne (by decide) ?_ | rw [wrap64 (by omega) (by omega)] | ((first | refine hK _ ?_ | refine hKp _ _ ?_); clear hK hKp K Kp; try clear hanc anc) | ((with_reducible refine And.intro ?_ ?_); (focus (first | trivial | omega | (simp only [Fits]; omega) | assumption | (rw [hanc]; rfl)))) | ((first | refine K_regA hE fun K Kp hK hKp => ?_ | refine K_drwA false mixed hE fun K Kp hK hKp anc hanc => ?_ | ((first | apply CallP_mk | apply CallB_mk); (focus (simp only [go_sem] <;> rfl)); (focus (exact hc0)); (focus (first | (simp [go_sem]; done) | (simp [go_sem, CloRow, AV.cells, AV.clo]; done))); (focus (first | exact .inl rfl | (right; simp [go_sem]))))); simp only [go_sem]) | ((first | refine onG_split_t (fun hg => ?_) (fun hg => ?_) | refine onG_split_f (fun hg => ?_) (fun hg => ?_)) <;> simp only [go_sem, hg]) | (refine K_condA (fun hc => ?_) (fun hc => ?_) <;> try (exact absurd hc (by decide))) | (refine K_ret ?_; refine (hQ _ ⟨_, by (try simp only [go_sem, ↓reduceIte, Nat.reduceEqDiff]); rfl, by simp [go_sem], ?_, by first | rfl | assumption⟩).1))
 simp [AV.snap, nm, nmL]
end Go.Proofs.YtfiehjbijdmbaaaDoor

set_option linter.unusedSimpArgs false
set_option linter.unusedVariables false
set_option maxHeartbeats 4000000
set_option maxRecDepth 100000
namespace Go.Proofs.YtfiehjbijdmbaaaDoor
open Go.Am Go.Proofs Go.Ca
open Classical
attribute [local irreducible] AW CallP CallB
theorem ACall.mono {P : Program} {f : FuncId} {vs : List AV} {hp : Nat → Option AObj} {nx np : Nat} {R R' Rp Rp' : AV → (Nat → Option AObj) → Prop} (h : ACall P f vs hp nx np R Rp) (h1 : ∀ r hp, R r hp → R' r hp) (h2 : ∀ r hp, Rp r hp → Rp' r hp) : ACall P f vs hp nx np R' Rp' := by
 refine ⟨h.1, fun ρ V Z w args a1 a2 a3 a4 a5 => (h.2 ρ V Z w args a1 a2 a3 a4 a5).mono ?_⟩
 rintro e w' ⟨ρ', V', Z', hp', b1, b2, b3, b4, b5, b6, ⟨v, r, c1, c2, c3⟩ | ⟨v, x, c1, c2, c3⟩⟩
 ·exact ⟨ρ', V', Z', hp', b1, b2, b3, b4, b5, b6, .inl ⟨v, r, c1, c2, h1 _ _ c3⟩⟩
 ·exact ⟨ρ', V', Z', hp', b1, b2, b3, b4, b5, b6, .inr ⟨v, x, c1, c2, h2 _ _ c3⟩⟩
theorem PCall.of_nc {P : Program} {f : FuncId} {vs : List AV} {sz : Nat} {l : List AV} (hclo : AV.cloL vs = true) (hl : CloRow l) (h : ACall P f vs (fun _ => none) 0 0 (fun r hp' => r = .rw 0 ∧ hp' = mkHp [(0, .row sz l)]) (fun _ _ => False)) : PCall P f vs (.sl l) := by
 refine PCall.of_A hclo (ACall.mono h ?_ (fun _ _ h => h))
 rintro r hp' ⟨rfl, rfl⟩
 refine ⟨?_, rfl, rfl⟩
 rw [snapOk_rw]
 exact hl
theorem ub_cons (x : UInt8) (l : List UInt8) : ub (x :: l) = .int .u8 (x.toNat : Int) :: ub l := rfl
theorem fl_cons (x : Fl) (l : List Fl) : fl (x :: l) = x.av :: fl l := rfl
theorem cloneF_nc (l : List Fl) (hl : l.length ≤ 2 ^ 30) : ACall Tryd.prog 35 [.sl (fl l)] (fun _ => none) 0 0 (fun r hp' => r = .rw 0 ∧ hp' = mkHp [(0, .row 2 (fl l))]) (fun _ _ => False) := by
 refine ACall.of_bodyR Tryd.func35 isf35 rfl (by simp [Tryd.f35]) fun E Q hE hN hQ hQp => K_start ?_
 have hsz := szok_fl l
 have hlen : (fl l).length = l.length := fl_len l
 cases l with
 | nil =>
  repeat (first | refine K_seq ?_ | refine K_blk ?_ | refine AW_skip ?_ | refine Kq_norm_code ?_ | refine Kq_norm_blk ?_)
  refine K_regA hE fun K Kp hK hKp => ?_
  simp only [go_sem, fl_nil]
  refine hK _ ?_; clear hK hKp K Kp; try clear hanc anc
  repeat (first | refine Kq_norm_code ?_ | refine Kq_norm_blk ?_ | refine Kq_norm_lp ?_)
  repeat (first | refine K_seq ?_ | refine K_blk ?_ | refine AW_skip ?_ | refine Kq_norm_code ?_ | refine Kq_norm_blk ?_)
  refine AW_nilq Tryd.underlying22 (by rw [hE]; decide) (by rw [hE]; decide) (by decide) (by simp only [go_sem, fl_nil]) fun b => ?_
  cases b
  ·repeat' (first | apply nx | refine Kq_exit_ne (by decide) ?_ | rw [wrap64 (by omega) (by omega)] | ((first | refine hK _ ?_ | refine hKp _ _ ?_); clear hK hKp K Kp; try clear hanc anc) | ((with_reducible refine And.intro ?_ ?_); (focus (first | trivial | omega | (simp only [Fits]; omega) | assumption | (rw [hanc]; rfl)))) | ((first | refine K_regA hE fun K Kp hK hKp => ?_ | refine K_drwA true mixed hE fun K Kp hK hKp anc hanc => ?_ | refine K_drwA false mixed hE fun K Kp hK hKp anc hanc => ?_); simp only [go_sem, fl_nil]) | ((first | refine onG_split_t (fun hg => ?_) (fun hg => ?_) | refine onG_split_f (fun hg => ?_) (fun hg => ?_)) <;> simp only [go_sem, fl_nil, hg]) | (refine K_condA (fun hc => ?_) (fun hc => ?_) <;> try (exact absurd hc (by decide))))
   refine K_ret (hQ _ ⟨.rw 0, fun _ => 3145728, _, 1, resA_tmp (by simp only [go_sem, fl_nil]), (by simp [AV.ids, AV.idsL]), ?_, rfl, rfl⟩).1
   show Ent _ _ _ (mkSt [] [(0, .row 2 (fl []))] 1)
   refine ent_mk (by simp [go_sem, fl_nil]) (by simp [go_sem, fl_nil]) (by simp) (by simp [hN])
  ·repeat' (first | apply nx | refine Kq_exit_ne (by decide) ?_ | rw [wrap64 (by omega) (by omega)] | ((first | refine hK _ ?_ | refine hKp _ _ ?_); clear hK hKp K Kp; try clear hanc anc) | ((with_reducible refine And.intro ?_ ?_); (focus (first | trivial | omega | (simp only [Fits]; omega) | assumption | (rw [hanc]; rfl)))) | ((first | refine K_regA hE fun K Kp hK hKp => ?_ | refine K_drwA true mixed hE fun K Kp hK hKp anc hanc => ?_ | refine K_drwA false mixed hE fun K Kp hK hKp anc hanc => ?_); simp only [go_sem, fl_nil]) | ((first | refine onG_split_t (fun hg => ?_) (fun hg => ?_) | refine onG_split_f (fun hg => ?_) (fun hg => ?_)) <;> simp only [go_sem, fl_nil, hg]) | (refine K_condA (fun hc => ?_) (fun hc => ?_) <;> try (exact absurd hc (by decide))))
   refine AW_nil 2 2 (by rw [hE]; decide) (by simp only [go_sem]) ?_
   refine K_ret (hQ _ ⟨.rw 0, fun _ => 2097152, _, 1, resA_tmp (by simp only [go_sem, fl_nil]), (by simp [AV.ids, AV.idsL]), ?_, rfl, rfl⟩).1
   show Ent _ _ _ (mkSt [] [(0, .row 2 (fl []))] 1)
   refine ent_mk (by simp [go_sem, fl_nil]) (by simp [go_sem, fl_nil]) (by simp) (by simp [hN])
 | cons x l =>
  repeat' (first | apply nx | refine Kq_exit_ne (by decide) ?_ | rw [wrap64 (by omega) (by omega)] | ((first | refine hK _ ?_ | refine hKp _ _ ?_); clear hK hKp K Kp; try clear hanc anc) | ((with_reducible refine And.intro ?_ ?_); (focus (first | trivial | omega | (simp only [Fits]; omega) | assumption | (rw [hanc]; rfl)))) | ((first | refine K_regA hE fun K Kp hK hKp => ?_ | refine K_drwA true mixed hE fun K Kp hK hKp anc hanc => ?_ | refine K_drwA false mixed hE fun K Kp hK hKp anc hanc => ?_); simp only [go_sem, fl_cons]) | ((first | refine onG_split_t (fun hg => ?_) (fun hg => ?_) | refine onG_split_f (fun hg => ?_) (fun hg => ?_)) <;> simp only [go_sem, fl_cons, hg]) | (refine K_condA (fun hc => ?_) (fun hc => ?_) <;> try (exact absurd hc (by decide))))
  refine ⟨⟨of_eq_true hsz, (by simp only [List.length_cons] at hl; simp only [Fits]; omega)⟩, ?_⟩
  repeat' (first | apply nx | refine Kq_exit_ne (by decide) ?_ | rw [wrap64 (by omega) (by omega)] | ((first | refine hK _ ?_ | refine hKp _ _ ?_); clear hK hKp K Kp; try clear hanc anc) | ((with_reducible refine And.intro ?_ ?_); (focus (first | trivial | omega | (simp only [Fits]; omega) | assumption | (rw [hanc]; rfl)))) | ((first | refine K_regA hE fun K Kp hK hKp => ?_ | refine K_drwA true mixed hE fun K Kp hK hKp anc hanc => ?_ | refine K_drwA false mixed hE fun K Kp hK hKp anc hanc => ?_); simp only [go_sem, fl_cons]) | ((first | refine onG_split_t (fun hg => ?_) (fun hg => ?_) | refine onG_split_f (fun hg => ?_) (fun hg => ?_)) <;> simp only [go_sem, fl_cons, hg]) | (refine K_condA (fun hc => ?_) (fun hc => ?_) <;> try (exact absurd hc (by decide))))
  refine K_ret (hQ _ ⟨.rw 0, fun _ => 5242880, _, 1, resA_tmp (by simp only [go_sem, fl_cons]), (by simp [AV.ids, AV.idsL]), ?_, rfl, rfl⟩).1
  show Ent _ _ _ (mkSt [] [(0, .row 2 (fl (x :: l)))] 1)
  refine ent_mk (by simp [go_sem, fl_cons]) (by simp [go_sem, fl_cons]) (by simp) (by simp [hN])
theorem cloneF_call (l : List Fl) (hl : l.length ≤ 2 ^ 30) : PCall Tryd.prog 35 [.sl (fl l)] (.sl (fl l)) := PCall.of_nc rfl (clo_fl l) (cloneF_nc l hl)
theorem cloneB_nc (l : List UInt8) (hl : l.length ≤ 2 ^ 30) : ACall Tryd.prog 47 [.sl (ub l)] (fun _ => none) 0 0 (fun r hp' => r = .rw 0 ∧ hp' = mkHp [(0, .row 1 (ub l))]) (fun _ _ => False) := by
 refine ACall.of_bodyR Tryd.func47 isf47 rfl (by simp [Tryd.f47]) fun E Q hE hN hQ hQp => K_start ?_
 have hsz := szok_ub l
 have hlen : (ub l).length = l.length := ub_len l
 cases l with
 | nil =>
  repeat (first | refine K_seq ?_ | refine K_blk ?_ | refine AW_skip ?_ | refine Kq_norm_code ?_ | refine Kq_norm_blk ?_)
  refine K_regA hE fun K Kp hK hKp => ?_
  simp only [go_sem, ub_nil]
  refine hK _ ?_; clear hK hKp K Kp; try clear hanc anc
  repeat (first | refine Kq_norm_code ?_ | refine Kq_norm_blk ?_ | refine Kq_norm_lp ?_)
  repeat (first | refine K_seq ?_ | refine K_blk ?_ | refine AW_skip ?_ | refine Kq_norm_code ?_ | refine Kq_norm_blk ?_)
  refine AW_nilq Tryd.underlying23 (by rw [hE]; decide) (by rw [hE]; decide) (by decide) (by simp only [go_sem, ub_nil]) fun b => ?_
  cases b
  ·repeat' (first | apply nx | refine Kq_exit_ne (by decide) ?_ | rw [wrap64 (by omega) (by omega)] | ((first | refine hK _ ?_ | refine hKp _ _ ?_); clear hK hKp K Kp; try clear hanc anc) | ((with_reducible refine And.intro ?_ ?_); (focus (first | trivial | omega | (simp only [Fits]; omega) | assumption | (rw [hanc]; rfl)))) | ((first | refine K_regA hE fun K Kp hK hKp => ?_ | refine K_drwA true mixed hE fun K Kp hK hKp anc hanc => ?_ | refine K_drwA false mixed hE fun K Kp hK hKp anc hanc => ?_); simp only [go_sem, ub_nil]) | ((first | refine onG_split_t (fun hg => ?_) (fun hg => ?_) | refine onG_split_f (fun hg => ?_) (fun hg => ?_)) <;> simp only [go_sem, ub_nil, hg]) | (refine K_condA (fun hc => ?_) (fun hc => ?_) <;> try (exact absurd hc (by decide))))
   refine K_ret (hQ _ ⟨.rw 0, fun _ => 3145728, _, 1, resA_tmp (by simp only [go_sem, ub_nil]), (by simp [AV.ids, AV.idsL]), ?_, rfl, rfl⟩).1
   show Ent _ _ _ (mkSt [] [(0, .row 1 (ub []))] 1)
   refine ent_mk (by simp [go_sem, ub_nil]) (by simp [go_sem, ub_nil]) (by simp) (by simp [hN])
  ·repeat' (first | apply nx | refine Kq_exit_ne (by decide) ?_ | rw [wrap64 (by omega) (by omega)] | ((first | refine hK _ ?_ | refine hKp _ _ ?_); clear hK hKp K Kp; try clear hanc anc) | ((with_reducible refine And.intro ?_ ?_); (focus (first | trivial | omega | (simp only [Fits]; omega) | assumption | (rw [hanc]; rfl)))) | ((first | refine K_regA hE fun K Kp hK hKp => ?_ | refine K_drwA true mixed hE fun K Kp hK hKp anc hanc => ?_ | refine K_drwA false mixed hE fun K Kp hK hKp anc hanc => ?_); simp only [go_sem, ub_nil]) | ((first | refine onG_split_t (fun hg => ?_) (fun hg => ?_) | refine onG_split_f (fun hg => ?_) (fun hg => ?_)) <;> simp only [go_sem, ub_nil, hg]) | (refine K_condA (fun hc => ?_) (fun hc => ?_) <;> try (exact absurd hc (by decide))))
   refine AW_nil 2 1 (by rw [hE]; decide) (by simp only [go_sem]) ?_
   refine K_ret (hQ _ ⟨.rw 0, fun _ => 2097152, _, 1, resA_tmp (by simp only [go_sem, ub_nil]), (by simp [AV.ids, AV.idsL]), ?_, rfl, rfl⟩).1
   show Ent _ _ _ (mkSt [] [(0, .row 1 (ub []))] 1)
   refine ent_mk (by simp [go_sem, ub_nil]) (by simp [go_sem, ub_nil]) (by simp) (by simp [hN])
 | cons x l =>
  repeat' (first | apply nx | refine Kq_exit_ne (by decide) ?_ | rw [wrap64 (by omega) (by omega)] | ((first | refine hK _ ?_ | refine hKp _ _ ?_); clear hK hKp K Kp; try clear hanc anc) | ((with_reducible refine And.intro ?_ ?_); (focus (first | trivial | omega | (simp only [Fits]; omega) | assumption | (rw [hanc]; rfl)))) | ((first | refine K_regA hE fun K Kp hK hKp => ?_ | refine K_drwA true mixed hE fun K Kp hK hKp anc hanc => ?_ | refine K_drwA false mixed hE fun K Kp hK hKp anc hanc => ?_); simp only [go_sem, ub_cons]) | ((first | refine onG_split_t (fun hg => ?_) (fun hg => ?_) | refine onG_split_f (fun hg => ?_) (fun hg => ?_)) <;> simp only [go_sem, ub_cons, hg]) | (refine K_condA (fun hc => ?_) (fun hc => ?_) <;> try (exact absurd hc (by decide))))
  refine ⟨⟨of_eq_true hsz, (by simp only [List.length_cons] at hl; simp only [Fits]; omega)⟩, ?_⟩
  repeat' (first | apply nx | refine Kq_exit_ne (by decide) ?_ | rw [wrap64 (by omega) (by omega)] | ((first | refine hK _ ?_ | refine hKp _ _ ?_); clear hK hKp K Kp; try clear hanc anc) | ((with_reducible refine And.intro ?_ ?_); (focus (first | trivial | omega | (simp only [Fits]; omega) | assumption | (rw [hanc]; rfl)))) | ((first | refine K_regA hE fun K Kp hK hKp => ?_ | refine K_drwA true mixed hE fun K Kp hK hKp anc hanc => ?_ | refine K_drwA false mixed hE fun K Kp hK hKp anc hanc => ?_); simp only [go_sem, ub_cons]) | ((first | refine onG_split_t (fun hg => ?_) (fun hg => ?_) | refine onG_split_f (fun hg => ?_) (fun hg => ?_)) <;> simp only [go_sem, ub_cons, hg]) | (refine K_condA (fun hc => ?_) (fun hc => ?_) <;> try (exact absurd hc (by decide))))
  refine K_ret (hQ _ ⟨.rw 0, fun _ => 5242880, _, 1, resA_tmp (by simp only [go_sem, ub_cons]), (by simp [AV.ids, AV.idsL]), ?_, rfl, rfl⟩).1
  show Ent _ _ _ (mkSt [] [(0, .row 1 (ub (x :: l)))] 1)
  refine ent_mk (by simp [go_sem, ub_cons]) (by simp [go_sem, ub_cons]) (by simp) (by simp [hN])
theorem cloneB_call (l : List UInt8) (hl : l.length ≤ 2 ^ 30) : PCall Tryd.prog 47 [.sl (ub l)] (.sl (ub l)) := PCall.of_nc rfl (clo_ub l) (cloneB_nc l hl)
theorem be_mod (n : Int) (k : Nat) : be n (k + 1) = u8 (n / 256 ^ k) :: be n k := be_front n k
theorem number_nc (n : Int) (k : Nat) (h0 : 0 ≤ n) (h1 : n < 18446744073709551616) (hk : k ≤ 8) : ACall Tryd.prog 43 [.int .u64 n, .i k] (fun _ => none) 0 0 (fun r hp' => r = .rw 0 ∧ hp' = mkHp [(0, .row 1 (ub (be n k)))]) (fun _ _ => False) := by
 have hk1 : IntKind.i64.wrap ((k : Int) - 1) = (k : Int) - 1 := wrap64 (by omega) (by omega)
 refine ACall.of_bodyR Tryd.func43 isf43 rfl (by simp [Tryd.f43]) fun E Q hE hN hQ hQp => K_start ?_
 repeat' (first | apply nx | refine Kq_exit_ne (by decide) ?_ | rw [wrap64 (by omega) (by omega)] | ((first | refine hK _ ?_ | refine hKp _ _ ?_); clear hK hKp K Kp; try clear hanc anc) | ((with_reducible refine And.intro ?_ ?_); (focus (first | trivial | omega | (simp only [Fits]; omega) | assumption | (rw [hanc]; rfl)))) | ((first | refine K_regA hE fun K Kp hK hKp => ?_ | refine K_drwA true mixed hE fun K Kp hK hKp anc hanc => ?_ | refine K_drwA false mixed hE fun K Kp hK hKp anc hanc => ?_); simp only [go_sem, hk1]) | ((first | refine onG_split_t (fun hg => ?_) (fun hg => ?_) | refine onG_split_f (fun hg => ?_) (fun hg => ?_)) <;> simp only [go_sem, hk1, hg]) | (refine K_condA (fun hc => ?_) (fun hc => ?_) <;> try (exact absurd hc (by decide))))
 refine K_loop (X := Nat) (fun j => j ≤ k) (fun j => mkSt [(0, .int .u64 (n / 256 ^ (k - j))), (5, .rw 0), (6, .i ((j : Int) - 1))] [(0, .row 1 (ub (List.replicate j 0 ++ be n (k - j))))] 1) (fun j => j) k (Nat.le_refl _) (fun i => 2097152) (by refine ent_mk (by simp [go_sem, be]) (by simp [go_sem, be]) (by simp) (by simp [hN])) ?_
 intro j hj
 cases j with
 | zero =>
  have q : decide (((0 : Nat) : Int) - 1 ≥ 0) = false := by simp
  repeat' (first | apply nx | refine Kq_exit_ne (by decide) ?_ | rw [wrap64 (by omega) (by omega)] | ((first | refine hK _ ?_ | refine hKp _ _ ?_); clear hK hKp K Kp; try clear hanc anc) | ((with_reducible refine And.intro ?_ ?_); (focus (first | trivial | omega | (simp only [Fits]; omega) | assumption | (rw [hanc]; rfl)))) | ((first | refine K_regA hE fun K Kp hK hKp => ?_ | refine K_drwA true mixed hE fun K Kp hK hKp anc hanc => ?_ | refine K_drwA false mixed hE fun K Kp hK hKp anc hanc => ?_); simp only [go_sem, q]) | ((first | refine onG_split_t (fun hg => ?_) (fun hg => ?_) | refine onG_split_f (fun hg => ?_) (fun hg => ?_)) <;> simp only [go_sem, q, hg]) | (refine K_condA (fun hc => ?_) (fun hc => ?_) <;> try (exact absurd hc (by decide))))
  refine K_ret (hQ _ ⟨.rw 0, fun i => i, _, 1, resA_tmp (by simp only [go_sem]), (by simp [AV.ids, AV.idsL]), ?_, rfl, rfl⟩).1
  show Ent _ _ _ (mkSt [] [(0, .row 1 (ub (be n k)))] 1)
  refine ent_mk (by simp [go_sem]) (by simp [go_sem]) (by simp) (by simp [hN])
 | succ m =>
  have e0 : ((m + 1 : Nat) : Int) - 1 = (m : Int) := by omega
  have q : decide ((m : Int) ≥ 0) = true := by simp
  have hp : (0 : Int) < 256 ^ (k - (m + 1)) := Int.pow_pos (by decide)
  have hd0 : 0 ≤ n / 256 ^ (k - (m + 1)) := Int.ediv_nonneg h0 (by omega)
  have hd1 : n / 256 ^ (k - (m + 1)) ≤ n := Int.ediv_le_self _ h0
  have u1 : (n / 256 ^ (k - (m + 1))).tmod 256 = n / 256 ^ (k - (m + 1)) % 256 := tmod_pos hd0
  have u2 : (n / 256 ^ (k - (m + 1))).tdiv 256 = n / 256 ^ (k - m) := by
   rw [Int.tdiv_eq_ediv_of_nonneg hd0, div_div _ _ _ (by omega), ← Int.pow_succ, show (k - (m + 1)).succ = k - m by omega]
  have u3 : IntKind.u64.wrap (n / 256 ^ (k - m)) = n / 256 ^ (k - m) := by
   rw [wrap_u64]
   have := Int.ediv_nonneg h0 (show (0 : Int) ≤ 256 ^ (k - m) from Int.le_of_lt (Int.pow_pos (by decide)))
   have := Int.ediv_le_self (256 ^ (k - m)) h0
   omega
  have u4 : u8 (n / 256 ^ (k - (m + 1)) % 256) = u8 (n / 256 ^ (k - (m + 1))) := by simp [u8]
  have u5 : IntKind.i64.wrap ((m : Int) - 1) = (m : Int) - 1 := wrap64 (by omega) (by omega)
  have u6 : (m : Int).toNat < (List.replicate (m + 1) (0 : UInt8) ++ be n (k - (m + 1))).length := by simp; omega
  have e1 : (List.replicate (m + 1) (0 : UInt8) ++ be n (k - (m + 1))).set m (u8 (n / 256 ^ (k - (m + 1)))) = List.replicate m 0 ++ be n (k - m) := by
   rw [show k - m = (k - (m + 1)) + 1 by omega, be_front, List.replicate_succ', List.append_assoc, List.set_append_right _ _ (by simp)]
   simp
  have hg : (List.replicate (m + 1) (0 : UInt8) ++ be n (k - (m + 1)))[m]? = some 0 := by rw [List.getElem?_append_left (by simp)]; simp
  repeat' (first | apply nx | refine Kq_exit_ne (by decide) ?_ | rw [wrap64 (by omega) (by omega)] | ((first | refine hK _ ?_ | refine hKp _ _ ?_); clear hK hKp K Kp; try clear hanc anc) | ((with_reducible refine And.intro ?_ ?_); (focus (first | trivial | omega | (simp only [Fits]; omega) | assumption | (rw [hanc]; rfl)))) | ((first | refine K_regA hE fun K Kp hK hKp => ?_ | refine K_drwA true mixed hE fun K Kp hK hKp anc hanc => ?_ | refine K_drwA false mixed hE fun K Kp hK hKp anc hanc => ?_); simp only [go_sem, e0, q, u1, u2, u3, u4, u5, hg, e1]) | ((first | refine onG_split_t (fun hg => ?_) (fun hg => ?_) | refine onG_split_f (fun hg => ?_) (fun hg => ?_)) <;> simp only [go_sem, e0, q, u1, u2, u3, u4, u5, hg, e1, hg]) | (refine K_condA (fun hc => ?_) (fun hc => ?_) <;> try (exact absurd hc (by decide))))
  exact ⟨m, by omega, by omega, fun i => i, by refine ent_mk (by simp [go_sem, e1]) (by simp [go_sem, e1]) (by simp) (by simp [hN])⟩
end Go.Proofs.YtfiehjbijdmbaaaDoor
