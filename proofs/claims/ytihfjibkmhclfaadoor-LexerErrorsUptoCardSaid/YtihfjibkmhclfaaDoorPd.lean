/- A part of the proof: an abstract machine for the walks, and what the walked functions compute. -/
import Derived.KernelRfl
import Derived.Shelf.Strings.Fields
import Derived.Shelf.Strings.Search1
import Derived.Shelf.Strconv.AtoiAll
import Derived.Test.YtihfjibkmhclfaaDoorPc
import Derived.Test.YtihfjibkmhclfaaDoorPa
set_option linter.unusedVariables false
set_option linter.unusedSimpArgs false
set_option linter.unusedSimpArgs false
set_option linter.unusedVariables false
set_option maxHeartbeats 4000000
set_option maxRecDepth 100000
namespace Go.Proofs.YtihfjibkmhclfaaDoor
open Nat (reduceAdd reduceMul reduceEqDiff reduceLT reduceLeDiff reduceSub reduceDiv)
open Int (reduceBNe reduceLE reduceEq)
open Go.Am Go.Proofs Go.Lx
open Classical
attribute [local irreducible] AW CallP CallB
theorem numv_snoc (l : List UInt8) (c : UInt8) : numv (l ++ [c]) = numv l * 10 + (c.toNat - 48) := by simp [numv]
theorem numv_lt : ∀ (n : Nat) (l : List UInt8), l.length = n → (∀ c, c ∈ l → isDig c = true) → numv l < 10 ^ n
 | 0, l, h, _ => by rw [List.length_eq_zero_iff.1 h]; decide
 | n + 1, l, h, hd => by
  rcases List.eq_nil_or_concat l with rfl | ⟨m, c, rfl⟩
  ·simp at h
  ·rw [List.concat_eq_append] at h hd ⊢
   simp only [List.length_append, List.length_singleton] at h
   have := numv_lt n m (by omega) fun x hx => hd x (by simp [hx])
   have hc := hd c (by simp)
   simp only [isDig, Bool.and_eq_true, decide_eq_true_eq] at hc
   rw [numv_snoc, Nat.pow_succ]
   omega
theorem clip_num : ∀ (n : Nat) (l : List UInt8), l.length = n → n ≤ 10 → (∀ c, c ∈ l → isDig c = true) → clipV l = numv l
 | 0, l, h, _, _ => by rw [List.length_eq_zero_iff.1 h]; rfl
 | n + 1, l, h, hn, hd => by
  rcases List.eq_nil_or_concat l with rfl | ⟨m, c, rfl⟩
  ·simp at h
  ·rw [List.concat_eq_append] at h hd ⊢
   have hlt := numv_lt (n + 1) (m ++ [c]) h hd
   simp only [List.length_append, List.length_singleton] at h
   rw [clipV_snoc, clip_num n m (by omega) (by omega) fun x hx => hd x (by simp [hx])]
   rw [numv_snoc] at hlt ⊢
   have : 10 ^ (n + 1) ≤ 10 ^ 10 := Nat.pow_le_pow_right (by decide) hn
   have e : (10 : Nat) ^ 10 = 10000000000 := by decide
   omega
inductive RT (a : Nat) (s : List UInt8) (t : Tk) : Prop
 | char : (tokL s).err = 3 → t.kind = 0 → RT a s t
 | name : (tokL s).err = 2 → t.kind = 1 → 24 < t.text.length → RT a s t
 | num : (tokL s).err = 2 → t.kind = 2 → (10 < t.text.length ∨ 1000000000 < t.num) → RT a s t
 | ok1 : (tokL s).err = 0 → t.kind = 1 → t.text.length ≤ 24 → t = ⟨(tokL s).kind, s.take (tokL s).len, (tokL s).num, a⟩ → RT a s t
 | ok2 : (tokL s).err = 0 → t.kind = 2 → t.text.length ≤ 10 → t.num ≤ 1000000000 → t = ⟨(tokL s).kind, s.take (tokL s).len, (tokL s).num, a⟩ → RT a s t
 | ok3 : (tokL s).err = 0 → t.kind = 3 → t = ⟨(tokL s).kind, s.take (tokL s).len, (tokL s).num, a⟩ → RT a s t
theorem rtk_RT (a : Nat) {s : List UInt8} (hs : s ≠ []) : RT a s (rtk a s) := by
 match s, hs with
 | c :: r, _ =>
  have hr1 := run_le isName (c :: r)
  have hr2 := run_le isDig (c :: r)
  by_cases h1 : isLet c = true
  ·have e1 : rtk a (c :: r) = ⟨1, (c :: r).take (run isName (c :: r)), 0, a⟩ := by rw [rtk, if_pos h1]
   have e2 : tokL (c :: r) = nameL (c :: r) := by rw [tokL, if_pos h1]
   have hl : ((c :: r).take (run isName (c :: r))).length = run isName (c :: r) := by rw [List.length_take]; omega
   by_cases h24 : 24 < run isName (c :: r)
   ·have e3 : nameL (c :: r) = ⟨1, run isName (c :: r), 0, 2⟩ := if_pos h24
    exact .name (by rw [e2, e3]) (by rw [e1]) (by rw [e1, hl]; exact h24)
   ·have e3 : nameL (c :: r) = ⟨1, run isName (c :: r), 0, 0⟩ := if_neg h24
    exact .ok1 (by rw [e2, e3]) (by rw [e1]) (by rw [e1, hl]; omega) (by rw [e1, e2, e3])
  by_cases h2 : isDig c = true
  ·have e1 : rtk a (c :: r) = ⟨2, (c :: r).take (run isDig (c :: r)), clipV ((c :: r).take (run isDig (c :: r))), a⟩ := by rw [rtk, if_neg h1, if_pos h2]
   have e2 : tokL (c :: r) = digL (c :: r) := by rw [tokL, if_neg h1, if_pos h2]
   have hl : ((c :: r).take (run isDig (c :: r))).length = run isDig (c :: r) := by rw [List.length_take]; omega
   by_cases h10 : 10 < run isDig (c :: r) ∨ 1000000000 < numv ((c :: r).take (run isDig (c :: r)))
   ·have e3 : digL (c :: r) = ⟨2, run isDig (c :: r), 0, 2⟩ := if_pos h10
    refine .num (by rw [e2, e3]) (by rw [e1]) ?_
    rw [e1, hl]
    by_cases hh : 10 < run isDig (c :: r)
    ·exact .inl hh
    ·right
     have := clip_num _ _ hl (by omega) (take_run isDig (c :: r))
     have := h10.resolve_left hh
     simp only
     omega
   ·have e3 : digL (c :: r) = ⟨2, run isDig (c :: r), numv ((c :: r).take (run isDig (c :: r))), 0⟩ := if_neg h10
    have hcn := clip_num _ _ hl (by omega) (take_run isDig (c :: r))
    exact .ok2 (by rw [e2, e3]) (by rw [e1]) (by rw [e1, hl]; omega) (by rw [e1]; simp only; omega) (by rw [e1, e2, e3, hcn])
  ·have e1 : rtk a (c :: r) = match findS (c :: r) with | some y => ⟨3, y, 0, a⟩ | none => ⟨0, [], 0, 0⟩ := by rw [rtk, if_neg h1, if_neg h2]; cases findS (c :: r) <;> rfl
   have e2 : tokL (c :: r) = symL (c :: r) := by rw [tokL, if_neg h1, if_neg h2]
   have e4 : findS (c :: r) = _ := find_syms (c :: r)
   by_cases h3 : (c :: r).take 2 ∈ two
   ·rw [if_pos h3] at e4
    rw [e4] at e1
    have e3 : symL (c :: r) = ⟨3, 2, 0, 0⟩ := if_pos h3
    exact .ok3 (by rw [e2, e3]) (by rw [e1]) (by rw [e1, e2, e3])
   ·rw [if_neg h3] at e4
    by_cases h4 : (c :: r).take 1 ∈ one
    ·rw [if_pos h4] at e4
     rw [e4] at e1
     have e3 : symL (c :: r) = ⟨3, 1, 0, 0⟩ := by rw [symL, if_neg h3, if_pos h4]
     exact .ok3 (by rw [e2, e3]) (by rw [e1]) (by rw [e1, e2, e3])
    ·rw [if_neg h4] at e4
     rw [e4] at e1
     have e3 : symL (c :: r) = ⟨3, 0, 0, 3⟩ := by rw [symL, if_neg h3, if_neg h4]
     exact .char (by rw [e2, e3]) (by rw [e1])
def resL (r : List Tk × Int × Nat) : AV := .tup [.sl (tkl r.1), .i r.2.1, .i r.2.2]
theorem rlex_big (l : List UInt8) (hl : l.length ≤ 2 ^ 40) (hbig : 20000 < l.length) : PCall Tryd.prog 11 [.str (tx l)] (.tup [.sl [], .i 2, .i 20000]) := by
 have q : decide ((l.length : Int) > 20000) = true := decide_eq_true (by omega)
 refine PCall.intro Tryd.func11 rfl isf11 (by simp [Tryd.f11]) (by simp [AV.cloL, AV.clo]) fun E Q hE hN hQ => K_start ?_
 repeat' (first | apply nx | refine Kq_exit_ne (by decide) ?_ | rw [wrap64 (by omega) (by omega)] | ((first | refine hK _ ?_ | refine hKp _ _ ?_); clear hK hKp K Kp; try clear hanc anc) | ((with_reducible refine And.intro ?_ ?_); (focus (first | trivial | omega | (simp only [Fits]; omega) | assumption | (rw [hanc]; rfl)))) | ((first | refine K_regA hE fun K Kp hK hKp => ?_ | refine K_drwA false mixed hE fun K Kp hK hKp anc hanc => ?_); simp only [go_sem, q]) | ((first | refine onG_split_t (fun hg => ?_) (fun hg => ?_) | refine onG_split_f (fun hg => ?_) (fun hg => ?_)) <;> simp only [go_sem, q, hg]) | (refine K_condA (fun hc => ?_) (fun hc => ?_) <;> try (exact absurd hc (by decide))) | (refine K_ret ?_; refine (hQ _ ⟨_, by (try simp only [go_sem, ↓reduceIte, Nat.reduceEqDiff]); rfl, by simp [go_sem], ?_, by first | rfl | assumption⟩).1))
 simp [AV.snap, AV.snapL]
theorem rlex_sml (l : List UInt8) (hl : l.length ≤ 2 ^ 40) (hbig : ¬ 20000 < l.length) : PCall Tryd.prog 11 [.str (tx l)] (resL (lexM l)) := by
 unfold resL
 have q : decide ((l.length : Int) > 20000) = false := decide_eq_false (by omega)
 have g0 := rgap_call l 0 (Nat.zero_le _) hl
 have hn0 : ((0 + gp false (l.drop 0) : Nat) : Int) = ((nxt l 0 : Nat) : Int) := rfl
 rw [hn0] at g0
 have h00 : AV.i ((0 : Nat) : Int) = AV.int .i64 0 := rfl
 rw [h00] at g0
 refine PCall.intro Tryd.func11 rfl isf11 (by simp [Tryd.f11]) (by simp [AV.cloL, AV.clo]) fun E Q hE hN hQ => K_start ?_
 repeat' (first | apply nx | refine Kq_exit_ne (by decide) ?_ | rw [wrap64 (by omega) (by omega)] | ((first | refine hK _ ?_ | refine hKp _ _ ?_); clear hK hKp K Kp; try clear hanc anc) | ((with_reducible refine And.intro ?_ ?_); (focus (first | trivial | omega | (simp only [Fits]; omega) | assumption | (rw [hanc]; rfl)))) | ((fail_if_success refine K_stop 4 ?_); (first | refine K_regA hE fun K Kp hK hKp => ?_ | refine K_drwA true mixed hE fun K Kp hK hKp anc hanc => ?_ | refine K_drwA false mixed hE fun K Kp hK hKp anc hanc => ?_); simp only [go_sem, q]) | ((first | refine onG_split_t (fun hg => ?_) (fun hg => ?_) | refine onG_split_f (fun hg => ?_) (fun hg => ?_)) <;> simp only [go_sem, q, hg]) | (refine K_condA (fun hc => ?_) (fun hc => ?_) <;> try (exact absurd hc (by decide))))
 refine AW_nil 5 4 (by rw [hE]; decide) (by simp only [go_sem]) ?_
 refine AW.ent (σ' := mkSt [(0, .str (tx l)), (5, .rw 0)] [(0, .row 4 (tkl []))] 1) (fun i => 7340032) (by refine ent_mk (by simp [go_sem]) (by simp [go_sem]) (by simp) (by simp [hN])) ?_
 repeat' (first | apply nx | refine Kq_exit_ne (by decide) ?_ | rw [wrap64 (by omega) (by omega)] | ((first | refine hK _ ?_ | refine hKp _ _ ?_); clear hK hKp K Kp; try clear hanc anc) | ((with_reducible refine And.intro ?_ ?_); (focus (first | trivial | omega | (simp only [Fits]; omega) | assumption | (rw [hanc]; rfl)))) | ((first | refine K_regA hE fun K Kp hK hKp => ?_ | refine K_drwA false mixed hE fun K Kp hK hKp anc hanc => ?_ | ((first | apply CallP_mk | apply CallB_mk); (focus (simp only [go_sem] <;> rfl)); (focus (exact g0)); (focus (first | (simp [go_sem]; done) | (simp [go_sem, CloRow, AV.cells, AV.clo]; done))); (focus (first | exact .inl rfl | (right; simp [go_sem]))))); simp only [go_sem]) | ((first | refine onG_split_t (fun hg => ?_) (fun hg => ?_) | refine onG_split_f (fun hg => ?_) (fun hg => ?_)) <;> simp only [go_sem, hg]) | (refine K_condA (fun hc => ?_) (fun hc => ?_) <;> try (exact absurd hc (by decide))) | (refine K_ret ?_; refine (hQ _ ⟨_, by (try simp only [go_sem, ↓reduceIte, Nat.reduceEqDiff]); rfl, by simp [go_sem], ?_, by first | rfl | assumption⟩).1))
 refine K_loop (X := Nat × List Tk) (fun z => z.1 ≤ l.length ∧ Beg l z.1 ∧ z.2.length ≤ 6000 ∧ lexM l = fin z.2 (lx z.1 (l.drop z.1))) (fun z => mkSt [(0, .str (tx l)), (5, .rw 0), (6, .i z.1)] [(0, .row 4 (tkl z.2))] 1) (fun z => l.length - z.1) (nxt l 0, []) ⟨nxt_le (Nat.zero_le _), beg_nxt _ _, Nat.zero_le _, ?_⟩ (fun i => i) (by refine ent_mk (by simp [go_sem]) (by simp [go_sem]) (by simp) (by simp [hN])) ?_
 ·have e := lx_nxt l 0
  rw [List.drop_zero] at e
  simp only
  rw [← e, fin_nil]
 rintro ⟨a, out⟩ ⟨ha, hb, ho, ht⟩
 simp only at ha hb ho ht
 by_cases hlt : a < l.length
 case neg =>
  obtain rfl : a = l.length := by omega
  rw [lx_at_end, fin_end ho] at ht
  rw [ht] at hQ
  repeat' (first | apply nx | refine Kq_exit_ne (by decide) ?_ | rw [wrap64 (by omega) (by omega)] | ((first | refine hK _ ?_ | refine hKp _ _ ?_); clear hK hKp K Kp; try clear hanc anc) | ((with_reducible refine And.intro ?_ ?_); (focus (first | trivial | omega | (simp only [Fits]; omega) | assumption | (rw [hanc]; rfl)))) | ((first | refine K_regA hE fun K Kp hK hKp => ?_ | refine K_drwA false mixed hE fun K Kp hK hKp anc hanc => ?_); simp only [go_sem, ge_dec]) | ((first | refine onG_split_t (fun hg => ?_) (fun hg => ?_) | refine onG_split_f (fun hg => ?_) (fun hg => ?_)) <;> simp only [go_sem, ge_dec, hg]) | (refine K_condA (fun hc => ?_) (fun hc => ?_) <;> try (exact absurd hc (by decide))) | (refine K_ret ?_; refine (hQ _ ⟨_, by (try simp only [go_sem, ↓reduceIte, Nat.reduceEqDiff]); rfl, by simp [go_sem], ?_, by first | rfl | assumption⟩).1))
  simp [AV.snap, AV.snapL, updo]
 have hrt := rtk_RT a (drop_ne hlt)
 have tc := rtoken_call l a hlt hl
 have hne3 := lx_at_err hlt hb
 have hok := lx_at_tok hlt hb
 have hsz : Fits (out.length + 1) 40 := by simp only [Fits]; omega
 generalize hT : rtk a (l.drop a) = t at *
 rw [Tk.av_eq] at tc
 have errE : ∀ e : Int, e ≠ 0 → (tokL (l.drop a)).err = e → lexM l = ([], e, a) := fun e h0 he => by
  rw [ht, hne3 (by rw [he]; exact h0), he, fin_err ho h0]
 have qk : ∀ k n : Int, t.kind = k → k ≠ n → (t.kind == n) = false := fun k n h1 h2 => by rw [h1]; simpa using h2
 have qe : ∀ k : Int, t.kind = k → (t.kind == k) = true := fun k h1 => by rw [h1]; simp
 have good : (tokL (l.drop a)).err = 0 → t = tkAt l a → out.length < 6000 → (a + t.text.length ≤ l.length ∧ a < nxt l (a + t.text.length) ∧ lexM l = fin (out ++ [t]) (lx (nxt l (a + t.text.length)) (l.drop (nxt l (a + t.text.length))))) := fun h1 h2 h3 => by
  obtain ⟨g1, g2, g3⟩ := hok h1
  rw [← h2] at g1 g2 g3
  exact ⟨g2, g1, by rw [ht, g3, fin_tok h3]⟩
 have full : (tokL (l.drop a)).err = 0 → t = tkAt l a → out.length = 6000 → lexM l = ([], 2, a) := fun h1 h2 h3 => by
  obtain ⟨g1, g2, g3⟩ := hok h1
  rw [ht, g3, fin_full h3]
  rfl
 have q6 : out.length = 6000 → ((out.length : Int) == 6000) = true := fun h => by rw [h]; rfl
 have q6' : out.length < 6000 → ((out.length : Int) == 6000) = false := fun h => by
  have : ¬ (out.length : Int) = 6000 := by omega
  simpa using this
 have hlen : ∀ n : Nat, n < t.text.length → decide ((t.text.length : Int) > (n : Int)) = true := fun n h => decide_eq_true (by omega)
 have hlen' : ∀ n : Nat, t.text.length ≤ n → decide ((t.text.length : Int) > (n : Int)) = false := fun n h => decide_eq_false (by omega)
 have ho2 : out.length = 6000 ∨ out.length < 6000 := by omega
 cases hrt with
 | char h0 h1 =>
  have this := errE 3 (by decide) h0
  rw [this] at hQ
  repeat' (first | apply nx | refine Kq_exit_ne (by decide) ?_ | rw [wrap64 (by omega) (by omega)] | ((first | refine hK _ ?_ | refine hKp _ _ ?_); clear hK hKp K Kp; try clear hanc anc) | ((with_reducible refine And.intro ?_ ?_); (focus (first | trivial | omega | (simp only [Fits]; omega) | assumption | (rw [hanc]; rfl)))) | ((first | refine K_regA hE fun K Kp hK hKp => ?_ | refine K_drwA false mixed hE fun K Kp hK hKp anc hanc => ?_ | ((first | apply CallP_mk | apply CallB_mk); (focus (simp only [go_sem] <;> rfl)); (focus (exact tc)); (focus (first | (simp [go_sem]; done) | (simp [go_sem, CloRow, AV.cells, AV.clo]; done))); (focus (first | exact .inl rfl | (right; simp [go_sem]))))); simp only [go_sem, lt_dec hlt, qe 0 h1]) | ((first | refine onG_split_t (fun hg => ?_) (fun hg => ?_) | refine onG_split_f (fun hg => ?_) (fun hg => ?_)) <;> simp only [go_sem, lt_dec hlt, qe 0 h1, hg]) | (refine K_condA (fun hc => ?_) (fun hc => ?_) <;> try (exact absurd hc (by decide))) | (refine K_ret ?_; refine (hQ _ ⟨_, by (try simp only [go_sem, ↓reduceIte, Nat.reduceEqDiff]); rfl, by simp [go_sem], ?_, by first | rfl | assumption⟩).1))
  simp [AV.snap, AV.snapL, tkl]
 | name h0 h1 h2 =>
  have this := errE 2 (by decide) h0
  have q24 : decide ((t.text.length : Int) > 24) = true := hlen 24 h2
  rw [this] at hQ
  rcases ho2 with h6 | h6
  ·repeat' (first | apply nx | refine Kq_exit_ne (by decide) ?_ | rw [wrap64 (by omega) (by omega)] | ((first | refine hK _ ?_ | refine hKp _ _ ?_); clear hK hKp K Kp; try clear hanc anc) | ((with_reducible refine And.intro ?_ ?_); (focus (first | trivial | omega | (simp only [Fits]; omega) | assumption | (rw [hanc]; rfl)))) | ((first | refine K_regA hE fun K Kp hK hKp => ?_ | refine K_drwA false mixed hE fun K Kp hK hKp anc hanc => ?_ | ((first | apply CallP_mk | apply CallB_mk); (focus (simp only [go_sem] <;> rfl)); (focus (exact tc)); (focus (first | (simp [go_sem]; done) | (simp [go_sem, CloRow, AV.cells, AV.clo]; done))); (focus (first | exact .inl rfl | (right; simp [go_sem]))))); simp only [go_sem, lt_dec hlt, q6 h6, qk 1 0 h1 (by decide)]) | ((first | refine onG_split_t (fun hg => ?_) (fun hg => ?_) | refine onG_split_f (fun hg => ?_) (fun hg => ?_)) <;> simp only [go_sem, lt_dec hlt, q6 h6, qk 1 0 h1 (by decide), hg]) | (refine K_condA (fun hc => ?_) (fun hc => ?_) <;> try (exact absurd hc (by decide))) | (refine K_ret ?_; refine (hQ _ ⟨_, by (try simp only [go_sem, ↓reduceIte, Nat.reduceEqDiff]); rfl, by simp [go_sem], ?_, by first | rfl | assumption⟩).1))
   simp [AV.snap, AV.snapL, tkl]
  ·repeat' (first | apply nx | refine Kq_exit_ne (by decide) ?_ | rw [wrap64 (by omega) (by omega)] | ((first | refine hK _ ?_ | refine hKp _ _ ?_); clear hK hKp K Kp; try clear hanc anc) | ((with_reducible refine And.intro ?_ ?_); (focus (first | trivial | omega | (simp only [Fits]; omega) | assumption | (rw [hanc]; rfl)))) | ((first | refine K_regA hE fun K Kp hK hKp => ?_ | refine K_drwA false mixed hE fun K Kp hK hKp anc hanc => ?_ | ((first | apply CallP_mk | apply CallB_mk); (focus (simp only [go_sem] <;> rfl)); (focus (exact tc)); (focus (first | (simp [go_sem]; done) | (simp [go_sem, CloRow, AV.cells, AV.clo]; done))); (focus (first | exact .inl rfl | (right; simp [go_sem]))))); simp only [go_sem, lt_dec hlt, q6' h6, qk 1 0 h1 (by decide), qe 1 h1, q24]) | ((first | refine onG_split_t (fun hg => ?_) (fun hg => ?_) | refine onG_split_f (fun hg => ?_) (fun hg => ?_)) <;> simp only [go_sem, lt_dec hlt, q6' h6, qk 1 0 h1 (by decide), qe 1 h1, q24, hg]) | (refine K_condA (fun hc => ?_) (fun hc => ?_) <;> try (exact absurd hc (by decide))) | (refine K_ret ?_; refine (hQ _ ⟨_, by (try simp only [go_sem, ↓reduceIte, Nat.reduceEqDiff]); rfl, by simp [go_sem], ?_, by first | rfl | assumption⟩).1))
   simp [AV.snap, AV.snapL, tkl]
 | num h0 h1 h2 =>
  have this := errE 2 (by decide) h0
  rw [this] at hQ
  rcases ho2 with h6 | h6
  ·repeat' (first | apply nx | refine Kq_exit_ne (by decide) ?_ | rw [wrap64 (by omega) (by omega)] | ((first | refine hK _ ?_ | refine hKp _ _ ?_); clear hK hKp K Kp; try clear hanc anc) | ((with_reducible refine And.intro ?_ ?_); (focus (first | trivial | omega | (simp only [Fits]; omega) | assumption | (rw [hanc]; rfl)))) | ((first | refine K_regA hE fun K Kp hK hKp => ?_ | refine K_drwA false mixed hE fun K Kp hK hKp anc hanc => ?_ | ((first | apply CallP_mk | apply CallB_mk); (focus (simp only [go_sem] <;> rfl)); (focus (exact tc)); (focus (first | (simp [go_sem]; done) | (simp [go_sem, CloRow, AV.cells, AV.clo]; done))); (focus (first | exact .inl rfl | (right; simp [go_sem]))))); simp only [go_sem, lt_dec hlt, q6 h6, qk 2 0 h1 (by decide)]) | ((first | refine onG_split_t (fun hg => ?_) (fun hg => ?_) | refine onG_split_f (fun hg => ?_) (fun hg => ?_)) <;> simp only [go_sem, lt_dec hlt, q6 h6, qk 2 0 h1 (by decide), hg]) | (refine K_condA (fun hc => ?_) (fun hc => ?_) <;> try (exact absurd hc (by decide))) | (refine K_ret ?_; refine (hQ _ ⟨_, by (try simp only [go_sem, ↓reduceIte, Nat.reduceEqDiff]); rfl, by simp [go_sem], ?_, by first | rfl | assumption⟩).1))
   simp [AV.snap, AV.snapL, tkl]
  ·by_cases h10 : 10 < t.text.length
   ·have q10 : decide ((t.text.length : Int) > 10) = true := hlen 10 h10
    repeat' (first | apply nx | refine Kq_exit_ne (by decide) ?_ | rw [wrap64 (by omega) (by omega)] | ((first | refine hK _ ?_ | refine hKp _ _ ?_); clear hK hKp K Kp; try clear hanc anc) | ((with_reducible refine And.intro ?_ ?_); (focus (first | trivial | omega | (simp only [Fits]; omega) | assumption | (rw [hanc]; rfl)))) | ((first | refine K_regA hE fun K Kp hK hKp => ?_ | refine K_drwA false mixed hE fun K Kp hK hKp anc hanc => ?_ | ((first | apply CallP_mk | apply CallB_mk); (focus (simp only [go_sem] <;> rfl)); (focus (exact tc)); (focus (first | (simp [go_sem]; done) | (simp [go_sem, CloRow, AV.cells, AV.clo]; done))); (focus (first | exact .inl rfl | (right; simp [go_sem]))))); simp only [go_sem, lt_dec hlt, q6' h6, qk 2 0 h1 (by decide), qk 2 1 h1 (by decide), qe 2 h1, q10]) | ((first | refine onG_split_t (fun hg => ?_) (fun hg => ?_) | refine onG_split_f (fun hg => ?_) (fun hg => ?_)) <;> simp only [go_sem, lt_dec hlt, q6' h6, qk 2 0 h1 (by decide), qk 2 1 h1 (by decide), qe 2 h1, q10, hg]) | (refine K_condA (fun hc => ?_) (fun hc => ?_) <;> try (exact absurd hc (by decide))) | (refine K_ret ?_; refine (hQ _ ⟨_, by (try simp only [go_sem, ↓reduceIte, Nat.reduceEqDiff]); rfl, by simp [go_sem], ?_, by first | rfl | assumption⟩).1))
    simp [AV.snap, AV.snapL, tkl]
   ·have q10 : decide ((t.text.length : Int) > 10) = false := hlen' 10 (by omega)
    have qn : decide (t.num > 1000000000) = true := decide_eq_true (h2.resolve_left h10)
    repeat' (first | apply nx | refine Kq_exit_ne (by decide) ?_ | rw [wrap64 (by omega) (by omega)] | ((first | refine hK _ ?_ | refine hKp _ _ ?_); clear hK hKp K Kp; try clear hanc anc) | ((with_reducible refine And.intro ?_ ?_); (focus (first | trivial | omega | (simp only [Fits]; omega) | assumption | (rw [hanc]; rfl)))) | ((first | refine K_regA hE fun K Kp hK hKp => ?_ | refine K_drwA false mixed hE fun K Kp hK hKp anc hanc => ?_ | ((first | apply CallP_mk | apply CallB_mk); (focus (simp only [go_sem] <;> rfl)); (focus (exact tc)); (focus (first | (simp [go_sem]; done) | (simp [go_sem, CloRow, AV.cells, AV.clo]; done))); (focus (first | exact .inl rfl | (right; simp [go_sem]))))); simp only [go_sem, lt_dec hlt, q6' h6, qk 2 0 h1 (by decide), qk 2 1 h1 (by decide), qe 2 h1, q10, qn]) | ((first | refine onG_split_t (fun hg => ?_) (fun hg => ?_) | refine onG_split_f (fun hg => ?_) (fun hg => ?_)) <;> simp only [go_sem, lt_dec hlt, q6' h6, qk 2 0 h1 (by decide), qk 2 1 h1 (by decide), qe 2 h1, q10, qn, hg]) | (refine K_condA (fun hc => ?_) (fun hc => ?_) <;> try (exact absurd hc (by decide))) | (refine K_ret ?_; refine (hQ _ ⟨_, by (try simp only [go_sem, ↓reduceIte, Nat.reduceEqDiff]); rfl, by simp [go_sem], ?_, by first | rfl | assumption⟩).1))
    simp [AV.snap, AV.snapL, tkl]
 | ok1 h0 h1 h2 h5 =>
  have q24 : decide ((t.text.length : Int) > 24) = false := hlen' 24 h2
  rcases ho2 with h6 | h6
  ·rw [full h0 h5 h6] at hQ
   repeat' (first | apply nx | refine Kq_exit_ne (by decide) ?_ | rw [wrap64 (by omega) (by omega)] | ((first | refine hK _ ?_ | refine hKp _ _ ?_); clear hK hKp K Kp; try clear hanc anc) | ((with_reducible refine And.intro ?_ ?_); (focus (first | trivial | omega | (simp only [Fits]; omega) | assumption | (rw [hanc]; rfl)))) | ((first | refine K_regA hE fun K Kp hK hKp => ?_ | refine K_drwA false mixed hE fun K Kp hK hKp anc hanc => ?_ | ((first | apply CallP_mk | apply CallB_mk); (focus (simp only [go_sem] <;> rfl)); (focus (exact tc)); (focus (first | (simp [go_sem]; done) | (simp [go_sem, CloRow, AV.cells, AV.clo]; done))); (focus (first | exact .inl rfl | (right; simp [go_sem]))))); simp only [go_sem, lt_dec hlt, q6 h6, qk 1 0 h1 (by decide)]) | ((first | refine onG_split_t (fun hg => ?_) (fun hg => ?_) | refine onG_split_f (fun hg => ?_) (fun hg => ?_)) <;> simp only [go_sem, lt_dec hlt, q6 h6, qk 1 0 h1 (by decide), hg]) | (refine K_condA (fun hc => ?_) (fun hc => ?_) <;> try (exact absurd hc (by decide))) | (refine K_ret ?_; refine (hQ _ ⟨_, by (try simp only [go_sem, ↓reduceIte, Nat.reduceEqDiff]); rfl, by simp [go_sem], ?_, by first | rfl | assumption⟩).1))
   simp [AV.snap, AV.snapL, tkl]
  ·obtain ⟨g1, g2, g3⟩ := good h0 h5 h6
   have gc := rgap_call l (a + t.text.length) g1 hl
   have v0 : IntKind.i64.wrap ((a : Int) + (t.text.length : Int)) = ((a + t.text.length : Nat) : Int) := by rw [wrap64 (by omega) (by omega)]; omega
   have hn1 : ((a + t.text.length + gp false (l.drop (a + t.text.length)) : Nat) : Int) = ((nxt l (a + t.text.length) : Nat) : Int) := rfl
   rw [hn1] at gc
   have hto : (⟨t.kind, t.text, t.num, t.off⟩ : Tk) = t := rfl
   repeat' (first | apply nx | refine Kq_exit_ne (by decide) ?_ | rw [wrap64 (by omega) (by omega)] | ((first | refine hK _ ?_ | refine hKp _ _ ?_); clear hK hKp K Kp; try clear hanc anc) | ((with_reducible refine And.intro ?_ ?_); (focus (first | trivial | omega | (simp only [Fits]; omega) | assumption | (rw [hanc]; rfl)))) | ((first | refine K_regA hE fun K Kp hK hKp => ?_ | refine K_drwA false mixed hE fun K Kp hK hKp anc hanc => ?_ | ((first | apply CallP_mk | apply CallB_mk); (focus (simp only [go_sem] <;> rfl)); (focus (first | exact tc | exact gc)); (focus (first | (simp [go_sem]; done) | (simp [go_sem, CloRow, AV.cells, AV.clo]; done))); (focus (first | exact .inl rfl | (right; simp [go_sem]))))); simp only [go_sem, lt_dec hlt, q6' h6, qk 1 0 h1 (by decide), qe 1 h1, qk 1 2 h1 (by decide), q24, v0, Tk.av_eq, hto]) | ((first | refine onG_split_t (fun hg => ?_) (fun hg => ?_) | refine onG_split_f (fun hg => ?_) (fun hg => ?_)) <;> simp only [go_sem, lt_dec hlt, q6' h6, qk 1 0 h1 (by decide), qe 1 h1, qk 1 2 h1 (by decide), q24, v0, Tk.av_eq, hto, hg]) | (refine K_condA (fun hc => ?_) (fun hc => ?_) <;> try (exact absurd hc (by decide))) | (refine K_ret ?_; refine (hQ _ ⟨_, by (try simp only [go_sem, ↓reduceIte, Nat.reduceEqDiff]); rfl, by simp [go_sem], ?_, by first | rfl | assumption⟩).1))
   exact ⟨(nxt l (a + t.text.length), out ++ [t]), ⟨nxt_le g1, beg_nxt _ _, by simp; omega, g3⟩, by simp only; omega, fun i => if i = 0 then 47185921 else i, by refine ent_mk (by simp [go_sem, hto]) (by simp [go_sem, hto]) (by simp) (by simp [hN])⟩
 | ok2 h0 h1 h2 h3 h5 =>
  have q10 : decide ((t.text.length : Int) > 10) = false := hlen' 10 h2
  have qn : decide (t.num > 1000000000) = false := decide_eq_false (by omega)
  rcases ho2 with h6 | h6
  ·rw [full h0 h5 h6] at hQ
   repeat' (first | apply nx | refine Kq_exit_ne (by decide) ?_ | rw [wrap64 (by omega) (by omega)] | ((first | refine hK _ ?_ | refine hKp _ _ ?_); clear hK hKp K Kp; try clear hanc anc) | ((with_reducible refine And.intro ?_ ?_); (focus (first | trivial | omega | (simp only [Fits]; omega) | assumption | (rw [hanc]; rfl)))) | ((first | refine K_regA hE fun K Kp hK hKp => ?_ | refine K_drwA false mixed hE fun K Kp hK hKp anc hanc => ?_ | ((first | apply CallP_mk | apply CallB_mk); (focus (simp only [go_sem] <;> rfl)); (focus (exact tc)); (focus (first | (simp [go_sem]; done) | (simp [go_sem, CloRow, AV.cells, AV.clo]; done))); (focus (first | exact .inl rfl | (right; simp [go_sem]))))); simp only [go_sem, lt_dec hlt, q6 h6, qk 2 0 h1 (by decide)]) | ((first | refine onG_split_t (fun hg => ?_) (fun hg => ?_) | refine onG_split_f (fun hg => ?_) (fun hg => ?_)) <;> simp only [go_sem, lt_dec hlt, q6 h6, qk 2 0 h1 (by decide), hg]) | (refine K_condA (fun hc => ?_) (fun hc => ?_) <;> try (exact absurd hc (by decide))) | (refine K_ret ?_; refine (hQ _ ⟨_, by (try simp only [go_sem, ↓reduceIte, Nat.reduceEqDiff]); rfl, by simp [go_sem], ?_, by first | rfl | assumption⟩).1))
   simp [AV.snap, AV.snapL, tkl]
  ·obtain ⟨g1, g2, g3⟩ := good h0 h5 h6
   have gc := rgap_call l (a + t.text.length) g1 hl
   have v0 : IntKind.i64.wrap ((a : Int) + (t.text.length : Int)) = ((a + t.text.length : Nat) : Int) := by rw [wrap64 (by omega) (by omega)]; omega
   have hn1 : ((a + t.text.length + gp false (l.drop (a + t.text.length)) : Nat) : Int) = ((nxt l (a + t.text.length) : Nat) : Int) := rfl
   rw [hn1] at gc
   have hto : (⟨t.kind, t.text, t.num, t.off⟩ : Tk) = t := rfl
   repeat' (first | apply nx | refine Kq_exit_ne (by decide) ?_ | rw [wrap64 (by omega) (by omega)] | ((first | refine hK _ ?_ | refine hKp _ _ ?_); clear hK hKp K Kp; try clear hanc anc) | ((with_reducible refine And.intro ?_ ?_); (focus (first | trivial | omega | (simp only [Fits]; omega) | assumption | (rw [hanc]; rfl)))) | ((first | refine K_regA hE fun K Kp hK hKp => ?_ | refine K_drwA false mixed hE fun K Kp hK hKp anc hanc => ?_ | ((first | apply CallP_mk | apply CallB_mk); (focus (simp only [go_sem] <;> rfl)); (focus (first | exact tc | exact gc)); (focus (first | (simp [go_sem]; done) | (simp [go_sem, CloRow, AV.cells, AV.clo]; done))); (focus (first | exact .inl rfl | (right; simp [go_sem]))))); simp only [go_sem, lt_dec hlt, q6' h6, qk 2 0 h1 (by decide), qk 2 1 h1 (by decide), qe 2 h1, q10, qn, v0, Tk.av_eq, hto]) | ((first | refine onG_split_t (fun hg => ?_) (fun hg => ?_) | refine onG_split_f (fun hg => ?_) (fun hg => ?_)) <;> simp only [go_sem, lt_dec hlt, q6' h6, qk 2 0 h1 (by decide), qk 2 1 h1 (by decide), qe 2 h1, q10, qn, v0, Tk.av_eq, hto, hg]) | (refine K_condA (fun hc => ?_) (fun hc => ?_) <;> try (exact absurd hc (by decide))) | (refine K_ret ?_; refine (hQ _ ⟨_, by (try simp only [go_sem, ↓reduceIte, Nat.reduceEqDiff]); rfl, by simp [go_sem], ?_, by first | rfl | assumption⟩).1))
   exact ⟨(nxt l (a + t.text.length), out ++ [t]), ⟨nxt_le g1, beg_nxt _ _, by simp; omega, g3⟩, by simp only; omega, fun i => if i = 0 then 47185921 else i, by refine ent_mk (by simp [go_sem, hto]) (by simp [go_sem, hto]) (by simp) (by simp [hN])⟩
 | ok3 h0 h1 h5 =>
  rcases ho2 with h6 | h6
  ·rw [full h0 h5 h6] at hQ
   repeat' (first | apply nx | refine Kq_exit_ne (by decide) ?_ | rw [wrap64 (by omega) (by omega)] | ((first | refine hK _ ?_ | refine hKp _ _ ?_); clear hK hKp K Kp; try clear hanc anc) | ((with_reducible refine And.intro ?_ ?_); (focus (first | trivial | omega | (simp only [Fits]; omega) | assumption | (rw [hanc]; rfl)))) | ((first | refine K_regA hE fun K Kp hK hKp => ?_ | refine K_drwA false mixed hE fun K Kp hK hKp anc hanc => ?_ | ((first | apply CallP_mk | apply CallB_mk); (focus (simp only [go_sem] <;> rfl)); (focus (exact tc)); (focus (first | (simp [go_sem]; done) | (simp [go_sem, CloRow, AV.cells, AV.clo]; done))); (focus (first | exact .inl rfl | (right; simp [go_sem]))))); simp only [go_sem, lt_dec hlt, q6 h6, qk 3 0 h1 (by decide)]) | ((first | refine onG_split_t (fun hg => ?_) (fun hg => ?_) | refine onG_split_f (fun hg => ?_) (fun hg => ?_)) <;> simp only [go_sem, lt_dec hlt, q6 h6, qk 3 0 h1 (by decide), hg]) | (refine K_condA (fun hc => ?_) (fun hc => ?_) <;> try (exact absurd hc (by decide))) | (refine K_ret ?_; refine (hQ _ ⟨_, by (try simp only [go_sem, ↓reduceIte, Nat.reduceEqDiff]); rfl, by simp [go_sem], ?_, by first | rfl | assumption⟩).1))
   simp [AV.snap, AV.snapL, tkl]
  ·obtain ⟨g1, g2, g3⟩ := good h0 h5 h6
   have gc := rgap_call l (a + t.text.length) g1 hl
   have v0 : IntKind.i64.wrap ((a : Int) + (t.text.length : Int)) = ((a + t.text.length : Nat) : Int) := by rw [wrap64 (by omega) (by omega)]; omega
   have hn1 : ((a + t.text.length + gp false (l.drop (a + t.text.length)) : Nat) : Int) = ((nxt l (a + t.text.length) : Nat) : Int) := rfl
   rw [hn1] at gc
   have hto : (⟨t.kind, t.text, t.num, t.off⟩ : Tk) = t := rfl
   repeat' (first | apply nx | refine Kq_exit_ne (by decide) ?_ | rw [wrap64 (by omega) (by omega)] | ((first | refine hK _ ?_ | refine hKp _ _ ?_); clear hK hKp K Kp; try clear hanc anc) | ((with_reducible refine And.intro ?_ ?_); (focus (first | trivial | omega | (simp only [Fits]; omega) | assumption | (rw [hanc]; rfl)))) | ((first | refine K_regA hE fun K Kp hK hKp => ?_ | refine K_drwA false mixed hE fun K Kp hK hKp anc hanc => ?_ | ((first | apply CallP_mk | apply CallB_mk); (focus (simp only [go_sem] <;> rfl)); (focus (first | exact tc | exact gc)); (focus (first | (simp [go_sem]; done) | (simp [go_sem, CloRow, AV.cells, AV.clo]; done))); (focus (first | exact .inl rfl | (right; simp [go_sem]))))); simp only [go_sem, lt_dec hlt, q6' h6, qk 3 0 h1 (by decide), qk 3 1 h1 (by decide), qk 3 2 h1 (by decide), v0, Tk.av_eq, hto]) | ((first | refine onG_split_t (fun hg => ?_) (fun hg => ?_) | refine onG_split_f (fun hg => ?_) (fun hg => ?_)) <;> simp only [go_sem, lt_dec hlt, q6' h6, qk 3 0 h1 (by decide), qk 3 1 h1 (by decide), qk 3 2 h1 (by decide), v0, Tk.av_eq, hto, hg]) | (refine K_condA (fun hc => ?_) (fun hc => ?_) <;> try (exact absurd hc (by decide))) | (refine K_ret ?_; refine (hQ _ ⟨_, by (try simp only [go_sem, ↓reduceIte, Nat.reduceEqDiff]); rfl, by simp [go_sem], ?_, by first | rfl | assumption⟩).1))
   exact ⟨(nxt l (a + t.text.length), out ++ [t]), ⟨nxt_le g1, beg_nxt _ _, by simp; omega, g3⟩, by simp only; omega, fun i => if i = 0 then 47185921 else i, by refine ent_mk (by simp [go_sem, hto]) (by simp [go_sem, hto]) (by simp) (by simp [hN])⟩
theorem rlex_call (l : List UInt8) (hl : l.length ≤ 2 ^ 40) : PCall Tryd.prog 11 [.str (tx l)] (resL (lexT l)) := by
 by_cases h : 20000 < l.length
 ·rw [lexT_gt h]; exact rlex_big l hl h
 ·rw [lexT_le (by omega)]; exact rlex_sml l hl h
end Go.Proofs.YtihfjibkmhclfaaDoor

set_option linter.unusedSimpArgs false
set_option linter.unusedVariables false
set_option maxHeartbeats 4000000
set_option maxRecDepth 100000
namespace Go.Proofs.YtihfjibkmhclfaaDoor
open Nat (reduceAdd reduceMul reduceEqDiff reduceLT reduceLeDiff reduceSub reduceDiv)
open Int (reduceBNe reduceLE reduceEq)
open Go.Am Go.Proofs Go.Lx
open Classical
attribute [local irreducible] AW CallP CallB
theorem eqty30 : Tryd.prog.stoodInHeld 30 = false ∧ Tryd.prog.eqGuardType Tryd.prog.depth 30 = false := by constructor <;> kernel_rfl
theorem agg30 (op : BinOp) (t u : Tk) (r : Bool) (h : r = decide (t = u)) : aggE Tryd.prog op 30 [.i t.kind, .str (tx t.text), .i t.num, .i t.off] [.i u.kind, .str (tx u.text), .i u.num, .i u.off] = match op with | .eql => some (True, .bool r) | .neq => some (True, .bool (!r)) | _ => none := by
 have e : (t.kind == u.kind && ((tx t.text).toList == (tx u.text).toList && (t.num == u.num && ((t.off : Int) == (u.off : Int))))) = r := by
  rw [h, tx_eqB, Bool.eq_iff_iff]
  cases t; cases u
  simp only [Tk.mk.injEq, Bool.and_eq_true, beq_iff_eq, decide_eq_true_eq]
  constructor
  ·rintro ⟨h1, h2, h3, h4⟩; exact ⟨h1, h2, h3, by omega⟩
  ·rintro ⟨h1, h2, h3, h4⟩; exact ⟨h1, h2, h3, by omega⟩
 unfold aggE
 simp only [eqTy, Tryd.underlying30, eqty30, eqF, Tryd.underlying3, Tryd.underlying9, AV.i]
 simp [eqF, Tryd.underlying3, Tryd.underlying9, AV.i]
 cases op <;> simp [← e]
theorem same_call (a b : List Tk) (ha : a.length ≤ 2 ^ 40) (hb : b.length ≤ 2 ^ 40) : PCall Tryd.prog 12 [.sl (tkl a), .sl (tkl b)] (.bool (decide (a = b))) := by
 by_cases hlen : a.length = b.length
 case neg =>
  have q : ((a.length : Int) != (b.length : Int)) = true := by
   have : ¬ (a.length : Int) = (b.length : Int) := by omega
   simpa using this
  rw [decide_eq_false (fun e => hlen (by rw [e]))]
  refine PCall.intro Tryd.func12 rfl isf12 (by simp [Tryd.f12]) (by simp [AV.cloL, AV.clo]) fun E Q hE hN hQ => K_start ?_
  repeat' (first | apply nx | refine Kq_exit_ne (by decide) ?_ | rw [wrap64 (by omega) (by omega)] | ((first | refine hK _ ?_ | refine hKp _ _ ?_); clear hK hKp K Kp; try clear hanc anc) | ((with_reducible refine And.intro ?_ ?_); (focus (first | trivial | omega | (simp only [Fits]; omega) | assumption | (rw [hanc]; rfl)))) | ((first | refine K_regA hE fun K Kp hK hKp => ?_ | refine K_drwA false mixed hE fun K Kp hK hKp anc hanc => ?_); simp only [go_sem, q]) | ((first | refine onG_split_t (fun hg => ?_) (fun hg => ?_) | refine onG_split_f (fun hg => ?_) (fun hg => ?_)) <;> simp only [go_sem, q, hg]) | (refine K_condA (fun hc => ?_) (fun hc => ?_) <;> try (exact absurd hc (by decide))) | (refine K_ret ?_; refine (hQ _ ⟨_, by (try simp only [go_sem, ↓reduceIte, Nat.reduceEqDiff]); rfl, by simp [go_sem], ?_, by first | rfl | assumption⟩).1))
  simp [AV.snap]
 have q : ((a.length : Int) != (b.length : Int)) = false := by rw [hlen]; simp
 refine PCall.intro Tryd.func12 rfl isf12 (by simp [Tryd.f12]) (by simp [AV.cloL, AV.clo]) fun E Q hE hN hQ => K_start ?_
 repeat' (first | apply nx | refine Kq_exit_ne (by decide) ?_ | rw [wrap64 (by omega) (by omega)] | ((first | refine hK _ ?_ | refine hKp _ _ ?_); clear hK hKp K Kp; try clear hanc anc) | ((with_reducible refine And.intro ?_ ?_); (focus (first | trivial | omega | (simp only [Fits]; omega) | assumption | (rw [hanc]; rfl)))) | ((first | refine K_regA hE fun K Kp hK hKp => ?_ | refine K_drwA false mixed hE fun K Kp hK hKp anc hanc => ?_); simp only [go_sem, q]) | ((first | refine onG_split_t (fun hg => ?_) (fun hg => ?_) | refine onG_split_f (fun hg => ?_) (fun hg => ?_)) <;> simp only [go_sem, q, hg]) | (refine K_condA (fun hc => ?_) (fun hc => ?_) <;> try (exact absurd hc (by decide))) | (refine K_ret ?_; refine (hQ _ ⟨_, by (try simp only [go_sem, ↓reduceIte, Nat.reduceEqDiff]); rfl, by simp [go_sem], ?_, by first | rfl | assumption⟩).1))
 refine K_loop (X := Nat) (fun i => i ≤ a.length ∧ ((a = b) ↔ a.drop i = b.drop i)) (fun i => mkSt [(0, .sl (tkl a)), (1, .sl (tkl b)), (5, .i i)] [] 0) (fun i => a.length - i) 0 ⟨Nat.zero_le _, by simp⟩ (fun i => i) (by refine ent_mk (by simp [go_sem]) (by simp [go_sem]) (by simp) (by simp [hN])) ?_
 rintro i ⟨hi, ht⟩
 by_cases hlt : i < a.length
 ·obtain ⟨x, hx⟩ := get?_of hlt
  obtain ⟨y, hy⟩ := get?_of (show i < b.length by omega)
  rw [drop_of hx, drop_of hy, List.cons.injEq] at ht
  have u : IntKind.i64.wrap ((i : Int) + 1) = ((i + 1 : Nat) : Int) := by rw [wrap64 (by omega) (by omega)]; omega
  by_cases he : x = y
  ·subst he
   have ha := agg30 .neq x x true (by simp)
   repeat' (first | apply nx | refine Kq_exit_ne (by decide) ?_ | rw [wrap64 (by omega) (by omega)] | ((first | refine hK _ ?_ | refine hKp _ _ ?_); clear hK hKp K Kp; try clear hanc anc) | ((with_reducible refine And.intro ?_ ?_); (focus (first | trivial | omega | (simp only [Fits]; omega) | assumption | (rw [hanc]; rfl)))) | ((first | refine K_regA hE fun K Kp hK hKp => ?_ | refine K_drwA false mixed hE fun K Kp hK hKp anc hanc => ?_); simp only [go_sem, lt_dec hlt, hx, hy, u, Tk.av_eq, ha]) | ((first | refine onG_split_t (fun hg => ?_) (fun hg => ?_) | refine onG_split_f (fun hg => ?_) (fun hg => ?_)) <;> simp only [go_sem, lt_dec hlt, hx, hy, u, Tk.av_eq, ha, hg]) | (refine K_condA (fun hc => ?_) (fun hc => ?_) <;> try (exact absurd hc (by decide))) | (refine K_ret ?_; refine (hQ _ ⟨_, by (try simp only [go_sem, ↓reduceIte, Nat.reduceEqDiff]); rfl, by simp [go_sem], ?_, by first | rfl | assumption⟩).1))
   exact ⟨i + 1, ⟨by omega, by rw [ht]; simp⟩, by omega, fun i => i, by refine ent_mk (by simp [go_sem]) (by simp [go_sem]) (by simp) (by simp [hN])⟩
  ·have ha := agg30 .neq x y false (by simp [he])
   rw [decide_eq_false (fun e => he (ht.1 e).1)] at hQ
   repeat' (first | apply nx | refine Kq_exit_ne (by decide) ?_ | rw [wrap64 (by omega) (by omega)] | ((first | refine hK _ ?_ | refine hKp _ _ ?_); clear hK hKp K Kp; try clear hanc anc) | ((with_reducible refine And.intro ?_ ?_); (focus (first | trivial | omega | (simp only [Fits]; omega) | assumption | (rw [hanc]; rfl)))) | ((first | refine K_regA hE fun K Kp hK hKp => ?_ | refine K_drwA false mixed hE fun K Kp hK hKp anc hanc => ?_); simp only [go_sem, lt_dec hlt, hx, hy, Tk.av_eq, ha]) | ((first | refine onG_split_t (fun hg => ?_) (fun hg => ?_) | refine onG_split_f (fun hg => ?_) (fun hg => ?_)) <;> simp only [go_sem, lt_dec hlt, hx, hy, Tk.av_eq, ha, hg]) | (refine K_condA (fun hc => ?_) (fun hc => ?_) <;> try (exact absurd hc (by decide))) | (refine K_ret ?_; refine (hQ _ ⟨_, by (try simp only [go_sem, ↓reduceIte, Nat.reduceEqDiff]); rfl, by simp [go_sem], ?_, by first | rfl | assumption⟩).1))
   simp [AV.snap]
 ·obtain rfl : i = a.length := by omega
  rw [hlen] at ht
  rw [decide_eq_true (ht.2 (by rw [← hlen]; simp; omega))] at hQ
  repeat' (first | apply nx | refine Kq_exit_ne (by decide) ?_ | rw [wrap64 (by omega) (by omega)] | ((first | refine hK _ ?_ | refine hKp _ _ ?_); clear hK hKp K Kp; try clear hanc anc) | ((with_reducible refine And.intro ?_ ?_); (focus (first | trivial | omega | (simp only [Fits]; omega) | assumption | (rw [hanc]; rfl)))) | ((first | refine K_regA hE fun K Kp hK hKp => ?_ | refine K_drwA false mixed hE fun K Kp hK hKp anc hanc => ?_); simp only [go_sem, ge_dec]) | ((first | refine onG_split_t (fun hg => ?_) (fun hg => ?_) | refine onG_split_f (fun hg => ?_) (fun hg => ?_)) <;> simp only [go_sem, ge_dec, hg]) | (refine K_condA (fun hc => ?_) (fun hc => ?_) <;> try (exact absurd hc (by decide))) | (refine K_ret ?_; refine (hQ _ ⟨_, by (try simp only [go_sem, ↓reduceIte, Nat.reduceEqDiff]); rfl, by simp [go_sem], ?_, by first | rfl | assumption⟩).1))
  simp [AV.snap]
theorem gap_call (l : List UInt8) (a b : Nat) (hab : a ≤ b) (hb : b ≤ l.length) (hl : l.length ≤ 2 ^ 40) : PCall Tryd.prog 13 [.str (tx l), .i a, .i b] (.bool (decide (gp false ((l.take b).drop a) = b - a))) := by
 have q1 : decide ((a : Int) < 0) = false := by simp
 have q2 : decide ((b : Int) < (a : Int)) = false := decide_eq_false (by omega)
 have q3 : decide ((b : Int) > (l.length : Int)) = false := decide_eq_false (by omega)
 have g := rgap_call (l.take b) a (by rw [List.length_take]; omega) (by rw [List.length_take]; omega)
 have q4 : (((a + gp false ((l.take b).drop a) : Nat) : Int) == (b : Int)) = decide (gp false ((l.take b).drop a) = b - a) := by
  rw [Bool.eq_iff_iff]; simp only [beq_iff_eq, decide_eq_true_eq]; omega
 refine PCall.intro Tryd.func13 rfl isf13 (by simp [Tryd.f13]) (by simp [AV.cloL, AV.clo]) fun E Q hE hN hQ => K_start ?_
 repeat' (first | apply nx | refine Kq_exit_ne (by decide) ?_ | rw [wrap64 (by omega) (by omega)] | ((first | refine hK _ ?_ | refine hKp _ _ ?_); clear hK hKp K Kp; try clear hanc anc) | ((with_reducible refine And.intro ?_ ?_); (focus (first | trivial | omega | (simp only [Fits]; omega) | assumption | (rw [hanc]; rfl)))) | ((first | refine K_regA hE fun K Kp hK hKp => ?_ | refine K_drwA false mixed hE fun K Kp hK hKp anc hanc => ?_ | ((first | apply CallP_mk | apply CallB_mk); (focus (simp only [go_sem] <;> rfl)); (focus (exact g)); (focus (first | (simp [go_sem]; done) | (simp [go_sem, CloRow, AV.cells, AV.clo]; done))); (focus (first | exact .inl rfl | (right; simp [go_sem]))))); simp only [go_sem, q1, q2, q3, q4, List.drop_zero]) | ((first | refine onG_split_t (fun hg => ?_) (fun hg => ?_) | refine onG_split_f (fun hg => ?_) (fun hg => ?_)) <;> simp only [go_sem, q1, q2, q3, q4, List.drop_zero, hg]) | (refine K_condA (fun hc => ?_) (fun hc => ?_) <;> try (exact absurd hc (by decide))) | (refine K_ret ?_; refine (hQ _ ⟨_, by (try simp only [go_sem, ↓reduceIte, Nat.reduceEqDiff]); rfl, by simp [go_sem], ?_, by first | rfl | assumption⟩).1))
 simp [AV.snap]
end Go.Proofs.YtihfjibkmhclfaaDoor

set_option linter.unusedVariables false
set_option linter.unusedSimpArgs false
set_option maxHeartbeats 4000000
set_option maxRecDepth 100000
namespace Go.Proofs.YtihfjibkmhclfaaDoor
open Go.Am Go.Proofs Go.Shelf Go.Lx
def fieldsLay_ren : Ren :=
{
 f := fun x =>
  match x with
  | 157 => 22
  | 229 => 27
  | 199 => 28
  | 261 => 32
  | 311 => 36
  | 312 => 37
  | n => n,
 t := fun x =>
  match x with
  | 9 => 9
  | 31 => 33
  | 3 => 3
  | 5 => 5
  | 4 => 4
  | 119 => 54
  | 0 => 0
  | 40 => 56
  | 152 => 63
  | 21 => 21
  | 154 => 65
  | 51 => 66
  | 141 => 68
  | 196 => 74
  | 193 => 71
  | 198 => 77
  | 49 => 75
  | 194 => 72
  | 201 => 80
  | 226 => 89
  | 46 => 90
  | 227 => 91
  | n => n,
 g := fun x =>
  match x with
  | 0 => 0
  | 6 => 1
  | n => n }
theorem fieldsLay : Lays.n157 Tryd.prog fieldsLay_ren where
 mixed := by kernel_rfl
 f157 := Tryd.func22
 f199 := Tryd.func28
 f229 := Tryd.func27
 f261 := Tryd.func32
 f311 := Tryd.func36
 f312 := Tryd.func37
 t0 := Tryd.underlying0
 a0 := Tryd.isAgg0
 z0 := Tryd.sizeOf0
 v0 := Tryd.zeroValue0
 t3 := Tryd.underlying3
 a3 := Tryd.isAgg3
 z3 := Tryd.sizeOf3
 v3 := Tryd.zeroValue3
 t4 := Tryd.underlying4
 a4 := Tryd.isAgg4
 z4 := Tryd.sizeOf4
 v4 := Tryd.zeroValue4
 t5 := Tryd.underlying5
 a5 := Tryd.isAgg5
 z5 := Tryd.sizeOf5
 v5 := Tryd.zeroValue5
 t9 := Tryd.underlying9
 a9 := Tryd.isAgg9
 z9 := Tryd.sizeOf9
 v9 := Tryd.zeroValue9
 t21 := Tryd.underlying21
 a21 := Tryd.isAgg21
 z21 := Tryd.sizeOf21
 v21 := Tryd.zeroValue21
 t31 := Tryd.underlying33
 a31 := Tryd.isAgg33
 z31 := Tryd.sizeOf33
 v31 := Tryd.zeroValue33
 t40 := Tryd.underlying56
 a40 := Tryd.isAgg56
 z40 := Tryd.sizeOf56
 v40 := Tryd.zeroValue56
 t46 := Tryd.underlying90
 a46 := Tryd.isAgg90
 z46 := Tryd.sizeOf90
 v46 := Tryd.zeroValue90
 t49 := Tryd.underlying75
 a49 := Tryd.isAgg75
 z49 := Tryd.sizeOf75
 v49 := Tryd.zeroValue75
 t51 := Tryd.underlying66
 a51 := Tryd.isAgg66
 z51 := Tryd.sizeOf66
 v51 := Tryd.zeroValue66
 t119 := Tryd.underlying54
 a119 := Tryd.isAgg54
 z119 := Tryd.sizeOf54
 t141 := Tryd.underlying68
 a141 := Tryd.isAgg68
 z141 := Tryd.sizeOf68
 v141 := Tryd.zeroValue68
 t152 := Tryd.underlying63
 a152 := Tryd.isAgg63
 z152 := Tryd.sizeOf63
 v152 := Tryd.zeroValue63
 t154 := Tryd.underlying65
 a154 := Tryd.isAgg65
 z154 := Tryd.sizeOf65
 v154 := Tryd.zeroValue65
 t193 := Tryd.underlying71
 a193 := Tryd.isAgg71
 z193 := Tryd.sizeOf71
 v193 := Tryd.zeroValue71
 t194 := Tryd.underlying72
 a194 := Tryd.isAgg72
 z194 := Tryd.sizeOf72
 v194 := Tryd.zeroValue72
 t196 := Tryd.underlying74
 a196 := Tryd.isAgg74
 z196 := Tryd.sizeOf74
 v196 := Tryd.zeroValue74
 t198 := Tryd.underlying77
 a198 := Tryd.isAgg77
 z198 := Tryd.sizeOf77
 v198 := Tryd.zeroValue77
 t201 := Tryd.underlying80
 a201 := Tryd.isAgg80
 z201 := Tryd.sizeOf80
 v201 := Tryd.zeroValue80
 t226 := Tryd.underlying89
 a226 := Tryd.isAgg89
 z226 := Tryd.sizeOf89
 v226 := Tryd.zeroValue89
 t227 := Tryd.underlying91
 a227 := Tryd.isAgg91
 z227 := Tryd.sizeOf91
 v227 := Tryd.zeroValue91
 g0 := by kernel_rfl
 g6 := by kernel_rfl
def indexLay_ren : Ren :=
{
 f := fun x =>
  match x with
  | 217 => 33
  | 266 => 38
  | n => n,
 t := fun x =>
  match x with
  | 9 => 9
  | 5 => 5
  | 3 => 3
  | n => n,
 g := fun x =>
  have n := x;
  n }
theorem indexLay : Lays.n217 Tryd.prog indexLay_ren where
 mixed := by kernel_rfl
 f217 := Tryd.func33
 f266 := Tryd.func38
 t3 := Tryd.underlying3
 a3 := Tryd.isAgg3
 z3 := Tryd.sizeOf3
 v3 := Tryd.zeroValue3
 t5 := Tryd.underlying5
 a5 := Tryd.isAgg5
 z5 := Tryd.sizeOf5
 v5 := Tryd.zeroValue5
 t9 := Tryd.underlying9
 a9 := Tryd.isAgg9
 z9 := Tryd.sizeOf9
 v9 := Tryd.zeroValue9
def atoiLay_ren : Ren :=
{
 f := fun x =>
  match x with
  | 172 => 31
  | 244 => 34
  | 245 => 35
  | 247 => 39
  | 279 => 40
  | 280 => 41
  | 281 => 42
  | 282 => 43
  | 287 => 44
  | 316 => 45
  | 171 => 47
  | 205 => 46
  | 321 => 48
  | 322 => 49
  | 243 => 50
  | 246 => 51
  | 283 => 52
  | 284 => 53
  | 285 => 54
  | 286 => 55
  | 129 => 57
  | 317 => 56
  | 318 => 58
  | 319 => 59
  | 320 => 60
  | 337 => 61
  | 338 => 62
  | n => n,
 t := fun x =>
  match x with
  | 9 => 9
  | 3 => 3
  | 75 => 60
  | 76 => 61
  | 4 => 4
  | 5 => 5
  | 167 => 82
  | 37 => 83
  | 0 => 0
  | 85 => 84
  | 2 => 2
  | 168 => 86
  | 53 => 92
  | 175 => 93
  | 46 => 90
  | 210 => 97
  | 127 => 101
  | 145 => 104
  | 143 => 102
  | 21 => 21
  | 171 => 106
  | 173 => 109
  | 212 => 112
  | 51 => 66
  | 20 => 20
  | 213 => 113
  | 232 => 117
  | 233 => 118
  | 80 => 119
  | n => n,
 g := fun x =>
  match x with
  | 15 => 3
  | 16 => 4
  | 17 => 5
  | 18 => 6
  | 19 => 7
  | n => n }
theorem atoiLay : LaysC.n172 Tryd.prog atoiLay_ren where
 mixed := by kernel_rfl
 f129 := Tryd.func57
 f171 := Tryd.func47
 f172 := Tryd.func31
 f205 := Tryd.func46
 f243 := Tryd.func50
 f244 := Tryd.func34
 f245 := Tryd.func35
 f246 := Tryd.func51
 f247 := Tryd.func39
 f279 := Tryd.func40
 f280 := Tryd.func41
 f281 := Tryd.func42
 f282 := Tryd.func43
 f283 := Tryd.func52
 f284 := Tryd.func53
 f285 := Tryd.func54
 f286 := Tryd.func55
 f287 := Tryd.func44
 f316 := Tryd.func45
 f317 := Tryd.func56
 f318 := Tryd.func58
 f319 := Tryd.func59
 f320 := Tryd.func60
 f321 := Tryd.func48
 f322 := Tryd.func49
 f337 := Tryd.func61
 f338 := Tryd.func62
 t0 := Tryd.underlying0
 a0 := Tryd.isAgg0
 z0 := Tryd.sizeOf0
 v0 := Tryd.zeroValue0
 t2 := Tryd.underlying2
 a2 := Tryd.isAgg2
 z2 := Tryd.sizeOf2
 v2 := Tryd.zeroValue2
 t3 := Tryd.underlying3
 a3 := Tryd.isAgg3
 z3 := Tryd.sizeOf3
 v3 := Tryd.zeroValue3
 t4 := Tryd.underlying4
 a4 := Tryd.isAgg4
 z4 := Tryd.sizeOf4
 v4 := Tryd.zeroValue4
 t5 := Tryd.underlying5
 a5 := Tryd.isAgg5
 z5 := Tryd.sizeOf5
 v5 := Tryd.zeroValue5
 t9 := Tryd.underlying9
 a9 := Tryd.isAgg9
 z9 := Tryd.sizeOf9
 v9 := Tryd.zeroValue9
 t20 := Tryd.underlying20
 a20 := Tryd.isAgg20
 z20 := Tryd.sizeOf20
 v20 := Tryd.zeroValue20
 t21 := Tryd.underlying21
 a21 := Tryd.isAgg21
 z21 := Tryd.sizeOf21
 v21 := Tryd.zeroValue21
 t37 := Tryd.underlying83
 a37 := Tryd.isAgg83
 z37 := Tryd.sizeOf83
 v37 := Tryd.zeroValue83
 t46 := Tryd.underlying90
 a46 := Tryd.isAgg90
 z46 := Tryd.sizeOf90
 v46 := Tryd.zeroValue90
 t51 := Tryd.underlying66
 a51 := Tryd.isAgg66
 z51 := Tryd.sizeOf66
 v51 := Tryd.zeroValue66
 t53 := Tryd.underlying92
 a53 := Tryd.isAgg92
 z53 := Tryd.sizeOf92
 v53 := Tryd.zeroValue92
 t75 := Tryd.underlying60
 a75 := Tryd.isAgg60
 z75 := Tryd.sizeOf60
 v75 := Tryd.zeroValue60
 t76 := Tryd.underlying61
 a76 := Tryd.isAgg61
 z76 := Tryd.sizeOf61
 v76 := Tryd.zeroValue61
 t85 := Tryd.underlying84
 a85 := Tryd.isAgg84
 z85 := Tryd.sizeOf84
 v85 := Tryd.zeroValue84
 t127 := Tryd.underlying101
 a127 := Tryd.isAgg101
 z127 := Tryd.sizeOf101
 v127 := Tryd.zeroValue101
 t143 := Tryd.underlying102
 a143 := Tryd.isAgg102
 z143 := Tryd.sizeOf102
 v143 := Tryd.zeroValue102
 t145 := Tryd.underlying104
 a145 := Tryd.isAgg104
 z145 := Tryd.sizeOf104
 v145 := Tryd.zeroValue104
 t167 := Tryd.underlying82
 a167 := Tryd.isAgg82
 z167 := Tryd.sizeOf82
 v167 := Tryd.zeroValue82
 t168 := Tryd.underlying86
 a168 := Tryd.isAgg86
 z168 := Tryd.sizeOf86
 v168 := Tryd.zeroValue86
 t171 := Tryd.underlying106
 a171 := Tryd.isAgg106
 z171 := Tryd.sizeOf106
 v171 := Tryd.zeroValue106
 t173 := Tryd.underlying109
 a173 := Tryd.isAgg109
 z173 := Tryd.sizeOf109
 v173 := Tryd.zeroValue109
 t175 := Tryd.underlying93
 a175 := Tryd.isAgg93
 z175 := Tryd.sizeOf93
 v175 := Tryd.zeroValue93
 t210 := Tryd.underlying97
 a210 := Tryd.isAgg97
 z210 := Tryd.sizeOf97
 v210 := Tryd.zeroValue97
 t212 := Tryd.underlying112
 a212 := Tryd.isAgg112
 z212 := Tryd.sizeOf112
 v212 := Tryd.zeroValue112
 t213 := Tryd.underlying113
 a213 := Tryd.isAgg113
 z213 := Tryd.sizeOf113
 t232 := Tryd.underlying117
 a232 := Tryd.isAgg117
 z232 := Tryd.sizeOf117
 v232 := Tryd.zeroValue117
 t233 := Tryd.underlying118
 a233 := Tryd.isAgg118
 z233 := Tryd.sizeOf118
 v233 := Tryd.zeroValue118
 g15 := by kernel_rfl
 g16 := by kernel_rfl
 g17 := by kernel_rfl
 g18 := by kernel_rfl
 g19 := by kernel_rfl
 t80 := Tryd.underlying119
 a80 := Tryd.isAgg119
 z80 := Tryd.sizeOf119
 v80 := Tryd.zeroValue119
 i0 := by kernel_rfl
 i2 := by kernel_rfl
 i3 := by kernel_rfl
 i4 := by kernel_rfl
 i5 := by kernel_rfl
 i9 := by kernel_rfl
 i20 := by kernel_rfl
 i21 := by kernel_rfl
 i37 := by kernel_rfl
 i46 := by kernel_rfl
 i51 := by kernel_rfl
 i53 := by kernel_rfl
 i75 := by kernel_rfl
 i76 := by kernel_rfl
 i80 := by kernel_rfl
 i85 := by kernel_rfl
 i127 := by kernel_rfl
 i143 := by kernel_rfl
 i145 := by kernel_rfl
 i167 := by kernel_rfl
 i168 := by kernel_rfl
 i171 := by kernel_rfl
 i173 := by kernel_rfl
 i175 := by kernel_rfl
 i210 := by kernel_rfl
 i212 := by kernel_rfl
 i232 := by kernel_rfl
 i233 := by kernel_rfl
 m15 := by kernel_rfl
 m16 := by kernel_rfl
 m17 := by kernel_rfl
 m18 := by kernel_rfl
 m19 := by kernel_rfl
 c0 := by kernel_rfl
 c2 := by kernel_rfl
 c3 := by kernel_rfl
 c4 := by kernel_rfl
 c5 := by kernel_rfl
 c9 := by kernel_rfl
 c20 := by kernel_rfl
 c21 := by kernel_rfl
 c37 := by kernel_rfl
 c46 := by kernel_rfl
 c51 := by kernel_rfl
 c53 := by kernel_rfl
 c75 := by kernel_rfl
 c76 := by kernel_rfl
 c80 := by kernel_rfl
 c85 := by kernel_rfl
 c127 := by kernel_rfl
 c143 := by kernel_rfl
 c145 := by kernel_rfl
 c167 := by kernel_rfl
 c168 := by kernel_rfl
 c171 := by kernel_rfl
 c173 := by kernel_rfl
 c175 := by kernel_rfl
 c210 := by kernel_rfl
 c212 := by kernel_rfl
 c213 := by kernel_rfl
 c232 := by kernel_rfl
 c233 := by kernel_rfl
theorem one_arg {ρ : Nat → Ref} {V : Nat → Prop} {Z : Nat → Nat → Prop} {w : World} {args : Array Value} {s : ByteArray} (hsz : args.size = 1) (h : Rel ρ V Z w (args.getD 0 undef) (.str s)) : args = #[.string s] := by
 have h4 := h.str_inv
 apply Array.ext
 ·simpa using hsz
 ·intro i g1 g2
  obtain rfl : i = 0 := by omega
  simpa [Array.getD, hsz] using h4
def fldT : List UInt8 := [60, 32, 62, 32, 40, 32, 41, 32, 123, 32, 125, 32, 91, 32, 93, 32, 44, 32, 59, 32, 58, 32, 58, 58, 32, 46, 32, 61, 32, 61, 61, 32, 43, 32, 45, 32, 42, 32, 38, 32, 38, 33, 32, 45, 62]
def fldL : List (List UInt8) := [[60], [62], [40], [41], [123], [125], [91], [93], [44], [59], [58], [58, 58], [46], [61], [61, 61], [43], [45], [42], [38], [38, 33], [45, 62]]
theorem fld_eq : Lib.fields fldT = fldL := by kernel_rfl
theorem fields_call : PCall Tryd.prog 22 [.str ⟨fldT.toArray⟩] (.sl (sl fldL)) := by
 refine ⟨isf22, fun ρ V Z w args hZ hgl hsz hrel => ?_⟩
 have e1 := one_arg (by simpa using hsz) (hrel 0 (by simp))
 subst e1
 have hg : Tryd.prog.globalNamed "strings.asciiSpace" = some 0 := by kernel_rfl
 have htab : Lib.TabIs Tryd.prog w "strings.asciiSpace" .u8 Lib.asciiSpaceTab := by
  obtain ⟨⟨cs, ty, fz, g1, g2⟩, g3⟩ := hgl (0, 256, fun l => l = Lib.asciiSpaceTab.map fun z => Value.int .u8 z) (by simp [tabs])
  unfold Lib.TabIs World.var?
  rw [hg]
  simp only [Option.bind_some, g1]
  have g4 : cs.toList = Lib.asciiSpaceTab.map fun z => Value.int .u8 z := g2
  rw [← g4]
 have hasc : ∀ (j : Nat) b, (⟨fldT.toArray⟩ : ByteArray).data.toList[j]? = some b → b.toNat < 128 := by
  intro j b h
  have : ∀ c, c ∈ fldT → c.toNat < 128 := by decide
  exact this b (List.mem_of_getElem? (by simpa using h))
 refine (Any.strings_Fields fieldsLay (by kernel_rfl) hg ⟨fldT.toArray⟩ w (by decide) hasc htab).mono ?_
 have hf : Lib.fields (⟨fldT.toArray⟩ : ByteArray).data.toList = fldL := by
  rw [show (⟨fldT.toArray⟩ : ByteArray).data.toList = fldT by simp]
  exact fld_eq
 rw [hf]
 rintro e w' ⟨rfl, rfl⟩
 have hnew : ∀ (i : Nat) (h : i < fldL.length), (w.alloc (.cells (fldL.map fun l => Value.string ⟨l.toArray⟩).toArray (fieldsLay_ren.t 9))).cell? ⟨w.heap.size, i, none⟩ = some (.string (tx fldL[i])) := fun i h => by
  unfold World.cell?
  rw [World.alloc_heap_new]
  simp [tx, h]
 refine ⟨_, fun b o => Z b o ∨ b = w.heap.size, rfl, ?_, ⟨fun b hb _ => alloc_old hb, by rw [World.size_alloc]; omega, rfl, rfl, trivial⟩, fun b o h => .inl h, fun b o h => ?_⟩
 ·have := Rel.sl (ρ := ρ) (V := V) (Z := fun b o => Z b o ∨ b = w.heap.size) (w := w.alloc (.cells (fldL.map fun l => Value.string ⟨l.toArray⟩).toArray (fieldsLay_ren.t 9))) w.heap.size 0 fldL.length 1 (sl fldL) (fun i _ => .string (tx (fldL.getD i []))) (by simp [sl]) (fun i hi => ?_) (fun i j hi hj => ?_) (fun i j hi hj => ?_)
  ·have e : (sl fldL).length = fldL.length := by simp [sl]
   rw [e] at this
   exact this
  ·have hi' : i < fldL.length := by simpa [sl] using hi
   simp [sl, List.getD_eq_getElem?_getD, hi', AV.cells]
  ·have hi' : i < fldL.length := by simpa [sl] using hi
   obtain rfl : j = 0 := by omega
   refine ⟨?_, .inr rfl, ?_, ?_⟩
   ·have := hnew i hi'
    simp only [Nat.zero_add, Nat.mul_one, Nat.add_zero]
    rw [this]
    simp [List.getD_eq_getElem?_getD, hi']
   ·simp [sl, List.getD_eq_getElem?_getD, hi', AV.cells, AV.one]
   ·simp [sl, List.getD_eq_getElem?_getD, hi', AV.cells, AV.clo]
  ·have hi' : i < fldL.length := by simpa [sl] using hi
   obtain rfl : j = 0 := by omega
   have : ((sl fldL).getD i default).cells.getD 0 default = .str (tx (fldL.getD i [])) := by simp [sl, List.getD_eq_getElem?_getD, hi', AV.cells]
   rw [this]
   exact .str _
 ·rcases h with h | h
  ·exact .inl h
  ·right; subst h; rw [World.size_alloc]; omega
theorem index0_call (s : ByteArray) (c : UInt8) : PCall Tryd.prog 33 [.str s, .int .u8 (c.toNat : Int)] (.i (Lib.indexByte s.data.toList c)) := by
 refine ⟨isf33, fun ρ V Z w args hZ hgl hsz hrel => ?_⟩
 have e1 : args = #[.string s, .int .u8 (c.toNat : Int)] := by
  have h1 := (hrel 0 (by simp)).str_inv
  have h2 := (hrel 1 (by simp)).int_inv
  have h3 : args.size = 2 := by simpa using hsz
  apply Array.ext
  ·simpa using h3
  ·intro i g1 g2
   rcases (show i = 0 ∨ i = 1 by omega) with rfl | rfl
   ·simpa [Array.getD, h3] using h1
   ·simpa [Array.getD, h3] using h2
 subst e1
 refine (Any.stringslite_IndexByte indexLay s (c.toNat : Int) w).mono ?_
 rintro e w' ⟨rfl, rfl⟩
 refine ⟨_, Z, rfl, ?_, ⟨fun _ _ _ => rfl, Nat.le_refl _, rfl, rfl, trivial⟩, fun _ _ h => h, fun _ _ h => .inl h⟩
 have : ((c.toNat : Int)).toNat.toUInt8 = c := by simp
 rw [this]
 exact .int _ _
theorem parse_dig : ∀ (l : List UInt8) (acc : Nat), (∀ c, c ∈ l → isDig c = true) → (Lib.parseUint10 acc l = .ok (l.foldl (fun n c => n * 10 + (c.toNat - 48)) acc)) ∨ Lib.parseUint10 acc l = .range ∧ 1844674407370955162 ≤ l.foldl (fun n c => n * 10 + (c.toNat - 48)) acc
 | [], acc, _ => .inl rfl
 | c :: r, acc, h => by
  have hc := h c (by simp)
  simp only [isDig, Bool.and_eq_true, decide_eq_true_eq] at hc
  have hmono : ∀ (l : List UInt8) (a : Nat), a ≤ l.foldl (fun n c => n * 10 + (c.toNat - 48)) a := by
   intro l
   induction l with
   | nil => intro a; exact Nat.le_refl _
   | cons c l ih =>
    intro a
    rw [List.foldl_cons]
    have := ih (a * 10 + (c.toNat - 48))
    omega
  rw [Lib.parseUint10, if_pos hc, List.foldl_cons]
  have hm := hmono r (acc * 10 + (c.toNat - 48))
  split
  ·exact .inr ⟨rfl, by omega⟩
  ·split
   ·exact .inr ⟨rfl, by omega⟩
   ·exact parse_dig r _ fun x hx => h x (by simp [hx])
theorem atoi_dig {l : List UInt8} (h0 : l ≠ []) (h : ∀ c, c ∈ l → isDig c = true) : (Lib.atoiAll l = .ok (numv l : Int)) ∨ Lib.atoiAll l = .range ∧ 1844674407370955162 ≤ numv l := by
 match l, h0 with
 | c :: r, _ =>
  have hc := h c (by simp)
  simp only [isDig, Bool.and_eq_true, decide_eq_true_eq] at hc
  have hm : Lib.parseMag (c :: r) = Lib.parseUint10 0 (c :: r) := by unfold Lib.parseMag; rw [if_neg (by simp)]
  unfold Lib.atoiAll
  simp only
  rw [if_neg (by omega), hm]
  rcases parse_dig (c :: r) 0 h with e | ⟨e, e2⟩
  ·rw [e]
   simp only
   have hn : ¬ c.toNat = 45 := by omega
   by_cases hb : 9223372036854775808 ≤ (c :: r).foldl (fun n c => n * 10 + (c.toNat - 48)) 0
   ·rw [if_pos ⟨hn, hb⟩]
    exact .inr ⟨rfl, by unfold numv; omega⟩
   ·rw [if_neg (fun h => hb h.2), if_neg (fun h => hn h.1), if_neg hn]
    exact .inl rfl
  ·rw [e]
   exact .inr ⟨rfl, e2⟩
def atoiE : AV := .iface 86 (.eptr (.str ⟨#[65, 116, 111, 105]⟩) 0)
theorem atoi_call {l : List UInt8} (h0 : l ≠ []) (h : ∀ c, c ∈ l → isDig c = true) (hl : l.length ≤ 2 ^ 40) :
    PCall Tryd.prog 31 [.str (tx l)] (.tup [.i (numv l), .nilif]) ∨ (1844674407370955162 ≤ numv l ∧ ∃ n, PCall Tryd.prog 31 [.str (tx l)] (.tup [.i n, atoiE])) := by
  rcases atoi_dig h0 h with e | ⟨e, e2⟩
  · left
    refine ⟨isf31, fun ρ V Z w args hZ hgl hsz hrel => ?_⟩
    have e1 := one_arg (by simpa using hsz) (hrel 0 (by simp))
    subst e1
    refine (Any.strconv_Atoi_ok atoiLay (tx l) (by rw [tx_size]; omega) (numv l) (by rw [tx_list]; exact e) w).mono ?_
    rintro e w' ⟨rfl, hw⟩
    have hr : ∀ w', Rel ρ V Z w' (.tuple #[.int .i64 (numv l), .nilIface]) (.tup [.i (numv l), .nilif]) := fun w' => .tup _ _ rfl fun i hi => by
      match i, hi with
      | 0, _ => exact .int _ _
      | 1, _ => exact .nilif
    rcases hw with rfl | ⟨t, rfl⟩
    · exact ⟨_, Z, rfl, hr _, ⟨fun _ _ _ => rfl, Nat.le_refl _, rfl, rfl, trivial⟩, fun _ _ h => h, fun _ _ h => .inl h⟩
    · refine ⟨_, Z, rfl, hr _, ⟨fun b hb _ => ?_, ?_, rfl, rfl, trivial⟩, fun _ _ h => h, fun _ _ h => .inl h⟩
      · exact Lib.bytesWorld_at_old _ _ _ b hb
      · rw [Lib.bytesWorld_size]; omega
  · right
    refine ⟨e2, Lib.atoiSat l, isf31, fun ρ V Z w args hZ hgl hsz hrel => ?_⟩
    have e1 := one_arg (by simpa using hsz) (hrel 0 (by simp))
    subst e1
    obtain ⟨⟨cs, ty, fz, g1, ev, g2, hev⟩, g3⟩ := hgl (4, 1, fun l => ∃ ev, l = [ev] ∧ (ev = .nilIface ∨ ∃ te pe, ev = .iface te pe)) (by simp [tabs])
    have hcell : w.cell? ⟨4, 0, none⟩ = some ev := by
      have : cs = #[ev] := by rw [← Array.toList_inj]; exact g2
      simp only at g1
      simp [World.cell?, g1, this]
    refine (Any.strconv_Atoi_range atoiLay (tx l) (by rw [tx_size]; omega) (by rw [tx_list]; exact e) ev w hcell hev).mono ?_
    rintro e w' ⟨N, rfl, hN, hcells, hbel⟩
    rw [tx_list]
    refine ⟨_, fun b o => Z b o ∨ b = N, rfl, ?_, ⟨fun b hb _ => hbel.block b hb, hbel.size, hbel.os, hbel.output, trivial⟩, fun b o h => .inl h, fun b o h => ?_⟩
    · refine .tup _ _ rfl fun i hi => ?_
      match i, hi with
      | 0, _ => exact .int _ _
      | 1, _ =>
        refine .iface _ _ _ ?_
        have := Rel.eptr (ρ := ρ) (V := V) (Z := fun b o => Z b o ∨ b = N) (w := w') N 0 (.str ⟨#[65, 116, 111, 105]⟩) 0 (fun _ => .string ⟨#[65, 116, 111, 105]⟩) (fun j hj => ?_) (fun j hj => ?_)
        · exact this
        · obtain rfl : j = 0 := by simp [AV.cells] at hj; omega
          exact ⟨by simp [World.cell?, hcells], .inr rfl, rfl, rfl⟩
        · obtain rfl : j = 0 := by simp [AV.cells] at hj; omega
          exact .str _
    · rcases h with h | h
      · exact .inl h
      · right
        subst h
        exact ⟨hN, (Array.getElem?_eq_some_iff.1 hcells).1⟩
end Go.Proofs.YtihfjibkmhclfaaDoor
