/- A part of the proof: an abstract machine for the walks, and what the walked functions compute. -/
import Derived.Test.YtdheeecpkkjfiaaCx
import Derived.Test.YtdheeecpkkjfiaaCw
import Derived.Test.YtdheeecpkkjfiaaCb
import Derived.Test.YtdheeecpkkjfiaaCn
set_option linter.unusedVariables false
set_option linter.unusedSimpArgs false
/- Chapter 10: LowerExecutes. -/
set_option linter.unusedSimpArgs false
set_option linter.unusedVariables false
set_option maxHeartbeats 4000000
set_option maxRecDepth 100000
namespace Go.Proofs.Ytdheeecpkkjfiaa
open Nat (reduceAdd reduceMul reduceEqDiff reduceLT reduceLeDiff reduceSub reduceDiv)
open Int (reduceBNe reduceLE reduceEq)
open Go.Am Go.Proofs Go.Low
attribute [local irreducible] AW CallP CallB

theorem few_sz4 {l : List Nd} (h : sizeL l 1000 > 0) : 4 * szL l ≤ 399999 := by
  have := sizeL_szL l 1000 h
  omega
theorem lowRes_err {l : List Nd} (h : (lowRes l).2 ≠ 0) : (lowRes l).1 = [] := by
  unfold lowRes at *
  split
  · rfl
  · split
    · rfl
    · split
      · rfl
      · rename_i h1 h2 h3
        rw [if_neg h1, if_neg h2, if_neg h3] at h
        exact absurd rfl h
theorem lowRes_formed {l : List Nd} (h : (lowRes l).2 = 0) : formedL l 60 = true := by
  unfold lowRes at h
  by_cases hf : formedL l 60 = false
  · rw [if_pos hf] at h; cases h
  · simpa using hf

def _root_.Go.Low.Cm.le : Cm → Nat → Prop
  | .n n, N => n.sz ≤ N
  | .l l, N => Nd.szL l ≤ N
  | .w _ p, N => Nd.szL p ≤ N

def EvOk (s : RS) : Prop := ∀ x, Ev.ins x ∈ s.ev → x.ok
theorem EvOk.mark {s : RS} (h : EvOk s) (k a : Int) : EvOk (s.note (.mark k a)) := by
  intro x hx
  rw [RS.note_ev, List.mem_append, List.mem_singleton] at hx
  rcases hx with hx | hx
  · exact h x hx
  · cases hx
theorem EvOk.ins {s : RS} (h : EvOk s) {c : Ins} (hc : c.ok) : EvOk (s.note (.ins c)) := by
  intro x hx
  rw [RS.note_ev, List.mem_append, List.mem_singleton] at hx
  rcases hx with hx | hx
  · exact h x hx
  · cases hx; exact hc
theorem EvOk.next {s : RS} (h : EvOk s) : EvOk s.next := fun x hx => h x (by rw [RS.next_ev] at hx; exact hx)
theorem ex_evok {c : Cm} {s t : RS} (h : Ex c s t) : c.le (2 ^ 30) → EvOk s → EvOk t := by
  induction h with
  | nil s => intro _ h; exact h
  | ov h => intro _ h; exact h
  | cons h h1 h2 ih1 ih2 =>
    intro hl g
    simp only [Cm.le, Nd.szL] at hl ih1 ih2
    exact ih2 (by omega) (ih1 (by omega) g)
  | @k1 n s h =>
    intro hl g
    simp only [Cm.le, Nd.sz_eq, Ins.sz] at hl
    exact g.ins ⟨by omega, by omega⟩
  | @k2 n s t h _ ih =>
    intro hl g
    simp only [Cm.le, Nd.sz_eq] at hl ih
    refine ih ?_ (g.mark _ _).next
    split <;> omega
  | @k3 n s t h _ ih =>
    intro hl g
    simp only [Cm.le, Nd.sz_eq] at hl ih
    exact ih (by omega) (g.mark _ _)
  | @k4 n s t p h hp _ ih =>
    intro hl g
    simp only [Cm.le, Nd.sz_eq] at hl ih
    have := Nd.szL_mem (List.mem_of_getElem? hp)
    exact ih (by omega) (g.mark _ _).next
  | k5 h => intro _ g; exact g.mark _ _
  | k6 h => intro _ g; exact g.mark _ _
  | out h => intro _ g; exact g.next
  | @on a p s t u h h0 h1 h2 ih1 ih2 =>
    intro hl g
    simp only [Cm.le] at hl ih1 ih2
    have g1 := ih1 hl g.next
    refine ih2 hl ?_
    cases ht : t.ov
    · simpa using g1.mark 2 a
    · simpa using g1

theorem exec_pc (ts : List Ty) (l : List Nd) (ch : List Nat) (h : Nd.szL l ≤ 2 ^ 30) (hcc : ∀ c, c ∈ ch → c < 256) (hcl : ch.length ≤ 2 ^ 30) : PCall Try.prog 4 [.agg [.sl (Ty.avL ts), .sl (Nd.avL l)], .sl (chs ch)] (.bool true) := by
  refine PCall.intro Try.func4 rfl isf4 (by simp [Try.f4]) (by simp [AV.cloL, AV.clo]) fun E Q hE hN hQ => K_start ?_
  by_cases hf : sizeL l 1000 > 0
  · have hd := decide_eq_true hf
    by_cases hlen : 200 < ch.length
    · have q0 : decide ((200 : Int) < (ch.length : Int)) = true := by simp; omega
      repeat' (first | apply w1 | apply w2 | apply w3 | apply w4 | apply w5 | apply w6 | apply w7 | refine Kq_exit_ne (by decide) ?_ | apply w8 | apply w9 | apply w0 | rw [wrap64 (by omega) (by omega)] | ((first | refine hK _ ?_ | refine hKp _ _ ?_); clear hK hKp K Kp; try clear hanc anc) | ((with_reducible refine And.intro ?_ ?_); (focus (first | trivial | omega | (simp only [Fits]; omega) | assumption | (rw [hanc]; rfl)))) | ((first | refine K_regA hE fun K Kp hK hKp => ?_ | refine K_drwA false mixed hE fun K Kp hK hKp anc hanc => ?_ | ((first | apply CallP_mk | apply CallB_mk); (focus (simp only [go_sem]; rfl)); (focus (first | exact head_pc | exact few_call ts l h)); (focus (simp [go_sem])); (focus (first | exact .inl rfl | (right; simp [go_sem]))))); simp only [go_sem, ↓reduceIte, reduceCtorEq, reduceAdd, reduceMul, reduceEqDiff, reduceLT, reduceLeDiff, reduceSub, reduceDiv, Nat.reduceBEq, Int.reduceBEq, reduceBNe, Int.reduceLT, reduceLE, reduceEq, hd, q0]) | ((first | refine onG_split_t (fun hg => ?_) (fun hg => ?_) | refine onG_split_f (fun hg => ?_) (fun hg => ?_)) <;> simp only [go_sem, ↓reduceIte, reduceCtorEq, reduceAdd, reduceMul, reduceEqDiff, reduceLT, reduceLeDiff, reduceSub, reduceDiv, Nat.reduceBEq, Int.reduceBEq, reduceBNe, Int.reduceLT, reduceLE, reduceEq, hd, q0, hg]) | (refine K_condA (fun hc => ?_) (fun hc => ?_) <;> try (exact absurd hc (by decide))) | (refine K_ret ?_; refine (hQ _ ⟨_, by (try simp only [go_sem, ↓reduceIte, Nat.reduceEqDiff]); rfl, by simp [go_sem], ?_, by first | rfl | assumption⟩).1))
      all_goals simp [go_sem, AV.snap]
    · have q0 : decide ((200 : Int) < (ch.length : Int)) = false := by simp; omega
      obtain ⟨B, h1, h2, h3⟩ := low_bk l h
      have c1 := lower_call ts l h (few_sz4 hf)
      have hp := low_bok h1
      have herr := @lowRes_err l
      have hfm := @lowRes_formed l
      have hxf := fun (ch : List Nat) (t : RS) => @exec_follow l B h1
      unfold resAV at c1
      rw [h1] at c1
      generalize (lowRes l).2 = e at *
      by_cases he : e = 0
      · subst he
        have hp := hp rfl
        have hfm := hfm rfl
        repeat' (first | apply w1 | apply w2 | apply w3 | apply w4 | apply w5 | apply w6 | apply w7 | refine Kq_exit_ne (by decide) ?_ | apply w8 | apply w9 | apply w0 | rw [wrap64 (by omega) (by omega)] | ((first | refine hK _ ?_ | refine hKp _ _ ?_); clear hK hKp K Kp; try clear hanc anc) | ((with_reducible refine And.intro ?_ ?_); (focus (first | trivial | omega | (simp only [Fits]; omega) | assumption | (rw [hanc]; rfl)))) | ((fail_if_success refine K_stop 8 ?_); (first | refine K_regA hE fun K Kp hK hKp => ?_ | refine K_drwA true mixed hE fun K Kp hK hKp anc hanc => ?_ | refine K_drwA false mixed hE fun K Kp hK hKp anc hanc => ?_ | ((first | apply CallP_mk | apply CallB_mk); (focus (simp only [go_sem]; rfl)); (focus (first | exact head_pc | exact few_call ts l h | exact c1)); (focus (simp [go_sem])); (focus (first | exact .inl rfl | (right; simp [go_sem]))))); simp only [go_sem, ↓reduceIte, reduceCtorEq, reduceAdd, reduceMul, reduceEqDiff, reduceLT, reduceLeDiff, reduceSub, reduceDiv, Nat.reduceBEq, Int.reduceBEq, reduceBNe, Int.reduceLT, reduceLE, reduceEq, hd, q0]) | ((first | refine onG_split_t (fun hg => ?_) (fun hg => ?_) | refine onG_split_f (fun hg => ?_) (fun hg => ?_)) <;> simp only [go_sem, ↓reduceIte, reduceCtorEq, reduceAdd, reduceMul, reduceEqDiff, reduceLT, reduceLeDiff, reduceSub, reduceDiv, Nat.reduceBEq, Int.reduceBEq, reduceBNe, Int.reduceLT, reduceLE, reduceEq, hd, q0, hg]) | (refine K_condA (fun hc => ?_) (fun hc => ?_) <;> try (exact absurd hc (by decide))))
        have hok0 : Okd 60 ⟨ch, 0, [], false⟩ := ⟨⟨by simp, fun _ => by simp⟩, fun _ => by simp, by simp, by simp only; omega, hcc⟩
        have hrun := run_rc (2 ^ 30) (Nat.le_refl _) l 60 ⟨ch, 0, [], false⟩ h (by omega) hfm hok0
        refine AW_nilc 24117248 2 9 (by simp [go_sem]; rfl) rfl ?_
        refine AW.ent (fun i => if i = 0 then 24117248 else if i = 1 then 26214400 else if i = 2 then 0 else i) (σ' := mkSt [(1, .sl (chs ch)), (2, .ptr 2 0), (5, .bool true), (6, .sl (B.map Bk.av)), (8, .ptr 0 0)] [(0, .cells (rcs ⟨ch, 0, [], false⟩ 1)), (1, .row 9 (evs [])), (2, .cells [.sl (Ty.avL ts), .sl (Nd.avL l)])] 3) (ent_mk (by simp [go_sem]) (by simp [go_sem, rcs, evs]) (by simp) (by simp [hN])) ?_
        unfold rcs
        repeat' (first | apply w1 | apply w2 | apply w3 | apply w4 | apply w5 | apply w6 | apply w7 | refine Kq_exit_ne (by decide) ?_ | apply w8 | apply w9 | apply w0 | rw [wrap64 (by omega) (by omega)] | ((first | refine hK _ ?_ | refine hKp _ _ ?_); clear hK hKp K Kp; try clear hanc anc) | ((with_reducible refine And.intro ?_ ?_); (focus (first | trivial | omega | (simp only [Fits]; omega) | assumption | (rw [hanc]; rfl)))) | ((fail_if_success refine K_stop 9 ?_); (first | refine K_regA hE fun K Kp hK hKp => ?_ | refine K_drwA true mixed hE fun K Kp hK hKp anc hanc => ?_ | refine K_drwA false mixed hE fun K Kp hK hKp anc hanc => ?_); simp only [go_sem, ↓reduceIte, reduceCtorEq, reduceAdd, reduceMul, reduceEqDiff, reduceLT, reduceLeDiff, reduceSub, reduceDiv, Nat.reduceBEq, Int.reduceBEq, reduceBNe, Int.reduceLT, reduceLE, reduceEq]) | ((first | refine onG_split_t (fun hg => ?_) (fun hg => ?_) | refine onG_split_f (fun hg => ?_) (fun hg => ?_)) <;> simp only [go_sem, ↓reduceIte, reduceCtorEq, reduceAdd, reduceMul, reduceEqDiff, reduceLT, reduceLeDiff, reduceSub, reduceDiv, Nat.reduceBEq, Int.reduceBEq, reduceBNe, Int.reduceLT, reduceLE, reduceEq, hg]) | (refine K_condA (fun hc => ?_) (fun hc => ?_) <;> try (exact absurd hc (by decide))))
        refine Hold.mk (RCall.use (hrun) rfl (A := 0) (e := 1) (by decide) (by first | rfl | (simp [go_sem, rcs]; done)) (by first | rfl | (simp [go_sem]; done)) ?_)
        rintro r s' ⟨fr', hp', nx'⟩ e' he' ⟨hex, hok⟩ _ hnx hfr hp0 hp1 hold
        simp only at he' hnx hfr hp0 hp1 hold
        have hne0 : e' ≠ 0 := by omega
        have hne2 : e' ≠ 2 := by omega
        subst hnx hfr
        have hp2 := hold 2 _ (by simp [go_sem]; rfl) (by decide) (by first | decide | omega)
        simp only [go_sem, ↓reduceIte, reduceCtorEq, reduceAdd, reduceMul, reduceEqDiff, reduceLT, reduceLeDiff, reduceSub, reduceDiv, Nat.reduceBEq, Int.reduceBEq, reduceBNe, Int.reduceLT, reduceLE, reduceEq]
        refine hK _ ?_; clear hK hKp K Kp; try clear hanc anc
        repeat (first | refine Kq_norm_code ?_ | refine Kq_norm_blk ?_ | refine Kq_norm_lp ?_)
        refine AW.entR _ hp1 (σ' := mkSt [(1, .sl (chs ch)), (2, .ptr 2 0), (5, .bool true), (6, .sl (B.map Bk.av)), (8, .ptr 0 0)] [(0, .cells (rcs s' 1)), (1, .row 9 (evs s'.ev)), (2, .cells [.sl (Ty.avL ts), .sl (Nd.avL l)])] 3) (ent_mk (by simp [go_sem]) (by simp [go_sem, rcs, hp0, hp1, hp2]) (by simp [hne0, hne2, Ne.symm hne0, Ne.symm hne2]) (by simp [hN])) ?_
        unfold rcs
        repeat' (first | apply w1 | apply w2 | apply w3 | apply w4 | apply w5 | apply w6 | apply w7 | refine Kq_exit_ne (by decide) ?_ | apply w8 | apply w9 | apply w0 | rw [wrap64 (by omega) (by omega)] | ((first | refine hK _ ?_ | refine hKp _ _ ?_); clear hK hKp K Kp; try clear hanc anc) | ((with_reducible refine And.intro ?_ ?_); (focus (first | trivial | omega | (simp only [Fits]; omega) | assumption | (rw [hanc]; rfl)))) | ((fail_if_success refine K_stop 10 ?_); (first | refine K_regA hE fun K Kp hK hKp => ?_ | refine K_drwA true mixed hE fun K Kp hK hKp anc hanc => ?_ | refine K_drwA false mixed hE fun K Kp hK hKp anc hanc => ?_); simp only [go_sem, ↓reduceIte, reduceCtorEq, reduceAdd, reduceMul, reduceEqDiff, reduceLT, reduceLeDiff, reduceSub, reduceDiv, Nat.reduceBEq, Int.reduceBEq, reduceBNe, Int.reduceLT, reduceLE, reduceEq]) | ((first | refine onG_split_t (fun hg => ?_) (fun hg => ?_) | refine onG_split_f (fun hg => ?_) (fun hg => ?_)) <;> simp only [go_sem, ↓reduceIte, reduceCtorEq, reduceAdd, reduceMul, reduceEqDiff, reduceLT, reduceLeDiff, reduceSub, reduceDiv, Nat.reduceBEq, Int.reduceBEq, reduceBNe, Int.reduceLT, reduceLE, reduceEq, hg]) | (refine K_condA (fun hc => ?_) (fun hc => ?_) <;> try (exact absurd hc (by decide))))
        obtain ⟨hfl, hev2⟩ := hxf ch s' rfl hex
        have hevo := ex_evok hex h (fun x hx => by cases hx)
        have hfo0 : FOk ⟨ch, 0, [], false⟩ := ⟨hok0.1, by simp, hok0.2.2.2⟩
        have hfol := follow_rc hp h2 h3 ⟨ch, 0, [], false⟩ hfo0
        refine AW_nilc 2097155 2 9 (by simp [go_sem]; rfl) rfl ?_
        refine AW.ent (fun i => if i = 2 then 2097155 else if i = 3 then 4194307 else i) (σ' := mkSt [(5, .bool true), (6, .sl (B.map Bk.av)), (8, .ptr 0 0), (9, .ptr 2 0)] [(0, .cells (rcs s' 1)), (1, .row 9 (evs s'.ev)), (2, .cells (rcs ⟨ch, 0, [], false⟩ 3)), (3, .row 9 [])] 4) (ent_mk (by simp [go_sem]) (by simp [go_sem, rcs]) (by simp) (by simp [hN])) ?_
        unfold rcs
        repeat' (first | apply w1 | apply w2 | apply w3 | apply w4 | apply w5 | apply w6 | apply w7 | refine Kq_exit_ne (by decide) ?_ | apply w8 | apply w9 | apply w0 | rw [wrap64 (by omega) (by omega)] | ((first | refine hK _ ?_ | refine hKp _ _ ?_); clear hK hKp K Kp; try clear hanc anc) | ((with_reducible refine And.intro ?_ ?_); (focus (first | trivial | omega | (simp only [Fits]; omega) | assumption | (rw [hanc]; rfl)))) | ((fail_if_success refine K_stop 12 ?_); (first | refine K_regA hE fun K Kp hK hKp => ?_ | refine K_drwA true mixed hE fun K Kp hK hKp anc hanc => ?_ | refine K_drwA false mixed hE fun K Kp hK hKp anc hanc => ?_); simp only [go_sem, ↓reduceIte, reduceCtorEq, reduceAdd, reduceMul, reduceEqDiff, reduceLT, reduceLeDiff, reduceSub, reduceDiv, Nat.reduceBEq, Int.reduceBEq, reduceBNe, Int.reduceLT, reduceLE, reduceEq]) | ((first | refine onG_split_t (fun hg => ?_) (fun hg => ?_) | refine onG_split_f (fun hg => ?_) (fun hg => ?_)) <;> simp only [go_sem, ↓reduceIte, reduceCtorEq, reduceAdd, reduceMul, reduceEqDiff, reduceLT, reduceLeDiff, reduceSub, reduceDiv, Nat.reduceBEq, Int.reduceBEq, reduceBNe, Int.reduceLT, reduceLE, reduceEq, hg]) | (refine K_condA (fun hc => ?_) (fun hc => ?_) <;> try (exact absurd hc (by decide))))
        refine Hold.mk (RCall.use' hfol rfl (A := 2) (e := 3) (by decide) (by simp [go_sem, rcs]) (by simp [go_sem, evs]) ?_)
        rintro r s2 ⟨fr', hp', nx'⟩ e2 he2 ⟨rfl, hs2⟩ _ hnx hfr hp2 hp3 hold
        have hp0 := hold 0 (.cells (rcs s' 1)) (by simp [go_sem, rcs]) (by decide) (by decide)
        have hp1 := hold 1 (.row 9 (evs s'.ev)) (by simp [go_sem]) (by decide) (by decide)
        simp only at he2 hnx hfr hp2 hp3 hp0 hp1
        subst hnx hfr
        have hs2e : s2.ev = s'.ev := by rw [hs2]; exact hfl
        have q2 : decide ((s'.ev.length : Int) < (s'.ev.length : Int)) = false := by simp
        clear hold hs2
        have q3 : decide (e2 < 4) = false := by simp; omega
        have q4 : (e2 - 4) / 1048576 = 2 := by omega
        simp only [go_sem, ↓reduceIte, reduceCtorEq, reduceAdd, reduceMul, reduceEqDiff, reduceLT, reduceLeDiff, reduceSub, reduceDiv, Nat.reduceBEq, Int.reduceBEq, reduceBNe, Int.reduceLT, reduceLE, reduceEq, hp0, hp1, hp2, hp3, rcs, hs2e, q2, q3, q4, Bool.false_or]
        refine ⟨by rw [hanc]; rfl, ?_⟩
        refine hK _ ?_; clear hK hKp K Kp; try clear hanc anc
        repeat (first | refine Kq_norm_code ?_ | refine Kq_norm_blk ?_ | refine Kq_norm_lp ?_)
        refine AW.ent (fun i => if i = 3 then e2 else i) (σ' := mkSt [(5, .bool true), (8, .ptr 0 0), (9, .ptr 2 0), (62, .bool false)] [(0, .cells (rcs s' 1)), (1, .row 9 (evs s'.ev)), (2, .cells (rcs s2 3)), (3, .row 9 (evs s'.ev))] 4) (ent_mk (by simp [go_sem]) (by simp [go_sem, rcs, hp0, hp1, hp2, hp3, hs2e]) (by simp; omega) (by simp [hN])) ?_
        unfold rcs
        repeat' (first | apply w1 | apply w2 | apply w3 | apply w4 | apply w5 | apply w6 | apply w7 | refine Kq_exit_ne (by decide) ?_ | apply w8 | apply w9 | apply w0 | rw [wrap64 (by omega) (by omega)] | ((first | refine hK _ ?_ | refine hKp _ _ ?_); clear hK hKp K Kp; try clear hanc anc) | ((with_reducible refine And.intro ?_ ?_); (focus (first | trivial | omega | (simp only [Fits]; omega) | assumption | (rw [hanc]; rfl)))) | ((first | refine K_regA hE fun K Kp hK hKp => ?_ | refine K_drwA true mixed hE fun K Kp hK hKp anc hanc => ?_ | refine K_drwA false mixed hE fun K Kp hK hKp anc hanc => ?_); simp only [go_sem, ↓reduceIte, reduceCtorEq, reduceAdd, reduceMul, reduceEqDiff, reduceLT, reduceLeDiff, reduceSub, reduceDiv, Nat.reduceBEq, Int.reduceBEq, reduceBNe, Int.reduceLT, reduceLE, reduceEq]) | ((first | refine onG_split_t (fun hg => ?_) (fun hg => ?_) | refine onG_split_f (fun hg => ?_) (fun hg => ?_)) <;> simp only [go_sem, ↓reduceIte, reduceCtorEq, reduceAdd, reduceMul, reduceEqDiff, reduceLT, reduceLeDiff, reduceSub, reduceDiv, Nat.reduceBEq, Int.reduceBEq, reduceBNe, Int.reduceLT, reduceLE, reduceEq, hg]) | (refine K_condA (fun hc => ?_) (fun hc => ?_) <;> try (exact absurd hc (by decide))))
        refine K_loop (X := Nat) (fun i => i ≤ s'.ev.length) (fun i => mkSt [(5, .bool true), (8, .ptr 0 0), (9, .ptr 2 0), (10, .i i)] [(0, .cells (rcs s' 1)), (1, .row 9 (evs s'.ev)), (2, .cells (rcs s2 3)), (3, .row 9 (evs s'.ev))] 4) (fun i => s'.ev.length - i) 0 (Nat.zero_le _) (fun i => i) (by refine ent_mk (by simp [go_sem, rcs]) (by simp [go_sem, rcs]) (by simp) (by simp [hN])) ?_
        intro i hi
        unfold rcs
        by_cases hlt : i < s'.ev.length
        · obtain ⟨x, hx⟩ := get?_of hlt
          cases x with
          | ins x =>
            have hxo := hevo x (List.mem_of_getElem? hx)
            have c3 : PCall Try.prog 16 [x.av, x.av] (.bool true) := by simpa using sameIns_call x x hxo.1 hxo.2
            repeat' (first | apply w1 | apply w2 | apply w3 | apply w4 | apply w5 | apply w6 | apply w7 | refine Kq_exit_ne (by decide) ?_ | apply w8 | apply w9 | apply w0 | rw [wrap64 (by omega) (by omega)] | ((first | refine hK _ ?_ | refine hKp _ _ ?_); clear hK hKp K Kp; try clear hanc anc) | ((with_reducible refine And.intro ?_ ?_); (focus (first | trivial | omega | (simp only [Fits]; omega) | assumption | (rw [hanc]; rfl)))) | ((first | refine K_regA hE fun K Kp hK hKp => ?_ | refine K_drwA true mixed hE fun K Kp hK hKp anc hanc => ?_ | refine K_drwA false mixed hE fun K Kp hK hKp anc hanc => ?_ | ((first | apply CallP_mk | apply CallB_mk); (focus (simp only [go_sem]; rfl)); (focus (exact c3)); (focus (simp [go_sem])); (focus (first | exact .inl rfl | (right; simp [go_sem]))))); simp only [go_sem, ↓reduceIte, reduceCtorEq, reduceAdd, reduceMul, reduceEqDiff, reduceLT, reduceLeDiff, reduceSub, reduceDiv, Nat.reduceBEq, Int.reduceBEq, reduceBNe, Int.reduceLT, reduceLE, reduceEq, lt_dec hlt, hx, Ev.av, Ins.av, Option.map_some]) | ((first | refine onG_split_t (fun hg => ?_) (fun hg => ?_) | refine onG_split_f (fun hg => ?_) (fun hg => ?_)) <;> simp only [go_sem, ↓reduceIte, reduceCtorEq, reduceAdd, reduceMul, reduceEqDiff, reduceLT, reduceLeDiff, reduceSub, reduceDiv, Nat.reduceBEq, Int.reduceBEq, reduceBNe, Int.reduceLT, reduceLE, reduceEq, lt_dec hlt, hx, Ev.av, Ins.av, Option.map_some, hg]) | (refine K_condA (fun hc => ?_) (fun hc => ?_) <;> try (exact absurd hc (by decide))))
            exact ⟨i + 1, by omega, by omega, fun i => i, by refine ent_mk (by simp [go_sem, rcs]) (by simp [go_sem, rcs]) (by simp) (by simp [hN])⟩
          | mark k a =>
            have c3 : PCall Try.prog 16 [Ins.av ⟨0, 0, 0, 0, 0, [], []⟩, Ins.av ⟨0, 0, 0, 0, 0, [], []⟩] (.bool true) := by simpa using sameIns_call ⟨0, 0, 0, 0, 0, [], []⟩ ⟨0, 0, 0, 0, 0, [], []⟩ (by simp) (by simp [Ty.szL])
            have r1 : (k != k) = false := by simp
            have r2 : (a != a) = false := by simp
            repeat' (first | apply w1 | apply w2 | apply w3 | apply w4 | apply w5 | apply w6 | apply w7 | refine Kq_exit_ne (by decide) ?_ | apply w8 | apply w9 | apply w0 | rw [wrap64 (by omega) (by omega)] | ((first | refine hK _ ?_ | refine hKp _ _ ?_); clear hK hKp K Kp; try clear hanc anc) | ((with_reducible refine And.intro ?_ ?_); (focus (first | trivial | omega | (simp only [Fits]; omega) | assumption | (rw [hanc]; rfl)))) | ((first | refine K_regA hE fun K Kp hK hKp => ?_ | refine K_drwA true mixed hE fun K Kp hK hKp anc hanc => ?_ | refine K_drwA false mixed hE fun K Kp hK hKp anc hanc => ?_ | ((first | apply CallP_mk | apply CallB_mk); (focus (simp only [go_sem]; rfl)); (focus (exact c3)); (focus (simp [go_sem])); (focus (first | exact .inl rfl | (right; simp [go_sem]))))); simp only [go_sem, ↓reduceIte, reduceCtorEq, reduceAdd, reduceMul, reduceEqDiff, reduceLT, reduceLeDiff, reduceSub, reduceDiv, Nat.reduceBEq, Int.reduceBEq, reduceBNe, Int.reduceLT, reduceLE, reduceEq, lt_dec hlt, hx, Ev.av, Ins.av, Option.map_some, r1, r2]) | ((first | refine onG_split_t (fun hg => ?_) (fun hg => ?_) | refine onG_split_f (fun hg => ?_) (fun hg => ?_)) <;> simp only [go_sem, ↓reduceIte, reduceCtorEq, reduceAdd, reduceMul, reduceEqDiff, reduceLT, reduceLeDiff, reduceSub, reduceDiv, Nat.reduceBEq, Int.reduceBEq, reduceBNe, Int.reduceLT, reduceLE, reduceEq, lt_dec hlt, hx, Ev.av, Ins.av, Option.map_some, r1, r2, hg]) | (refine K_condA (fun hc => ?_) (fun hc => ?_) <;> try (exact absurd hc (by decide))))
            exact ⟨i + 1, by omega, by omega, fun i => i, by refine ent_mk (by simp [go_sem, rcs]) (by simp [go_sem, rcs]) (by simp) (by simp [hN])⟩
        · obtain rfl : i = s'.ev.length := by omega
          repeat' (first | apply w1 | apply w2 | apply w3 | apply w4 | apply w5 | apply w6 | apply w7 | refine Kq_exit_ne (by decide) ?_ | apply w8 | apply w9 | apply w0 | rw [wrap64 (by omega) (by omega)] | ((first | refine hK _ ?_ | refine hKp _ _ ?_); clear hK hKp K Kp; try clear hanc anc) | ((with_reducible refine And.intro ?_ ?_); (focus (first | trivial | omega | (simp only [Fits]; omega) | assumption | (rw [hanc]; rfl)))) | ((first | refine K_regA hE fun K Kp hK hKp => ?_ | refine K_drwA false mixed hE fun K Kp hK hKp anc hanc => ?_); simp only [go_sem, ↓reduceIte, reduceCtorEq, reduceAdd, reduceMul, reduceEqDiff, reduceLT, reduceLeDiff, reduceSub, reduceDiv, Nat.reduceBEq, Int.reduceBEq, reduceBNe, Int.reduceLT, reduceLE, reduceEq, ge_dec]) | ((first | refine onG_split_t (fun hg => ?_) (fun hg => ?_) | refine onG_split_f (fun hg => ?_) (fun hg => ?_)) <;> simp only [go_sem, ↓reduceIte, reduceCtorEq, reduceAdd, reduceMul, reduceEqDiff, reduceLT, reduceLeDiff, reduceSub, reduceDiv, Nat.reduceBEq, Int.reduceBEq, reduceBNe, Int.reduceLT, reduceLE, reduceEq, ge_dec, hg]) | (refine K_condA (fun hc => ?_) (fun hc => ?_) <;> try (exact absurd hc (by decide))) | (refine K_ret ?_; refine (hQ _ ⟨_, by (try simp only [go_sem, ↓reduceIte, Nat.reduceEqDiff]); rfl, by simp [go_sem], ?_, by first | rfl | assumption⟩).1))
          all_goals simp [go_sem, AV.snap]
      · have q1 : (e != 0) = true := by simpa using he
        have hB : B = [] := by
          have := herr he
          rw [this] at h1
          cases B with
          | nil => rfl
          | cons x B => simp at h1
        subst hB
        repeat' (first | apply w1 | apply w2 | apply w3 | apply w4 | apply w5 | apply w6 | apply w7 | refine Kq_exit_ne (by decide) ?_ | apply w8 | apply w9 | apply w0 | rw [wrap64 (by omega) (by omega)] | ((first | refine hK _ ?_ | refine hKp _ _ ?_); clear hK hKp K Kp; try clear hanc anc) | ((with_reducible refine And.intro ?_ ?_); (focus (first | trivial | omega | (simp only [Fits]; omega) | assumption | (rw [hanc]; rfl)))) | ((first | refine K_regA hE fun K Kp hK hKp => ?_ | refine K_drwA false mixed hE fun K Kp hK hKp anc hanc => ?_ | ((first | apply CallP_mk | apply CallB_mk); (focus (simp only [go_sem]; rfl)); (focus (first | exact head_pc | exact few_call ts l h | exact c1)); (focus (simp [go_sem])); (focus (first | exact .inl rfl | (right; simp [go_sem]))))); simp only [go_sem, ↓reduceIte, reduceCtorEq, reduceAdd, reduceMul, reduceEqDiff, reduceLT, reduceLeDiff, reduceSub, reduceDiv, Nat.reduceBEq, Int.reduceBEq, reduceBNe, Int.reduceLT, reduceLE, reduceEq, hd, q0, q1]) | ((first | refine onG_split_t (fun hg => ?_) (fun hg => ?_) | refine onG_split_f (fun hg => ?_) (fun hg => ?_)) <;> simp only [go_sem, ↓reduceIte, reduceCtorEq, reduceAdd, reduceMul, reduceEqDiff, reduceLT, reduceLeDiff, reduceSub, reduceDiv, Nat.reduceBEq, Int.reduceBEq, reduceBNe, Int.reduceLT, reduceLE, reduceEq, hd, q0, q1, hg]) | (refine K_condA (fun hc => ?_) (fun hc => ?_) <;> try (exact absurd hc (by decide))) | (refine K_ret ?_; refine (hQ _ ⟨_, by (try simp only [go_sem, ↓reduceIte, Nat.reduceEqDiff]); rfl, by simp [go_sem], ?_, by first | rfl | assumption⟩).1))
        all_goals simp [go_sem, AV.snap]
  · have hd := decide_eq_false hf
    repeat' (first | apply w1 | apply w2 | apply w3 | apply w4 | apply w5 | apply w6 | apply w7 | refine Kq_exit_ne (by decide) ?_ | apply w8 | apply w9 | apply w0 | rw [wrap64 (by omega) (by omega)] | ((first | refine hK _ ?_ | refine hKp _ _ ?_); clear hK hKp K Kp; try clear hanc anc) | ((with_reducible refine And.intro ?_ ?_); (focus (first | trivial | omega | (simp only [Fits]; omega) | assumption | (rw [hanc]; rfl)))) | ((first | refine K_regA hE fun K Kp hK hKp => ?_ | refine K_drwA false mixed hE fun K Kp hK hKp anc hanc => ?_ | ((first | apply CallP_mk | apply CallB_mk); (focus (simp only [go_sem]; rfl)); (focus (first | exact head_pc | exact few_call ts l h)); (focus (simp [go_sem])); (focus (first | exact .inl rfl | (right; simp [go_sem]))))); simp only [go_sem, ↓reduceIte, reduceCtorEq, reduceAdd, reduceMul, reduceEqDiff, reduceLT, reduceLeDiff, reduceSub, reduceDiv, Nat.reduceBEq, Int.reduceBEq, reduceBNe, Int.reduceLT, reduceLE, reduceEq, hd]) | ((first | refine onG_split_t (fun hg => ?_) (fun hg => ?_) | refine onG_split_f (fun hg => ?_) (fun hg => ?_)) <;> simp only [go_sem, ↓reduceIte, reduceCtorEq, reduceAdd, reduceMul, reduceEqDiff, reduceLT, reduceLeDiff, reduceSub, reduceDiv, Nat.reduceBEq, Int.reduceBEq, reduceBNe, Int.reduceLT, reduceLE, reduceEq, hd, hg]) | (refine K_condA (fun hc => ?_) (fun hc => ?_) <;> try (exact absurd hc (by decide))) | (refine K_ret ?_; refine (hQ _ ⟨_, by (try simp only [go_sem, ↓reduceIte, Nat.reduceEqDiff]); rfl, by simp [go_sem], ?_, by first | rfl | assumption⟩).1))
    all_goals simp [go_sem, AV.snap]

theorem lowerExecutes_pcall {H : Type} {d e : DataW H} (h : DT Try.prog 25 d) (h2 : DT Try.prog 33 e) (hb : bulk d ≤ 1048576) (hb2 : bulk e ≤ 1048576) : PCall Try.prog 4 [avD d, avD e] (.bool true) := by
  obtain ⟨ts, l, h1, _, h3⟩ := opn_typed h
  obtain ⟨es, g1, g2, g3⟩ := h2.slice_inv Try.underlying33
  have hch : ∃ ch : List Nat, es.map avD = chs ch ∧ (∀ c, c ∈ ch → c < 256) ∧ ch.length = es.length := by
    clear g1 g3
    induction es with
    | nil => exact ⟨[], rfl, fun _ h => (by cases h), rfl⟩
    | cons x es ih =>
      obtain ⟨ch, a1, a2, a3⟩ := ih fun y hy => g2 y (List.mem_cons_of_mem _ hy)
      obtain ⟨n, b1, b2⟩ := (g2 x (by simp)).int_inv Try.underlying5
      have : 0 ≤ n ∧ n < 256 := by
        rw [Lit.wf, Bool.and_eq_true, decide_eq_true_eq, decide_eq_true_eq, show IntKind.min .u8 = 0 by decide, show IntKind.max .u8 = 255 by decide] at b2
        omega
      obtain ⟨v, rfl⟩ := Int.eq_ofNat_of_zero_le this.1
      refine ⟨v :: ch, ?_, fun c hc => ?_, by simp [a3]⟩
      · rw [List.map_cons, b1, a1]; rfl
      · rcases List.mem_cons.1 hc with e | e
        · subst e; omega
        · exact a2 c e
  obtain ⟨ch, a1, a2, a3⟩ := hch
  rw [h1, g1, a1]
  exact exec_pc ts l ch (by omega) a2 (by have := bulk_len es; omega)
end Go.Proofs.Ytdheeecpkkjfiaa

