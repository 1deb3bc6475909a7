/- A part of the proof: an abstract machine for the walks, and what the walked functions compute. -/
import Derived.Test.YtdgmjbgjahmoaaaCm
import Derived.Test.YtdgmjbgjahmoaaaCj
set_option linter.unusedVariables false
set_option linter.unusedSimpArgs false
set_option linter.unusedSimpArgs false
set_option linter.unusedVariables false
set_option maxHeartbeats 4000000
set_option maxRecDepth 100000
namespace Go.Proofs.Ytdgmjbgjahmoaaa
open Nat (reduceAdd reduceMul reduceEqDiff reduceLT reduceLeDiff reduceSub reduceDiv)
open Int (reduceBNe reduceLE reduceEq)
open Go.Am Go.Proofs Go.Hv
open Classical
attribute [local irreducible] AW CallP CallB CallY
theorem indep {h : Hp} {v w : Vl} {o o1 o2 : Ow} (hR : walkL h [v, w] = some o) (h1 : walkS h v = some o1) (h2 : walkS h w = some o2) :
    walkS (closedS h o1) w = some o2 ∧ walkS (closedS h o2) v = some o1 := by
  unfold walkL at hR
  rw [visL] at hR
  have e1 : visV h (visE h h.cells.length) v Ow.nil = some o1 := h1
  rw [e1, Option.bind_some, visL] at hR
  have e2 : visV h (visE h h.cells.length) w o1 = some o := by
    cases hx : visV h (visE h h.cells.length) w o1 with
    | none => rw [hx] at hR; cases hR
    | some x => rw [hx, Option.bind_some, visL] at hR; exact hR
  have ho1 := walkS_ok h1
  have ho := (visV_keeps (visE_keeps h _) w o1 o ho1 e2).1
  obtain ⟨dl, dm, di, rfl, g⟩ := visV_other ho1 e2
  have hnd : ∀ j, j ∈ dl → j ∉ o1.cs := fun j hj hj2 => (List.nodup_append.1 ho.nd).2.2 j hj2 j hj rfl
  have hna : ∀ j, j ∈ dm → j ∉ o1.ags := fun j hj hj2 => (List.nodup_append.1 ho.and).2.2 j hj2 j hj rfl
  have k1 := g (closedS h o1) h.cells.length Ow.nil (agr_closed (Nat.le_refl _) hnd hna)
  have k2 := g h h.cells.length Ow.nil (agr_self (Nat.le_refl _))
  have e3 : visV h (visE h h.cells.length) w Ow.nil = some o2 := h2
  rw [e3] at k2
  cases k2
  refine ⟨by unfold walkS; rw [closed_cells]; exact k1, ?_⟩
  obtain ⟨el, em, ei, e4, g2⟩ := visV_other (Ow.nil_ok h) e1
  have e5 : o1.cs = el := by rw [e4]; simp [Ow.nil]
  have e6 : o1.ags = em := by rw [e4]; simp [Ow.nil]
  have k3 := g2 (closedS h ⟨Ow.nil.cs ++ dl, Ow.nil.ags ++ dm, Ow.nil.ids ++ di⟩) h.cells.length Ow.nil (agr_closed (Nat.le_refl _) (fun j hj hj2 => by
    simp only [Ow.nil, List.nil_append] at hj2
    exact hnd j hj2 (by rw [e5]; exact hj)) (fun j hj hj2 => by
    simp only [Ow.nil, List.nil_append] at hj2
    exact hna j hj2 (by rw [e6]; exact hj)))
  unfold walkS
  rw [closed_cells, k3, e4]
theorem indep_pc (D : List Dt) (h : Hp) (v w : Vl) (hb : HB h) (hv : v.sz ≤ 2 ^ 20) (hw : w.sz ≤ 2 ^ 20) (hD : D.length ≤ 2 ^ 30) : PCall Try.prog 6 [.sl (dl D), h.av, v.av, w.av] (.bool true) := by
 have hhd := head_pc
 have fw1 := few_call h v (by omega) hb.z hb.l
 have fw2 := few_call h w (by omega) hb.z hb.l
 have rt := right_call (h := h) (l := [v, w]) ⟨hb.l, hb.a, hb.m, fun x hx => by
  simp only [List.mem_cons, List.not_mem_nil, or_false] at hx
  rcases hx with rfl | rfl
  ·exact hv
  ·exact hw, by simp [Vl.szL]; omega⟩
 rw [show Vl.avL [v, w] = [v.av, w.av] from rfl] at rt
 by_cases hf1 : fewB h v
 case neg =>
  rw [decide_eq_false hf1] at fw1
  simp only [Hp.av_eq, Vl.av_eq] at *
  refine PCall.intro Try.func6 rfl isf6 (by simp [Try.f6]) (by simp [AV.cloL, AV.clo]) fun E Q hE hN hQ => K_start ?_
  repeat' (first | apply nx | refine Kq_exit_ne (by decide) ?_ | rw [wrap64 (by omega) (by omega)] | ((first | refine hK _ ?_ | refine hKp _ _ ?_); clear hK hKp K Kp; try clear hanc anc) | ((with_reducible refine And.intro ?_ ?_); (focus (first | trivial | omega | (simp only [Fits]; omega) | assumption | (rw [hanc]; rfl)))) | ((first | refine K_regA hE fun K Kp hK hKp => ?_ | refine K_drwA false mixed hE fun K Kp hK hKp anc hanc => ?_ | ((first | apply CallP_mk | apply CallB_mk); (focus (simp only [go_sem] <;> rfl)); (focus (first | exact hhd | exact fw1)); (focus (first | (simp [go_sem]; done) | (simp [go_sem, CloRow, AV.cells, AV.clo]; done))); (focus (first | exact .inl rfl | (right; simp [go_sem]))))); simp only [go_sem]) | ((first | refine onG_split_t (fun hg => ?_) (fun hg => ?_) | refine onG_split_f (fun hg => ?_) (fun hg => ?_)) <;> simp only [go_sem, hg]) | (refine K_condA (fun hc => ?_) (fun hc => ?_) <;> try (exact absurd hc (by decide))) | (refine K_ret ?_; refine (hQ _ ⟨_, by (try simp only [go_sem, ↓reduceIte, Nat.reduceEqDiff]); rfl, by simp [go_sem], ?_, by first | rfl | assumption⟩).1))
  rfl
 rw [decide_eq_true hf1] at fw1
 by_cases hf2 : fewB h w
 case neg =>
  rw [decide_eq_false hf2] at fw2
  simp only [Hp.av_eq, Vl.av_eq] at *
  refine PCall.intro Try.func6 rfl isf6 (by simp [Try.f6]) (by simp [AV.cloL, AV.clo]) fun E Q hE hN hQ => K_start ?_
  repeat' (first | apply nx | refine Kq_exit_ne (by decide) ?_ | rw [wrap64 (by omega) (by omega)] | ((first | refine hK _ ?_ | refine hKp _ _ ?_); clear hK hKp K Kp; try clear hanc anc) | ((with_reducible refine And.intro ?_ ?_); (focus (first | trivial | omega | (simp only [Fits]; omega) | assumption | (rw [hanc]; rfl)))) | ((first | refine K_regA hE fun K Kp hK hKp => ?_ | refine K_drwA false mixed hE fun K Kp hK hKp anc hanc => ?_ | ((first | apply CallP_mk | apply CallB_mk); (focus (simp only [go_sem] <;> rfl)); (focus (first | exact hhd | exact fw1 | exact fw2)); (focus (first | (simp [go_sem]; done) | (simp [go_sem, CloRow, AV.cells, AV.clo]; done))); (focus (first | exact .inl rfl | (right; simp [go_sem]))))); simp only [go_sem]) | ((first | refine onG_split_t (fun hg => ?_) (fun hg => ?_) | refine onG_split_f (fun hg => ?_) (fun hg => ?_)) <;> simp only [go_sem, hg]) | (refine K_condA (fun hc => ?_) (fun hc => ?_) <;> try (exact absurd hc (by decide))) | (refine K_ret ?_; refine (hQ _ ⟨_, by (try simp only [go_sem, ↓reduceIte, Nat.reduceEqDiff]); rfl, by simp [go_sem], ?_, by first | rfl | assumption⟩).1))
  rfl
 rw [decide_eq_true hf2] at fw2
 obtain ⟨f1, f2⟩ := few_lt hf1
 have d1 := drop_call D h v (hb.sm hv) hD
 have d2 := drop_call D h w (hb.sm hw) hD
 have hh1 := hb.drop D v
 have hh2 := hb.drop D w
 have l1 := drop_len D (hb.sm hv) (by omega)
 have l2 := drop_len D (hb.sm hw) (by omega)
 by_cases hR : (walkL h [v, w]).isSome = true
 case neg =>
  have hR : (walkL h [v, w]).isSome = false := by simpa using hR
  rw [hR] at rt
  simp only [Hp.av_eq, Vl.av_eq] at *
  refine PCall.intro Try.func6 rfl isf6 (by simp [Try.f6]) (by simp [AV.cloL, AV.clo]) fun E Q hE hN hQ => K_start ?_
  repeat' (first | apply nx | refine Kq_exit_ne (by decide) ?_ | rw [wrap64 (by omega) (by omega)] | ((first | refine hK _ ?_ | refine hKp _ _ ?_); clear hK hKp K Kp; try clear hanc anc) | ((with_reducible refine And.intro ?_ ?_); (focus (first | trivial | omega | (simp only [Fits]; omega) | assumption | (rw [hanc]; rfl)))) | ((first | refine K_regA hE fun K Kp hK hKp => ?_ | refine K_drwA false mixed hE fun K Kp hK hKp anc hanc => ?_ | ((first | apply CallP_mk | apply CallB_mk); (focus (simp only [go_sem] <;> rfl)); (focus (first | exact hhd | exact fw1 | exact fw2 | exact rt)); (focus (first | (simp [go_sem]; done) | (simp [go_sem, CloRow, AV.cells, AV.clo]; done))); (focus (first | exact .inl rfl | (right; simp [go_sem]))))); simp only [go_sem]) | ((first | refine onG_split_t (fun hg => ?_) (fun hg => ?_) | refine onG_split_f (fun hg => ?_) (fun hg => ?_)) <;> simp only [go_sem, hg]) | (refine K_condA (fun hc => ?_) (fun hc => ?_) <;> try (exact absurd hc (by decide))) | (refine K_ret ?_; refine (hQ _ ⟨_, by (try simp only [go_sem, ↓reduceIte, Nat.reduceEqDiff]); rfl, by simp [go_sem], ?_, by first | rfl | assumption⟩).1))
  rfl
 rw [hR] at rt
 obtain ⟨o, hR⟩ := Option.isSome_iff_exists.1 hR
 by_cases e1 : (dropS D h v).2.2 = 0
 case neg =>
  generalize dropS D h v = A at *
  generalize dropS D h w = B at *
  obtain ⟨A1, ⟨Ao, Ac, Ap⟩, Ae⟩ := A
  obtain ⟨B1, ⟨Bo, Bc, Bp⟩, Be⟩ := B
  simp only at e1
  have q1 : (Ae != 0) = true := by simpa using e1
  simp only [resD, Hp.av_eq, Vl.av_eq] at *
  refine PCall.intro Try.func6 rfl isf6 (by simp [Try.f6]) (by simp [AV.cloL, AV.clo]) fun E Q hE hN hQ => K_start ?_
  repeat' (first | apply nx | refine Kq_exit_ne (by decide) ?_ | rw [wrap64 (by omega) (by omega)] | ((first | refine hK _ ?_ | refine hKp _ _ ?_); clear hK hKp K Kp; try clear hanc anc) | ((with_reducible refine And.intro ?_ ?_); (focus (first | trivial | omega | (simp only [Fits]; omega) | assumption | (rw [hanc]; rfl)))) | ((first | refine K_regA hE fun K Kp hK hKp => ?_ | refine K_drwA false mixed hE fun K Kp hK hKp anc hanc => ?_ | ((first | apply CallP_mk | apply CallB_mk); (focus (simp only [go_sem] <;> rfl)); (focus (first | exact hhd | exact fw1 | exact fw2 | exact rt | exact d1 | exact d2)); (focus (first | (simp [go_sem]; done) | (simp [go_sem, CloRow, AV.cells, AV.clo]; done))); (focus (first | exact .inl rfl | (right; simp [go_sem]))))); simp only [go_sem, q1]) | ((first | refine onG_split_t (fun hg => ?_) (fun hg => ?_) | refine onG_split_f (fun hg => ?_) (fun hg => ?_)) <;> simp only [go_sem, q1, hg]) | (refine K_condA (fun hc => ?_) (fun hc => ?_) <;> try (exact absurd hc (by decide))) | (refine K_ret ?_; refine (hQ _ ⟨_, by (try simp only [go_sem, ↓reduceIte, Nat.reduceEqDiff]); rfl, by simp [go_sem], ?_, by first | rfl | assumption⟩).1))
  all_goals rfl
 by_cases e2 : (dropS D h w).2.2 = 0
 case neg =>
  generalize dropS D h v = A at *
  generalize dropS D h w = B at *
  obtain ⟨A1, ⟨Ao, Ac, Ap⟩, Ae⟩ := A
  obtain ⟨B1, ⟨Bo, Bc, Bp⟩, Be⟩ := B
  simp only at e1 e2
  subst e1
  have q1 : (Be != 0) = true := by simpa using e2
  simp only [resD, Hp.av_eq, Vl.av_eq] at *
  refine PCall.intro Try.func6 rfl isf6 (by simp [Try.f6]) (by simp [AV.cloL, AV.clo]) fun E Q hE hN hQ => K_start ?_
  repeat' (first | apply nx | refine Kq_exit_ne (by decide) ?_ | rw [wrap64 (by omega) (by omega)] | ((first | refine hK _ ?_ | refine hKp _ _ ?_); clear hK hKp K Kp; try clear hanc anc) | ((with_reducible refine And.intro ?_ ?_); (focus (first | trivial | omega | (simp only [Fits]; omega) | assumption | (rw [hanc]; rfl)))) | ((first | refine K_regA hE fun K Kp hK hKp => ?_ | refine K_drwA false mixed hE fun K Kp hK hKp anc hanc => ?_ | ((first | apply CallP_mk | apply CallB_mk); (focus (simp only [go_sem] <;> rfl)); (focus (first | exact hhd | exact fw1 | exact fw2 | exact rt | exact d1 | exact d2)); (focus (first | (simp [go_sem]; done) | (simp [go_sem, CloRow, AV.cells, AV.clo]; done))); (focus (first | exact .inl rfl | (right; simp [go_sem]))))); simp only [go_sem, q1]) | ((first | refine onG_split_t (fun hg => ?_) (fun hg => ?_) | refine onG_split_f (fun hg => ?_) (fun hg => ?_)) <;> simp only [go_sem, q1, hg]) | (refine K_condA (fun hc => ?_) (fun hc => ?_) <;> try (exact absurd hc (by decide))) | (refine K_ret ?_; refine (hQ _ ⟨_, by (try simp only [go_sem, ↓reduceIte, Nat.reduceEqDiff]); rfl, by simp [go_sem], ?_, by first | rfl | assumption⟩).1))
  all_goals rfl
 obtain ⟨o1, w1', x1, s1⟩ := drop_ok e1
 obtain ⟨o2, w2', x2, s2⟩ := drop_ok e2
 obtain ⟨k1, k2⟩ := indep hR w1' w2'
 have d3 := drop_call D (closedS h o1) w ((hb.closed o1).sm hw) hD
 have d4 := drop_call D (closedS h o2) v ((hb.closed o2).sm hv) hD
 rw [dropS_of k1 x2, closed_comm] at d3
 rw [dropS_of k2 x1] at d4
 rw [s1] at d1 l1
 rw [s2] at d2 l2
 have sm := ((hb.closed o2).closed o1).same (closedS (closedS h o2) o1)
 simp only at l1 l2
 have i1 := ints_call (o2.ids.foldl (stepF (drs D)) Fa.nil).out (o2.ids.foldl (stepF (drs D)) Fa.nil).out (by omega)
 have i2 := ints_call (o1.ids.foldl (stepF (drs D)) Fa.nil).out (o1.ids.foldl (stepF (drs D)) Fa.nil).out (by omega)
 rw [decide_refl] at sm i1 i2
 generalize o2.ids.foldl (stepF (drs D)) Fa.nil = F2 at *
 generalize o1.ids.foldl (stepF (drs D)) Fa.nil = F1 at *
 generalize closedS (closedS h o2) o1 = C at *
 generalize closedS h o2 = C2 at *
 generalize closedS h o1 = C1 at *
 simp only [resD, Hp.av_eq, Vl.av_eq] at *
 refine PCall.intro Try.func6 rfl isf6 (by simp [Try.f6]) (by simp [AV.cloL, AV.clo]) fun E Q hE hN hQ => K_start ?_
 repeat' (first | apply nx | refine Kq_exit_ne (by decide) ?_ | rw [wrap64 (by omega) (by omega)] | ((first | refine hK _ ?_ | refine hKp _ _ ?_); clear hK hKp K Kp; try clear hanc anc) | ((with_reducible refine And.intro ?_ ?_); (focus (first | trivial | omega | (simp only [Fits]; omega) | assumption | (rw [hanc]; rfl)))) | ((first | refine K_regA hE fun K Kp hK hKp => ?_ | refine K_drwA false mixed hE fun K Kp hK hKp anc hanc => ?_ | ((first | apply CallP_mk | apply CallB_mk); (focus (simp only [go_sem] <;> rfl)); (focus (first | exact hhd | exact fw1 | exact fw2 | exact rt | exact d1 | exact d2 | exact d3 | exact d4 | exact sm | exact i1 | exact i2)); (focus (first | (simp [go_sem]; done) | (simp [go_sem, CloRow, AV.cells, AV.clo]; done))); (focus (first | exact .inl rfl | (right; simp [go_sem]))))); simp only [go_sem, bne_self_eq_false, beq_self_eq_true]) | ((first | refine onG_split_t (fun hg => ?_) (fun hg => ?_) | refine onG_split_f (fun hg => ?_) (fun hg => ?_)) <;> simp only [go_sem, bne_self_eq_false, beq_self_eq_true, hg]) | (refine K_condA (fun hc => ?_) (fun hc => ?_) <;> try (exact absurd hc (by decide))) | (refine K_ret ?_; refine (hQ _ ⟨_, by (try simp only [go_sem, ↓reduceIte, Nat.reduceEqDiff]); rfl, by simp [go_sem], ?_, by first | rfl | assumption⟩).1))
 all_goals rfl
end Go.Proofs.Ytdgmjbgjahmoaaa
