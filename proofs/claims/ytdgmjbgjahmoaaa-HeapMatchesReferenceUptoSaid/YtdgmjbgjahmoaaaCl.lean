/- A part of the proof: an abstract machine for the walks, and what the walked functions compute. -/
import Derived.Test.YtdgmjbgjahmoaaaCg
import Derived.Test.YtdgmjbgjahmoaaaCk
set_option linter.unusedVariables false
set_option linter.unusedSimpArgs false
set_option maxHeartbeats 4000000
set_option maxRecDepth 100000
namespace Go.Proofs.Ytdgmjbgjahmoaaa
open Nat (reduceAdd reduceMul reduceEqDiff reduceLT reduceLeDiff reduceSub reduceDiv)
open Int (reduceBNe reduceLE reduceEq)
open Go.Am Go.Proofs Go.Hv
open Classical
attribute [local irreducible] AW CallP CallB CallY
theorem match_pc (D : List Dt) (h : Hp) (v : Vl) (ar c : Int) (hb : HB h) (hv : v.sz ≤ 2 ^ 20) (hD : D.length ≤ 2 ^ 30) : PCall Try.prog 7 [.sl (dl D), h.av, v.av, .i ar, .i c] (.bool true) := by
 have hhd := head_pc
 have hfw := few_call h v (by omega) hb.z hb.l
 have hm := hb.sm hv
 by_cases hf : fewB h v
 case neg =>
  rw [decide_eq_false hf] at hfw
  rw [Hp.av_eq, Vl.av_eq] at hfw ⊢
  refine PCall.intro Try.func7 rfl isf7 (by simp [Try.f7]) (by simp [AV.cloL, AV.clo]) fun E Q hE hN hQ => K_start ?_
  repeat' (first | apply nx | refine Kq_exit_ne (by decide) ?_ | rw [wrap64 (by omega) (by omega)] | ((first | refine hK _ ?_ | refine hKp _ _ ?_); clear hK hKp K Kp; try clear hanc anc) | ((with_reducible refine And.intro ?_ ?_); (focus (first | trivial | omega | (simp only [Fits]; omega) | assumption | (rw [hanc]; rfl)))) | ((first | refine K_regA hE fun K Kp hK hKp => ?_ | refine K_drwA false mixed hE fun K Kp hK hKp anc hanc => ?_ | ((first | apply CallP_mk | apply CallB_mk); (focus (simp only [go_sem] <;> rfl)); (focus (first | exact hhd | exact hfw)); (focus (first | (simp [go_sem]; done) | (simp [go_sem, CloRow, AV.cells, AV.clo]; done))); (focus (first | exact .inl rfl | (right; simp [go_sem]))))); simp only [go_sem]) | ((first | refine onG_split_t (fun hg => ?_) (fun hg => ?_) | refine onG_split_f (fun hg => ?_) (fun hg => ?_)) <;> simp only [go_sem, hg]) | (refine K_condA (fun hc => ?_) (fun hc => ?_) <;> try (exact absurd hc (by decide))) | (refine K_ret ?_; refine (hQ _ ⟨_, by (try simp only [go_sem, ↓reduceIte, Nat.reduceEqDiff]); rfl, by simp [go_sem], ?_, by first | rfl | assumption⟩).1))
  rfl
 rw [decide_eq_true hf] at hfw
 obtain ⟨f1, f2⟩ := few_lt hf
 have a1 := alloc_call h ar v hb.l hb.a
 have a2 := ralloc_call h ar v hb.l hb.a
 have b1 := open_call h hb.l hb.a
 have b2 := ropen_call h hb.l hb.a
 have c1 := free_call h c hb.l hb.a
 have c2 := rfree_call h c hb.l hb.a
 have d1 := drop_call D h v hm hD
 have d2 := rdrop_call D h v hm hD
 have e1 := close_call h v hm
 have e2 := rclose_call h v hm
 have g1 := count_call h v hm
 have g2 := rcount_call h v hm
 have i1 := reach_call h v hm
 have i2 := rreach_call h v hm
 have s1 := (hb.alloc (by omega) ar hv).same (allocS h ar v).1
 have s2 := (hb.open (by omega)).same (openS h).1
 have s3 := (hb.free c).1.same (freeS h c).1
 have s4 := (hb.drop D v).same (dropS D h v).1
 have s5 := (hb.close v).same (closeS h v).1
 have s6 := HB.hp0.same hp0
 have n1 := new_call
 have n2 := rnew_call
 have v1 := sameV_call (2 ^ 40) (freeS h c).2.1 (freeS h c).2.1 (by have := (hb.free c).2; omega) (by omega)
 have hrl : (reachS h v).length ≤ 2 ^ 40 := by
  unfold reachS
  split
  ·have := reachN_len h.cells.length (by assumption : Ow).cs; have := hb.l; omega
  ·simp
 have hol : (dropS D h v).2.1.out.length ≤ 2 ^ 40 := by have := drop_len D hm (by omega); omega
 have t1 := ints_call (reachS h v) (reachS h v) hrl
 have t2 := ints_call (dropS D h v).2.1.out (dropS D h v).2.1.out hol
 rw [decide_refl] at s1 s2 s3 s4 s5 s6 v1 t1 t2
 clear hrl hol hm hf f1 f2
 generalize allocS h ar v = A at *
 generalize openS h = B at *
 generalize freeS h c = C at *
 generalize dropS D h v = Dr at *
 generalize closeS h v = Cs at *
 generalize countS h v = N at *
 generalize reachS h v = R at *
 obtain ⟨A1, An, Ae⟩ := A
 obtain ⟨B1, Bn, Be⟩ := B
 obtain ⟨C1, Cv, Ce⟩ := C
 obtain ⟨D1, ⟨Dout, Dcnt, Dpan⟩, De⟩ := Dr
 obtain ⟨C2, Ce2⟩ := Cs
 simp only [resH, resF, resD, Hp.av_eq, Vl.av_eq, hp0] at *
 refine PCall.intro Try.func7 rfl isf7 (by simp [Try.f7]) (by simp [AV.cloL, AV.clo]) fun E Q hE hN hQ => K_start ?_
 repeat' (first | apply nx | refine Kq_exit_ne (by decide) ?_ | rw [wrap64 (by omega) (by omega)] | ((first | refine hK _ ?_ | refine hKp _ _ ?_); clear hK hKp K Kp; try clear hanc anc) | ((with_reducible refine And.intro ?_ ?_); (focus (first | trivial | omega | (simp only [Fits]; omega) | assumption | (rw [hanc]; rfl)))) | ((fail_if_success refine K_stop 10 ?_); (first | refine K_regA hE fun K Kp hK hKp => ?_ | refine K_drwA true mixed hE fun K Kp hK hKp anc hanc => ?_ | refine K_drwA false mixed hE fun K Kp hK hKp anc hanc => ?_ | ((first | apply CallP_mk | apply CallB_mk); (focus (simp only [go_sem] <;> rfl)); (focus (first | exact hhd | exact hfw | exact a1 | exact a2 | exact b1 | exact b2 | exact c1 | exact c2 | exact d1 | exact d2 | exact e1 | exact e2)); (focus (first | (simp [go_sem]; done) | (simp [go_sem, CloRow, AV.cells, AV.clo]; done))); (focus (first | exact .inl rfl | (right; simp [go_sem]))))); simp only [go_sem]) | ((first | refine onG_split_t (fun hg => ?_) (fun hg => ?_) | refine onG_split_f (fun hg => ?_) (fun hg => ?_)) <;> simp only [go_sem, hg]) | (refine K_condA (fun hc => ?_) (fun hc => ?_) <;> try (exact absurd hc (by decide))))
 repeat' (first | apply nx | refine Kq_exit_ne (by decide) ?_ | rw [wrap64 (by omega) (by omega)] | ((first | refine hK _ ?_ | refine hKp _ _ ?_); clear hK hKp K Kp; try clear hanc anc) | ((with_reducible refine And.intro ?_ ?_); (focus (first | trivial | omega | (simp only [Fits]; omega) | assumption | (rw [hanc]; rfl)))) | ((first | refine K_regA hE fun K Kp hK hKp => ?_ | refine K_drwA true mixed hE fun K Kp hK hKp anc hanc => ?_ | refine K_drwA false mixed hE fun K Kp hK hKp anc hanc => ?_ | ((first | apply CallP_mk | apply CallB_mk); (focus (simp only [go_sem] <;> rfl)); (focus (first | exact s1 | exact s2 | exact s3 | exact v1 | exact d1 | exact d2 | exact e1 | exact e2 | exact s4 | exact s5 | exact t2 | exact g1 | exact g2 | exact i1 | exact i2 | exact t1 | exact n1 | exact n2 | exact s6)); (focus (first | (simp [go_sem]; done) | (simp [go_sem, CloRow, AV.cells, AV.clo]; done))); (focus (first | exact .inl rfl | (right; simp [go_sem]))))); simp only [go_sem, bne_self_eq_false, beq_self_eq_true]) | ((first | refine onG_split_t (fun hg => ?_) (fun hg => ?_) | refine onG_split_f (fun hg => ?_) (fun hg => ?_)) <;> simp only [go_sem, bne_self_eq_false, beq_self_eq_true, hg]) | (refine K_condA (fun hc => ?_) (fun hc => ?_) <;> try (exact absurd hc (by decide))))
 repeat' (first | apply nx | refine Kq_exit_ne (by decide) ?_ | rw [wrap64 (by omega) (by omega)] | ((first | refine hK _ ?_ | refine hKp _ _ ?_); clear hK hKp K Kp; try clear hanc anc) | ((with_reducible refine And.intro ?_ ?_); (focus (first | trivial | omega | (simp only [Fits]; omega) | assumption | (rw [hanc]; rfl)))) | ((first | refine K_regA hE fun K Kp hK hKp => ?_ | refine K_drwA false mixed hE fun K Kp hK hKp anc hanc => ?_); simp only [go_sem]) | ((first | refine onG_split_t (fun hg => ?_) (fun hg => ?_) | refine onG_split_f (fun hg => ?_) (fun hg => ?_)) <;> simp only [go_sem, hg]) | (refine K_condA (fun hc => ?_) (fun hc => ?_) <;> try (exact absurd hc (by decide))) | (refine K_ret ?_; refine (hQ _ ⟨_, by (try simp only [go_sem, ↓reduceIte, Nat.reduceEqDiff]); rfl, by simp [go_sem], ?_, by first | rfl | assumption⟩).1))
 rfl
end Go.Proofs.Ytdgmjbgjahmoaaa
