/- A part of the proof: an abstract machine for the walks, and what the walked functions compute. -/
import Derived.Test.YtlhhahocjfgmdaaPo
set_option linter.unusedVariables false
set_option linter.unusedSimpArgs false
set_option linter.unusedSimpArgs false
set_option linter.unusedVariables false
set_option maxHeartbeats 4000000
set_option maxRecDepth 100000
namespace Go.Proofs.Ytlhhahocjfgmdaa
open Nat (reduceAdd reduceMul reduceEqDiff reduceLT reduceLeDiff reduceSub reduceDiv)
open Int (reduceBNe reduceLE reduceEq)
open Go.Am Go.Proofs Go.Hv Go.Mv
open Classical
attribute [local irreducible] AW CallP CallB CallY
theorem few_le {d : List Dd} {l : List Mg} (h : FewP d l) : ∀ x, x ∈ l → ∀ f, f ∈ x.fss → f.length ≤ 12 := fun x hx f hf => (h.2.2 x hx).2.2 f hf
theorem mig_ok {frm to : List Dd} {l : List Mg} (hz : chkN frm to l = 0) {t : Ty} {v : Vl} (h3 : stB frm.length t 8 = true) (h4 : tdB frm t v = true) : fitB l v = true ∧ tdB to (tyM l t) (valM l v).1 = true ∧ stB to.length (tyM l t) 8 = true := by
 obtain ⟨_, _, hc⟩ := chk_zero hz
 have h5 := types_ok hc v t h4
 refine ⟨h5.1, h5.2, stored_ok (by rw [hc.len]; omega) (fun x hx => ?_) t 8 h3⟩
 obtain ⟨i, hi⟩ := List.getElem?_of_mem hx
 have hil := (List.getElem?_eq_some_iff.1 hi).1
 obtain ⟨old, hold⟩ := get?_of (show i < frm.length by have := hc.len; omega)
 obtain ⟨nd, hnd, _⟩ := hc.shp i x old hi hold
 obtain ⟨m, hm, hm2⟩ := at_some hnd
 have := (List.getElem?_eq_some_iff.1 hm2).1
 omega
theorem mig_b {frm to : List Dd} {l : List Mg} (hB : MgL l) (hz : chkN frm to l = 0) : MgB l := by
 obtain ⟨_, _, hc⟩ := chk_zero hz
 refine ⟨hB.1, fun x hx => ⟨(hB.2 x hx).1, (hB.2 x hx).2.1, fun f hf => ⟨(hB.2 x hx).2.2 f hf, fun j hj => ?_⟩⟩⟩
 obtain ⟨i, hi⟩ := List.getElem?_of_mem hx
 have hil := (List.getElem?_eq_some_iff.1 hi).1
 obtain ⟨old, hold⟩ := get?_of (show i < frm.length by have := hc.len; omega)
 obtain ⟨nd, _, h1, h2, h3⟩ := hc.shp i x old hi hold
 obtain ⟨k, hk⟩ := List.getElem?_of_mem hf
 have hkl := (List.getElem?_eq_some_iff.1 hk).1
 obtain ⟨v, hv⟩ := get?_of (show k < x.vars.length by omega)
 obtain ⟨ov, hov⟩ := get?_of (show k < old.vs.length by omega)
 obtain ⟨_, _, _, _, h4⟩ := h3 k v ov f hv hov hk
 have := h4 j hj
 omega
theorem types_pc (frm to : List Dd) (l : List Mg) (t : Ty) (v : Vl) (hf : SzD frm) (ht : SzD to) (hB : MgL l) (hts : t.sz ≤ 2 ^ 30) (hvs : v.sz ≤ 2 ^ 30) : PCall Try.prog 3 [.sl (ddl frm), .sl (ddl to), .sl (mgl l), t.av, v.av] (.bool true) := by
 have k1 := few_call frm to l v (by omega)
 have k2 := check_call frm to l hf ht hB
 have k3 := rstored_call (2 ^ 40) t frm.length 8 (by omega) (Nat.le_refl _) (by decide)
 have k4 := rtyped_call (2 ^ 40) frm t v (by omega) (Nat.le_refl _) (by have := hf.le; omega)
 have k6 := type_call (2 ^ 40) t l (by omega) (Nat.le_refl _)
 rw [Vl.av_eq] at k1
 rw [Ty.av_eq] at k3
 rw [Ty.av_eq, Vl.av_eq] at k4
 rw [Ty.av_eq t] at k6
 rw [Ty.av_eq, Vl.av_eq]
 generalize hg : (decide (FewP frm l) && (decide (FewP to []) && decide (sizeV v 60 ≤ 60))) = b1 at k1
 refine PCall.intro Try.func3 rfl isf3 (by simp [Try.f3]) (by simp [AV.cloL, AV.clo]) fun E Q hE hN hQ => K_start ?_
 cases b1
 ·repeat' (first | apply nx | refine Kq_exit_ne (by decide) ?_ | rw [wrap64 (by omega) (by omega)] | ((first | refine hK _ ?_ | refine hKp _ _ ?_); clear hK hKp K Kp; try clear hanc anc) | ((with_reducible refine And.intro ?_ ?_); (focus (first | trivial | omega | (simp only [Fits]; omega) | assumption | (rw [hanc]; rfl)))) | ((first | refine K_regA hE fun K Kp hK hKp => ?_ | refine K_drwA false mixed hE fun K Kp hK hKp anc hanc => ?_ | ((first | apply CallP_mk | apply CallB_mk); (focus (simp only [go_sem] <;> rfl)); (focus (first | exact head_call | exact k1)); (focus (first | (simp [go_sem]; done) | (simp [go_sem, CloRow, AV.cells, AV.clo]; done))); (focus (first | exact .inl rfl | (right; simp [go_sem]))))); simp only [go_sem]) | ((first | refine onG_split_t (fun hg => ?_) (fun hg => ?_) | refine onG_split_f (fun hg => ?_) (fun hg => ?_)) <;> simp only [go_sem, hg]) | (refine K_condA (fun hc => ?_) (fun hc => ?_) <;> try (exact absurd hc (by decide))) | (refine K_ret ?_; refine (hQ _ ⟨_, by (try simp only [go_sem, ↓reduceIte, Nat.reduceEqDiff]); rfl, by simp [go_sem], ?_, by first | rfl | assumption⟩).1))
  simp [AV.snap]
 by_cases hz : chkN frm to l = 0
 case neg =>
  have q2 : (chkN frm to l != 0) = true := by simp [hz]
  repeat' (first | apply nx | refine Kq_exit_ne (by decide) ?_ | rw [wrap64 (by omega) (by omega)] | ((first | refine hK _ ?_ | refine hKp _ _ ?_); clear hK hKp K Kp; try clear hanc anc) | ((with_reducible refine And.intro ?_ ?_); (focus (first | trivial | omega | (simp only [Fits]; omega) | assumption | (rw [hanc]; rfl)))) | ((first | refine K_regA hE fun K Kp hK hKp => ?_ | refine K_drwA false mixed hE fun K Kp hK hKp anc hanc => ?_ | ((first | apply CallP_mk | apply CallB_mk); (focus (simp only [go_sem] <;> rfl)); (focus (first | exact head_call | exact k1 | exact k2)); (focus (first | (simp [go_sem]; done) | (simp [go_sem, CloRow, AV.cells, AV.clo]; done))); (focus (first | exact .inl rfl | (right; simp [go_sem]))))); simp only [go_sem, q2]) | ((first | refine onG_split_t (fun hg => ?_) (fun hg => ?_) | refine onG_split_f (fun hg => ?_) (fun hg => ?_)) <;> simp only [go_sem, q2, hg]) | (refine K_condA (fun hc => ?_) (fun hc => ?_) <;> try (exact absurd hc (by decide))) | (refine K_ret ?_; refine (hQ _ ⟨_, by (try simp only [go_sem, ↓reduceIte, Nat.reduceEqDiff]); rfl, by simp [go_sem], ?_, by first | rfl | assumption⟩).1))
  simp [AV.snap]
 rw [hz] at k2
 cases h3 : stB frm.length t 8
 ·rw [h3] at k3
  repeat' (first | apply nx | refine Kq_exit_ne (by decide) ?_ | rw [wrap64 (by omega) (by omega)] | ((first | refine hK _ ?_ | refine hKp _ _ ?_); clear hK hKp K Kp; try clear hanc anc) | ((with_reducible refine And.intro ?_ ?_); (focus (first | trivial | omega | (simp only [Fits]; omega) | assumption | (rw [hanc]; rfl)))) | ((first | refine K_regA hE fun K Kp hK hKp => ?_ | refine K_drwA false mixed hE fun K Kp hK hKp anc hanc => ?_ | ((first | apply CallP_mk | apply CallB_mk); (focus (simp only [go_sem] <;> rfl)); (focus (first | exact head_call | exact k1 | exact k2 | exact k3)); (focus (first | (simp [go_sem]; done) | (simp [go_sem, CloRow, AV.cells, AV.clo]; done))); (focus (first | exact .inl rfl | (right; simp [go_sem]))))); simp only [go_sem]) | ((first | refine onG_split_t (fun hg => ?_) (fun hg => ?_) | refine onG_split_f (fun hg => ?_) (fun hg => ?_)) <;> simp only [go_sem, hg]) | (refine K_condA (fun hc => ?_) (fun hc => ?_) <;> try (exact absurd hc (by decide))) | (refine K_ret ?_; refine (hQ _ ⟨_, by (try simp only [go_sem, ↓reduceIte, Nat.reduceEqDiff]); rfl, by simp [go_sem], ?_, by first | rfl | assumption⟩).1))
  all_goals simp [AV.snap]
 rw [h3] at k3
 cases h4 : tdB frm t v
 ·rw [h4] at k4
  repeat' (first | apply nx | refine Kq_exit_ne (by decide) ?_ | rw [wrap64 (by omega) (by omega)] | ((first | refine hK _ ?_ | refine hKp _ _ ?_); clear hK hKp K Kp; try clear hanc anc) | ((with_reducible refine And.intro ?_ ?_); (focus (first | trivial | omega | (simp only [Fits]; omega) | assumption | (rw [hanc]; rfl)))) | ((first | refine K_regA hE fun K Kp hK hKp => ?_ | refine K_drwA false mixed hE fun K Kp hK hKp anc hanc => ?_ | ((first | apply CallP_mk | apply CallB_mk); (focus (simp only [go_sem] <;> rfl)); (focus (first | exact head_call | exact k1 | exact k2 | exact k3 | exact k4)); (focus (first | (simp [go_sem]; done) | (simp [go_sem, CloRow, AV.cells, AV.clo]; done))); (focus (first | exact .inl rfl | (right; simp [go_sem]))))); simp only [go_sem]) | ((first | refine onG_split_t (fun hg => ?_) (fun hg => ?_) | refine onG_split_f (fun hg => ?_) (fun hg => ?_)) <;> simp only [go_sem, hg]) | (refine K_condA (fun hc => ?_) (fun hc => ?_) <;> try (exact absurd hc (by decide))) | (refine K_ret ?_; refine (hQ _ ⟨_, by (try simp only [go_sem, ↓reduceIte, Nat.reduceEqDiff]); rfl, by simp [go_sem], ?_, by first | rfl | assumption⟩).1))
  all_goals simp [AV.snap]
 rw [h4] at k4
 have k5 := value_call (2 ^ 30 + 1) v l (by omega) (by decide) (mig_b hB hz)
 rw [Vl.av_eq v] at k5
 obtain ⟨h5, h6, h7⟩ := mig_ok hz h3 h4
 simp only [Bool.and_eq_true, decide_eq_true_eq] at hg
 have hsz := val_sz (few_le hg.1) v h5
 have k7 := rstored_call (2 ^ 40) (tyM l t) to.length 8 (by rw [tyM_sz]; omega) (Nat.le_refl _) (by decide)
 have k8 := rtyped_call (2 ^ 40) to (tyM l t) (valM l v).1 (by omega) (Nat.le_refl _) (by have := ht.le; omega)
 rw [h7, Ty.av_eq] at k7
 rw [h6, Ty.av_eq, Vl.av_eq] at k8
 rw [resV, if_pos h5, Vl.av_eq] at k5
 rw [Ty.av_eq] at k6
 repeat' (first | apply nx | refine Kq_exit_ne (by decide) ?_ | rw [wrap64 (by omega) (by omega)] | ((first | refine hK _ ?_ | refine hKp _ _ ?_); clear hK hKp K Kp; try clear hanc anc) | ((with_reducible refine And.intro ?_ ?_); (focus (first | trivial | omega | (simp only [Fits]; omega) | assumption | (rw [hanc]; rfl)))) | ((first | refine K_regA hE fun K Kp hK hKp => ?_ | refine K_drwA false mixed hE fun K Kp hK hKp anc hanc => ?_ | ((first | apply CallP_mk | apply CallB_mk); (focus (simp only [go_sem] <;> rfl)); (focus (first | exact head_call | exact k1 | exact k2 | exact k3 | exact k4 | exact k5 | exact k6 | exact k7 | exact k8)); (focus (first | (simp [go_sem]; done) | (simp [go_sem, CloRow, AV.cells, AV.clo]; done))); (focus (first | exact .inl rfl | (right; simp [go_sem]))))); simp only [go_sem]) | ((first | refine onG_split_t (fun hg => ?_) (fun hg => ?_) | refine onG_split_f (fun hg => ?_) (fun hg => ?_)) <;> simp only [go_sem, hg]) | (refine K_condA (fun hc => ?_) (fun hc => ?_) <;> try (exact absurd hc (by decide))) | (refine K_ret ?_; refine (hQ _ ⟨_, by (try simp only [go_sem, ↓reduceIte, Nat.reduceEqDiff]); rfl, by simp [go_sem], ?_, by first | rfl | assumption⟩).1))
 all_goals simp [AV.snap]
theorem any_take {c : List Bool} {i : Nat} {b : Bool} (h : c[i]? = some b) : (c.take (i + 1)).any id = ((c.take i).any id || b) := by
 rw [List.take_add_one, h, List.any_append]
 simp
theorem stays_pc (frm to : List Dd) (l : List Mg) (t : Ty) (v : Vl) (hf : SzD frm) (ht : SzD to) (hB : MgL l) (hl20 : l.length ≤ 2 ^ 30) (hts : t.sz ≤ 2 ^ 30) (hvs : v.sz ≤ 2 ^ 30) : PCall Try.prog 4 [.sl (ddl frm), .sl (ddl to), .sl (mgl l), t.av, v.av] (.bool true) := by
 have k1 := few_call frm to l v (by omega)
 have k2 := check_call frm to l hf ht hB
 have k3 := rstored_call (2 ^ 40) t frm.length 8 (by omega) (Nat.le_refl _) (by decide)
 have k4 := rtyped_call (2 ^ 40) frm t v (by omega) (Nat.le_refl _) (by have := hf.le; omega)
 have k6 := changed_call frm to l hf ht hB hl20
 have k7 := sameV_call (2 ^ 40) v v (by omega) (Nat.le_refl _)
 rw [decide_eq_true rfl] at k7
 rw [Vl.av_eq] at k1 k7
 rw [Ty.av_eq] at k3
 rw [Ty.av_eq, Vl.av_eq] at k4
 rw [Ty.av_eq, Vl.av_eq]
 generalize hg : (decide (FewP frm l) && (decide (FewP to []) && decide (sizeV v 60 ≤ 60))) = b1 at k1
 refine PCall.intro Try.func4 rfl isf4 (by simp [Try.f4]) (by simp [AV.cloL, AV.clo]) fun E Q hE hN hQ => K_start ?_
 cases b1
 ·repeat' (first | apply nx | refine Kq_exit_ne (by decide) ?_ | rw [wrap64 (by omega) (by omega)] | ((first | refine hK _ ?_ | refine hKp _ _ ?_); clear hK hKp K Kp; try clear hanc anc) | ((with_reducible refine And.intro ?_ ?_); (focus (first | trivial | omega | (simp only [Fits]; omega) | assumption | (rw [hanc]; rfl)))) | ((first | refine K_regA hE fun K Kp hK hKp => ?_ | refine K_drwA false mixed hE fun K Kp hK hKp anc hanc => ?_ | ((first | apply CallP_mk | apply CallB_mk); (focus (simp only [go_sem] <;> rfl)); (focus (first | exact head_call | exact k1)); (focus (first | (simp [go_sem]; done) | (simp [go_sem, CloRow, AV.cells, AV.clo]; done))); (focus (first | exact .inl rfl | (right; simp [go_sem]))))); simp only [go_sem]) | ((first | refine onG_split_t (fun hg => ?_) (fun hg => ?_) | refine onG_split_f (fun hg => ?_) (fun hg => ?_)) <;> simp only [go_sem, hg]) | (refine K_condA (fun hc => ?_) (fun hc => ?_) <;> try (exact absurd hc (by decide))) | (refine K_ret ?_; refine (hQ _ ⟨_, by (try simp only [go_sem, ↓reduceIte, Nat.reduceEqDiff]); rfl, by simp [go_sem], ?_, by first | rfl | assumption⟩).1))
  simp [AV.snap]
 by_cases hz : chkN frm to l = 0
 case neg =>
  have q2 : (chkN frm to l != 0) = true := by simp [hz]
  repeat' (first | apply nx | refine Kq_exit_ne (by decide) ?_ | rw [wrap64 (by omega) (by omega)] | ((first | refine hK _ ?_ | refine hKp _ _ ?_); clear hK hKp K Kp; try clear hanc anc) | ((with_reducible refine And.intro ?_ ?_); (focus (first | trivial | omega | (simp only [Fits]; omega) | assumption | (rw [hanc]; rfl)))) | ((first | refine K_regA hE fun K Kp hK hKp => ?_ | refine K_drwA false mixed hE fun K Kp hK hKp anc hanc => ?_ | ((first | apply CallP_mk | apply CallB_mk); (focus (simp only [go_sem] <;> rfl)); (focus (first | exact head_call | exact k1 | exact k2)); (focus (first | (simp [go_sem]; done) | (simp [go_sem, CloRow, AV.cells, AV.clo]; done))); (focus (first | exact .inl rfl | (right; simp [go_sem]))))); simp only [go_sem, q2]) | ((first | refine onG_split_t (fun hg => ?_) (fun hg => ?_) | refine onG_split_f (fun hg => ?_) (fun hg => ?_)) <;> simp only [go_sem, q2, hg]) | (refine K_condA (fun hc => ?_) (fun hc => ?_) <;> try (exact absurd hc (by decide))) | (refine K_ret ?_; refine (hQ _ ⟨_, by (try simp only [go_sem, ↓reduceIte, Nat.reduceEqDiff]); rfl, by simp [go_sem], ?_, by first | rfl | assumption⟩).1))
  simp [AV.snap]
 rw [hz] at k2
 rw [if_pos hz] at k6
 cases h3 : stB frm.length t 8
 ·rw [h3] at k3
  repeat' (first | apply nx | refine Kq_exit_ne (by decide) ?_ | rw [wrap64 (by omega) (by omega)] | ((first | refine hK _ ?_ | refine hKp _ _ ?_); clear hK hKp K Kp; try clear hanc anc) | ((with_reducible refine And.intro ?_ ?_); (focus (first | trivial | omega | (simp only [Fits]; omega) | assumption | (rw [hanc]; rfl)))) | ((first | refine K_regA hE fun K Kp hK hKp => ?_ | refine K_drwA false mixed hE fun K Kp hK hKp anc hanc => ?_ | ((first | apply CallP_mk | apply CallB_mk); (focus (simp only [go_sem] <;> rfl)); (focus (first | exact head_call | exact k1 | exact k2 | exact k3)); (focus (first | (simp [go_sem]; done) | (simp [go_sem, CloRow, AV.cells, AV.clo]; done))); (focus (first | exact .inl rfl | (right; simp [go_sem]))))); simp only [go_sem]) | ((first | refine onG_split_t (fun hg => ?_) (fun hg => ?_) | refine onG_split_f (fun hg => ?_) (fun hg => ?_)) <;> simp only [go_sem, hg]) | (refine K_condA (fun hc => ?_) (fun hc => ?_) <;> try (exact absurd hc (by decide))) | (refine K_ret ?_; refine (hQ _ ⟨_, by (try simp only [go_sem, ↓reduceIte, Nat.reduceEqDiff]); rfl, by simp [go_sem], ?_, by first | rfl | assumption⟩).1))
  all_goals simp [AV.snap]
 rw [h3] at k3
 cases h4 : tdB frm t v
 ·rw [h4] at k4
  repeat' (first | apply nx | refine Kq_exit_ne (by decide) ?_ | rw [wrap64 (by omega) (by omega)] | ((first | refine hK _ ?_ | refine hKp _ _ ?_); clear hK hKp K Kp; try clear hanc anc) | ((with_reducible refine And.intro ?_ ?_); (focus (first | trivial | omega | (simp only [Fits]; omega) | assumption | (rw [hanc]; rfl)))) | ((first | refine K_regA hE fun K Kp hK hKp => ?_ | refine K_drwA false mixed hE fun K Kp hK hKp anc hanc => ?_ | ((first | apply CallP_mk | apply CallB_mk); (focus (simp only [go_sem] <;> rfl)); (focus (first | exact head_call | exact k1 | exact k2 | exact k3 | exact k4)); (focus (first | (simp [go_sem]; done) | (simp [go_sem, CloRow, AV.cells, AV.clo]; done))); (focus (first | exact .inl rfl | (right; simp [go_sem]))))); simp only [go_sem]) | ((first | refine onG_split_t (fun hg => ?_) (fun hg => ?_) | refine onG_split_f (fun hg => ?_) (fun hg => ?_)) <;> simp only [go_sem, hg]) | (refine K_condA (fun hc => ?_) (fun hc => ?_) <;> try (exact absurd hc (by decide))) | (refine K_ret ?_; refine (hQ _ ⟨_, by (try simp only [go_sem, ↓reduceIte, Nat.reduceEqDiff]); rfl, by simp [go_sem], ?_, by first | rfl | assumption⟩).1))
  all_goals simp [AV.snap]
 rw [h4] at k4
 obtain ⟨hd1, _, hc⟩ := chk_zero hz
 obtain ⟨h5, h6, h7⟩ := mig_ok hz h3 h4
 have k5 := value_call (2 ^ 30 + 1) v l (by omega) (by decide) (mig_b hB hz)
 have hcl : (chgB frm l).length = frm.length := by rw [chgB_len, hc.len]
 have k8 := touched_call frm (chgB frm l) t hf hd1 h3 hcl (by omega)
 rw [Ty.av_eq] at k8
 rw [resV, if_pos h5] at k5
 have hkey : ¬ TchP frm (chgB frm l) t → valM l v = (v, []) := by
  intro hn
  refine stay_ok hc.len (S := fun i => Rch frm (tgt t) i) ?_ v t h4 (fun h => by show Rch _ _ _; rw [← tgt_data h]; exact .refl)
  intro i hi x old hx hold
  refine ⟨?_, fun ov hov t' ht' hk => ?_⟩
  ·apply Classical.byContradiction
   intro hs
   exact hn ⟨i, hi, by rw [chgB_get hx hold, decide_eq_false hs]; rfl⟩
  ·show Rch _ _ _
   rw [← tgt_data hk]
   exact .step hi (by rw [at_nat]; exact hold) hov ht'
 have hsome : TchP frm (chgB frm l) t → (chgB frm l).any id = true := by
  rintro ⟨i, _, hi⟩
  rw [List.any_eq_true]
  exact ⟨true, List.mem_of_getElem? hi, rfl⟩
 have hcl2 : (chgB frm l).length ≤ 2 ^ 30 := by rw [chgB_len]; exact hl20
 generalize chgB frm l = c at *
 have q5 : ((c.length : Int) != (frm.length : Int)) = false := by simp [hcl]
 repeat' (first | apply nx | refine Kq_exit_ne (by decide) ?_ | rw [wrap64 (by omega) (by omega)] | ((first | refine hK _ ?_ | refine hKp _ _ ?_); clear hK hKp K Kp; try clear hanc anc) | ((with_reducible refine And.intro ?_ ?_); (focus (first | trivial | omega | (simp only [Fits]; omega) | assumption | (rw [hanc]; rfl)))) | ((first | refine K_regA hE fun K Kp hK hKp => ?_ | refine K_drwA false mixed hE fun K Kp hK hKp anc hanc => ?_ | ((first | apply CallP_mk | apply CallB_mk); (focus (simp only [go_sem] <;> rfl)); (focus (first | exact head_call | exact k1 | exact k2 | exact k3 | exact k4 | exact k6)); (focus (first | (simp [go_sem]; done) | (simp [go_sem, CloRow, AV.cells, AV.clo]; done))); (focus (first | exact .inl rfl | (right; simp [go_sem]))))); simp only [go_sem, q5]) | ((first | refine onG_split_t (fun hg => ?_) (fun hg => ?_) | refine onG_split_f (fun hg => ?_) (fun hg => ?_)) <;> simp only [go_sem, q5, hg]) | (refine K_condA (fun hc => ?_) (fun hc => ?_) <;> try (exact absurd hc (by decide))) | (refine K_ret ?_; refine (hQ _ ⟨_, by (try simp only [go_sem, ↓reduceIte, Nat.reduceEqDiff]); rfl, by simp [go_sem], ?_, by first | rfl | assumption⟩).1))
 refine K_loop (X := Nat × Bool) (fun z => z.1 ≤ c.length ∧ z.2 = (c.take z.1).any id) (fun z => mkSt [(0, .sl (ddl frm)), (2, .sl (mgl l)), (8, .ptr 0 0), (9, .ptr 1 0), (11, .bool true), (12, .sl (bl c)), (13, .bool z.2), (14, AV.i z.1)] [(0, .cells t.cs), (1, .cells v.cs)] 2) (fun z => c.length - z.1) (0, false) ⟨Nat.zero_le _, by simp⟩ (fun i => if i = 1 then 1048576 else i) (by refine ent_mk (by simp [go_sem, Ty.cs, Vl.cs]) (by simp [go_sem, Ty.cs, Vl.cs]) (by simp) (by simp [hN])) ?_
 rintro ⟨i, b⟩ ⟨hi, hb⟩
 simp only at hi hb
 by_cases hlt : i < c.length
 ·obtain ⟨e, he⟩ := get?_of hlt
  have hs := any_take he
  rw [← hb] at hs
  cases b
  ·repeat' (first | apply nx | refine Kq_exit_ne (by decide) ?_ | rw [wrap64 (by omega) (by omega)] | ((first | refine hK _ ?_ | refine hKp _ _ ?_); clear hK hKp K Kp; try clear hanc anc) | ((with_reducible refine And.intro ?_ ?_); (focus (first | trivial | omega | (simp only [Fits]; omega) | assumption | (rw [hanc]; rfl)))) | ((first | refine K_regA hE fun K Kp hK hKp => ?_ | refine K_drwA false mixed hE fun K Kp hK hKp anc hanc => ?_); simp only [go_sem, lt_dec hlt, he]) | ((first | refine onG_split_t (fun hg => ?_) (fun hg => ?_) | refine onG_split_f (fun hg => ?_) (fun hg => ?_)) <;> simp only [go_sem, lt_dec hlt, he, hg]) | (refine K_condA (fun hc => ?_) (fun hc => ?_) <;> try (exact absurd hc (by decide))) | (refine K_ret ?_; refine (hQ _ ⟨_, by (try simp only [go_sem, ↓reduceIte, Nat.reduceEqDiff]); rfl, by simp [go_sem], ?_, by first | rfl | assumption⟩).1))
   exact ⟨(i + 1, e), ⟨by simp only; omega, by simp only; rw [hs]; rfl⟩, by simp only; omega, fun i => i, by refine ent_mk (by simp [go_sem, Ty.cs, Vl.cs]) (by simp [go_sem, Ty.cs, Vl.cs]) (by simp) (by simp [hN])⟩
  ·repeat' (first | apply nx | refine Kq_exit_ne (by decide) ?_ | rw [wrap64 (by omega) (by omega)] | ((first | refine hK _ ?_ | refine hKp _ _ ?_); clear hK hKp K Kp; try clear hanc anc) | ((with_reducible refine And.intro ?_ ?_); (focus (first | trivial | omega | (simp only [Fits]; omega) | assumption | (rw [hanc]; rfl)))) | ((first | refine K_regA hE fun K Kp hK hKp => ?_ | refine K_drwA false mixed hE fun K Kp hK hKp anc hanc => ?_); simp only [go_sem, lt_dec hlt]) | ((first | refine onG_split_t (fun hg => ?_) (fun hg => ?_) | refine onG_split_f (fun hg => ?_) (fun hg => ?_)) <;> simp only [go_sem, lt_dec hlt, hg]) | (refine K_condA (fun hc => ?_) (fun hc => ?_) <;> try (exact absurd hc (by decide))) | (refine K_ret ?_; refine (hQ _ ⟨_, by (try simp only [go_sem, ↓reduceIte, Nat.reduceEqDiff]); rfl, by simp [go_sem], ?_, by first | rfl | assumption⟩).1))
   exact ⟨(i + 1, true), ⟨by simp only; omega, by simp only; rw [hs]; rfl⟩, by simp only; omega, fun i => i, by refine ent_mk (by simp [go_sem, Ty.cs, Vl.cs]) (by simp [go_sem, Ty.cs, Vl.cs]) (by simp) (by simp [hN])⟩
 obtain rfl : i = c.length := by omega
 rw [List.take_length] at hb
 by_cases hT : TchP frm c t
 ·rw [decide_eq_true hT] at k8
  rw [hsome hT] at hb
  subst hb
  repeat' (first | apply nx | refine Kq_exit_ne (by decide) ?_ | rw [wrap64 (by omega) (by omega)] | ((first | refine hK _ ?_ | refine hKp _ _ ?_); clear hK hKp K Kp; try clear hanc anc) | ((with_reducible refine And.intro ?_ ?_); (focus (first | trivial | omega | (simp only [Fits]; omega) | assumption | (rw [hanc]; rfl)))) | ((first | refine K_regA hE fun K Kp hK hKp => ?_ | refine K_drwA false mixed hE fun K Kp hK hKp anc hanc => ?_ | ((first | apply CallP_mk | apply CallB_mk); (focus (simp only [go_sem] <;> rfl)); (focus (exact k8)); (focus (first | (simp [go_sem]; done) | (simp [go_sem, CloRow, AV.cells, AV.clo]; done))); (focus (first | exact .inl rfl | (right; simp [go_sem]))))); simp only [go_sem, ge_dec, Ty.cs]) | ((first | refine onG_split_t (fun hg => ?_) (fun hg => ?_) | refine onG_split_f (fun hg => ?_) (fun hg => ?_)) <;> simp only [go_sem, ge_dec, Ty.cs, hg]) | (refine K_condA (fun hc => ?_) (fun hc => ?_) <;> try (exact absurd hc (by decide))) | (refine K_ret ?_; refine (hQ _ ⟨_, by (try simp only [go_sem, ↓reduceIte, Nat.reduceEqDiff]); rfl, by simp [go_sem], ?_, by first | rfl | assumption⟩).1))
  all_goals simp [AV.snap]
 ·rw [decide_eq_false hT] at k8
  rw [hkey hT] at k5
  simp only at k5
  rw [Vl.av_eq, Vl.avL] at k5
  repeat' (first | apply nx | refine Kq_exit_ne (by decide) ?_ | rw [wrap64 (by omega) (by omega)] | ((first | refine hK _ ?_ | refine hKp _ _ ?_); clear hK hKp K Kp; try clear hanc anc) | ((with_reducible refine And.intro ?_ ?_); (focus (first | trivial | omega | (simp only [Fits]; omega) | assumption | (rw [hanc]; rfl)))) | ((first | refine K_regA hE fun K Kp hK hKp => ?_ | refine K_drwA false mixed hE fun K Kp hK hKp anc hanc => ?_ | ((first | apply CallP_mk | apply CallB_mk); (focus (simp only [go_sem] <;> rfl)); (focus (first | exact k8 | exact k5 | exact k7)); (focus (first | (simp [go_sem]; done) | (simp [go_sem, CloRow, AV.cells, AV.clo]; done))); (focus (first | exact .inl rfl | (right; simp [go_sem]))))); simp only [go_sem, ge_dec, Ty.cs, Vl.cs]) | ((first | refine onG_split_t (fun hg => ?_) (fun hg => ?_) | refine onG_split_f (fun hg => ?_) (fun hg => ?_)) <;> simp only [go_sem, ge_dec, Ty.cs, Vl.cs, hg]) | (refine K_condA (fun hc => ?_) (fun hc => ?_) <;> try (exact absurd hc (by decide))) | (refine K_ret ?_; refine (hQ _ ⟨_, by (try simp only [go_sem, ↓reduceIte, Nat.reduceEqDiff]); rfl, by simp [go_sem], ?_, by first | rfl | assumption⟩).1))
  all_goals simp [AV.snap]
end Go.Proofs.Ytlhhahocjfgmdaa
