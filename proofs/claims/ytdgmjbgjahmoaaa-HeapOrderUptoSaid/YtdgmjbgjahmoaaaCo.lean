/- A part of the proof: an abstract machine for the walks, and what the walked functions compute. -/
import Derived.Test.YtdgmjbgjahmoaaaCm
import Derived.Test.YtdgmjbgjahmoaaaMk
set_option linter.unusedVariables false
set_option linter.unusedSimpArgs false
set_option linter.unusedSimpArgs false
set_option linter.unusedVariables false
set_option maxHeartbeats 4000000
set_option maxRecDepth 100000
namespace Go.Proofs.Ytdgmjbgjahmoaaa
open Nat (reduceAdd reduceMul reduceEqDiff reduceLT reduceLeDiff reduceSub reduceDiv)
open Int (reduceBNe reduceLE reduceEq)
open Go.Am Go.Proofs Go.Hv
open Classical
attribute [local irreducible] AW CallP CallB CallY
def dtz (n : Int) : Dt := ⟨⟨#[]⟩, 0, 0, [], n⟩
def calmD (D : List Dt) : List Dt := D.map fun d => dtz (max 0 d.dr)
def loudD (D : List Dt) : List Dt := D.map fun d => dtz (if d.dr < 0 then 1 else 0)
theorem calm_get (D : List Dt) (n : Nat) : (drs (calmD D)).getD n 0 = max 0 ((drs D).getD n 0) := by
 simp only [drs, calmD, List.map_map, List.getD_eq_getElem?_getD, List.getElem?_map]
 cases D[n]? <;> simp [dtz]
theorem loud_get (D : List Dt) (n : Nat) : (drs (loudD D)).getD n 0 = if (drs D).getD n 0 < 0 then 1 else 0 := by
 simp only [drs, loudD, List.map_map, List.getD_eq_getElem?_getD, List.getElem?_map]
 cases D[n]? <;> simp [dtz]
theorem foldF_ext (d : List Int) : ∀ (l : List Int) (f : Fa), f.out <+: (l.foldl (stepF d) f).out ∧ f.cnt ≤ (l.foldl (stepF d) f).cnt
 | [], f => ⟨List.prefix_refl _, Nat.le_refl _⟩
 | x :: l, f => by
  rw [List.foldl_cons]
  have ih := foldF_ext d l (stepF d f x)
  have h1 : f.out <+: (stepF d f x).out ∧ f.cnt ≤ (stepF d f x).cnt := by
   unfold stepF
   split
   ·exact ⟨List.prefix_refl _, Nat.le_refl _⟩
   ·refine ⟨?_, Nat.le_succ _⟩
    unfold Fa.add
    simp only
    split
    ·exact List.prefix_append _ _
    ·exact List.prefix_refl _
  exact ⟨h1.1.trans ih.1, Nat.le_trans h1.2 ih.2⟩
theorem foldF_calm (d : List Int) (hd : ∀ n, 0 ≤ d.getD n 0) : ∀ (l : List Int) (f : Fa), f.pan = false → (l.foldl (stepF d) f).pan = false
 | [], f, h => h
 | x :: l, f, h => by
  rw [List.foldl_cons]
  refine foldF_calm d hd l _ ?_
  rw [show stepF d f x = f.add (d.getD x.toNat 0) from if_neg (by simp [h])]
  have := hd x.toNat
  simp only [Fa.add, decide_eq_false_iff_not]
  omega
theorem pan_rel (D : List Dt) : ∀ (l : List Int) (f g m : Fa), f.pan = false → g.pan = false → m.pan = false → f.out = g.out → f.cnt = g.cnt → m.out = [] →
    (l.foldl (stepF (drs D)) f).out <+: (l.foldl (stepF (drs (calmD D))) g).out ∧ (l.foldl (stepF (drs D)) f).cnt ≤ (l.foldl (stepF (drs (calmD D))) g).cnt ∧ ((l.foldl (stepF (drs D)) f).pan = true ↔ (l.foldl (stepF (drs (loudD D))) m).out ≠ []) ∧
    ((l.foldl (stepF (drs D)) f).pan = false → (l.foldl (stepF (drs (calmD D))) g).out = (l.foldl (stepF (drs D)) f).out ∧ (l.foldl (stepF (drs D)) f).cnt = (l.foldl (stepF (drs (calmD D))) g).cnt)
  | [], f, g, m, hf, hg, hm, ho, hc, hmo => by
    simp only [List.foldl_nil]
    exact ⟨by rw [ho]; exact List.prefix_refl _, by omega, by rw [hf, hmo]; simp, fun _ => ⟨ho.symm, hc⟩⟩
  | x :: l, f, g, m, hf, hg, hm, ho, hc, hmo => by
    simp only [List.foldl_cons]
    rw [show stepF (drs D) f x = f.add ((drs D).getD x.toNat 0) from if_neg (by simp [hf]), show stepF (drs (calmD D)) g x = g.add (max 0 ((drs D).getD x.toNat 0)) by rw [← calm_get]; exact if_neg (by simp [hg]), show stepF (drs (loudD D)) m x = m.add (if (drs D).getD x.toNat 0 < 0 then 1 else 0) by rw [← loud_get]; exact if_neg (by simp [hm])]
    generalize (drs D).getD x.toNat 0 = d
    by_cases hd : d < 0
    · have e1 : (f.add d).pan = true := by simpa [Fa.add] using hd
      have e2 : (f.add d).out = f.out := by simp only [Fa.add]; rw [if_neg (by omega)]
      have e3 : (m.add (if d < 0 then 1 else 0)).out = [1] := by rw [if_pos hd]; simp [Fa.add, hmo]
      rw [foldF_pan _ _ _ e1, e2]
      have a1 := foldF_ext (drs (calmD D)) l (g.add (max 0 d))
      have a2 := foldF_ext (drs (loudD D)) l (m.add (if d < 0 then 1 else 0))
      have e4 : (g.add (max 0 d)).out = g.out := by simp only [Fa.add]; rw [if_neg (by omega)]
      rw [e4] at a1
      rw [e3] at a2
      refine ⟨by rw [ho]; exact a1.1, by have := a1.2; simp only [Fa.add] at this ⊢; omega, ?_, fun hh => by rw [e1] at hh; cases hh⟩
      rw [e1]
      simp only [true_iff]
      intro hn
      rw [hn] at a2
      exact absurd a2.1.length_le (by simp)
    · have hmx : max 0 d = d := by omega
      rw [hmx, if_neg hd]
      refine pan_rel D l _ _ _ (by simpa [Fa.add] using hd) (by simpa [Fa.add] using hd) (by simp [Fa.add]) (by simp only [Fa.add]; rw [ho]) (by simp only [Fa.add]; omega) (by simp [Fa.add, hmo])
theorem snp_app {F : Nat → Option AObj} {x x' : AV} (h : Snp F x x') (l : List AV) (i : Nat) (hi : i < (l ++ [x]).length) : Snp F ((l ++ [x]).getD i default) ((l ++ [x']).getD i default) := by
 simp only [List.length_append, List.length_singleton] at hi
 rcases Nat.lt_or_ge i l.length with hl | hl
 ·simp only [List.getD_eq_getElem?_getD, List.getElem?_append_left hl]; exact .inl rfl
 ·obtain rfl : i = l.length := by omega
  simp only [List.getD_eq_getElem?_getD]
  simpa using h
abbrev zdt (n : Int) : AV := .agg [.str ⟨#[]⟩, .i 0, .i 0, .nilsl, .i n]
theorem Wk.appZ {E : En} {fr : Nat → Option AV} {hp : Nat → Option AObj} {nx : Nat} (X : Nat) {L : List Dt} {n : Int} (hX : hp X = some (.row 5 (dl L ++ [zdt n]))) : Wk E ⟨fr, hp, nx⟩ ⟨fr, updo hp X (some (.row 5 (dl (L ++ [dtz n])))), nx⟩ := by
 have e : dl (L ++ [dtz n]) = dl L ++ [(dtz n).av] := by simp [dl]
 rw [e]
 refine Wk.snpRow X _ hX (by simp) (fun i hi => snp_app (.inr ⟨?_, ?_⟩) _ _ hi)
 ·simp [AV.snapOk, AV.snapOkL]
 ·rfl
theorem panics_pc (D : List Dt) (h : Hp) (v : Vl) (hb : HB h) (hv : v.sz ≤ 2 ^ 20) (hD : D.length ≤ 2 ^ 30) : PCall Try.prog 4 [.sl (dl D), h.av, v.av] (.bool true) := by
 have hhd := head_pc
 have hfw := few_call h v (by omega) hb.z hb.l
 have hm := hb.sm hv
 by_cases hf : fewB h v
 case neg =>
  rw [decide_eq_false hf] at hfw
  simp only [Hp.av_eq, Vl.av_eq] at *
  refine PCall.intro Try.func4 rfl isf4 (by simp [Try.f4]) (by simp [AV.cloL, AV.clo]) fun E Q hE hN hQ => K_start ?_
  repeat' (first | apply nx | refine Kq_exit_ne (by decide) ?_ | rw [wrap64 (by omega) (by omega)] | ((first | refine hK _ ?_ | refine hKp _ _ ?_); clear hK hKp K Kp; try clear hanc anc) | ((with_reducible refine And.intro ?_ ?_); (focus (first | trivial | omega | (simp only [Fits]; omega) | assumption | (rw [hanc]; rfl)))) | ((first | refine K_regA hE fun K Kp hK hKp => ?_ | refine K_drwA false mixed hE fun K Kp hK hKp anc hanc => ?_ | ((first | apply CallP_mk | apply CallB_mk); (focus (simp only [go_sem] <;> rfl)); (focus (first | exact hhd | exact hfw)); (focus (first | (simp [go_sem]; done) | (simp [go_sem, CloRow, AV.cells, AV.clo]; done))); (focus (first | exact .inl rfl | (right; simp [go_sem]))))); simp only [go_sem]) | ((first | refine onG_split_t (fun hg => ?_) (fun hg => ?_) | refine onG_split_f (fun hg => ?_) (fun hg => ?_)) <;> simp only [go_sem, hg]) | (refine K_condA (fun hc => ?_) (fun hc => ?_) <;> try (exact absurd hc (by decide))) | (refine K_ret ?_; refine (hQ _ ⟨_, by (try simp only [go_sem, ↓reduceIte, Nat.reduceEqDiff]); rfl, by simp [go_sem], ?_, by first | rfl | assumption⟩).1))
  rfl
 rw [decide_eq_true hf] at hfw
 obtain ⟨f1, f2⟩ := few_lt hf
 by_cases hD20 : D.length ≤ 20
 case neg =>
  have q0 : decide ((20 : Int) < (D.length : Int)) = true := by rw [decide_eq_true_eq]; omega
  simp only [Hp.av_eq, Vl.av_eq] at *
  refine PCall.intro Try.func4 rfl isf4 (by simp [Try.f4]) (by simp [AV.cloL, AV.clo]) fun E Q hE hN hQ => K_start ?_
  repeat' (first | apply nx | refine Kq_exit_ne (by decide) ?_ | rw [wrap64 (by omega) (by omega)] | ((first | refine hK _ ?_ | refine hKp _ _ ?_); clear hK hKp K Kp; try clear hanc anc) | ((with_reducible refine And.intro ?_ ?_); (focus (first | trivial | omega | (simp only [Fits]; omega) | assumption | (rw [hanc]; rfl)))) | ((first | refine K_regA hE fun K Kp hK hKp => ?_ | refine K_drwA false mixed hE fun K Kp hK hKp anc hanc => ?_ | ((first | apply CallP_mk | apply CallB_mk); (focus (simp only [go_sem] <;> rfl)); (focus (first | exact hhd | exact hfw)); (focus (first | (simp [go_sem]; done) | (simp [go_sem, CloRow, AV.cells, AV.clo]; done))); (focus (first | exact .inl rfl | (right; simp [go_sem]))))); simp only [go_sem, q0]) | ((first | refine onG_split_t (fun hg => ?_) (fun hg => ?_) | refine onG_split_f (fun hg => ?_) (fun hg => ?_)) <;> simp only [go_sem, q0, hg]) | (refine K_condA (fun hc => ?_) (fun hc => ?_) <;> try (exact absurd hc (by decide))) | (refine K_ret ?_; refine (hQ _ ⟨_, by (try simp only [go_sem, ↓reduceIte, Nat.reduceEqDiff]); rfl, by simp [go_sem], ?_, by first | rfl | assumption⟩).1))
  all_goals rfl
 have q0 : decide ((20 : Int) < (D.length : Int)) = false := by rw [decide_eq_false_iff_not]; omega
 have d1 := drop_call D h v hm hD
 have l1 := drop_len D hm (by omega)
 by_cases e1 : (dropS D h v).2.2 = 0
 case neg =>
  generalize dropS D h v = A at *
  obtain ⟨A1, ⟨Ao, Ac, Ap⟩, Ae⟩ := A
  simp only at e1
  have q1 : (Ae != 0) = true := by simpa using e1
  simp only [resD, Hp.av_eq, Vl.av_eq] at *
  refine PCall.intro Try.func4 rfl isf4 (by simp [Try.f4]) (by simp [AV.cloL, AV.clo]) fun E Q hE hN hQ => K_start ?_
  repeat' (first | apply nx | refine Kq_exit_ne (by decide) ?_ | rw [wrap64 (by omega) (by omega)] | ((first | refine hK _ ?_ | refine hKp _ _ ?_); clear hK hKp K Kp; try clear hanc anc) | ((with_reducible refine And.intro ?_ ?_); (focus (first | trivial | omega | (simp only [Fits]; omega) | assumption | (rw [hanc]; rfl)))) | ((first | refine K_regA hE fun K Kp hK hKp => ?_ | refine K_drwA false mixed hE fun K Kp hK hKp anc hanc => ?_ | ((first | apply CallP_mk | apply CallB_mk); (focus (simp only [go_sem] <;> rfl)); (focus (first | exact hhd | exact hfw | exact d1)); (focus (first | (simp [go_sem]; done) | (simp [go_sem, CloRow, AV.cells, AV.clo]; done))); (focus (first | exact .inl rfl | (right; simp [go_sem]))))); simp only [go_sem, q0, q1]) | ((first | refine onG_split_t (fun hg => ?_) (fun hg => ?_) | refine onG_split_f (fun hg => ?_) (fun hg => ?_)) <;> simp only [go_sem, q0, q1, hg]) | (refine K_condA (fun hc => ?_) (fun hc => ?_) <;> try (exact absurd hc (by decide))) | (refine K_ret ?_; refine (hQ _ ⟨_, by (try simp only [go_sem, ↓reduceIte, Nat.reduceEqDiff]); rfl, by simp [go_sem], ?_, by first | rfl | assumption⟩).1))
  all_goals rfl
 obtain ⟨o, hw, hx, s1⟩ := drop_ok e1
 rw [s1] at d1 l1
 have hlc : (calmD D).length = D.length := by simp [calmD]
 have hll : (loudD D).length = D.length := by simp [loudD]
 have hxc : o.ids.any (unkB (dl (calmD D))) = false := by
  rw [← hx]; congr 1; funext x; simp only [unkB, dl_len, hlc]
 have hxl : o.ids.any (unkB (dl (loudD D))) = false := by
  rw [← hx]; congr 1; funext x; simp only [unkB, dl_len, hll]
 have d2 := drop_call (calmD D) h v hm (by omega)
 have d3 := drop_call (loudD D) h v hm (by omega)
 have l2 := drop_len (calmD D) hm (by omega)
 have l3 := drop_len (loudD D) hm (by omega)
 rw [dropS_of hw hxc] at d2 l2
 rw [dropS_of hw hxl] at d3 l3
 obtain ⟨r1, r2, r3, r4⟩ := pan_rel D o.ids Fa.nil Fa.nil Fa.nil rfl rfl rfl rfl rfl rfl
 have r5 := foldF_calm (drs (calmD D)) (fun n => by rw [calm_get]; omega) o.ids Fa.nil rfl
 have sm := (hb.closed o).same (closedS h o)
 simp only at l1 l2 l3
 have bg := begins_call (o.ids.foldl (stepF (drs (calmD D))) Fa.nil).out (o.ids.foldl (stepF (drs D)) Fa.nil).out (by omega) (by omega)
 rw [decide_refl] at sm
 rw [decide_eq_true r1] at bg
 generalize o.ids.foldl (stepF (drs (calmD D))) Fa.nil = G at *
 generalize o.ids.foldl (stepF (drs (loudD D))) Fa.nil = M at *
 generalize o.ids.foldl (stepF (drs D)) Fa.nil = F at *
 generalize closedS h o = C at *
 clear r1 hx hxc hxl s1 e1 hf hm
 simp only [resD, Hp.av_eq, Vl.av_eq] at *
 refine PCall.intro Try.func4 rfl isf4 (by simp [Try.f4]) (by simp [AV.cloL, AV.clo]) fun E Q hE hN hQ => K_start ?_
 repeat' (first | apply nx | refine Kq_exit_ne (by decide) ?_ | rw [wrap64 (by omega) (by omega)] | ((first | refine hK _ ?_ | refine hKp _ _ ?_); clear hK hKp K Kp; try clear hanc anc) | ((with_reducible refine And.intro ?_ ?_); (focus (first | trivial | omega | (simp only [Fits]; omega) | assumption | (rw [hanc]; rfl)))) | ((fail_if_success refine K_stop 9 ?_); (first | refine K_regA hE fun K Kp hK hKp => ?_ | refine K_drwA true mixed hE fun K Kp hK hKp anc hanc => ?_ | refine K_drwA false mixed hE fun K Kp hK hKp anc hanc => ?_ | ((first | apply CallP_mk | apply CallB_mk); (focus (simp only [go_sem] <;> rfl)); (focus (first | exact hhd | exact hfw | exact d1)); (focus (first | (simp [go_sem]; done) | (simp [go_sem, CloRow, AV.cells, AV.clo]; done))); (focus (first | exact .inl rfl | (right; simp [go_sem]))))); simp only [go_sem, q0]) | ((first | refine onG_split_t (fun hg => ?_) (fun hg => ?_) | refine onG_split_f (fun hg => ?_) (fun hg => ?_)) <;> simp only [go_sem, q0, hg]) | (refine K_condA (fun hc => ?_) (fun hc => ?_) <;> try (exact absurd hc (by decide))))
 refine AW_nil 13 5 (by rw [hE]; decide) (by simp only [go_sem]) ?_
 refine AW_nil 14 5 (by rw [hE]; decide) (by simp only [go_sem]) ?_
 refine AW.ent (σ' := mkSt [(0, .sl (dl D)), (4, .ptr 0 0), (5, .ptr 1 0), (7, .bool true), (8, .ptr 2 0), (9, .sl (il F.out)), (10, .i (F.cnt : Int)), (11, .bool F.pan), (13, .rw 3), (14, .rw 4)] [(0, .cells [.sl (cl h.cells), .sl (bl h.arenas)]), (1, vC8 v), (2, .cells [.sl (cl C.cells), .sl (bl C.arenas)]), (3, .row 5 []), (4, .row 5 [])] 5) (fun i => if i = 0 then 0 else if i = 1 then 1048576 else if i = 2 then 25165824 else if i = 3 then 35651584 else 35651585) (by refine ent_mk (by simp [go_sem]) (by simp [go_sem]) (by simp) (by simp [hN])) ?_
 repeat' (first | apply nx | refine Kq_exit_ne (by decide) ?_ | rw [wrap64 (by omega) (by omega)] | ((first | refine hK _ ?_ | refine hKp _ _ ?_); clear hK hKp K Kp; try clear hanc anc) | ((with_reducible refine And.intro ?_ ?_); (focus (first | trivial | omega | (simp only [Fits]; omega) | assumption | (rw [hanc]; rfl)))) | ((first | refine K_regA hE fun K Kp hK hKp => ?_ | refine K_drwA true mixed hE fun K Kp hK hKp anc hanc => ?_ | refine K_drwA false mixed hE fun K Kp hK hKp anc hanc => ?_); simp only [go_sem]) | ((first | refine onG_split_t (fun hg => ?_) (fun hg => ?_) | refine onG_split_f (fun hg => ?_) (fun hg => ?_)) <;> simp only [go_sem, hg]) | (refine K_condA (fun hc => ?_) (fun hc => ?_) <;> try (exact absurd hc (by decide))))
 refine K_loop (X := Nat) (fun x => x ≤ D.length) (fun x => mkSt [(0, .sl (dl D)), (4, .ptr 0 0), (5, .ptr 1 0), (7, .bool true), (8, .ptr 2 0), (9, .sl (il F.out)), (10, .i (F.cnt : Int)), (11, .bool F.pan), (13, .rw 3), (14, .rw 4), (15, .i x)] [(0, .cells [.sl (cl h.cells), .sl (bl h.arenas)]), (1, vC8 v), (2, .cells [.sl (cl C.cells), .sl (bl C.arenas)]), (3, .row 5 (dl (calmD (D.take x)))), (4, .row 5 (dl (loudD (D.take x))))] 5) (fun x => D.length - x) 0 (Nat.zero_le _) (fun i => i) (by refine ent_mk (by simp [go_sem]) (by simp [go_sem, calmD, loudD, dl]) (by simp) (by simp [hN])) ?_
 intro i hi
 by_cases hlt : i < D.length
 ·obtain ⟨d, hd⟩ := get?_of hlt
  have hcl : (calmD (D.take i)).length = i := by simp [calmD]; omega
  have hll' : (loudD (D.take i)).length = i := by simp [loudD]; omega
  have hc1 : calmD (D.take i) ++ [dtz (max 0 d.dr)] = calmD (D.take (i + 1)) := by rw [List.take_add_one, hd]; simp [calmD]
  have hl1 : loudD (D.take i) ++ [dtz (if d.dr < 0 then 1 else 0)] = loudD (D.take (i + 1)) := by rw [List.take_add_one, hd]; simp [loudD]
  by_cases hneg : d.dr < 0
  ·have q2 : decide (d.dr < 0) = true := by simpa using hneg
   rw [if_pos hneg] at hl1
   repeat' (first | apply nx | refine Kq_exit_ne (by decide) ?_ | rw [wrap64 (by omega) (by omega)] | ((first | refine hK _ ?_ | refine hKp _ _ ?_); clear hK hKp K Kp; try clear hanc anc) | ((with_reducible refine And.intro ?_ ?_); (focus (first | trivial | omega | (simp only [Fits]; omega) | assumption | (rw [hanc]; rfl)))) | ((fail_if_success refine K_stop 11 ?_); (first | refine K_regA hE fun K Kp hK hKp => ?_ | refine K_drwA true mixed hE fun K Kp hK hKp anc hanc => ?_ | refine K_drwA false mixed hE fun K Kp hK hKp anc hanc => ?_); simp only [go_sem, lt_dec hlt, hd, Dt.av, q2]) | ((first | refine onG_split_t (fun hg => ?_) (fun hg => ?_) | refine onG_split_f (fun hg => ?_) (fun hg => ?_)) <;> simp only [go_sem, lt_dec hlt, hd, Dt.av, q2, hg]) | (refine K_condA (fun hc => ?_) (fun hc => ?_) <;> try (exact absurd hc (by decide))))
   refine AW.wk (Wk.appZ 13631493 (L := calmD (D.take i)) (n := max 0 d.dr) (by simp [go_sem])) ?_
   refine AW.wk (Wk.appZ 28311557 (L := loudD (D.take i)) (n := 1) (by simp [go_sem])) ?_
   rw [hc1, hl1]
   repeat' (first | apply nx | refine Kq_exit_ne (by decide) ?_ | rw [wrap64 (by omega) (by omega)] | ((first | refine hK _ ?_ | refine hKp _ _ ?_); clear hK hKp K Kp; try clear hanc anc) | ((with_reducible refine And.intro ?_ ?_); (focus (first | trivial | omega | (simp only [Fits]; omega) | assumption | (rw [hanc]; rfl)))) | ((first | refine K_regA hE fun K Kp hK hKp => ?_ | refine K_drwA true mixed hE fun K Kp hK hKp anc hanc => ?_ | refine K_drwA false mixed hE fun K Kp hK hKp anc hanc => ?_); simp only [go_sem]) | ((first | refine onG_split_t (fun hg => ?_) (fun hg => ?_) | refine onG_split_f (fun hg => ?_) (fun hg => ?_)) <;> simp only [go_sem, hg]) | (refine K_condA (fun hc => ?_) (fun hc => ?_) <;> try (exact absurd hc (by decide))))
   refine ⟨i + 1, hlt, by omega, fun i => if i = 3 then 13631493 else if i = 4 then 28311557 else i, ?_⟩
   refine ent_mk (by simp [go_sem]) (by simp [go_sem]) (by simp) (by simp [hN])
  ·have q2 : decide (d.dr < 0) = false := by simpa using hneg
   rw [if_neg hneg] at hl1
   repeat' (first | apply nx | refine Kq_exit_ne (by decide) ?_ | rw [wrap64 (by omega) (by omega)] | ((first | refine hK _ ?_ | refine hKp _ _ ?_); clear hK hKp K Kp; try clear hanc anc) | ((with_reducible refine And.intro ?_ ?_); (focus (first | trivial | omega | (simp only [Fits]; omega) | assumption | (rw [hanc]; rfl)))) | ((fail_if_success refine K_stop 11 ?_); (first | refine K_regA hE fun K Kp hK hKp => ?_ | refine K_drwA true mixed hE fun K Kp hK hKp anc hanc => ?_ | refine K_drwA false mixed hE fun K Kp hK hKp anc hanc => ?_); simp only [go_sem, lt_dec hlt, hd, Dt.av, q2]) | ((first | refine onG_split_t (fun hg => ?_) (fun hg => ?_) | refine onG_split_f (fun hg => ?_) (fun hg => ?_)) <;> simp only [go_sem, lt_dec hlt, hd, Dt.av, q2, hg]) | (refine K_condA (fun hc => ?_) (fun hc => ?_) <;> try (exact absurd hc (by decide))))
   refine AW.wk (Wk.appZ 13631493 (L := calmD (D.take i)) (n := max 0 d.dr) (by simp [go_sem])) ?_
   refine AW.wk (Wk.appZ 27262981 (L := loudD (D.take i)) (n := 0) (by simp [go_sem])) ?_
   rw [hc1, hl1]
   repeat' (first | apply nx | refine Kq_exit_ne (by decide) ?_ | rw [wrap64 (by omega) (by omega)] | ((first | refine hK _ ?_ | refine hKp _ _ ?_); clear hK hKp K Kp; try clear hanc anc) | ((with_reducible refine And.intro ?_ ?_); (focus (first | trivial | omega | (simp only [Fits]; omega) | assumption | (rw [hanc]; rfl)))) | ((first | refine K_regA hE fun K Kp hK hKp => ?_ | refine K_drwA true mixed hE fun K Kp hK hKp anc hanc => ?_ | refine K_drwA false mixed hE fun K Kp hK hKp anc hanc => ?_); simp only [go_sem]) | ((first | refine onG_split_t (fun hg => ?_) (fun hg => ?_) | refine onG_split_f (fun hg => ?_) (fun hg => ?_)) <;> simp only [go_sem, hg]) | (refine K_condA (fun hc => ?_) (fun hc => ?_) <;> try (exact absurd hc (by decide))))
   refine ⟨i + 1, hlt, by omega, fun i => if i = 3 then 13631493 else if i = 4 then 27262981 else i, ?_⟩
   refine ent_mk (by simp [go_sem]) (by simp [go_sem]) (by simp) (by simp [hN])
 obtain rfl : i = D.length := by omega
 repeat' (first | apply nx | refine Kq_exit_ne (by decide) ?_ | rw [wrap64 (by omega) (by omega)] | ((first | refine hK _ ?_ | refine hKp _ _ ?_); clear hK hKp K Kp; try clear hanc anc) | ((with_reducible refine And.intro ?_ ?_); (focus (first | trivial | omega | (simp only [Fits]; omega) | assumption | (rw [hanc]; rfl)))) | ((fail_if_success refine K_stop 17 ?_); (first | refine K_regA hE fun K Kp hK hKp => ?_ | refine K_drwA true mixed hE fun K Kp hK hKp anc hanc => ?_ | refine K_drwA false mixed hE fun K Kp hK hKp anc hanc => ?_); simp only [go_sem, ge_dec]) | ((first | refine onG_split_t (fun hg => ?_) (fun hg => ?_) | refine onG_split_f (fun hg => ?_) (fun hg => ?_)) <;> simp only [go_sem, ge_dec, hg]) | (refine K_condA (fun hc => ?_) (fun hc => ?_) <;> try (exact absurd hc (by decide))))
 rw [List.take_length]
 refine AW_frz1 13 3 (sz := 5) (xs := dl (calmD D)) (by simp only [go_sem]) (by simp only [go_sem]) (clo_dl _) ?_
 refine AW_frz1 14 4 (sz := 5) (xs := dl (loudD D)) (by simp only [go_sem]) (by simp only [go_sem]) (clo_dl _) ?_
 refine AW.ent (σ' := mkSt [(4, .ptr 0 0), (5, .ptr 1 0), (7, .bool true), (8, .ptr 2 0), (9, .sl (il F.out)), (10, .i (F.cnt : Int)), (11, .bool F.pan), (13, .sl (dl (calmD D))), (14, .sl (dl (loudD D)))] [(0, .cells [.sl (cl h.cells), .sl (bl h.arenas)]), (1, vC8 v), (2, .cells [.sl (cl C.cells), .sl (bl C.arenas)])] 3) (fun i => i) (by refine ent_mk (by simp [go_sem]) (by simp [go_sem]) (by simp) (by simp [hN])) ?_
 have q3 : decide ((G.cnt : Int) < (F.cnt : Int)) = false := by rw [decide_eq_false_iff_not]; omega
 cases hp : F.pan
 ·have hM : M.out = [] := Classical.byContradiction fun hh => by rw [hp] at r3; exact absurd (r3.2 hh) (by decide)
  obtain ⟨r6, r7⟩ := r4 hp
  have q4 : ((G.out.length : Int) == (F.out.length : Int)) = true := by simp [r6]
  have q5 : ((F.cnt : Int) == (G.cnt : Int)) = true := by simp [r7]
  have q6 : decide ((0 : Int) < (M.out.length : Int)) = false := by rw [hM]; rfl
  repeat' (first | apply nx | refine Kq_exit_ne (by decide) ?_ | rw [wrap64 (by omega) (by omega)] | ((first | refine hK _ ?_ | refine hKp _ _ ?_); clear hK hKp K Kp; try clear hanc anc) | ((with_reducible refine And.intro ?_ ?_); (focus (first | trivial | omega | (simp only [Fits]; omega) | assumption | (rw [hanc]; rfl)))) | ((first | refine K_regA hE fun K Kp hK hKp => ?_ | refine K_drwA false mixed hE fun K Kp hK hKp anc hanc => ?_ | ((first | apply CallP_mk | apply CallB_mk); (focus (simp only [go_sem] <;> rfl)); (focus (first | exact d2 | exact d3 | exact sm | exact bg)); (focus (first | (simp [go_sem]; done) | (simp [go_sem, CloRow, AV.cells, AV.clo]; done))); (focus (first | exact .inl rfl | (right; simp [go_sem]))))); simp only [go_sem, q3, q4, q5, q6, r5, hp, bne_self_eq_false, beq_self_eq_true]) | ((first | refine onG_split_t (fun hg => ?_) (fun hg => ?_) | refine onG_split_f (fun hg => ?_) (fun hg => ?_)) <;> simp only [go_sem, q3, q4, q5, q6, r5, hp, bne_self_eq_false, beq_self_eq_true, hg]) | (refine K_condA (fun hc => ?_) (fun hc => ?_) <;> try (exact absurd hc (by decide))) | (refine K_ret ?_; refine (hQ _ ⟨_, by (try simp only [go_sem, ↓reduceIte, Nat.reduceEqDiff]); rfl, by simp [go_sem], ?_, by first | rfl | assumption⟩).1))
  all_goals rfl
 ·have hM : M.out ≠ [] := r3.1 hp
  have hM2 : 0 < M.out.length := by cases hh : M.out with | nil => exact absurd hh hM | cons a b => simp
  have q6 : decide ((0 : Int) < (M.out.length : Int)) = true := by rw [decide_eq_true_eq]; omega
  repeat' (first | apply nx | refine Kq_exit_ne (by decide) ?_ | rw [wrap64 (by omega) (by omega)] | ((first | refine hK _ ?_ | refine hKp _ _ ?_); clear hK hKp K Kp; try clear hanc anc) | ((with_reducible refine And.intro ?_ ?_); (focus (first | trivial | omega | (simp only [Fits]; omega) | assumption | (rw [hanc]; rfl)))) | ((first | refine K_regA hE fun K Kp hK hKp => ?_ | refine K_drwA false mixed hE fun K Kp hK hKp anc hanc => ?_ | ((first | apply CallP_mk | apply CallB_mk); (focus (simp only [go_sem] <;> rfl)); (focus (first | exact d2 | exact d3 | exact sm | exact bg)); (focus (first | (simp [go_sem]; done) | (simp [go_sem, CloRow, AV.cells, AV.clo]; done))); (focus (first | exact .inl rfl | (right; simp [go_sem]))))); simp only [go_sem, q3, q6, r5, hp, bne_self_eq_false, beq_self_eq_true]) | ((first | refine onG_split_t (fun hg => ?_) (fun hg => ?_) | refine onG_split_f (fun hg => ?_) (fun hg => ?_)) <;> simp only [go_sem, q3, q6, r5, hp, bne_self_eq_false, beq_self_eq_true, hg]) | (refine K_condA (fun hc => ?_) (fun hc => ?_) <;> try (exact absurd hc (by decide))) | (refine K_ret ?_; refine (hQ _ ⟨_, by (try simp only [go_sem, ↓reduceIte, Nat.reduceEqDiff]); rfl, by simp [go_sem], ?_, by first | rfl | assumption⟩).1))
  all_goals rfl
end Go.Proofs.Ytdgmjbgjahmoaaa
