/- A part of the proof: an abstract machine for the walks, and what the walked functions compute. -/
import Derived.Test.YtdgmjbgjahmoaaaCh
import Derived.Test.YtdgmjbgjahmoaaaCm
set_option linter.unusedVariables false
set_option linter.unusedSimpArgs false
set_option linter.unusedSimpArgs false
set_option linter.unusedVariables false
set_option maxHeartbeats 4000000
set_option maxRecDepth 100000
namespace Go.Proofs.Ytdgmjbgjahmoaaa
open Nat (reduceAdd reduceMul reduceEqDiff reduceLT reduceLeDiff reduceSub reduceDiv)
open Int (reduceBNe reduceLE reduceEq)
open Go.Am Go.Proofs Go.Hv
open Classical
attribute [local irreducible] AW CallP CallB CallY
theorem live_clr {h : Hp} {o : Ow} (ho : o.Ok h) : ∀ n, n ≤ h.cells.length → liveN ((clrC h.cells o.cs).take n) + (reachN n o.cs).length = liveN (h.cells.take n)
 | 0, _ => by simp [liveN, reachN]
 | n + 1, hn => by
  have ih := live_clr ho n (by omega)
  obtain ⟨c, hc⟩ := get?_of (show n < h.cells.length by omega)
  have h1 := clrC_get o.cs h.cells n
  rw [List.take_add_one, List.take_add_one, live_app, live_app, reachN_succ, hc, h1]
  by_cases hm : n ∈ o.cs
  ·obtain ⟨c', hc', hl⟩ := ho.lt n hm
   rw [hc] at hc'
   cases hc'
   rw [if_pos ⟨hm, by omega⟩, if_pos hm]
   simp only [Option.toList_some, liveN, List.length_append, List.length_singleton, hl, if_true]
   simp [Cl.zero]
   omega
  ·rw [if_neg (fun hh => hm hh.1), if_neg hm, hc]
   omega
theorem live_closed {h : Hp} {o : Ow} (ho : o.Ok h) : liveN (closedS h o).cells + (reachN h.cells.length o.cs).length = liveN h.cells := by
 have := live_clr ho h.cells.length (Nat.le_refl _)
 rw [List.take_length, List.take_of_length_le (by rw [clrC_len]; exact Nat.le_refl _)] at this
 exact this
theorem mem_reachN {n i : Nat} {cs : List Nat} (hi : i < n) : ((i : Int) ∈ reachN n cs) ↔ i ∈ cs := by
 unfold reachN
 rw [List.mem_map]
 constructor
 ·rintro ⟨a, ha, e⟩
  have : a = i := by omega
  subst this
  simpa using (List.mem_filter.1 ha).2
 ·intro h
  exact ⟨i, by rw [List.mem_filter, List.mem_range]; exact ⟨hi, by simpa using h⟩, rfl⟩
theorem zlive : Cl.zero.live = false := rfl
theorem drops_pc (D : List Dt) (h : Hp) (v : Vl) (hb : HB h) (hv : v.sz ≤ 2 ^ 20) (hD : D.length ≤ 2 ^ 30) : PCall Try.prog 8 [.sl (dl D), h.av, v.av] (.bool true) := by
 have hhd := head_pc
 have hfw := few_call h v (by omega) hb.z hb.l
 have hm := hb.sm hv
 by_cases hf : fewB h v
 case neg =>
  rw [decide_eq_false hf] at hfw
  rw [Hp.av_eq, Vl.av_eq] at hfw ⊢
  refine PCall.intro Try.func8 rfl isf8 (by simp [Try.f8]) (by simp [AV.cloL, AV.clo]) fun E Q hE hN hQ => K_start ?_
  repeat' (first | apply nx | refine Kq_exit_ne (by decide) ?_ | rw [wrap64 (by omega) (by omega)] | ((first | refine hK _ ?_ | refine hKp _ _ ?_); clear hK hKp K Kp; try clear hanc anc) | ((with_reducible refine And.intro ?_ ?_); (focus (first | trivial | omega | (simp only [Fits]; omega) | assumption | (rw [hanc]; rfl)))) | ((first | refine K_regA hE fun K Kp hK hKp => ?_ | refine K_drwA false mixed hE fun K Kp hK hKp anc hanc => ?_ | ((first | apply CallP_mk | apply CallB_mk); (focus (simp only [go_sem] <;> rfl)); (focus (first | exact hhd | exact hfw)); (focus (first | (simp [go_sem]; done) | (simp [go_sem, CloRow, AV.cells, AV.clo]; done))); (focus (first | exact .inl rfl | (right; simp [go_sem]))))); simp only [go_sem]) | ((first | refine onG_split_t (fun hg => ?_) (fun hg => ?_) | refine onG_split_f (fun hg => ?_) (fun hg => ?_)) <;> simp only [go_sem, hg]) | (refine K_condA (fun hc => ?_) (fun hc => ?_) <;> try (exact absurd hc (by decide))) | (refine K_ret ?_; refine (hQ _ ⟨_, by (try simp only [go_sem, ↓reduceIte, Nat.reduceEqDiff]); rfl, by simp [go_sem], ?_, by first | rfl | assumption⟩).1))
  rfl
 rw [decide_eq_true hf] at hfw
 obtain ⟨f1, f2⟩ := few_lt hf
 have d1 := drop_call D h v hm hD
 have e1 := close_call h v hm
 have g1 := count_call h v hm
 have i1 := reach_call h v hm
 have hdl := drop_len D hm (by omega)
 by_cases hok : ∃ o, walkS h v = some o ∧ o.ids.any (unkB (dl D)) = false
 case neg =>
  have hd : dropS D h v = (hp0, Fa.nil, 1) := by
   unfold dropS
   split
   ·rfl
   ·rename_i o ho
    rw [if_pos]
    cases hx : o.ids.any (unkB (dl D))
    ·exact absurd ⟨o, ho, hx⟩ hok
    ·rfl
  rw [hd] at d1
  generalize closeS h v = Cs at *
  obtain ⟨C2, Ce2⟩ := Cs
  simp only [resD, Hp.av_eq, Vl.av_eq, hp0, Fa.nil, cl_nil] at *
  refine PCall.intro Try.func8 rfl isf8 (by simp [Try.f8]) (by simp [AV.cloL, AV.clo]) fun E Q hE hN hQ => K_start ?_
  repeat' (first | apply nx | refine Kq_exit_ne (by decide) ?_ | rw [wrap64 (by omega) (by omega)] | ((first | refine hK _ ?_ | refine hKp _ _ ?_); clear hK hKp K Kp; try clear hanc anc) | ((with_reducible refine And.intro ?_ ?_); (focus (first | trivial | omega | (simp only [Fits]; omega) | assumption | (rw [hanc]; rfl)))) | ((first | refine K_regA hE fun K Kp hK hKp => ?_ | refine K_drwA false mixed hE fun K Kp hK hKp anc hanc => ?_ | ((first | apply CallP_mk | apply CallB_mk); (focus (simp only [go_sem] <;> rfl)); (focus (first | exact hhd | exact hfw | exact d1 | exact e1)); (focus (first | (simp [go_sem]; done) | (simp [go_sem, CloRow, AV.cells, AV.clo]; done))); (focus (first | exact .inl rfl | (right; simp [go_sem]))))); simp only [go_sem, Int.cast_ofNat_Int, nc0, List.length_nil]) | ((first | refine onG_split_t (fun hg => ?_) (fun hg => ?_) | refine onG_split_f (fun hg => ?_) (fun hg => ?_)) <;> simp only [go_sem, Int.cast_ofNat_Int, nc0, List.length_nil, hg]) | (refine K_condA (fun hc => ?_) (fun hc => ?_) <;> try (exact absurd hc (by decide))) | (refine K_ret ?_; refine (hQ _ ⟨_, by (try simp only [go_sem, ↓reduceIte, Nat.reduceEqDiff]); rfl, by simp [go_sem], ?_, by first | rfl | assumption⟩).1))
  all_goals rfl
 obtain ⟨o, hs, ha⟩ := hok
 have hoo := walkS_ok hs
 have ed : dropS D h v = (closedS h o, dropAll (drs D) h v, 0) := by unfold dropS; rw [hs]; simp only; rw [if_neg (by simp [ha])]
 have ec : closeS h v = (closedS h o, 0) := by unfold closeS; rw [hs]
 have en : countS h v = o.ids.length := by unfold countS; rw [hs]
 have er : reachS h v = reachN h.cells.length o.cs := by unfold reachS; rw [hs]
 have hcn := foldF_cnt (drs D) o.ids Fa.nil rfl
 rw [← dropAll_ids hs] at hcn
 rw [ed] at d1 hdl
 rw [ec] at e1
 rw [en] at g1
 rw [er] at i1
 simp only at hdl
 have hbc := hb.closed o
 have s1 := hbc.same (closedS h o)
 rw [decide_refl] at s1
 have hlv := live_closed hoo
 have l1 := live_call (closedS h o) (by have := hbc.l; omega)
 have l2 := live_call h (by omega)
 have hrl := reachN_len h.cells.length o.cs
 have ncl := fun i : Nat => in_call (reachN h.cells.length o.cs) (i : Int) (by omega)
 have hgc : ∀ i, (closedS h o).cells[i]? = if i ∈ o.cs ∧ i < h.cells.length then some Cl.zero else h.cells[i]? := fun i => clrC_get _ _ _
 have hga : ∀ i, (closedS h o).arenas[i]? = if i ∈ o.ags ∧ i < h.arenas.length then some false else h.arenas[i]? := fun i => clrA_get _ _ _
 have hcl : (closedS h o).cells.length = h.cells.length := clrC_len _ _
 have hca : (closedS h o).arenas.length = h.arenas.length := clrA_len _ _
 have hmr := fun i hi => mem_reachN (n := h.cells.length) (i := i) (cs := o.cs) hi
 have hll := liveN_le h.cells
 simp only [Fa.nil] at hcn
 clear ed ec en er ha hs
 generalize dropAll (drs D) h v = F at *
 generalize reachN h.cells.length o.cs = R at *
 generalize closedS h o = C at *
 have q1 : ((C.cells.length : Int) != (h.cells.length : Int)) = false := by simp [hcl]
 have q2 : ((C.arenas.length : Int) != (h.arenas.length : Int)) = false := by simp [hca]
 have u1 : IntKind.i64.wrap (((liveN h.cells : Nat) : Int) - (R.length : Int)) = ((liveN h.cells : Nat) : Int) - (R.length : Int) := wrap64 (by omega) (by omega)
 have q3 : (((liveN C.cells : Nat) : Int) != ((liveN h.cells : Nat) : Int) - (R.length : Int)) = false := by simp; omega
 simp only [resD, Hp.av_eq, Vl.av_eq] at *
 refine PCall.intro Try.func8 rfl isf8 (by simp [Try.f8]) (by simp [AV.cloL, AV.clo]) fun E Q hE hN hQ => K_start ?_
 repeat' (first | apply nx | refine Kq_exit_ne (by decide) ?_ | rw [wrap64 (by omega) (by omega)] | ((first | refine hK _ ?_ | refine hKp _ _ ?_); clear hK hKp K Kp; try clear hanc anc) | ((with_reducible refine And.intro ?_ ?_); (focus (first | trivial | omega | (simp only [Fits]; omega) | assumption | (rw [hanc]; rfl)))) | ((first | refine K_regA hE fun K Kp hK hKp => ?_ | refine K_drwA true mixed hE fun K Kp hK hKp anc hanc => ?_ | refine K_drwA false mixed hE fun K Kp hK hKp anc hanc => ?_ | ((first | apply CallP_mk | apply CallB_mk); (focus (simp only [go_sem] <;> rfl)); (focus (first | exact hhd | exact hfw | exact d1 | exact e1 | exact i1 | exact g1 | exact s1 | exact l1 | exact l2)); (focus (first | (simp [go_sem]; done) | (simp [go_sem, CloRow, AV.cells, AV.clo]; done))); (focus (first | exact .inl rfl | (right; simp [go_sem]))))); simp only [go_sem, q1, q2, q3, u1]) | ((first | refine onG_split_t (fun hg => ?_) (fun hg => ?_) | refine onG_split_f (fun hg => ?_) (fun hg => ?_)) <;> simp only [go_sem, q1, q2, q3, u1, hg]) | (refine K_condA (fun hc => ?_) (fun hc => ?_) <;> try (exact absurd hc (by decide))))
 refine K_loop (X := Nat) (fun x => x ≤ h.cells.length) (fun x => mkSt [(4, .ptr 0 0), (7, .bool true), (8, .ptr 1 0), (9, .sl (il F.out)), (10, .i (F.cnt : Int)), (11, .bool F.pan), (15, .sl (il R)), (16, .i (o.ids.length : Int)), (17, .i x)] [(0, .cells [.sl (cl h.cells), .sl (bl h.arenas)]), (1, .cells [.sl (cl C.cells), .sl (bl C.arenas)])] 2) (fun x => h.cells.length - x) 0 (Nat.zero_le _) (fun i => if i = 0 then 0 else 19922944) (by refine ent_mk (by simp [go_sem]) (by simp [go_sem]) (by simp) (by simp [hN])) ?_
 intro i hi
 by_cases hlt : i < h.cells.length
 ·obtain ⟨c, hcc⟩ := get?_of hlt
  have hn1 := ncl i
  have hC := hgc i
  by_cases hmem : i ∈ o.cs
  ·rw [decide_eq_true ((hmr i hlt).2 hmem)] at hn1
   rw [if_pos ⟨hmem, hlt⟩] at hC
   obtain ⟨c', hc', hlc⟩ := hoo.lt i hmem
   rw [hcc] at hc'
   cases hc'
   repeat' (first | apply nx | refine Kq_exit_ne (by decide) ?_ | rw [wrap64 (by omega) (by omega)] | ((first | refine hK _ ?_ | refine hKp _ _ ?_); clear hK hKp K Kp; try clear hanc anc) | ((with_reducible refine And.intro ?_ ?_); (focus (first | trivial | omega | (simp only [Fits]; omega) | assumption | (rw [hanc]; rfl)))) | ((first | refine K_regA hE fun K Kp hK hKp => ?_ | refine K_drwA true mixed hE fun K Kp hK hKp anc hanc => ?_ | refine K_drwA false mixed hE fun K Kp hK hKp anc hanc => ?_ | ((first | apply CallP_mk | apply CallB_mk); (focus (simp only [go_sem] <;> rfl)); (focus (exact hn1)); (focus (first | (simp [go_sem]; done) | (simp [go_sem, CloRow, AV.cells, AV.clo]; done))); (focus (first | exact .inl rfl | (right; simp [go_sem]))))); simp only [go_sem, lt_dec hlt, hcc, hC, zlive, Cl.av, Cl.cs_eq, hlc]) | ((first | refine onG_split_t (fun hg => ?_) (fun hg => ?_) | refine onG_split_f (fun hg => ?_) (fun hg => ?_)) <;> simp only [go_sem, lt_dec hlt, hcc, hC, zlive, Cl.av, Cl.cs_eq, hlc, hg]) | (refine K_condA (fun hc => ?_) (fun hc => ?_) <;> try (exact absurd hc (by decide))))
   exact ⟨i + 1, hlt, by omega, fun i => i, by refine ent_mk (by simp [go_sem]) (by simp [go_sem]) (by simp) (by simp [hN])⟩
  ·rw [decide_eq_false (fun hh => hmem ((hmr i hlt).1 hh))] at hn1
   rw [if_neg (fun hh => hmem hh.1), hcc] at hC
   have s2 := sameC_call c c (by have := hb.m c (List.mem_of_getElem? hcc); omega)
   rw [decide_refl] at s2
   simp only [Cl.cs_eq] at s2
   repeat' (first | apply nx | refine Kq_exit_ne (by decide) ?_ | rw [wrap64 (by omega) (by omega)] | ((first | refine hK _ ?_ | refine hKp _ _ ?_); clear hK hKp K Kp; try clear hanc anc) | ((with_reducible refine And.intro ?_ ?_); (focus (first | trivial | omega | (simp only [Fits]; omega) | assumption | (rw [hanc]; rfl)))) | ((first | refine K_regA hE fun K Kp hK hKp => ?_ | refine K_drwA true mixed hE fun K Kp hK hKp anc hanc => ?_ | refine K_drwA false mixed hE fun K Kp hK hKp anc hanc => ?_ | ((first | apply CallP_mk | apply CallB_mk); (focus (simp only [go_sem] <;> rfl)); (focus (first | exact hn1 | exact s2)); (focus (first | (simp [go_sem]; done) | (simp [go_sem, CloRow, AV.cells, AV.clo]; done))); (focus (first | exact .inl rfl | (right; simp [go_sem]))))); simp only [go_sem, lt_dec hlt, hcc, hC, Cl.av, Cl.cs_eq]) | ((first | refine onG_split_t (fun hg => ?_) (fun hg => ?_) | refine onG_split_f (fun hg => ?_) (fun hg => ?_)) <;> simp only [go_sem, lt_dec hlt, hcc, hC, Cl.av, Cl.cs_eq, hg]) | (refine K_condA (fun hc => ?_) (fun hc => ?_) <;> try (exact absurd hc (by decide))))
   exact ⟨i + 1, hlt, by omega, fun i => i, by refine ent_mk (by simp [go_sem]) (by simp [go_sem]) (by simp) (by simp [hN])⟩
 obtain rfl : i = h.cells.length := by omega
 repeat' (first | apply nx | refine Kq_exit_ne (by decide) ?_ | rw [wrap64 (by omega) (by omega)] | ((first | refine hK _ ?_ | refine hKp _ _ ?_); clear hK hKp K Kp; try clear hanc anc) | ((with_reducible refine And.intro ?_ ?_); (focus (first | trivial | omega | (simp only [Fits]; omega) | assumption | (rw [hanc]; rfl)))) | ((first | refine K_regA hE fun K Kp hK hKp => ?_ | refine K_drwA true mixed hE fun K Kp hK hKp anc hanc => ?_ | refine K_drwA false mixed hE fun K Kp hK hKp anc hanc => ?_); simp only [go_sem, ge_dec]) | ((first | refine onG_split_t (fun hg => ?_) (fun hg => ?_) | refine onG_split_f (fun hg => ?_) (fun hg => ?_)) <;> simp only [go_sem, ge_dec, hg]) | (refine K_condA (fun hc => ?_) (fun hc => ?_) <;> try (exact absurd hc (by decide))))
 refine K_loop (X := Nat) (fun x => x ≤ h.arenas.length) (fun x => mkSt [(4, .ptr 0 0), (7, .bool true), (8, .ptr 1 0), (9, .sl (il F.out)), (10, .i (F.cnt : Int)), (11, .bool F.pan), (16, .i (o.ids.length : Int)), (18, .i x)] [(0, .cells [.sl (cl h.cells), .sl (bl h.arenas)]), (1, .cells [.sl (cl C.cells), .sl (bl C.arenas)])] 2) (fun x => h.arenas.length - x) 0 (Nat.zero_le _) (fun i => i) (by refine ent_mk (by simp [go_sem]) (by simp [go_sem]) (by simp) (by simp [hN])) ?_
 intro i hi
 by_cases hlt : i < h.arenas.length
 ·obtain ⟨b, hbb⟩ := get?_of hlt
  have hC := hga i
  by_cases hmem : i ∈ o.ags
  ·rw [if_pos ⟨hmem, hlt⟩] at hC
   repeat' (first | apply nx | refine Kq_exit_ne (by decide) ?_ | rw [wrap64 (by omega) (by omega)] | ((first | refine hK _ ?_ | refine hKp _ _ ?_); clear hK hKp K Kp; try clear hanc anc) | ((with_reducible refine And.intro ?_ ?_); (focus (first | trivial | omega | (simp only [Fits]; omega) | assumption | (rw [hanc]; rfl)))) | ((first | refine K_regA hE fun K Kp hK hKp => ?_ | refine K_drwA true mixed hE fun K Kp hK hKp anc hanc => ?_ | refine K_drwA false mixed hE fun K Kp hK hKp anc hanc => ?_); simp only [go_sem, lt_dec hlt, hbb, hC]) | ((first | refine onG_split_t (fun hg => ?_) (fun hg => ?_) | refine onG_split_f (fun hg => ?_) (fun hg => ?_)) <;> simp only [go_sem, lt_dec hlt, hbb, hC, hg]) | (refine K_condA (fun hc => ?_) (fun hc => ?_) <;> try (exact absurd hc (by decide))))
   exact ⟨i + 1, hlt, by omega, fun i => i, by refine ent_mk (by simp [go_sem]) (by simp [go_sem]) (by simp) (by simp [hN])⟩
  ·rw [if_neg (fun hh => hmem hh.1), hbb] at hC
   cases b
   ·repeat' (first | apply nx | refine Kq_exit_ne (by decide) ?_ | rw [wrap64 (by omega) (by omega)] | ((first | refine hK _ ?_ | refine hKp _ _ ?_); clear hK hKp K Kp; try clear hanc anc) | ((with_reducible refine And.intro ?_ ?_); (focus (first | trivial | omega | (simp only [Fits]; omega) | assumption | (rw [hanc]; rfl)))) | ((first | refine K_regA hE fun K Kp hK hKp => ?_ | refine K_drwA true mixed hE fun K Kp hK hKp anc hanc => ?_ | refine K_drwA false mixed hE fun K Kp hK hKp anc hanc => ?_); simp only [go_sem, lt_dec hlt, hbb, hC]) | ((first | refine onG_split_t (fun hg => ?_) (fun hg => ?_) | refine onG_split_f (fun hg => ?_) (fun hg => ?_)) <;> simp only [go_sem, lt_dec hlt, hbb, hC, hg]) | (refine K_condA (fun hc => ?_) (fun hc => ?_) <;> try (exact absurd hc (by decide))))
    exact ⟨i + 1, hlt, by omega, fun i => i, by refine ent_mk (by simp [go_sem]) (by simp [go_sem]) (by simp) (by simp [hN])⟩
   ·repeat' (first | apply nx | refine Kq_exit_ne (by decide) ?_ | rw [wrap64 (by omega) (by omega)] | ((first | refine hK _ ?_ | refine hKp _ _ ?_); clear hK hKp K Kp; try clear hanc anc) | ((with_reducible refine And.intro ?_ ?_); (focus (first | trivial | omega | (simp only [Fits]; omega) | assumption | (rw [hanc]; rfl)))) | ((first | refine K_regA hE fun K Kp hK hKp => ?_ | refine K_drwA true mixed hE fun K Kp hK hKp anc hanc => ?_ | refine K_drwA false mixed hE fun K Kp hK hKp anc hanc => ?_); simp only [go_sem, lt_dec hlt, hbb, hC]) | ((first | refine onG_split_t (fun hg => ?_) (fun hg => ?_) | refine onG_split_f (fun hg => ?_) (fun hg => ?_)) <;> simp only [go_sem, lt_dec hlt, hbb, hC, hg]) | (refine K_condA (fun hc => ?_) (fun hc => ?_) <;> try (exact absurd hc (by decide))))
    exact ⟨i + 1, hlt, by omega, fun i => i, by refine ent_mk (by simp [go_sem]) (by simp [go_sem]) (by simp) (by simp [hN])⟩
 obtain rfl : i = h.arenas.length := by omega
 have q4 : decide ((F.out.length : Int) ≤ (F.cnt : Int)) = true := by rw [decide_eq_true_eq]; omega
 cases hp : F.pan
 ·have q5 : ((F.cnt : Int) == (o.ids.length : Int)) = true := by have := hcn.1 hp; simp; omega
  repeat' (first | apply nx | refine Kq_exit_ne (by decide) ?_ | rw [wrap64 (by omega) (by omega)] | ((first | refine hK _ ?_ | refine hKp _ _ ?_); clear hK hKp K Kp; try clear hanc anc) | ((with_reducible refine And.intro ?_ ?_); (focus (first | trivial | omega | (simp only [Fits]; omega) | assumption | (rw [hanc]; rfl)))) | ((first | refine K_regA hE fun K Kp hK hKp => ?_ | refine K_drwA false mixed hE fun K Kp hK hKp anc hanc => ?_); simp only [go_sem, ge_dec, q4, q5, hp]) | ((first | refine onG_split_t (fun hg => ?_) (fun hg => ?_) | refine onG_split_f (fun hg => ?_) (fun hg => ?_)) <;> simp only [go_sem, ge_dec, q4, q5, hp, hg]) | (refine K_condA (fun hc => ?_) (fun hc => ?_) <;> try (exact absurd hc (by decide))) | (refine K_ret ?_; refine (hQ _ ⟨_, by (try simp only [go_sem, ↓reduceIte, Nat.reduceEqDiff]); rfl, by simp [go_sem], ?_, by first | rfl | assumption⟩).1))
  all_goals rfl
 ·have := hcn.2 hp
  have q5 : decide (1 ≤ (F.cnt : Int)) = true := by rw [decide_eq_true_eq]; omega
  have q6 : decide ((F.cnt : Int) ≤ (o.ids.length : Int)) = true := by rw [decide_eq_true_eq]; omega
  repeat' (first | apply nx | refine Kq_exit_ne (by decide) ?_ | rw [wrap64 (by omega) (by omega)] | ((first | refine hK _ ?_ | refine hKp _ _ ?_); clear hK hKp K Kp; try clear hanc anc) | ((with_reducible refine And.intro ?_ ?_); (focus (first | trivial | omega | (simp only [Fits]; omega) | assumption | (rw [hanc]; rfl)))) | ((first | refine K_regA hE fun K Kp hK hKp => ?_ | refine K_drwA false mixed hE fun K Kp hK hKp anc hanc => ?_); simp only [go_sem, ge_dec, q4, q5, q6, hp]) | ((first | refine onG_split_t (fun hg => ?_) (fun hg => ?_) | refine onG_split_f (fun hg => ?_) (fun hg => ?_)) <;> simp only [go_sem, ge_dec, q4, q5, q6, hp, hg]) | (refine K_condA (fun hc => ?_) (fun hc => ?_) <;> try (exact absurd hc (by decide))) | (refine K_ret ?_; refine (hQ _ ⟨_, by (try simp only [go_sem, ↓reduceIte, Nat.reduceEqDiff]); rfl, by simp [go_sem], ?_, by first | rfl | assumption⟩).1))
  all_goals rfl
end Go.Proofs.Ytdgmjbgjahmoaaa
