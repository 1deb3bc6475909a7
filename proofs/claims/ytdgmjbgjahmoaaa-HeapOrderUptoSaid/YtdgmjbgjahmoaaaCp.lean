/- A part of the proof: an abstract machine for the walks, and what the walked functions compute. -/
import Derived.Test.YtdgmjbgjahmoaaaCo
import Derived.Test.YtdgmjbgjahmoaaaCh
set_option linter.unusedVariables false
set_option linter.unusedSimpArgs false
set_option linter.unusedSimpArgs false
set_option linter.unusedVariables false
set_option maxHeartbeats 4000000
set_option maxRecDepth 100000
namespace Go.Proofs.Ytdgmjbgjahmoaaa
open Nat (reduceAdd reduceMul reduceEqDiff reduceLT reduceLeDiff reduceSub reduceDiv)
open Int (reduceBNe reduceLE reduceEq)
open Go.Am Go.Proofs Go.Hv
open Classical
attribute [local irreducible] AW CallP CallB CallY
theorem foldF_add (d : List Int) (hd : ∀ n, 0 ≤ d.getD n 0) : ∀ (l : List Int) (f : Fa), f.pan = false → l.foldl (stepF d) f = ⟨f.out ++ (l.foldl (stepF d) Fa.nil).out, f.cnt + (l.foldl (stepF d) Fa.nil).cnt, false⟩
 | [], f, h => by cases f; simp only [List.foldl_nil, Fa.nil, List.append_nil, Nat.add_zero] at h ⊢; rw [h]
 | x :: l, f, h => by
  have hx := hd x.toNat
  have p1 : (f.add (d.getD x.toNat 0)).pan = false := by simp only [Fa.add, decide_eq_false_iff_not]; omega
  have p2 : (Fa.nil.add (d.getD x.toNat 0)).pan = false := by simp only [Fa.add, decide_eq_false_iff_not]; omega
  rw [List.foldl_cons, List.foldl_cons, show stepF d f x = f.add (d.getD x.toNat 0) from if_neg (by simp [h]), show stepF d Fa.nil x = Fa.nil.add (d.getD x.toNat 0) from if_neg (by simp [Fa.nil]), foldF_add d hd l _ p1, foldF_add d hd l (Fa.nil.add _) p2]
  simp only [Fa.add, Fa.nil]
  split
  ·simp; omega
  ·simp; omega
theorem closed_app (h : Hp) (a : Ow) (b : Ow) : closedS (closedS h a) b = closedS h ⟨a.cs ++ b.cs, a.ags ++ b.ags, a.ids ++ b.ids⟩ := by
 unfold closedS
 simp only [clrC_app, clrA_app]
theorem closed_nil (h : Hp) (l : List Int) : closedS h ⟨[], [], l⟩ = h := rfl
theorem field_step {D : List Dt} {h : Hp} {x : Vl} {a b : Ow} (ha : a.Ok h) (hx : visV h (visE h h.cells.length) x a = some b) (hD : ∀ n, 0 ≤ (drs D).getD n 0) (hr : ∀ y, y ∈ b.ids → unkB (dl D) y = false) :
    dropS D (closedS h a) x = (closedS h b, (b.ids.drop a.ids.length).foldl (stepF (drs D)) Fa.nil, 0) ∧
    (b.ids.foldl (stepF (drs D)) Fa.nil).out = (a.ids.foldl (stepF (drs D)) Fa.nil).out ++ ((b.ids.drop a.ids.length).foldl (stepF (drs D)) Fa.nil).out ∧
    (b.ids.foldl (stepF (drs D)) Fa.nil).cnt = (a.ids.foldl (stepF (drs D)) Fa.nil).cnt + ((b.ids.drop a.ids.length).foldl (stepF (drs D)) Fa.nil).cnt := by
  have hb := (visV_keeps (visE_keeps h _) x a b ha hx).1
  obtain ⟨dl', dm, di, rfl, g⟩ := visV_other ha hx
  have hnd : ∀ j, j ∈ dl' → j ∉ a.cs := fun j hj hj2 => (List.nodup_append.1 hb.nd).2.2 j hj2 j hj rfl
  have hna : ∀ j, j ∈ dm → j ∉ a.ags := fun j hj hj2 => (List.nodup_append.1 hb.and).2.2 j hj2 j hj rfl
  have k1 := g (closedS h a) h.cells.length Ow.nil (agr_closed (Nat.le_refl _) hnd hna)
  have k2 : walkS (closedS h a) x = some ⟨dl', dm, di⟩ := by unfold walkS; rw [closed_cells]; exact k1
  have hany : di.any (unkB (dl D)) = false := by
    rw [List.any_eq_false]
    intro y hy
    simpa using hr y (List.mem_append_right _ hy)
  simp only [List.drop_left]
  rw [dropS_of k2 hany, closed_app]
  refine ⟨rfl, ?_, ?_⟩
  · rw [List.foldl_append, foldF_add (drs D) hD di _ (foldF_calm (drs D) hD _ _ rfl)]
  · rw [List.foldl_append, foldF_add (drs D) hD di _ (foldF_calm (drs D) hD _ _ rfl)]
theorem box_walk {h : Hp} {v : Vl} {o : Ow} (hw : walkS h v = some o) (n : Nat) (hn : n = firstDead h.cells) :
    ∃ o', walkS ⟨putC h.cells n ⟨true, -1, v⟩, h.arenas⟩ (numV 3 n) = some o' ∧ o'.ids = o.ids := by
  have hget : ∀ j, (putC h.cells n ⟨true, -1, v⟩)[j]? = if j = n then some ⟨true, -1, v⟩ else h.cells[j]? := fun j => by rw [hn]; exact putC_get _ _ _
  have hlen : (putC h.cells n ⟨true, -1, v⟩).length = max h.cells.length (n + 1) := by rw [hn]; exact putC_len _ _
  have hoo := walkS_ok hw
  obtain ⟨dl', dm, di, e, g⟩ := visV_other (Ow.nil_ok h) (show visV h (visE h h.cells.length) v Ow.nil = some o from hw)
  generalize hb : (⟨putC h.cells n ⟨true, -1, v⟩, h.arenas⟩ : Hp) = b at *
  have hbc : ∀ j, b.cells[j]? = if j = n then some ⟨true, -1, v⟩ else h.cells[j]? := fun j => by rw [← hb]; exact hget j
  have hbl : b.cells.length = max h.cells.length (n + 1) := by rw [← hb]; exact hlen
  have hba : b.arenas = h.arenas := by rw [← hb]
  obtain ⟨k, hk⟩ : ∃ k, b.cells.length = k + 1 := ⟨b.cells.length - 1, by omega⟩
  have e1 : dl' = o.cs := by rw [e]; simp [Ow.nil]
  have e2 : di = o.ids := by rw [e]; simp [Ow.nil]
  have hne : ∀ j, j ∈ dl' → j ≠ n := by
    intro j hj hjn
    subst hjn
    rw [e1] at hj
    obtain ⟨c, hc, hl⟩ := hoo.lt j hj
    have hlt := (List.getElem?_eq_some_iff.1 hc).1
    obtain ⟨c', hc', hl'⟩ := fd_dead h.cells (by rw [← hn]; exact hlt)
    rw [← hn, hc] at hc'
    cases hc'
    rw [hl] at hl'
    cases hl'
  have hr := g b k ⟨[n], [], []⟩ ⟨⟨by simp, fun j hj => (by
    simp only [List.mem_singleton] at hj
    subst hj
    exact ⟨⟨true, -1, v⟩, by rw [hbc, if_pos rfl], rfl⟩), List.nodup_nil, fun j hj => by cases hj⟩, by simp; omega, fun j c hj hl har => (by
    rw [hbc] at hj
    split at hj
    · cases hj; simp at har
    · exact hj), fun j hj => ⟨by rw [hbc, if_neg (hne j hj)], by simpa using hne j hj⟩, fun j hj => ⟨by rw [hba], by simp⟩⟩
  refine ⟨⟨[n] ++ dl', [] ++ dm, [] ++ di⟩, ?_, ?_⟩
  · show (walkS b (numV 3 n)) = _
    unfold walkS
    rw [hk, visV, if_neg (by decide), if_pos rfl, if_pos (by simp [boxOk, hbc]), Int.toNat_natCast, visE, if_neg (by simp [Ow.nil]), hbc, if_pos rfl]
    exact hr
  · simp [e2]
theorem drs_nonneg {D : List Dt} (h : ∀ d, d ∈ D → 0 ≤ d.dr) (n : Nat) : 0 ≤ (drs D).getD n 0 := by
 simp only [drs, List.getD_eq_getElem?_getD, List.getElem?_map]
 cases hd : D[n]? with
 | none => simp
 | some d => simpa using h d (List.mem_of_getElem? hd)
theorem il_app2 (a b : List Int) : il a ++ il b = il (a ++ b) := by simp [il]
theorem foldF_out (d : List Int) : ∀ (l : List Int) (f : Fa), f.out.length ≤ f.cnt → (l.foldl (stepF d) f).out.length ≤ (l.foldl (stepF d) f).cnt
 | [], f, h => h
 | x :: l, f, h => by
  rw [List.foldl_cons]
  refine foldF_out d l _ ?_
  unfold stepF
  split
  ·exact h
  ·unfold Fa.add
   simp only
   split
   ·simp only [List.length_append, List.length_singleton]; omega
   ·omega
theorem calm_cnt (d : List Int) (hd : ∀ n, 0 ≤ d.getD n 0) (l : List Int) : (l.foldl (stepF d) Fa.nil).cnt = l.length := by
 have := (foldF_cnt d l Fa.nil rfl).1 (foldF_calm d hd l Fa.nil rfl)
 simpa [Fa.nil] using this
theorem order_pc (D : List Dt) (h : Hp) (id : Int) (fs : List Vl) (hb : HB h) (hv : 1 + Vl.szL fs ≤ 2 ^ 20) (hD : D.length ≤ 2 ^ 30) : PCall Try.prog 5 [.sl (dl D), h.av, .i id, .sl (Vl.avL fs)] (.bool true) := by
 have hhd := head_pc
 have hvs : (wh id fs).sz ≤ 2 ^ 20 := by rw [Vl.sz_eq]; simpa [wh, Vl.path, Vl.loans, Vl.fs] using hv
 have hfw := few_call h (wh id fs) (by omega) hb.z hb.l
 rw [show (wh id fs).av = .agg [.i 2, .i id, .i 0, .i 0, .sl (Vl.avL fs), .bool false, .sl [], .sl []] from rfl] at hfw
 have hfl := Vl.len_le fs
 by_cases hf : fewB h (wh id fs)
 case neg =>
  rw [decide_eq_false hf] at hfw
  simp only [Hp.av_eq] at *
  refine PCall.intro Try.func5 rfl isf5 (by simp [Try.f5]) (by simp [AV.cloL, AV.clo]) fun E Q hE hN hQ => K_start ?_
  repeat' (first | apply nx | refine Kq_exit_ne (by decide) ?_ | rw [wrap64 (by omega) (by omega)] | ((first | refine hK _ ?_ | refine hKp _ _ ?_); clear hK hKp K Kp; try clear hanc anc) | ((with_reducible refine And.intro ?_ ?_); (focus (first | trivial | omega | (simp only [Fits]; omega) | assumption | (rw [hanc]; rfl)))) | ((first | refine K_regA hE fun K Kp hK hKp => ?_ | refine K_drwA false mixed hE fun K Kp hK hKp anc hanc => ?_ | ((first | apply CallP_mk | apply CallB_mk); (focus (simp only [go_sem] <;> rfl)); (focus (first | exact hhd | exact hfw)); (focus (first | (simp [go_sem]; done) | (simp [go_sem, CloRow, AV.cells, AV.clo]; done))); (focus (first | exact .inl rfl | (right; simp [go_sem]))))); simp only [go_sem]) | ((first | refine onG_split_t (fun hg => ?_) (fun hg => ?_) | refine onG_split_f (fun hg => ?_) (fun hg => ?_)) <;> simp only [go_sem, hg]) | (refine K_condA (fun hc => ?_) (fun hc => ?_) <;> try (exact absurd hc (by decide))) | (refine K_ret ?_; refine (hQ _ ⟨_, by (try simp only [go_sem, ↓reduceIte, Nat.reduceEqDiff]); rfl, by simp [go_sem], ?_, by first | rfl | assumption⟩).1))
  rfl
 rw [decide_eq_true hf] at hfw
 obtain ⟨f1, f2⟩ := few_lt hf
 by_cases h1 : id < 0
 ·have q1 : decide (id < 0) = true := by simpa using h1
  simp only [Hp.av_eq] at *
  refine PCall.intro Try.func5 rfl isf5 (by simp [Try.f5]) (by simp [AV.cloL, AV.clo]) fun E Q hE hN hQ => K_start ?_
  repeat' (first | apply nx | refine Kq_exit_ne (by decide) ?_ | rw [wrap64 (by omega) (by omega)] | ((first | refine hK _ ?_ | refine hKp _ _ ?_); clear hK hKp K Kp; try clear hanc anc) | ((with_reducible refine And.intro ?_ ?_); (focus (first | trivial | omega | (simp only [Fits]; omega) | assumption | (rw [hanc]; rfl)))) | ((first | refine K_regA hE fun K Kp hK hKp => ?_ | refine K_drwA false mixed hE fun K Kp hK hKp anc hanc => ?_ | ((first | apply CallP_mk | apply CallB_mk); (focus (simp only [go_sem] <;> rfl)); (focus (first | exact hhd | exact hfw)); (focus (first | (simp [go_sem]; done) | (simp [go_sem, CloRow, AV.cells, AV.clo]; done))); (focus (first | exact .inl rfl | (right; simp [go_sem]))))); simp only [go_sem, q1]) | ((first | refine onG_split_t (fun hg => ?_) (fun hg => ?_) | refine onG_split_f (fun hg => ?_) (fun hg => ?_)) <;> simp only [go_sem, q1, hg]) | (refine K_condA (fun hc => ?_) (fun hc => ?_) <;> try (exact absurd hc (by decide))) | (refine K_ret ?_; refine (hQ _ ⟨_, by (try simp only [go_sem, ↓reduceIte, Nat.reduceEqDiff]); rfl, by simp [go_sem], ?_, by first | rfl | assumption⟩).1))
  rfl
 have q1 : decide (id < 0) = false := by simpa using h1
 by_cases h2 : (D.length : Int) ≤ id
 ·have q2 : decide ((D.length : Int) ≤ id) = true := by simpa using h2
  simp only [Hp.av_eq] at *
  refine PCall.intro Try.func5 rfl isf5 (by simp [Try.f5]) (by simp [AV.cloL, AV.clo]) fun E Q hE hN hQ => K_start ?_
  repeat' (first | apply nx | refine Kq_exit_ne (by decide) ?_ | rw [wrap64 (by omega) (by omega)] | ((first | refine hK _ ?_ | refine hKp _ _ ?_); clear hK hKp K Kp; try clear hanc anc) | ((with_reducible refine And.intro ?_ ?_); (focus (first | trivial | omega | (simp only [Fits]; omega) | assumption | (rw [hanc]; rfl)))) | ((first | refine K_regA hE fun K Kp hK hKp => ?_ | refine K_drwA false mixed hE fun K Kp hK hKp anc hanc => ?_ | ((first | apply CallP_mk | apply CallB_mk); (focus (simp only [go_sem] <;> rfl)); (focus (first | exact hhd | exact hfw)); (focus (first | (simp [go_sem]; done) | (simp [go_sem, CloRow, AV.cells, AV.clo]; done))); (focus (first | exact .inl rfl | (right; simp [go_sem]))))); simp only [go_sem, q1, q2]) | ((first | refine onG_split_t (fun hg => ?_) (fun hg => ?_) | refine onG_split_f (fun hg => ?_) (fun hg => ?_)) <;> simp only [go_sem, q1, q2, hg]) | (refine K_condA (fun hc => ?_) (fun hc => ?_) <;> try (exact absurd hc (by decide))) | (refine K_ret ?_; refine (hQ _ ⟨_, by (try simp only [go_sem, ↓reduceIte, Nat.reduceEqDiff]); rfl, by simp [go_sem], ?_, by first | rfl | assumption⟩).1))
  rfl
 have q2 : decide ((D.length : Int) ≤ id) = false := by simpa using h2
 obtain ⟨m, rfl⟩ := Int.eq_ofNat_of_zero_le (show 0 ≤ id by omega)
 obtain ⟨dm, hdm⟩ := get?_of (show m < D.length by omega)
 have hm := hb.sm hvs
 have d1 := drop_call D h (wh m fs) hm hD
 rw [show (wh m fs).av = .agg [.i 2, .i m, .i 0, .i 0, .sl (Vl.avL fs), .bool false, .sl [], .sl []] from rfl] at d1
 simp only [Hp.av_eq] at *
 refine PCall.intro Try.func5 rfl isf5 (by simp [Try.f5]) (by simp [AV.cloL, AV.clo]) fun E Q hE hN hQ => K_start ?_
 repeat' (first | apply nx | refine Kq_exit_ne (by decide) ?_ | rw [wrap64 (by omega) (by omega)] | ((first | refine hK _ ?_ | refine hKp _ _ ?_); clear hK hKp K Kp; try clear hanc anc) | ((with_reducible refine And.intro ?_ ?_); (focus (first | trivial | omega | (simp only [Fits]; omega) | assumption | (rw [hanc]; rfl)))) | ((first | refine K_regA hE fun K Kp hK hKp => ?_ | refine K_drwA true mixed hE fun K Kp hK hKp anc hanc => ?_ | refine K_drwA false mixed hE fun K Kp hK hKp anc hanc => ?_ | ((first | apply CallP_mk | apply CallB_mk); (focus (simp only [go_sem] <;> rfl)); (focus (first | exact hhd | exact hfw)); (focus (first | (simp [go_sem]; done) | (simp [go_sem, CloRow, AV.cells, AV.clo]; done))); (focus (first | exact .inl rfl | (right; simp [go_sem]))))); simp only [go_sem, q1, q2]) | ((first | refine onG_split_t (fun hg => ?_) (fun hg => ?_) | refine onG_split_f (fun hg => ?_) (fun hg => ?_)) <;> simp only [go_sem, q1, q2, hg]) | (refine K_condA (fun hc => ?_) (fun hc => ?_) <;> try (exact absurd hc (by decide))))
 refine K_loop (X := Nat) (fun x => x ≤ D.length ∧ ∀ d, d ∈ D.take x → 0 ≤ d.dr) (fun x => mkSt [(0, .sl (dl D)), (2, .i m), (3, .sl (Vl.avL fs)), (5, .ptr 0 0), (9, .bool true), (10, .ptr 1 0), (11, .i x)] [(0, .cells [.sl (cl h.cells), .sl (bl h.arenas)]), (1, .cells [.i 2, .i m, .i 0, .i 0, .sl (Vl.avL fs), .bool false, .nilsl, .nilsl])] 2) (fun x => D.length - x) 0 ⟨Nat.zero_le _, by simp⟩ (fun i => if i = 0 then 0 else 7340032) (by refine ent_mk (by simp [go_sem]) (by simp [go_sem]) (by simp) (by simp [hN])) ?_
 rintro i ⟨hi, hDi⟩
 by_cases hlt : i < D.length
 ·obtain ⟨d, hd⟩ := get?_of hlt
  by_cases hneg : d.dr < 0
  ·have q3 : decide (d.dr < 0) = true := by simpa using hneg
   repeat' (first | apply nx | refine Kq_exit_ne (by decide) ?_ | rw [wrap64 (by omega) (by omega)] | ((first | refine hK _ ?_ | refine hKp _ _ ?_); clear hK hKp K Kp; try clear hanc anc) | ((with_reducible refine And.intro ?_ ?_); (focus (first | trivial | omega | (simp only [Fits]; omega) | assumption | (rw [hanc]; rfl)))) | ((first | refine K_regA hE fun K Kp hK hKp => ?_ | refine K_drwA false mixed hE fun K Kp hK hKp anc hanc => ?_); simp only [go_sem, lt_dec hlt, hd, Dt.av, q3]) | ((first | refine onG_split_t (fun hg => ?_) (fun hg => ?_) | refine onG_split_f (fun hg => ?_) (fun hg => ?_)) <;> simp only [go_sem, lt_dec hlt, hd, Dt.av, q3, hg]) | (refine K_condA (fun hc => ?_) (fun hc => ?_) <;> try (exact absurd hc (by decide))) | (refine K_ret ?_; refine (hQ _ ⟨_, by (try simp only [go_sem, ↓reduceIte, Nat.reduceEqDiff]); rfl, by simp [go_sem], ?_, by first | rfl | assumption⟩).1))
   rfl
  ·have q3 : decide (d.dr < 0) = false := by simpa using hneg
   repeat' (first | apply nx | refine Kq_exit_ne (by decide) ?_ | rw [wrap64 (by omega) (by omega)] | ((first | refine hK _ ?_ | refine hKp _ _ ?_); clear hK hKp K Kp; try clear hanc anc) | ((with_reducible refine And.intro ?_ ?_); (focus (first | trivial | omega | (simp only [Fits]; omega) | assumption | (rw [hanc]; rfl)))) | ((first | refine K_regA hE fun K Kp hK hKp => ?_ | refine K_drwA true mixed hE fun K Kp hK hKp anc hanc => ?_ | refine K_drwA false mixed hE fun K Kp hK hKp anc hanc => ?_); simp only [go_sem, lt_dec hlt, hd, Dt.av, q3]) | ((first | refine onG_split_t (fun hg => ?_) (fun hg => ?_) | refine onG_split_f (fun hg => ?_) (fun hg => ?_)) <;> simp only [go_sem, lt_dec hlt, hd, Dt.av, q3, hg]) | (refine K_condA (fun hc => ?_) (fun hc => ?_) <;> try (exact absurd hc (by decide))))
   refine ⟨i + 1, ⟨hlt, fun y hy => ?_⟩, by omega, fun i => i, by refine ent_mk (by simp [go_sem]) (by simp [go_sem]) (by simp) (by simp [hN])⟩
   rw [List.take_add_one, hd] at hy
   rcases List.mem_append.1 hy with hy | hy
   ·exact hDi y hy
   ·simp at hy; subst hy; omega
 obtain rfl : i = D.length := by omega
 rw [List.take_length] at hDi
 have hdn := drs_nonneg hDi
 by_cases e1 : (dropS D h (wh m fs)).2.2 = 0
 case neg =>
  generalize dropS D h (wh m fs) = A at *
  obtain ⟨A1, ⟨Ao, Ac, Ap⟩, Ae⟩ := A
  simp only at e1
  have q3 : (Ae != 0) = true := by simpa using e1
  simp only [resD, Hp.av_eq] at d1
  repeat' (first | apply nx | refine Kq_exit_ne (by decide) ?_ | rw [wrap64 (by omega) (by omega)] | ((first | refine hK _ ?_ | refine hKp _ _ ?_); clear hK hKp K Kp; try clear hanc anc) | ((with_reducible refine And.intro ?_ ?_); (focus (first | trivial | omega | (simp only [Fits]; omega) | assumption | (rw [hanc]; rfl)))) | ((first | refine K_regA hE fun K Kp hK hKp => ?_ | refine K_drwA false mixed hE fun K Kp hK hKp anc hanc => ?_ | ((first | apply CallP_mk | apply CallB_mk); (focus (simp only [go_sem] <;> rfl)); (focus (exact d1)); (focus (first | (simp [go_sem]; done) | (simp [go_sem, CloRow, AV.cells, AV.clo]; done))); (focus (first | exact .inl rfl | (right; simp [go_sem]))))); simp only [go_sem, ge_dec, q3]) | ((first | refine onG_split_t (fun hg => ?_) (fun hg => ?_) | refine onG_split_f (fun hg => ?_) (fun hg => ?_)) <;> simp only [go_sem, ge_dec, q3, hg]) | (refine K_condA (fun hc => ?_) (fun hc => ?_) <;> try (exact absurd hc (by decide))) | (refine K_ret ?_; refine (hQ _ ⟨_, by (try simp only [go_sem, ↓reduceIte, Nat.reduceEqDiff]); rfl, by simp [go_sem], ?_, by first | rfl | assumption⟩).1))
  all_goals rfl
 obtain ⟨o, hw, hx, s1⟩ := drop_ok e1
 have hw2 : visL h (visE h h.cells.length) fs ⟨[], [], [(m : Int)]⟩ = some o := by
  have := hw
  unfold walkS wh at this
  rw [visV, if_pos rfl] at this
  exact this
 have hol := walk_len hm (by omega) hw
 have hoo := walkS_ok hw
 have hro : ∀ y, y ∈ o.ids → unkB (dl D) y = false := fun y hy => by simpa using List.any_eq_false.1 hx y hy
 have hcn := calm_cnt (drs D) hdn o.ids
 have hou := foldF_out (drs D) o.ids Fa.nil (Nat.le_refl _)
 have hpn := foldF_calm (drs D) hdn o.ids Fa.nil rfl
 have sm := (hb.closed o).same (closedS h o)
 have it := ints_call (o.ids.foldl (stepF (drs D)) Fa.nil).out (o.ids.foldl (stepF (drs D)) Fa.nil).out (by omega)
 rw [decide_refl] at sm it
 rw [s1] at d1
 have hF1 : ([(m : Int)].foldl (stepF (drs D)) Fa.nil) = Fa.nil.add dm.dr := by
  rw [List.foldl_cons, List.foldl_nil, show stepF (drs D) Fa.nil m = Fa.nil.add ((drs D).getD (m : Int).toNat 0) from if_neg (by simp [Fa.nil]), Int.toNat_natCast, drs_get hdm]
 clear e1 s1 hf hi hlt hfw
 generalize hFd : o.ids.foldl (stepF (drs D)) Fa.nil = F at *
 simp only [resD, Hp.av_eq] at *
 repeat' (first | apply nx | refine Kq_exit_ne (by decide) ?_ | rw [wrap64 (by omega) (by omega)] | ((first | refine hK _ ?_ | refine hKp _ _ ?_); clear hK hKp K Kp; try clear hanc anc) | ((with_reducible refine And.intro ?_ ?_); (focus (first | trivial | omega | (simp only [Fits]; omega) | assumption | (rw [hanc]; rfl)))) | ((fail_if_success refine K_stop 14 ?_); (first | refine K_regA hE fun K Kp hK hKp => ?_ | refine K_drwA true mixed hE fun K Kp hK hKp anc hanc => ?_ | refine K_drwA false mixed hE fun K Kp hK hKp anc hanc => ?_ | ((first | apply CallP_mk | apply CallB_mk); (focus (simp only [go_sem] <;> rfl)); (focus (exact d1)); (focus (first | (simp [go_sem]; done) | (simp [go_sem, CloRow, AV.cells, AV.clo]; done))); (focus (first | exact .inl rfl | (right; simp [go_sem]))))); simp only [go_sem, ge_dec]) | ((first | refine onG_split_t (fun hg => ?_) (fun hg => ?_) | refine onG_split_f (fun hg => ?_) (fun hg => ?_)) <;> simp only [go_sem, ge_dec, hg]) | (refine K_condA (fun hc => ?_) (fun hc => ?_) <;> try (exact absurd hc (by decide))))
 refine AW_nil 17 1 (by rw [hE]; decide) (by simp only [go_sem]) ?_
 refine AW.ent (σ' := mkSt [(0, .sl (dl D)), (2, .i m), (3, .sl (Vl.avL fs)), (5, .ptr 0 0), (9, .bool true), (10, .ptr 1 0), (12, .ptr 2 0), (13, .sl (il F.out)), (14, .i (F.cnt : Int)), (17, .rw 3)] [(0, .cells [.sl (cl h.cells), .sl (bl h.arenas)]), (1, .cells [.i 2, .i m, .i 0, .i 0, .sl (Vl.avL fs), .bool false, .nilsl, .nilsl]), (2, .cells [.sl (cl (closedS h o).cells), .sl (bl (closedS h o).arenas)]), (3, .row 1 [])] 4) (fun i => if i = 0 then 0 else if i = 1 then 1 else if i = 2 then 14680066 else 24117250) (by refine ent_mk (by simp [go_sem]) (by simp [go_sem]) (by simp) (by simp [hN])) ?_
 have hA1 : (Fa.nil.add dm.dr).cnt = 1 := rfl
 have hszd := szok_il [dm.dr]
 refine K_cut1 (X := Unit) (fun _ => True) (fun _ => mkSt [(0, .sl (dl D)), (2, .i m), (3, .sl (Vl.avL fs)), (5, .ptr 0 0), (9, .bool true), (10, .ptr 1 0), (12, .ptr 2 0), (13, .sl (il F.out)), (14, .i (F.cnt : Int)), (17, .rw 3)] [(0, .cells [.sl (cl h.cells), .sl (bl h.arenas)]), (1, .cells [.i 2, .i m, .i 0, .i 0, .sl (Vl.avL fs), .bool false, .nilsl, .nilsl]), (2, .cells [.sl (cl (closedS h o).cells), .sl (bl (closedS h o).arenas)]), (3, .row 1 (il (Fa.nil.add dm.dr).out))] 4) ?_ fun _ _ => ?_
 ·cases hc1 : decide (0 < dm.dr)
  ·have hn : ¬ 0 < dm.dr := by simpa using hc1
   have e1 : (Fa.nil.add dm.dr).out = [] := if_neg hn
   repeat' (first | apply nx | refine Kq_exit_ne (by decide) ?_ | rw [wrap64 (by omega) (by omega)] | ((first | refine hK _ ?_ | refine hKp _ _ ?_); clear hK hKp K Kp; try clear hanc anc) | ((with_reducible refine And.intro ?_ ?_); (focus (first | trivial | omega | (simp only [Fits]; omega) | assumption | (rw [hanc]; rfl)))) | ((first | refine K_regA hE fun K Kp hK hKp => ?_ | refine K_drwA true mixed hE fun K Kp hK hKp anc hanc => ?_ | refine K_drwA false mixed hE fun K Kp hK hKp anc hanc => ?_); simp only [go_sem, hdm, Dt.av, hc1]) | ((first | refine onG_split_t (fun hg => ?_) (fun hg => ?_) | refine onG_split_f (fun hg => ?_) (fun hg => ?_)) <;> simp only [go_sem, hdm, Dt.av, hc1, hg]) | (refine K_condA (fun hc => ?_) (fun hc => ?_) <;> try (exact absurd hc (by decide))))
   refine cut_norm () trivial (fun i => i) ?_
   rw [e1]
   refine ent_mk (by simp [go_sem]) (by simp [go_sem, il]) (by simp) (by simp [hN])
  ·have hn : 0 < dm.dr := by simpa using hc1
   have e1 : (Fa.nil.add dm.dr).out = [dm.dr] := by simp [Fa.add, Fa.nil, hn]
   have hml : m < D.length := (List.getElem?_eq_some_iff.1 hdm).1
   repeat' (first | apply nx | refine Kq_exit_ne (by decide) ?_ | rw [wrap64 (by omega) (by omega)] | ((first | refine hK _ ?_ | refine hKp _ _ ?_); clear hK hKp K Kp; try clear hanc anc) | ((with_reducible refine And.intro ?_ ?_); (focus (first | trivial | omega | (simp only [Fits]; omega) | assumption | (rw [hanc]; rfl)))) | ((first | refine K_regA hE fun K Kp hK hKp => ?_ | refine K_drwA true mixed hE fun K Kp hK hKp anc hanc => ?_ | refine K_drwA false mixed hE fun K Kp hK hKp anc hanc => ?_); simp only [go_sem, hdm, Dt.av, hc1]) | ((first | refine onG_split_t (fun hg => ?_) (fun hg => ?_) | refine onG_split_f (fun hg => ?_) (fun hg => ?_)) <;> simp only [go_sem, hdm, Dt.av, hc1, hg]) | (refine K_condA (fun hc => ?_) (fun hc => ?_) <;> try (exact absurd hc (by decide))))
   refine cut_norm () trivial (fun i => if i = 3 then 13631492 else i) ?_
   rw [e1]
   refine ent_mk (by simp [go_sem]) (by simp [go_sem, il]) (by simp) (by simp [hN])
 have hF0 : ([(m : Int)].foldl (stepF (drs D)) Fa.nil) = Fa.nil.add dm.dr := hF1
 repeat' (first | apply nx | refine Kq_exit_ne (by decide) ?_ | rw [wrap64 (by omega) (by omega)] | ((first | refine hK _ ?_ | refine hKp _ _ ?_); clear hK hKp K Kp; try clear hanc anc) | ((with_reducible refine And.intro ?_ ?_); (focus (first | trivial | omega | (simp only [Fits]; omega) | assumption | (rw [hanc]; rfl)))) | ((fail_if_success refine K_stop 19 ?_); (first | refine K_regA hE fun K Kp hK hKp => ?_ | refine K_drwA true mixed hE fun K Kp hK hKp anc hanc => ?_ | refine K_drwA false mixed hE fun K Kp hK hKp anc hanc => ?_); simp only [go_sem]) | ((first | refine onG_split_t (fun hg => ?_) (fun hg => ?_) | refine onG_split_f (fun hg => ?_) (fun hg => ?_)) <;> simp only [go_sem, hg]) | (refine K_condA (fun hc => ?_) (fun hc => ?_) <;> try (exact absurd hc (by decide))))
 refine K_loop (X := Nat × Ow) (fun x => x.1 ≤ fs.length ∧ x.2.Ok h ∧ visL h (visE h h.cells.length) (fs.drop x.1) x.2 = some o) (fun x => mkSt [(0, .sl (dl D)), (3, .sl (Vl.avL fs)), (5, .ptr 0 0), (9, .bool true), (10, .ptr 1 0), (12, .ptr 2 0), (13, .sl (il F.out)), (14, .i (F.cnt : Int)), (17, .rw 3), (18, .ptr 4 0), (19, .i ((x.2.ids.foldl (stepF (drs D)) Fa.nil).cnt : Int)), (20, .i x.1)] [(0, .cells [.sl (cl h.cells), .sl (bl h.arenas)]), (1, .cells [.i 2, .i m, .i 0, .i 0, .sl (Vl.avL fs), .bool false, .nilsl, .nilsl]), (2, .cells [.sl (cl (closedS h o).cells), .sl (bl (closedS h o).arenas)]), (3, .row 1 (il (x.2.ids.foldl (stepF (drs D)) Fa.nil).out)), (4, .cells [.sl (cl (closedS h x.2).cells), .sl (bl (closedS h x.2).arenas)])] 5) (fun x => fs.length - x.1) (0, ⟨[], [], [(m : Int)]⟩) ⟨Nat.zero_le _, ⟨List.nodup_nil, fun _ hh => (by cases hh), List.nodup_nil, fun _ hh => (by cases hh)⟩, by simpa using hw2⟩ (fun i => if i = 4 then 1048580 else i) ?_ ?_
 ·simp only [hF0, closed_nil, hA1]
  refine ent_mk (by simp [go_sem]) (by simp [go_sem]) (by simp) (by simp [hN])
 rintro ⟨i, a⟩ ⟨hi, hao, hta⟩
 simp only at hi hao hta
 have hLa := (visL_keeps (visE_keeps h _) _ a o hao hta).2
 have hida : a.ids.length ≤ o.ids.length := by obtain ⟨l, e⟩ := hLa.ids; rw [e, List.length_append]; omega
 have hca := calm_cnt (drs D) hdn a.ids
 have hoa := foldF_out (drs D) a.ids Fa.nil (Nat.le_refl _)
 by_cases hlt : i < fs.length
 ·obtain ⟨x, hx⟩ := get?_of hlt
  rw [drop_of hx, visL] at hta
  obtain ⟨b, hb1, hb2⟩ := Option.bind_eq_some_iff.1 hta
  have hxz := Vl.sz_mem (List.mem_of_getElem? hx)
  have hbo := (visV_keeps (visE_keeps h _) x a b hao hb1).1
  have hLb := (visL_keeps (visE_keeps h _) _ b o hbo hb2).2
  have hrb : ∀ y, y ∈ b.ids → unkB (dl D) y = false := fun y hy => hro y (by obtain ⟨l, e⟩ := hLb.ids; rw [e]; exact List.mem_append_left _ hy)
  obtain ⟨g1, g2, g3⟩ := field_step hao hb1 hdn hrb
  have d2 := drop_call D (closedS h a) x ((hb.closed a).sm (by omega)) hD
  rw [g1] at d2
  have hcb := calm_cnt (drs D) hdn b.ids
  have hidb : b.ids.length ≤ o.ids.length := by obtain ⟨l, e⟩ := hLb.ids; rw [e, List.length_append]; omega
  have hoz := foldF_out (drs D) (b.ids.drop a.ids.length) Fa.nil (Nat.le_refl _)
  generalize (b.ids.drop a.ids.length).foldl (stepF (drs D)) Fa.nil = Fx at *
  generalize hfa : a.ids.foldl (stepF (drs D)) Fa.nil = FA at *
  generalize hfb : b.ids.foldl (stepF (drs D)) Fa.nil = FB at *
  have hsz := szok_il Fx.out
  have u1 : IntKind.i64.wrap ((FA.cnt : Int) + (Fx.cnt : Int)) = (FB.cnt : Int) := by rw [wrap64 (by omega) (by omega)]; omega
  simp only [resD, Hp.av_eq, Vl.av_eq] at d2
  repeat' (first | apply nx | refine Kq_exit_ne (by decide) ?_ | rw [wrap64 (by omega) (by omega)] | ((first | refine hK _ ?_ | refine hKp _ _ ?_); clear hK hKp K Kp; try clear hanc anc) | ((with_reducible refine And.intro ?_ ?_); (focus (first | trivial | omega | (simp only [Fits]; omega) | assumption | (rw [hanc]; rfl)))) | ((first | refine K_regA hE fun K Kp hK hKp => ?_ | refine K_drwA true mixed hE fun K Kp hK hKp anc hanc => ?_ | refine K_drwA false mixed hE fun K Kp hK hKp anc hanc => ?_ | ((first | apply CallP_mk | apply CallB_mk); (focus (simp only [go_sem] <;> rfl)); (focus (exact d2)); (focus (first | (simp [go_sem]; done) | (simp [go_sem, CloRow, AV.cells, AV.clo]; done))); (focus (first | exact .inl rfl | (right; simp [go_sem]))))); simp only [go_sem, lt_dec hlt, hx, Vl.av_eq, u1, il_app2, ← g2]) | ((first | refine onG_split_t (fun hg => ?_) (fun hg => ?_) | refine onG_split_f (fun hg => ?_) (fun hg => ?_)) <;> simp only [go_sem, lt_dec hlt, hx, Vl.av_eq, u1, il_app2, ← g2, hg]) | (refine K_condA (fun hc => ?_) (fun hc => ?_) <;> try (exact absurd hc (by decide))))
  refine ⟨⟨hsz, (by simp only [Fits]; omega)⟩, ?_⟩
  repeat' (first | apply nx | refine Kq_exit_ne (by decide) ?_ | rw [wrap64 (by omega) (by omega)] | ((first | refine hK _ ?_ | refine hKp _ _ ?_); clear hK hKp K Kp; try clear hanc anc) | ((with_reducible refine And.intro ?_ ?_); (focus (first | trivial | omega | (simp only [Fits]; omega) | assumption | (rw [hanc]; rfl)))) | ((first | refine K_regA hE fun K Kp hK hKp => ?_ | refine K_drwA true mixed hE fun K Kp hK hKp anc hanc => ?_ | refine K_drwA false mixed hE fun K Kp hK hKp anc hanc => ?_); simp only [go_sem, u1]) | ((first | refine onG_split_t (fun hg => ?_) (fun hg => ?_) | refine onG_split_f (fun hg => ?_) (fun hg => ?_)) <;> simp only [go_sem, u1, hg]) | (refine K_condA (fun hc => ?_) (fun hc => ?_) <;> try (exact absurd hc (by decide))))
  refine ⟨(i + 1, b), ⟨by simp only; omega, hbo, hb2⟩, by simp only; omega, fun i => if i = 3 then 30408709 else i, ?_⟩
  simp only [hfb]
  refine ent_mk (by simp [go_sem]) (by simp [go_sem]) (by simp) (by simp [hN])
 obtain rfl : i = fs.length := by omega
 rw [List.drop_length, visL] at hta
 cases hta
 rw [hFd]
 have hal := hb.alloc (show h.cells.length < 2 ^ 20 by omega) (-1) hvs
 have a1 := alloc_call h (-1) (wh m fs) hb.l hb.a
 rw [show (wh m fs).av = .agg [.i 2, .i m, .i 0, .i 0, .sl (Vl.avL fs), .bool false, .sl [], .sl []] from rfl] at a1
 by_cases e2 : (allocS h (-1) (wh m fs)).2.2 = 0
 case neg =>
  generalize allocS h (-1) (wh m fs) = A at *
  obtain ⟨A1, An, Ae⟩ := A
  simp only at e2
  have q3 : (Ae != 0) = true := by simpa using e2
  simp only [resH, Hp.av_eq] at a1
  repeat' (first | apply nx | refine Kq_exit_ne (by decide) ?_ | rw [wrap64 (by omega) (by omega)] | ((first | refine hK _ ?_ | refine hKp _ _ ?_); clear hK hKp K Kp; try clear hanc anc) | ((with_reducible refine And.intro ?_ ?_); (focus (first | trivial | omega | (simp only [Fits]; omega) | assumption | (rw [hanc]; rfl)))) | ((first | refine K_regA hE fun K Kp hK hKp => ?_ | refine K_drwA false mixed hE fun K Kp hK hKp anc hanc => ?_ | ((first | apply CallP_mk | apply CallB_mk); (focus (simp only [go_sem] <;> rfl)); (focus (first | exact a1 | exact it | exact sm)); (focus (first | (simp [go_sem]; done) | (simp [go_sem, CloRow, AV.cells, AV.clo]; done))); (focus (first | exact .inl rfl | (right; simp [go_sem]))))); simp only [go_sem, ge_dec, q3, beq_self_eq_true]) | ((first | refine onG_split_t (fun hg => ?_) (fun hg => ?_) | refine onG_split_f (fun hg => ?_) (fun hg => ?_)) <;> simp only [go_sem, ge_dec, q3, beq_self_eq_true, hg]) | (refine K_condA (fun hc => ?_) (fun hc => ?_) <;> try (exact absurd hc (by decide))) | (refine K_ret ?_; refine (hQ _ ⟨_, by (try simp only [go_sem, ↓reduceIte, Nat.reduceEqDiff]); rfl, by simp [go_sem], ?_, by first | rfl | assumption⟩).1))
  all_goals rfl
 obtain ⟨e3, _⟩ := alloc_ok h (-1) (wh m fs) e2
 obtain ⟨o', hw3, hid3⟩ := box_walk hw (firstDead h.cells) rfl
 rw [e3] at a1 hal
 have bx := box_call ((firstDead h.cells : Nat) : Int)
 have d3 := drop_call D ⟨putC h.cells (firstDead h.cells) ⟨true, -1, wh m fs⟩, h.arenas⟩ (numV 3 (firstDead h.cells)) (hal.sm (by simp [Vl.sz_eq, numV, Vl.path, Vl.loans, Vl.fs, Vl.szL])) hD
 rw [dropS_of hw3 (by rw [hid3]; exact hx), hid3, hFd] at d3
 generalize firstDead h.cells = n at *
 generalize putC h.cells n ⟨true, -1, wh m fs⟩ = L at *
 rw [show (numV 3 (n : Int)).av = .agg [.i 3, .i 0, .i 0, .i n, .sl [], .bool false, .sl [], .sl []] from rfl] at d3 bx
 generalize closedS ⟨L, h.arenas⟩ o' = C2 at *
 simp only [resH, resD, Hp.av_eq] at a1 d3
 repeat' (first | apply nx | refine Kq_exit_ne (by decide) ?_ | rw [wrap64 (by omega) (by omega)] | ((first | refine hK _ ?_ | refine hKp _ _ ?_); clear hK hKp K Kp; try clear hanc anc) | ((with_reducible refine And.intro ?_ ?_); (focus (first | trivial | omega | (simp only [Fits]; omega) | assumption | (rw [hanc]; rfl)))) | ((first | refine K_regA hE fun K Kp hK hKp => ?_ | refine K_drwA false mixed hE fun K Kp hK hKp anc hanc => ?_ | ((first | apply CallP_mk | apply CallB_mk); (focus (simp only [go_sem] <;> rfl)); (focus (first | exact a1 | exact bx | exact d3 | exact it | exact sm)); (focus (first | (simp [go_sem]; done) | (simp [go_sem, CloRow, AV.cells, AV.clo]; done))); (focus (first | exact .inl rfl | (right; simp [go_sem]))))); simp only [go_sem, ge_dec, bne_self_eq_false, beq_self_eq_true]) | ((first | refine onG_split_t (fun hg => ?_) (fun hg => ?_) | refine onG_split_f (fun hg => ?_) (fun hg => ?_)) <;> simp only [go_sem, ge_dec, bne_self_eq_false, beq_self_eq_true, hg]) | (refine K_condA (fun hc => ?_) (fun hc => ?_) <;> try (exact absurd hc (by decide))) | (refine K_ret ?_; refine (hQ _ ⟨_, by (try simp only [go_sem, ↓reduceIte, Nat.reduceEqDiff]); rfl, by simp [go_sem], ?_, by first | rfl | assumption⟩).1))
 all_goals rfl
end Go.Proofs.Ytdgmjbgjahmoaaa
