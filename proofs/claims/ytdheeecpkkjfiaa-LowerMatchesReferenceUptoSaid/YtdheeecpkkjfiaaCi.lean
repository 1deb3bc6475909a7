/- A part of the proof: an abstract machine for the walks, and what the walked functions compute. -/
import Derived.Test.YtdheeecpkkjfiaaCg
import Derived.Test.YtdheeecpkkjfiaaCh
set_option linter.unusedVariables false
set_option linter.unusedSimpArgs false
/- Chapter 10: the small methods of the reference's lowering. -/
set_option linter.unusedSimpArgs false
set_option linter.unusedVariables false
set_option maxHeartbeats 4000000
set_option maxRecDepth 100000
namespace Go.Proofs.Ytdheeecpkkjfiaa
open Go.Am Go.Proofs Go.Low
attribute [local irreducible] AW CallP CallB

/-- A contract of a method of the reference's lowering. -/
def RC (f : FuncId) (vs : List AV) (bl : List Blk) (r : AV) (bl2 : List Blk) : Prop :=
  LCall Try.prog f vs hsR bl 0 (fun r' bl' cur' => r' = r ∧ bl' = bl2 ∧ cur' = 0) (fun _ _ _ => False)

theorem block_rc {bl : List Blk} (hb : OkB bl) (hlen : bl.length + 1 ≤ 500000) : RC 34 [] bl (.i bl.length) (bl ++ [Blk.nil]) := by
  have hm := okR
  unfold RC
  refine LCall.intro Try.func34 rfl isf34 (by simp [Try.f34]) hm fun E Q hE hN hQ hQp => K_start ?_
  refine K_low (fr := [(0, .ptr 0 0)]) (loc := []) (base := 2) (fun i => i) hN hb (by omega) hm (Nat.le_refl 2) (fun _ _ h => h) (by simp [go_sem, lowM]) (by simp) (by simp) ?_
  repeat' (first | refine K_seq ?_ | refine K_blk ?_ | refine AW_skip ?_ | refine AW_exit ?_ | refine Kq_exit_code ?_ | refine Kq_exit_lp ?_ | refine Kq_exit_blk ?_ | refine Kq_exit_ne (by decide) ?_ | refine Kq_norm_code ?_ | refine Kq_norm_blk ?_ | refine Kq_norm_lp ?_ | rw [wrap64 (by omega) (by omega)] | (refine hK _ ?_; clear hK hKp K Kp; (try clear hanc anc)) | (refine hKp _ _ ?_; clear hK hKp K Kp; (try clear hanc anc)) | ((with_reducible refine And.intro ?_ ?_); (focus (first | trivial | omega | (simp only [Fits]; omega) | (refine ⟨?_, ?_⟩ <;> (simp only [Fits]; omega)) | assumption | (rw [hanc]; rfl)))) | ((first | refine K_regA hE fun K Kp hK hKp => ?_ | refine K_drwA true mixed hE fun K Kp hK hKp anc hanc => ?_ | refine K_drwA false mixed hE fun K Kp hK hKp anc hanc => ?_); simp only [go_sem, ↓reduceIte, reduceCtorEq, Nat.reduceAdd, Nat.reduceMul, Nat.reduceEqDiff, Nat.reduceLT, Nat.reduceLeDiff, Nat.reduceSub, Nat.reduceDiv, Nat.reducePow, Nat.reduceBEq, Int.reduceBEq, Int.reduceBNe, Int.reduceLT, Int.reduceLE, Int.reduceEq, blksAV_len]) | ((first | refine onG_split_t (fun hg => ?_) (fun hg => ?_) | refine onG_split_f (fun hg => ?_) (fun hg => ?_)) <;> simp only [go_sem, ↓reduceIte, reduceCtorEq, Nat.reduceAdd, Nat.reduceMul, Nat.reduceEqDiff, Nat.reduceLT, Nat.reduceLeDiff, Nat.reduceSub, Nat.reduceDiv, Nat.reducePow, Nat.reduceBEq, Int.reduceBEq, Int.reduceBNe, Int.reduceLT, Int.reduceLE, Int.reduceEq, blksAV_len, hg]) | (refine K_condA (fun hc => ?_) (fun hc => ?_) <;> try (exact absurd hc (by decide))))
  refine K_ret ?_
  refine (hQ _ (.i bl.length) (bl ++ [Blk.nil]) 0 (resA_tmp (by simp only [go_sem, ↓reduceIte, reduceCtorEq, Nat.reduceAdd, Nat.reduceMul, Nat.reduceEqDiff, Nat.reduceLT, Nat.reduceLeDiff, Nat.reduceSub, Nat.reduceDiv, Nat.reducePow, Nat.reduceBEq, Int.reduceBEq, Int.reduceBNe, Int.reduceLT, Int.reduceLE, Int.reduceEq]; congr 2; omega)) ⟨rfl, rfl, rfl⟩ rfl (Out.row 9388608 (by decide) (ok_rep hb 1) hm (by simp; omega) (by simp only [go_sem, ↓reduceIte, reduceCtorEq, Nat.reduceAdd, Nat.reduceMul, Nat.reduceEqDiff, Nat.reduceLT, Nat.reduceLeDiff, Nat.reduceSub, Nat.reduceDiv, Nat.reducePow, Nat.reduceBEq, Int.reduceBEq, Int.reduceBNe, Int.reduceLT, Int.reduceLE, Int.reduceEq]) (by simp [hsR]) ?_ ?_)).1
  · simp only [go_sem, ↓reduceIte, reduceCtorEq, Nat.reduceAdd, Nat.reduceMul, Nat.reduceEqDiff, Nat.reduceLT, Nat.reduceLeDiff, Nat.reduceSub, Nat.reduceDiv, Nat.reducePow, Nat.reduceBEq, Int.reduceBEq, Int.reduceBNe, Int.reduceLT, Int.reduceLE, Int.reduceEq]
    rw [blksAV_app]
    rfl
  · intro k b hk hc
    have hk2 := get_rep (n := 1) hk hc
    have hlt : k < bl.length := (List.getElem?_eq_some_iff.1 hk2).1
    simp only [go_sem, ↓reduceIte, reduceCtorEq, Nat.reduceAdd, Nat.reduceMul, Nat.reduceEqDiff, Nat.reduceLT, Nat.reduceLeDiff, Nat.reduceSub, Nat.reduceDiv, Nat.reducePow, Nat.reduceBEq, Int.reduceBEq, Int.reduceBNe, Int.reduceLT, Int.reduceLE, Int.reduceEq]
    rw [if_neg (by omega), if_neg (by omega), if_neg (by omega), if_neg (by omega)]
    exact lowHp_code (by omega) hk2 hc

theorem end_rc {bl : List Blk} {cur : Nat} (hb : OkB bl) (hlen : bl.length ≤ 500000) (hcur : cur < bl.length) (kind a : Int) (ts : List Int) :
    RC 50 [.i cur, .i kind, .i a, .sl (ts.map AV.i)] bl (.tup []) (endB bl cur kind a ts) := by
  have hm := okR
  obtain ⟨b, hc⟩ := get?_of' hcur
  unfold RC
  refine LCall.intro Try.func50 rfl isf50 (by simp [Try.f50]) hm fun E Q hE hN hQ hQp => K_start ?_
  refine K_low (fr := [(0, .ptr 0 0), (1, .i cur), (2, .i kind), (3, .i a), (4, .sl (ts.map AV.i))]) (loc := []) (base := 2) (fun i => i) hN hb (by omega) hm (Nat.le_refl 2) (fun _ _ h => h) (by simp [go_sem, lowM]) (by simp) (by simp) ?_
  repeat' (first | refine K_seq ?_ | refine K_blk ?_ | refine AW_skip ?_ | refine AW_exit ?_ | refine Kq_exit_code ?_ | refine Kq_exit_lp ?_ | refine Kq_exit_blk ?_ | refine Kq_exit_ne (by decide) ?_ | refine Kq_norm_code ?_ | refine Kq_norm_blk ?_ | refine Kq_norm_lp ?_ | rw [wrap64 (by omega) (by omega)] | (refine hK _ ?_; clear hK hKp K Kp; (try clear hanc anc)) | (refine hKp _ _ ?_; clear hK hKp K Kp; (try clear hanc anc)) | ((with_reducible refine And.intro ?_ ?_); (focus (first | trivial | omega | (simp only [Fits]; omega) | (refine ⟨?_, ?_⟩ <;> (simp only [Fits]; omega)) | assumption | (rw [hanc]; rfl)))) | ((first | refine K_regA hE fun K Kp hK hKp => ?_ | refine K_drwA true mixed hE fun K Kp hK hKp anc hanc => ?_ | refine K_drwA false mixed hE fun K Kp hK hKp anc hanc => ?_); simp only [go_sem, ↓reduceIte, reduceCtorEq, Nat.reduceAdd, Nat.reduceMul, Nat.reduceEqDiff, Nat.reduceLT, Nat.reduceLeDiff, Nat.reduceSub, Nat.reduceDiv, Nat.reducePow, Nat.reduceBEq, Int.reduceBEq, Int.reduceBNe, Int.reduceLT, Int.reduceLE, Int.reduceEq, blksAV_len, blksAV_get?, hc, blkAV]) | ((first | refine onG_split_t (fun hg => ?_) (fun hg => ?_) | refine onG_split_f (fun hg => ?_) (fun hg => ?_)) <;> simp only [go_sem, ↓reduceIte, reduceCtorEq, Nat.reduceAdd, Nat.reduceMul, Nat.reduceEqDiff, Nat.reduceLT, Nat.reduceLeDiff, Nat.reduceSub, Nat.reduceDiv, Nat.reducePow, Nat.reduceBEq, Int.reduceBEq, Int.reduceBNe, Int.reduceLT, Int.reduceLE, Int.reduceEq, blksAV_len, blksAV_get?, hc, blkAV, hg]) | (refine K_condA (fun hc => ?_) (fun hc => ?_) <;> try (exact absurd hc (by decide))))
  have e1 : (blksAV 11 bl).set cur (.agg [cAV (11 + cur) b, .i kind, .i a, .sl (ts.map AV.i)]) = blksAV 11 (bl.set cur ⟨b.code, kind, a, some ts⟩) := blksAV_set bl 11 cur ⟨b.code, kind, a, some ts⟩
  rw [e1]
  refine Kq_norm_nil ?_
  refine (hQ _ (.tup []) (bl.set cur ⟨b.code, kind, a, some ts⟩) 0 rfl ⟨rfl, (modify_set hc fun b => ⟨b.code, kind, a, some ts⟩).symm, rfl⟩ rfl ?_).2
  refine Out.of_in (base := 10) (hb.set hc rfl) hm (by omega) ?_ (by simpa using hlen)
  exact LowIn.set (fun _ _ h => h) (by omega) hc rfl
end Go.Proofs.Ytdheeecpkkjfiaa


/- Chapter 10: the methods of the reference's lowering that call each other. -/
set_option linter.unusedSimpArgs false
set_option linter.unusedVariables false
set_option maxHeartbeats 4000000
set_option maxRecDepth 100000
namespace Go.Proofs.Ytdheeecpkkjfiaa
open Go.Am Go.Proofs Go.Low
attribute [local irreducible] AW CallP CallB

theorem blk_rc {bl : List Blk} {n : Nat} (h : PreB bl n) {k : Int} (hk : k = bl.length) : RC 34 [] bl (.i k) (bl ++ [Blk.nil]) := by
  subst hk; exact block_rc h.ok h.len51
theorem ebl_rc {bl : List Blk} {n : Nat} {cur : Int} {c : Nat} (h : PreB bl n) (hcur : c < bl.length) (he : cur = c) (kind a : Int) (ts : List Int) :
    RC 50 [.i cur, .i kind, .i a, .sl (ts.map AV.i)] bl (.tup []) (endB bl c kind a ts) := by
  subst he; exact end_rc h.ok h.len5 hcur kind a ts

def RNodeC (N : Nat) : Prop := ∀ n : Nd, szN n ≤ N → kdN n → ∀ (bl : List Blk) (cur : Nat), cur < bl.length → PreB bl (4 * szN n) → RC 46 [n.av, .i cur] bl (.i (rN n bl cur).1) (rN n bl cur).2
def RListC (N : Nat) : Prop := ∀ l : List Nd, szL l < N → kdL l → ∀ (bl : List Blk) (cur : Int), cur < bl.length → PreB bl (4 * szL l) → RC 33 [.sl (Nd.avL l), .i cur] bl (.i (rL l bl cur).1) (rL l bl cur).2
def RPartsC (N : Nat) : Prop := ∀ ps : List (List Nd), (∀ p, p ∈ ps → szL p < N) → kdP ps → ∀ (f : Nat) (bl : List Blk) (fs : List Int), fs = ((List.range ps.length).map fun (i : Nat) => (f : Int) + (i : Int)) → f + ps.length ≤ bl.length → PreB bl (4 * szP ps - 4 * ps.length + 1) →
  RC 51 [.sl (Nd.avLL ps), .sl (fs.map AV.i)] bl (.i (rJoin (rP ps f bl).1 (rP ps f bl).2).1) (rJoin (rP ps f bl).1 (rP ps f bl).2).2

theorem rlist_rc {N : Nat} (hP : RNodeC N) : RListC (N + 1) := by
  intro l hn ho bl cur hcur h
  have hm := okR
  have hb := h.ok
  have hlen := h.len5
  have hll := szL_len l
  have hl4 := h.len
  unfold RC
  refine LCall.intro Try.func33 rfl isf33 (by simp [Try.f33]) hm fun E Q hE hN hQ hQp => K_start ?_
  refine K_low (fr := [(0, .ptr 0 0), (1, .sl (Nd.avL l)), (2, .i cur)]) (loc := []) (base := 2) (fun i => i) hN hb (by omega) hm (Nat.le_refl 2) (fun _ _ h => h) (by simp [go_sem, lowM]) (by simp) (by simp) ?_
  repeat' (first | refine K_seq ?_ | refine K_blk ?_ | refine AW_skip ?_ | refine AW_exit ?_ | refine Kq_exit_code ?_ | refine Kq_exit_lp ?_ | refine Kq_exit_blk ?_ | refine Kq_exit_ne (by decide) ?_ | refine Kq_norm_code ?_ | refine Kq_norm_blk ?_ | refine Kq_norm_lp ?_ | rw [wrap64 (by omega) (by omega)] | (refine hK _ ?_; clear hK hKp K Kp; (try clear hanc anc)) | (refine hKp _ _ ?_; clear hK hKp K Kp; (try clear hanc anc)) | ((with_reducible refine And.intro ?_ ?_); (focus (first | trivial | omega | (simp only [Fits]; omega) | (refine ⟨?_, ?_⟩ <;> (simp only [Fits]; omega)) | assumption | (rw [hanc]; rfl)))) | ((first | refine K_regA hE fun K Kp hK hKp => ?_ | refine K_drwA true mixed hE fun K Kp hK hKp anc hanc => ?_ | refine K_drwA false mixed hE fun K Kp hK hKp anc hanc => ?_); simp only [go_sem, ↓reduceIte, reduceCtorEq, Nat.reduceAdd, Nat.reduceMul, Nat.reduceEqDiff, Nat.reduceLT, Nat.reduceLeDiff, Nat.reduceSub, Nat.reduceDiv, Nat.reducePow, Nat.reduceBEq, Int.reduceBEq, Int.reduceBNe, Int.reduceLT, Int.reduceLE, Int.reduceEq]) | ((first | refine onG_split_t (fun hg => ?_) (fun hg => ?_) | refine onG_split_f (fun hg => ?_) (fun hg => ?_)) <;> simp only [go_sem, ↓reduceIte, reduceCtorEq, Nat.reduceAdd, Nat.reduceMul, Nat.reduceEqDiff, Nat.reduceLT, Nat.reduceLeDiff, Nat.reduceSub, Nat.reduceDiv, Nat.reducePow, Nat.reduceBEq, Int.reduceBEq, Int.reduceBNe, Int.reduceLT, Int.reduceLE, Int.reduceEq, hg]) | (refine K_condA (fun hc => ?_) (fun hc => ?_) <;> try (exact absurd hc (by decide))))
  refine K_loop (X := Nat × List Blk × Int) (fun x => x.1 ≤ l.length ∧ rL l bl cur = rL (l.drop x.1) x.2.1 x.2.2 ∧ x.2.2 < x.2.1.length ∧ PreB x.2.1 (4 * szL (l.drop x.1))) (fun x => lowSt [(0, .ptr 0 0), (1, .sl (Nd.avL l)), (2, .i x.2.2), (7, .i x.1)] [] hsR x.2.1 0) (fun x => l.length - x.1) (0, bl, cur) ⟨Nat.zero_le _, rfl, hcur, h⟩ (lowM (fun i => i) 10) ?_ ?_
  · try dsimp only
    rw [hN]; exact ent_low (fr := [(0, .ptr 0 0), (1, .sl (Nd.avL l)), (2, .i cur), (7, .i (0 : Nat))]) (loc := []) (base := 10) (fun i => i) hb (by omega) hm (by omega) (by (repeat (first | exact (fun _ _ h => h) | refine LowIn.curL ?_ | exact LowB.base | refine LowIn.upd ?_ (lowHp_none (by omega) (by omega)) | refine LowB.upd ?_ (lowHp_none (by omega) (by omega))))) (by simp [go_sem, lowM]) (by simp) (by simp)
  rintro ⟨i, t, c⟩ ⟨hi, ht, hcu, hpre⟩
  simp only at hi ht hcu hpre
  clear hb
  have hb := hpre.ok
  have hlent := hpre.len5
  by_cases hlt : i < l.length
  · obtain ⟨n, hx⟩ := get?_of' hlt
    rw [drop_of' hx, rL] at ht
    by_cases hgo : 0 ≤ c ∧ t.length ≤ 400
    · rw [if_pos hgo] at ht
      obtain ⟨k, rfl⟩ : ∃ k : Nat, c = k := ⟨c.toNat, by omega⟩
      have hkt : k < t.length := by omega
      simp only [Int.toNat_natCast] at ht
      have hnm := szN_mem (List.mem_of_getElem? hx)
      have hon := kdL_mem ho (List.mem_of_getElem? hx)
      rw [szL_drop hx] at hpre
      have gr := rN_grow n t k hkt
      have hnext : PreB (rN n t k).2 (4 * szL (l.drop (i + 1))) := hpre.grow gr.1 (by omega)
      have hcl := hP n (by omega) hon t k hkt (hpre.mono (by omega))
      have d1 : decide ((t.length : Int) ≤ 400) = true := decide_eq_true (by omega)
      have d2 : decide (0 ≤ (k : Int)) = true := decide_eq_true (by omega)
      rw [Nd.av_cs] at hcl
      simp only [Nd.cs] at hcl
      repeat' (first | refine K_seq ?_ | refine K_blk ?_ | refine AW_skip ?_ | refine AW_exit ?_ | refine Kq_exit_code ?_ | refine Kq_exit_lp ?_ | refine Kq_exit_blk ?_ | refine Kq_exit_ne (by decide) ?_ | refine Kq_norm_code ?_ | refine Kq_norm_blk ?_ | refine Kq_norm_lp ?_ | rw [wrap64 (by omega) (by omega)] | (refine hK _ ?_; clear hK hKp K Kp; (try clear hanc anc)) | (refine hKp _ _ ?_; clear hK hKp K Kp; (try clear hanc anc)) | ((with_reducible refine And.intro ?_ ?_); (focus (first | trivial | omega | (simp only [Fits]; omega) | (refine ⟨?_, ?_⟩ <;> (simp only [Fits]; omega)) | assumption | (rw [hanc]; rfl)))) | ((first | refine K_regA hE fun K Kp hK hKp => ?_ | refine K_drwA true mixed hE fun K Kp hK hKp anc hanc => ?_ | refine K_drwA false mixed hE fun K Kp hK hKp anc hanc => ?_); simp only [go_sem, ↓reduceIte, reduceCtorEq, Nat.reduceAdd, Nat.reduceMul, Nat.reduceEqDiff, Nat.reduceLT, Nat.reduceLeDiff, Nat.reduceSub, Nat.reduceDiv, Nat.reducePow, Nat.reduceBEq, Int.reduceBEq, Int.reduceBNe, Int.reduceLT, Int.reduceLE, Int.reduceEq, lt_dec' hlt, hx, d1, d2, blksAV_len, Nd.av_eq]) | ((first | refine onG_split_t (fun hg => ?_) (fun hg => ?_) | refine onG_split_f (fun hg => ?_) (fun hg => ?_)) <;> simp only [go_sem, ↓reduceIte, reduceCtorEq, Nat.reduceAdd, Nat.reduceMul, Nat.reduceEqDiff, Nat.reduceLT, Nat.reduceLeDiff, Nat.reduceSub, Nat.reduceDiv, Nat.reducePow, Nat.reduceBEq, Int.reduceBEq, Int.reduceBNe, Int.reduceLT, Int.reduceLE, Int.reduceEq, lt_dec' hlt, hx, d1, d2, blksAV_len, Nd.av_eq, hg]) | (refine K_condA (fun hc => ?_) (fun hc => ?_) <;> try (exact absurd hc (by decide))))
      refine Hold.mk ( LCall.use (hcl) rfl hm hb (o := 10) (by omega) ((by (repeat (first | exact (fun _ _ h => h) | refine LowIn.curL ?_ | exact LowB.base | refine LowIn.upd ?_ (lowHp_none (by omega) (by omega)) | refine LowB.upd ?_ (lowHp_none (by omega) (by omega)))))) (Nat.le_of_ble_eq_true rfl) ?_ (fun _ _ _ _ h => h.elim))
      rintro r bl' cur' ⟨fr', hp', nx'⟩ ⟨rfl, rfl, rfl⟩ _ hb' hlen' hnx hfr hin hold
      simp only at hnx hfr hin hold
      subst hnx hfr
      simp only [go_sem, ↓reduceIte, reduceCtorEq, Nat.reduceAdd, Nat.reduceMul, Nat.reduceEqDiff, Nat.reduceLT, Nat.reduceLeDiff, Nat.reduceSub, Nat.reduceDiv, Nat.reducePow, Nat.reduceBEq, Int.reduceBEq, Int.reduceBNe, Int.reduceLT, Int.reduceLE, Int.reduceEq]
      refine hK _ ?_; clear hK hKp K Kp; (try clear hanc anc)
      repeat (first | refine Kq_norm_code ?_ | refine Kq_norm_blk ?_ | refine Kq_norm_lp ?_)
      refine K_low (fr := [(0, .ptr 0 0), (1, .sl (Nd.avL l)), (2, .i (rN n t k).1), (7, .i i)]) (loc := []) _ (fun i => i) hN hb' hlen' hm (by omega) hin (by simp [go_sem, lowM]) (by simp [hold]) (by simp) ?_
      clear hin hold; clear hb; have hb := hb'; clear hb'
      repeat' (first | refine K_seq ?_ | refine K_blk ?_ | refine AW_skip ?_ | refine AW_exit ?_ | refine Kq_exit_code ?_ | refine Kq_exit_lp ?_ | refine Kq_exit_blk ?_ | refine Kq_exit_ne (by decide) ?_ | refine Kq_norm_code ?_ | refine Kq_norm_blk ?_ | refine Kq_norm_lp ?_ | rw [wrap64 (by omega) (by omega)] | (refine hK _ ?_; clear hK hKp K Kp; (try clear hanc anc)) | (refine hKp _ _ ?_; clear hK hKp K Kp; (try clear hanc anc)) | ((with_reducible refine And.intro ?_ ?_); (focus (first | trivial | omega | (simp only [Fits]; omega) | (refine ⟨?_, ?_⟩ <;> (simp only [Fits]; omega)) | assumption | (rw [hanc]; rfl)))) | ((first | refine K_regA hE fun K Kp hK hKp => ?_ | refine K_drwA true mixed hE fun K Kp hK hKp anc hanc => ?_ | refine K_drwA false mixed hE fun K Kp hK hKp anc hanc => ?_); simp only [go_sem, ↓reduceIte, reduceCtorEq, Nat.reduceAdd, Nat.reduceMul, Nat.reduceEqDiff, Nat.reduceLT, Nat.reduceLeDiff, Nat.reduceSub, Nat.reduceDiv, Nat.reducePow, Nat.reduceBEq, Int.reduceBEq, Int.reduceBNe, Int.reduceLT, Int.reduceLE, Int.reduceEq]) | ((first | refine onG_split_t (fun hg => ?_) (fun hg => ?_) | refine onG_split_f (fun hg => ?_) (fun hg => ?_)) <;> simp only [go_sem, ↓reduceIte, reduceCtorEq, Nat.reduceAdd, Nat.reduceMul, Nat.reduceEqDiff, Nat.reduceLT, Nat.reduceLeDiff, Nat.reduceSub, Nat.reduceDiv, Nat.reducePow, Nat.reduceBEq, Int.reduceBEq, Int.reduceBNe, Int.reduceLT, Int.reduceLE, Int.reduceEq, hg]) | (refine K_condA (fun hc => ?_) (fun hc => ?_) <;> try (exact absurd hc (by decide))))
      refine ⟨(i + 1, (rN n t k).2, (rN n t k).1), ⟨by simp only; omega, ht, gr.2, hnext⟩, by simp only; omega, lowM (fun i => i) 10, ?_⟩
      try dsimp only
      rw [hN]; exact ent_low (fr := [(0, .ptr 0 0), (1, .sl (Nd.avL l)), (2, .i (rN n t k).1), (7, .i (i + 1 : Nat))]) (loc := []) (base := 10) (fun i => i) hb (by omega) hm (by omega) (by (repeat (first | exact (fun _ _ h => h) | refine LowIn.curL ?_ | exact LowB.base | refine LowIn.upd ?_ (lowHp_none (by omega) (by omega)) | refine LowB.upd ?_ (lowHp_none (by omega) (by omega))))) (by simp [go_sem, lowM]) (by simp) (by simp)
    · rw [if_neg hgo] at ht
      by_cases h0 : 0 ≤ c
      · have d1 : decide ((t.length : Int) ≤ 400) = false := decide_eq_false (by omega)
        have d2 : decide (0 ≤ c) = true := decide_eq_true h0
        repeat' (first | refine K_seq ?_ | refine K_blk ?_ | refine AW_skip ?_ | refine AW_exit ?_ | refine Kq_exit_code ?_ | refine Kq_exit_lp ?_ | refine Kq_exit_blk ?_ | refine Kq_exit_ne (by decide) ?_ | refine Kq_norm_code ?_ | refine Kq_norm_blk ?_ | refine Kq_norm_lp ?_ | rw [wrap64 (by omega) (by omega)] | (refine hK _ ?_; clear hK hKp K Kp; (try clear hanc anc)) | (refine hKp _ _ ?_; clear hK hKp K Kp; (try clear hanc anc)) | ((with_reducible refine And.intro ?_ ?_); (focus (first | trivial | omega | (simp only [Fits]; omega) | (refine ⟨?_, ?_⟩ <;> (simp only [Fits]; omega)) | assumption | (rw [hanc]; rfl)))) | ((first | refine K_regA hE fun K Kp hK hKp => ?_ | refine K_drwA true mixed hE fun K Kp hK hKp anc hanc => ?_ | refine K_drwA false mixed hE fun K Kp hK hKp anc hanc => ?_); simp only [go_sem, ↓reduceIte, reduceCtorEq, Nat.reduceAdd, Nat.reduceMul, Nat.reduceEqDiff, Nat.reduceLT, Nat.reduceLeDiff, Nat.reduceSub, Nat.reduceDiv, Nat.reducePow, Nat.reduceBEq, Int.reduceBEq, Int.reduceBNe, Int.reduceLT, Int.reduceLE, Int.reduceEq, lt_dec' hlt, hx, d1, d2, blksAV_len]) | ((first | refine onG_split_t (fun hg => ?_) (fun hg => ?_) | refine onG_split_f (fun hg => ?_) (fun hg => ?_)) <;> simp only [go_sem, ↓reduceIte, reduceCtorEq, Nat.reduceAdd, Nat.reduceMul, Nat.reduceEqDiff, Nat.reduceLT, Nat.reduceLeDiff, Nat.reduceSub, Nat.reduceDiv, Nat.reducePow, Nat.reduceBEq, Int.reduceBEq, Int.reduceBNe, Int.reduceLT, Int.reduceLE, Int.reduceEq, lt_dec' hlt, hx, d1, d2, blksAV_len, hg]) | (refine K_condA (fun hc => ?_) (fun hc => ?_) <;> try (exact absurd hc (by decide))))
        refine K_ret ?_
        exact (hQ _ (.i c) t 0 (resA_tmp (by simp only [go_sem, ↓reduceIte, reduceCtorEq, Nat.reduceAdd, Nat.reduceMul, Nat.reduceEqDiff, Nat.reduceLT, Nat.reduceLeDiff, Nat.reduceSub, Nat.reduceDiv, Nat.reducePow, Nat.reduceBEq, Int.reduceBEq, Int.reduceBNe, Int.reduceLT, Int.reduceLE, Int.reduceEq])) (by rw [ht]; exact ⟨rfl, rfl, rfl⟩) rfl (Out.of_in (base := 10) hb hm (by omega) (fun _ _ h => h) hlent)).1
      · have d2 : decide (0 ≤ c) = false := decide_eq_false h0
        repeat' (first | refine K_seq ?_ | refine K_blk ?_ | refine AW_skip ?_ | refine AW_exit ?_ | refine Kq_exit_code ?_ | refine Kq_exit_lp ?_ | refine Kq_exit_blk ?_ | refine Kq_exit_ne (by decide) ?_ | refine Kq_norm_code ?_ | refine Kq_norm_blk ?_ | refine Kq_norm_lp ?_ | rw [wrap64 (by omega) (by omega)] | (refine hK _ ?_; clear hK hKp K Kp; (try clear hanc anc)) | (refine hKp _ _ ?_; clear hK hKp K Kp; (try clear hanc anc)) | ((with_reducible refine And.intro ?_ ?_); (focus (first | trivial | omega | (simp only [Fits]; omega) | (refine ⟨?_, ?_⟩ <;> (simp only [Fits]; omega)) | assumption | (rw [hanc]; rfl)))) | ((first | refine K_regA hE fun K Kp hK hKp => ?_ | refine K_drwA true mixed hE fun K Kp hK hKp anc hanc => ?_ | refine K_drwA false mixed hE fun K Kp hK hKp anc hanc => ?_); simp only [go_sem, ↓reduceIte, reduceCtorEq, Nat.reduceAdd, Nat.reduceMul, Nat.reduceEqDiff, Nat.reduceLT, Nat.reduceLeDiff, Nat.reduceSub, Nat.reduceDiv, Nat.reducePow, Nat.reduceBEq, Int.reduceBEq, Int.reduceBNe, Int.reduceLT, Int.reduceLE, Int.reduceEq, lt_dec' hlt, hx, d2, blksAV_len]) | ((first | refine onG_split_t (fun hg => ?_) (fun hg => ?_) | refine onG_split_f (fun hg => ?_) (fun hg => ?_)) <;> simp only [go_sem, ↓reduceIte, reduceCtorEq, Nat.reduceAdd, Nat.reduceMul, Nat.reduceEqDiff, Nat.reduceLT, Nat.reduceLeDiff, Nat.reduceSub, Nat.reduceDiv, Nat.reducePow, Nat.reduceBEq, Int.reduceBEq, Int.reduceBNe, Int.reduceLT, Int.reduceLE, Int.reduceEq, lt_dec' hlt, hx, d2, blksAV_len, hg]) | (refine K_condA (fun hc => ?_) (fun hc => ?_) <;> try (exact absurd hc (by decide))))
        refine K_ret ?_
        exact (hQ _ (.i c) t 0 (resA_tmp (by simp only [go_sem, ↓reduceIte, reduceCtorEq, Nat.reduceAdd, Nat.reduceMul, Nat.reduceEqDiff, Nat.reduceLT, Nat.reduceLeDiff, Nat.reduceSub, Nat.reduceDiv, Nat.reducePow, Nat.reduceBEq, Int.reduceBEq, Int.reduceBNe, Int.reduceLT, Int.reduceLE, Int.reduceEq])) (by rw [ht]; exact ⟨rfl, rfl, rfl⟩) rfl (Out.of_in (base := 10) hb hm (by omega) (fun _ _ h => h) hlent)).1
  · obtain rfl : i = l.length := by omega
    rw [List.drop_length, rL] at ht
    repeat' (first | refine K_seq ?_ | refine K_blk ?_ | refine AW_skip ?_ | refine AW_exit ?_ | refine Kq_exit_code ?_ | refine Kq_exit_lp ?_ | refine Kq_exit_blk ?_ | refine Kq_exit_ne (by decide) ?_ | refine Kq_norm_code ?_ | refine Kq_norm_blk ?_ | refine Kq_norm_lp ?_ | rw [wrap64 (by omega) (by omega)] | (refine hK _ ?_; clear hK hKp K Kp; (try clear hanc anc)) | (refine hKp _ _ ?_; clear hK hKp K Kp; (try clear hanc anc)) | ((with_reducible refine And.intro ?_ ?_); (focus (first | trivial | omega | (simp only [Fits]; omega) | (refine ⟨?_, ?_⟩ <;> (simp only [Fits]; omega)) | assumption | (rw [hanc]; rfl)))) | ((first | refine K_regA hE fun K Kp hK hKp => ?_ | refine K_drwA true mixed hE fun K Kp hK hKp anc hanc => ?_ | refine K_drwA false mixed hE fun K Kp hK hKp anc hanc => ?_); simp only [go_sem, ↓reduceIte, reduceCtorEq, Nat.reduceAdd, Nat.reduceMul, Nat.reduceEqDiff, Nat.reduceLT, Nat.reduceLeDiff, Nat.reduceSub, Nat.reduceDiv, Nat.reducePow, Nat.reduceBEq, Int.reduceBEq, Int.reduceBNe, Int.reduceLT, Int.reduceLE, Int.reduceEq, ge_dec']) | ((first | refine onG_split_t (fun hg => ?_) (fun hg => ?_) | refine onG_split_f (fun hg => ?_) (fun hg => ?_)) <;> simp only [go_sem, ↓reduceIte, reduceCtorEq, Nat.reduceAdd, Nat.reduceMul, Nat.reduceEqDiff, Nat.reduceLT, Nat.reduceLeDiff, Nat.reduceSub, Nat.reduceDiv, Nat.reducePow, Nat.reduceBEq, Int.reduceBEq, Int.reduceBNe, Int.reduceLT, Int.reduceLE, Int.reduceEq, ge_dec', hg]) | (refine K_condA (fun hc => ?_) (fun hc => ?_) <;> try (exact absurd hc (by decide))))
    refine K_ret ?_
    exact (hQ _ (.i c) t 0 (resA_tmp (by simp only [go_sem, ↓reduceIte, reduceCtorEq, Nat.reduceAdd, Nat.reduceMul, Nat.reduceEqDiff, Nat.reduceLT, Nat.reduceLeDiff, Nat.reduceSub, Nat.reduceDiv, Nat.reducePow, Nat.reduceBEq, Int.reduceBEq, Int.reduceBNe, Int.reduceLT, Int.reduceLE, Int.reduceEq])) (by rw [ht]; exact ⟨rfl, rfl, rfl⟩) rfl (Out.of_in (base := 10) hb hm (by omega) (fun _ _ h => h) hlent)).1

theorem rP_drop {ps : List (List Nd)} {i : Nat} {p : List Nd} (h : ps[i]? = some p) (f : Nat) (bl : List Blk) : rP (ps.drop i) f bl = (exitOf (rL p bl (f : Int)).1 ++ (rP (ps.drop (i + 1)) (f + 1) (rL p bl (f : Int)).2).1, (rP (ps.drop (i + 1)) (f + 1) (rL p bl (f : Int)).2).2) := by
  rw [drop_of' h, rP]
theorem rJoin_eq (exits : List Nat) (bl : List Blk) : rJoin exits bl = if exits = [] then (-1, bl) else ((bl.length : Int), exits.foldl (fun t b => endB t b 1 0 [((bl.length : Nat) : Int)]) (bl ++ [Blk.nil])) := rfl
theorem exitOf_nn {r : Int} (h : 0 ≤ r) : (exitOf r).map (fun (b : Nat) => (b : Int)) = [r] := by
  unfold exitOf
  rw [if_pos h]
  simp only [List.map_cons, List.map_nil, Int.toNat_of_nonneg h]
theorem exitOf_neg {r : Int} (h : ¬ 0 ≤ r) : exitOf r = [] := if_neg h
theorem rP_exits : ∀ (ps : List (List Nd)) (f : Nat) (bl : List Blk), f + ps.length ≤ bl.length → ∀ b, b ∈ (rP ps f bl).1 → b < (rP ps f bl).2.length
  | [], f, bl, _, b, hb => by rw [rP] at hb; cases hb
  | p :: ps, f, bl, hf, b, hb => by
    rw [rP] at hb ⊢
    simp only [List.length_cons] at hf hb ⊢
    have g1 := rL_grow p bl (f : Int) (by omega)
    have h1 := g1.1.le
    have g2 := rP_grow ps (f + 1) (rL p bl (f : Int)).2 (by omega)
    have h2 := g2.le
    rcases List.mem_append.1 hb with hb | hb
    · unfold exitOf at hb
      split at hb
      · have := List.mem_singleton.1 hb
        omega
      · cases hb
    · exact rP_exits ps (f + 1) _ (by omega) b hb

theorem rparts_rc {N : Nat} (hL : RListC N) : RPartsC N := by
  intro ps hn ho f bl fs hfs hf h
  have hm := okR
  have hb := h.ok
  have hlen := h.len5
  have hl4 := h.len
  have hpl := szP_len ps
  unfold RC
  refine LCall.intro Try.func51 rfl isf51 (by simp [Try.f51]) hm fun E Q hE hN hQ hQp => K_start ?_
  refine K_low (fr := [(0, .ptr 0 0), (1, .sl (Nd.avLL ps)), (2, .sl (fs.map AV.i))]) (loc := []) (base := 2) (fun i => i) hN hb (by omega) hm (Nat.le_refl 2) (fun _ _ h => h) (by simp [go_sem, lowM]) (by simp) (by simp) ?_
  repeat' (first | refine K_seq ?_ | refine K_blk ?_ | refine AW_skip ?_ | refine AW_exit ?_ | refine Kq_exit_code ?_ | refine Kq_exit_lp ?_ | refine Kq_exit_blk ?_ | refine Kq_exit_ne (by decide) ?_ | refine Kq_norm_code ?_ | refine Kq_norm_blk ?_ | refine Kq_norm_lp ?_ | rw [wrap64 (by omega) (by omega)] | (refine hK _ ?_; clear hK hKp K Kp; (try clear hanc anc)) | (refine hKp _ _ ?_; clear hK hKp K Kp; (try clear hanc anc)) | ((with_reducible refine And.intro ?_ ?_); (focus (first | trivial | omega | (simp only [Fits]; omega) | (refine ⟨?_, ?_⟩ <;> (simp only [Fits]; omega)) | assumption | (rw [hanc]; rfl)))) | ((first | refine K_regA hE fun K Kp hK hKp => ?_ | refine K_drwA true mixed hE fun K Kp hK hKp anc hanc => ?_ | refine K_drwA false mixed hE fun K Kp hK hKp anc hanc => ?_); simp only [go_sem, ↓reduceIte, reduceCtorEq, Nat.reduceAdd, Nat.reduceMul, Nat.reduceEqDiff, Nat.reduceLT, Nat.reduceLeDiff, Nat.reduceSub, Nat.reduceDiv, Nat.reducePow, Nat.reduceBEq, Int.reduceBEq, Int.reduceBNe, Int.reduceLT, Int.reduceLE, Int.reduceEq]) | ((first | refine onG_split_t (fun hg => ?_) (fun hg => ?_) | refine onG_split_f (fun hg => ?_) (fun hg => ?_)) <;> simp only [go_sem, ↓reduceIte, reduceCtorEq, Nat.reduceAdd, Nat.reduceMul, Nat.reduceEqDiff, Nat.reduceLT, Nat.reduceLeDiff, Nat.reduceSub, Nat.reduceDiv, Nat.reducePow, Nat.reduceBEq, Int.reduceBEq, Int.reduceBNe, Int.reduceLT, Int.reduceLE, Int.reduceEq, hg]) | (refine K_condA (fun hc => ?_) (fun hc => ?_) <;> try (exact absurd hc (by decide))))
  refine K_loop (X := Nat × List Blk × List Int) (fun x => x.1 ≤ ps.length ∧ (rP ps f bl).2 = (rP (ps.drop x.1) (f + x.1) x.2.1).2 ∧ (rP ps f bl).1.map (fun (b : Nat) => (b : Int)) = x.2.2 ++ (rP (ps.drop x.1) (f + x.1) x.2.1).1.map (fun (b : Nat) => (b : Int)) ∧ x.2.2.length ≤ x.1 ∧ PreB x.2.1 (4 * szP (ps.drop x.1) - 4 * (ps.length - x.1) + 1) ∧ f + ps.length ≤ x.2.1.length)
    (fun x => lowSt [(0, .ptr 0 0), (1, .sl (Nd.avLL ps)), (2, .sl (fs.map AV.i)), (7, .rw 2), (8, .i x.1)] [(2, .row 1 (x.2.2.map AV.i))] hsR x.2.1 0) (fun x => ps.length - x.1) (0, bl, []) ⟨Nat.zero_le _, rfl, rfl, Nat.le_refl _, by simpa using h, hf⟩ (lowM (fun _ => 2048576) 10) ?_ ?_
  · try dsimp only
    rw [hN]; exact ent_low (fr := [(0, .ptr 0 0), (1, .sl (Nd.avLL ps)), (2, .sl (fs.map AV.i)), (7, .rw 2), (8, .i (0 : Nat))]) (loc := [(2, .row 1 ((([] : List Int)).map AV.i))]) (base := 10) (fun _ => 2048576) hb (by omega) hm (by omega) (by (repeat (first | exact (fun _ _ h => h) | refine LowIn.curL ?_ | exact LowB.base | refine LowIn.upd ?_ (lowHp_none (by omega) (by omega)) | refine LowB.upd ?_ (lowHp_none (by omega) (by omega))))) (by simp [go_sem, lowM]) (by intro p hp; obtain rfl := List.mem_singleton.1 hp; exact ⟨Nat.le_refl 2, (by show 2 < 10; decide), (by rw [rowi_ren]; simp [go_sem]), rowi_ids _ _, lowHp_none (by omega) (by omega)⟩) (by simp)
  rintro ⟨i, t, ex⟩ ⟨hi, ht, hex, hxl, hpre, hft⟩
  simp only at hi ht hex hxl hpre hft
  clear hb
  have hb := hpre.ok
  have hlent := hpre.len5
  have hl5 := hpre.len
  by_cases hlt : i < ps.length
  · obtain ⟨p, hx⟩ := get?_of' hlt
    rw [rP_drop hx] at ht hex
    have hnp := hn p (List.mem_of_getElem? hx)
    have hop := kdP_mem ho (List.mem_of_getElem? hx)
    rw [szP_drop hx] at hpre hl5
    have hpl2 := szP_len (ps.drop (i + 1))
    rw [List.length_drop] at hpl2
    have hfi : fs[i]? = some ((f + i : Nat) : Int) := by rw [hfs]; simp [hlt]
    have hfl : fs.length = ps.length := by rw [hfs]; simp
    have hpa : PreB t (4 * szL p + (4 * szP (ps.drop (i + 1)) - 4 * (ps.length - (i + 1)) + 1)) := hpre.mono (by omega)
    have gr := rL_grow p t ((f + i : Nat) : Int) (by omega)
    have hnext : PreB (rL p t ((f + i : Nat) : Int)).2 (4 * szP (ps.drop (i + 1)) - 4 * (ps.length - (i + 1)) + 1) := hpa.grow gr.1 (by omega)
    have hcl := hL p hnp hop t ((f + i : Nat) : Int) (by omega) (hpa.mono (by omega))
    have hbl : t.length ≤ (rL p t ((f + i : Nat) : Int)).2.length := gr.1.le
    repeat' (first | refine K_seq ?_ | refine K_blk ?_ | refine AW_skip ?_ | refine AW_exit ?_ | refine Kq_exit_code ?_ | refine Kq_exit_lp ?_ | refine Kq_exit_blk ?_ | refine Kq_exit_ne (by decide) ?_ | refine Kq_norm_code ?_ | refine Kq_norm_blk ?_ | refine Kq_norm_lp ?_ | rw [wrap64 (by omega) (by omega)] | (refine hK _ ?_; clear hK hKp K Kp; (try clear hanc anc)) | (refine hKp _ _ ?_; clear hK hKp K Kp; (try clear hanc anc)) | ((with_reducible refine And.intro ?_ ?_); (focus (first | trivial | omega | (simp only [Fits]; omega) | (refine ⟨?_, ?_⟩ <;> (simp only [Fits]; omega)) | assumption | (rw [hanc]; rfl)))) | ((first | refine K_regA hE fun K Kp hK hKp => ?_ | refine K_drwA true mixed hE fun K Kp hK hKp anc hanc => ?_ | refine K_drwA false mixed hE fun K Kp hK hKp anc hanc => ?_); simp only [go_sem, ↓reduceIte, reduceCtorEq, Nat.reduceAdd, Nat.reduceMul, Nat.reduceEqDiff, Nat.reduceLT, Nat.reduceLeDiff, Nat.reduceSub, Nat.reduceDiv, Nat.reducePow, Nat.reduceBEq, Int.reduceBEq, Int.reduceBNe, Int.reduceLT, Int.reduceLE, Int.reduceEq, lt_dec' hlt, hx, hfi]) | ((first | refine onG_split_t (fun hg => ?_) (fun hg => ?_) | refine onG_split_f (fun hg => ?_) (fun hg => ?_)) <;> simp only [go_sem, ↓reduceIte, reduceCtorEq, Nat.reduceAdd, Nat.reduceMul, Nat.reduceEqDiff, Nat.reduceLT, Nat.reduceLeDiff, Nat.reduceSub, Nat.reduceDiv, Nat.reducePow, Nat.reduceBEq, Int.reduceBEq, Int.reduceBNe, Int.reduceLT, Int.reduceLE, Int.reduceEq, lt_dec' hlt, hx, hfi, hg]) | (refine K_condA (fun hc => ?_) (fun hc => ?_) <;> try (exact absurd hc (by decide))))
    refine Hold.mk ( LCall.use (hcl) rfl hm hb (o := 10) (by omega) ((by (repeat (first | exact (fun _ _ h => h) | refine LowIn.curL ?_ | exact LowB.base | refine LowIn.upd ?_ (lowHp_none (by omega) (by omega)) | refine LowB.upd ?_ (lowHp_none (by omega) (by omega)))))) (Nat.le_of_ble_eq_true rfl) ?_ (fun _ _ _ _ h => h.elim))
    rintro r bl' cur' ⟨fr', hp', nx'⟩ ⟨rfl, rfl, rfl⟩ _ hb' hlen' hnx hfr hin hold
    simp only at hnx hfr hin hold
    subst hnx hfr
    simp only [go_sem, ↓reduceIte, reduceCtorEq, Nat.reduceAdd, Nat.reduceMul, Nat.reduceEqDiff, Nat.reduceLT, Nat.reduceLeDiff, Nat.reduceSub, Nat.reduceDiv, Nat.reducePow, Nat.reduceBEq, Int.reduceBEq, Int.reduceBNe, Int.reduceLT, Int.reduceLE, Int.reduceEq]
    refine hK _ ?_; clear hK hKp K Kp; (try clear hanc anc)
    repeat (first | refine Kq_norm_code ?_ | refine Kq_norm_blk ?_ | refine Kq_norm_lp ?_)
    refine K_low (fr := [(0, .ptr 0 0), (1, .sl (Nd.avLL ps)), (2, .sl (fs.map AV.i)), (7, .rw 2), (8, .i i), (9, .i (rL p t ((f + i : Nat) : Int)).1)]) (loc := [(2, .row 1 ((ex).map AV.i))]) _ (fun i => i) hN hb' hlen' hm (by omega) hin (by simp [go_sem, lowM]) (by intro p hp; obtain rfl := List.mem_singleton.1 hp; exact ⟨Nat.le_refl 2, (by show 2 < 10; decide), (by rw [rowi_ren]; exact hold _ _ (by simp [go_sem]) (lowHp_none (by omega) (by omega))), rowi_ids _ _, lowHp_none (by omega) (.inl (by omega))⟩) (by simp) ?_
    clear hin hold; clear hb; have hb := hb'; clear hb'
    by_cases hr : 0 ≤ (rL p t ((f + i : Nat) : Int)).1
    · have d1 : decide (0 ≤ (rL p t ((f + i : Nat) : Int)).1) = true := decide_eq_true hr
      repeat' (first | refine K_seq ?_ | refine K_blk ?_ | refine AW_skip ?_ | refine AW_exit ?_ | refine Kq_exit_code ?_ | refine Kq_exit_lp ?_ | refine Kq_exit_blk ?_ | refine Kq_exit_ne (by decide) ?_ | refine Kq_norm_code ?_ | refine Kq_norm_blk ?_ | refine Kq_norm_lp ?_ | rw [wrap64 (by omega) (by omega)] | (refine hK _ ?_; clear hK hKp K Kp; (try clear hanc anc)) | (refine hKp _ _ ?_; clear hK hKp K Kp; (try clear hanc anc)) | ((with_reducible refine And.intro ?_ ?_); (focus (first | trivial | omega | (simp only [Fits]; omega) | (refine ⟨?_, ?_⟩ <;> (simp only [Fits]; omega)) | assumption | (rw [hanc]; rfl)))) | ((first | refine K_regA hE fun K Kp hK hKp => ?_ | refine K_drwA true mixed hE fun K Kp hK hKp anc hanc => ?_ | refine K_drwA false mixed hE fun K Kp hK hKp anc hanc => ?_); simp only [go_sem, ↓reduceIte, reduceCtorEq, Nat.reduceAdd, Nat.reduceMul, Nat.reduceEqDiff, Nat.reduceLT, Nat.reduceLeDiff, Nat.reduceSub, Nat.reduceDiv, Nat.reducePow, Nat.reduceBEq, Int.reduceBEq, Int.reduceBNe, Int.reduceLT, Int.reduceLE, Int.reduceEq, d1]) | ((first | refine onG_split_t (fun hg => ?_) (fun hg => ?_) | refine onG_split_f (fun hg => ?_) (fun hg => ?_)) <;> simp only [go_sem, ↓reduceIte, reduceCtorEq, Nat.reduceAdd, Nat.reduceMul, Nat.reduceEqDiff, Nat.reduceLT, Nat.reduceLeDiff, Nat.reduceSub, Nat.reduceDiv, Nat.reducePow, Nat.reduceBEq, Int.reduceBEq, Int.reduceBNe, Int.reduceLT, Int.reduceLE, Int.reduceEq, d1, hg]) | (refine K_condA (fun hc => ?_) (fun hc => ?_) <;> try (exact absurd hc (by decide))))
      rw [List.map_append, exitOf_nn hr, ← List.append_assoc] at hex
      refine ⟨(i + 1, (rL p t ((f + i : Nat) : Int)).2, ex ++ [(rL p t ((f + i : Nat) : Int)).1]), ⟨by simp only; omega, ht, hex, by simp only [List.length_append, List.length_cons, List.length_nil]; omega, hnext, by simp only; omega⟩, by simp only; omega, lowM (fun _ => 6242880) 10, ?_⟩
      try dsimp only
      rw [hN]; exact ent_low (fr := [(0, .ptr 0 0), (1, .sl (Nd.avLL ps)), (2, .sl (fs.map AV.i)), (7, .rw 2), (8, .i (i + 1 : Nat))]) (loc := [(2, .row 1 ((ex ++ [(rL p t ((f + i : Nat) : Int)).1]).map AV.i))]) (base := 10) (fun _ => 6242880) hb (by omega) hm (by omega) (by (repeat (first | exact (fun _ _ h => h) | refine LowIn.curL ?_ | exact LowB.base | refine LowIn.upd ?_ (lowHp_none (by omega) (by omega)) | refine LowB.upd ?_ (lowHp_none (by omega) (by omega))))) (by simp [go_sem, lowM, List.map_append, List.map_cons, List.map_nil]) (by intro p hp; obtain rfl := List.mem_singleton.1 hp; exact ⟨Nat.le_refl 2, (by show 2 < 10; decide), (by rw [rowi_ren]; simp [go_sem, List.map_append, List.map_cons, List.map_nil]), rowi_ids _ _, lowHp_none (by omega) (by omega)⟩) (by simp)
    · have d1 : decide (0 ≤ (rL p t ((f + i : Nat) : Int)).1) = false := decide_eq_false hr
      repeat' (first | refine K_seq ?_ | refine K_blk ?_ | refine AW_skip ?_ | refine AW_exit ?_ | refine Kq_exit_code ?_ | refine Kq_exit_lp ?_ | refine Kq_exit_blk ?_ | refine Kq_exit_ne (by decide) ?_ | refine Kq_norm_code ?_ | refine Kq_norm_blk ?_ | refine Kq_norm_lp ?_ | rw [wrap64 (by omega) (by omega)] | (refine hK _ ?_; clear hK hKp K Kp; (try clear hanc anc)) | (refine hKp _ _ ?_; clear hK hKp K Kp; (try clear hanc anc)) | ((with_reducible refine And.intro ?_ ?_); (focus (first | trivial | omega | (simp only [Fits]; omega) | (refine ⟨?_, ?_⟩ <;> (simp only [Fits]; omega)) | assumption | (rw [hanc]; rfl)))) | ((first | refine K_regA hE fun K Kp hK hKp => ?_ | refine K_drwA true mixed hE fun K Kp hK hKp anc hanc => ?_ | refine K_drwA false mixed hE fun K Kp hK hKp anc hanc => ?_); simp only [go_sem, ↓reduceIte, reduceCtorEq, Nat.reduceAdd, Nat.reduceMul, Nat.reduceEqDiff, Nat.reduceLT, Nat.reduceLeDiff, Nat.reduceSub, Nat.reduceDiv, Nat.reducePow, Nat.reduceBEq, Int.reduceBEq, Int.reduceBNe, Int.reduceLT, Int.reduceLE, Int.reduceEq, d1]) | ((first | refine onG_split_t (fun hg => ?_) (fun hg => ?_) | refine onG_split_f (fun hg => ?_) (fun hg => ?_)) <;> simp only [go_sem, ↓reduceIte, reduceCtorEq, Nat.reduceAdd, Nat.reduceMul, Nat.reduceEqDiff, Nat.reduceLT, Nat.reduceLeDiff, Nat.reduceSub, Nat.reduceDiv, Nat.reducePow, Nat.reduceBEq, Int.reduceBEq, Int.reduceBNe, Int.reduceLT, Int.reduceLE, Int.reduceEq, d1, hg]) | (refine K_condA (fun hc => ?_) (fun hc => ?_) <;> try (exact absurd hc (by decide))))
      rw [exitOf_neg hr, List.nil_append] at hex
      refine ⟨(i + 1, (rL p t ((f + i : Nat) : Int)).2, ex), ⟨by simp only; omega, ht, hex, by simp only; omega, hnext, by simp only; omega⟩, by simp only; omega, lowM (fun i => i) 10, ?_⟩
      try dsimp only
      rw [hN]; exact ent_low (fr := [(0, .ptr 0 0), (1, .sl (Nd.avLL ps)), (2, .sl (fs.map AV.i)), (7, .rw 2), (8, .i (i + 1 : Nat))]) (loc := [(2, .row 1 ((ex).map AV.i))]) (base := 10) (fun i => i) hb (by omega) hm (by omega) (by (repeat (first | exact (fun _ _ h => h) | refine LowIn.curL ?_ | exact LowB.base | refine LowIn.upd ?_ (lowHp_none (by omega) (by omega)) | refine LowB.upd ?_ (lowHp_none (by omega) (by omega))))) (by simp [go_sem, lowM]) (by intro p hp; obtain rfl := List.mem_singleton.1 hp; exact ⟨Nat.le_refl 2, (by show 2 < 10; decide), (by rw [rowi_ren]; simp [go_sem]), rowi_ids _ _, lowHp_none (by omega) (by omega)⟩) (by simp)
  · obtain rfl : i = ps.length := by omega
    rw [List.drop_length, rP] at ht hex
    simp only [List.map_nil, List.append_nil] at hex
    subst ht
    subst hex
    have hjl := rJoin_eq (rP ps f bl).1 (rP ps f bl).2
    have hgP := rP_exits ps f bl hf
    have hu : PreB (rP ps f bl).2 1 := hpre.mono (by omega)
    clear hpre hft
    generalize rP ps f bl = P at *
    obtain ⟨es, u⟩ := P
    simp only [List.length_map] at *
    by_cases h0 : es = []
    · subst h0
      rw [if_pos rfl] at hjl
      repeat' (first | refine K_seq ?_ | refine K_blk ?_ | refine AW_skip ?_ | refine AW_exit ?_ | refine Kq_exit_code ?_ | refine Kq_exit_lp ?_ | refine Kq_exit_blk ?_ | refine Kq_exit_ne (by decide) ?_ | refine Kq_norm_code ?_ | refine Kq_norm_blk ?_ | refine Kq_norm_lp ?_ | rw [wrap64 (by omega) (by omega)] | (refine hK _ ?_; clear hK hKp K Kp; (try clear hanc anc)) | (refine hKp _ _ ?_; clear hK hKp K Kp; (try clear hanc anc)) | ((with_reducible refine And.intro ?_ ?_); (focus (first | trivial | omega | (simp only [Fits]; omega) | (refine ⟨?_, ?_⟩ <;> (simp only [Fits]; omega)) | assumption | (rw [hanc]; rfl)))) | ((first | refine K_regA hE fun K Kp hK hKp => ?_ | refine K_drwA true mixed hE fun K Kp hK hKp anc hanc => ?_ | refine K_drwA false mixed hE fun K Kp hK hKp anc hanc => ?_); simp only [go_sem, ↓reduceIte, reduceCtorEq, Nat.reduceAdd, Nat.reduceMul, Nat.reduceEqDiff, Nat.reduceLT, Nat.reduceLeDiff, Nat.reduceSub, Nat.reduceDiv, Nat.reducePow, Nat.reduceBEq, Int.reduceBEq, Int.reduceBNe, Int.reduceLT, Int.reduceLE, Int.reduceEq, ge_dec']) | ((first | refine onG_split_t (fun hg => ?_) (fun hg => ?_) | refine onG_split_f (fun hg => ?_) (fun hg => ?_)) <;> simp only [go_sem, ↓reduceIte, reduceCtorEq, Nat.reduceAdd, Nat.reduceMul, Nat.reduceEqDiff, Nat.reduceLT, Nat.reduceLeDiff, Nat.reduceSub, Nat.reduceDiv, Nat.reducePow, Nat.reduceBEq, Int.reduceBEq, Int.reduceBNe, Int.reduceLT, Int.reduceLE, Int.reduceEq, ge_dec', hg]) | (refine K_condA (fun hc => ?_) (fun hc => ?_) <;> try (exact absurd hc (by decide))))
      refine K_ret ?_
      exact (hQ _ (.i (-1)) u 0 (resA_tmp (by simp only [go_sem, ↓reduceIte, reduceCtorEq, Nat.reduceAdd, Nat.reduceMul, Nat.reduceEqDiff, Nat.reduceLT, Nat.reduceLeDiff, Nat.reduceSub, Nat.reduceDiv, Nat.reducePow, Nat.reduceBEq, Int.reduceBEq, Int.reduceBNe, Int.reduceLT, Int.reduceLE, Int.reduceEq])) (by rw [hjl]; exact ⟨rfl, rfl, rfl⟩) rfl (Out.of_in (base := 10) hb hm (by omega) (by (repeat (first | exact (fun _ _ h => h) | refine LowIn.upd ?_ (lowHp_none (by omega) (by omega))))) hlent)).1
    · have hl0 : es.length ≠ 0 := fun e => h0 (List.length_eq_zero_iff.1 e)
      have hx1 : (((es.length : Nat) : Int) == 0) = false := by simp [h0]
      rw [if_neg h0] at hjl
      have hA : PreB (u ++ [Blk.nil]) 0 := hu.grow (rg_nil u) (by omega)
      repeat' (first | refine K_seq ?_ | refine K_blk ?_ | refine AW_skip ?_ | refine AW_exit ?_ | refine Kq_exit_code ?_ | refine Kq_exit_lp ?_ | refine Kq_exit_blk ?_ | refine Kq_exit_ne (by decide) ?_ | refine Kq_norm_code ?_ | refine Kq_norm_blk ?_ | refine Kq_norm_lp ?_ | rw [wrap64 (by omega) (by omega)] | (refine hK _ ?_; clear hK hKp K Kp; (try clear hanc anc)) | (refine hKp _ _ ?_; clear hK hKp K Kp; (try clear hanc anc)) | ((with_reducible refine And.intro ?_ ?_); (focus (first | trivial | omega | (simp only [Fits]; omega) | (refine ⟨?_, ?_⟩ <;> (simp only [Fits]; omega)) | assumption | (rw [hanc]; rfl)))) | ((first | refine K_regA hE fun K Kp hK hKp => ?_ | refine K_drwA true mixed hE fun K Kp hK hKp anc hanc => ?_ | refine K_drwA false mixed hE fun K Kp hK hKp anc hanc => ?_); simp only [go_sem, ↓reduceIte, reduceCtorEq, Nat.reduceAdd, Nat.reduceMul, Nat.reduceEqDiff, Nat.reduceLT, Nat.reduceLeDiff, Nat.reduceSub, Nat.reduceDiv, Nat.reducePow, Nat.reduceBEq, Int.reduceBEq, Int.reduceBNe, Int.reduceLT, Int.reduceLE, Int.reduceEq, ge_dec', hx1]) | ((first | refine onG_split_t (fun hg => ?_) (fun hg => ?_) | refine onG_split_f (fun hg => ?_) (fun hg => ?_)) <;> simp only [go_sem, ↓reduceIte, reduceCtorEq, Nat.reduceAdd, Nat.reduceMul, Nat.reduceEqDiff, Nat.reduceLT, Nat.reduceLeDiff, Nat.reduceSub, Nat.reduceDiv, Nat.reducePow, Nat.reduceBEq, Int.reduceBEq, Int.reduceBNe, Int.reduceLT, Int.reduceLE, Int.reduceEq, ge_dec', hx1, hg]) | (refine K_condA (fun hc => ?_) (fun hc => ?_) <;> try (exact absurd hc (by decide))))
      refine Hold.mk ( LCall.use (blk_rc hu (k := (u.length : Int)) rfl) rfl hm hb (o := 10) (by omega) ((by (repeat (first | exact (fun _ _ h => h) | refine LowIn.curL ?_ | exact LowB.base | refine LowIn.upd ?_ (lowHp_none (by omega) (by omega)) | refine LowB.upd ?_ (lowHp_none (by omega) (by omega)))))) (Nat.le_of_ble_eq_true rfl) ?_ (fun _ _ _ _ h => h.elim))
      rintro r bl' cur' ⟨fr', hp', nx'⟩ ⟨rfl, rfl, rfl⟩ _ hb' hlen' hnx hfr hin hold
      simp only at hnx hfr hin hold
      subst hnx hfr
      simp only [go_sem, ↓reduceIte, reduceCtorEq, Nat.reduceAdd, Nat.reduceMul, Nat.reduceEqDiff, Nat.reduceLT, Nat.reduceLeDiff, Nat.reduceSub, Nat.reduceDiv, Nat.reducePow, Nat.reduceBEq, Int.reduceBEq, Int.reduceBNe, Int.reduceLT, Int.reduceLE, Int.reduceEq]
      refine hK _ ?_; clear hK hKp K Kp; (try clear hanc anc)
      repeat (first | refine Kq_norm_code ?_ | refine Kq_norm_blk ?_ | refine Kq_norm_lp ?_)
      refine K_low (fr := [(0, .ptr 0 0), (7, .rw 2), (10, .i u.length)]) (loc := [(2, .row 1 ((es.map (fun (b : Nat) => (b : Int))).map AV.i))]) _ (fun i => i) hN hb' hlen' hm (by omega) hin (by simp [go_sem, lowM]) (by intro p hp; obtain rfl := List.mem_singleton.1 hp; exact ⟨Nat.le_refl 2, (by show 2 < 10; decide), (by rw [rowi_ren]; exact hold _ _ (by simp [go_sem]) (lowHp_none (by omega) (by omega))), rowi_ids _ _, lowHp_none (by omega) (.inl (by omega))⟩) (by simp) ?_
      clear hin hold; clear hb; have hb := hb'; clear hb'
      have hlenA : (u ++ [Blk.nil]).length = u.length + 1 := by simp
      repeat' (first | refine K_seq ?_ | refine K_blk ?_ | refine AW_skip ?_ | refine AW_exit ?_ | refine Kq_exit_code ?_ | refine Kq_exit_lp ?_ | refine Kq_exit_blk ?_ | refine Kq_exit_ne (by decide) ?_ | refine Kq_norm_code ?_ | refine Kq_norm_blk ?_ | refine Kq_norm_lp ?_ | rw [wrap64 (by omega) (by omega)] | (refine hK _ ?_; clear hK hKp K Kp; (try clear hanc anc)) | (refine hKp _ _ ?_; clear hK hKp K Kp; (try clear hanc anc)) | ((with_reducible refine And.intro ?_ ?_); (focus (first | trivial | omega | (simp only [Fits]; omega) | (refine ⟨?_, ?_⟩ <;> (simp only [Fits]; omega)) | assumption | (rw [hanc]; rfl)))) | ((first | refine K_regA hE fun K Kp hK hKp => ?_ | refine K_drwA true mixed hE fun K Kp hK hKp anc hanc => ?_ | refine K_drwA false mixed hE fun K Kp hK hKp anc hanc => ?_); simp only [go_sem, ↓reduceIte, reduceCtorEq, Nat.reduceAdd, Nat.reduceMul, Nat.reduceEqDiff, Nat.reduceLT, Nat.reduceLeDiff, Nat.reduceSub, Nat.reduceDiv, Nat.reducePow, Nat.reduceBEq, Int.reduceBEq, Int.reduceBNe, Int.reduceLT, Int.reduceLE, Int.reduceEq]) | ((first | refine onG_split_t (fun hg => ?_) (fun hg => ?_) | refine onG_split_f (fun hg => ?_) (fun hg => ?_)) <;> simp only [go_sem, ↓reduceIte, reduceCtorEq, Nat.reduceAdd, Nat.reduceMul, Nat.reduceEqDiff, Nat.reduceLT, Nat.reduceLeDiff, Nat.reduceSub, Nat.reduceDiv, Nat.reducePow, Nat.reduceBEq, Int.reduceBEq, Int.reduceBNe, Int.reduceLT, Int.reduceLE, Int.reduceEq, hg]) | (refine K_condA (fun hc => ?_) (fun hc => ?_) <;> try (exact absurd hc (by decide))))
      refine K_loop (X := Nat × List Blk) (fun x => x.1 ≤ es.length ∧ (es.drop x.1).foldl (fun t b => endB t b 1 0 [((u.length : Nat) : Int)]) x.2 = es.foldl (fun t b => endB t b 1 0 [((u.length : Nat) : Int)]) (u ++ [Blk.nil]) ∧ PreB x.2 0 ∧ x.2.length = u.length + 1)
        (fun x => lowSt [(0, .ptr 0 0), (7, .rw 2), (10, .i u.length), (11, .i x.1)] [(2, .row 1 ((es.map (fun (b : Nat) => (b : Int))).map AV.i))] hsR x.2 0) (fun x => es.length - x.1) (0, u ++ [Blk.nil]) ⟨Nat.zero_le _, rfl, hA, hlenA⟩ (lowM (fun i => i) 10) ?_ ?_
      · try dsimp only
        rw [hN]; exact ent_low (fr := [(0, .ptr 0 0), (7, .rw 2), (10, .i u.length), (11, .i (0 : Nat))]) (loc := [(2, .row 1 ((es.map (fun (b : Nat) => (b : Int))).map AV.i))]) (base := 10) (fun i => i) hb (by omega) hm (by omega) (by (repeat (first | exact (fun _ _ h => h) | refine LowIn.curL ?_ | exact LowB.base | refine LowIn.upd ?_ (lowHp_none (by omega) (by omega)) | refine LowB.upd ?_ (lowHp_none (by omega) (by omega))))) (by simp [go_sem, lowM]) (by intro p hp; obtain rfl := List.mem_singleton.1 hp; exact ⟨Nat.le_refl 2, (by show 2 < 10; decide), (by rw [rowi_ren]; simp [go_sem]), rowi_ids _ _, lowHp_none (by omega) (by omega)⟩) (by simp)
      rintro ⟨k, v⟩ ⟨ki, kt, kpre, kl⟩
      simp only at ki kt kpre kl
      clear hb
      have hb := kpre.ok
      have hlenv := kpre.len5
      by_cases klt : k < es.length
      · obtain ⟨b, hx⟩ := get?_of' klt
        rw [drop_of' hx, List.foldl_cons] at kt
        have hbu := hgP b (List.mem_of_getElem? hx)
        have hvb : PreB (endB v b 1 0 [((u.length : Nat) : Int)]) 0 := kpre.grow (rg_end _ _ _ _ _) (by omega)
        repeat' (first | refine K_seq ?_ | refine K_blk ?_ | refine AW_skip ?_ | refine AW_exit ?_ | refine Kq_exit_code ?_ | refine Kq_exit_lp ?_ | refine Kq_exit_blk ?_ | refine Kq_exit_ne (by decide) ?_ | refine Kq_norm_code ?_ | refine Kq_norm_blk ?_ | refine Kq_norm_lp ?_ | rw [wrap64 (by omega) (by omega)] | (refine hK _ ?_; clear hK hKp K Kp; (try clear hanc anc)) | (refine hKp _ _ ?_; clear hK hKp K Kp; (try clear hanc anc)) | ((with_reducible refine And.intro ?_ ?_); (focus (first | trivial | omega | (simp only [Fits]; omega) | (refine ⟨?_, ?_⟩ <;> (simp only [Fits]; omega)) | assumption | (rw [hanc]; rfl)))) | ((first | refine K_regA hE fun K Kp hK hKp => ?_ | refine K_drwA true mixed hE fun K Kp hK hKp anc hanc => ?_ | refine K_drwA false mixed hE fun K Kp hK hKp anc hanc => ?_); simp only [go_sem, ↓reduceIte, reduceCtorEq, Nat.reduceAdd, Nat.reduceMul, Nat.reduceEqDiff, Nat.reduceLT, Nat.reduceLeDiff, Nat.reduceSub, Nat.reduceDiv, Nat.reducePow, Nat.reduceBEq, Int.reduceBEq, Int.reduceBNe, Int.reduceLT, Int.reduceLE, Int.reduceEq, lt_dec' klt, hx]) | ((first | refine onG_split_t (fun hg => ?_) (fun hg => ?_) | refine onG_split_f (fun hg => ?_) (fun hg => ?_)) <;> simp only [go_sem, ↓reduceIte, reduceCtorEq, Nat.reduceAdd, Nat.reduceMul, Nat.reduceEqDiff, Nat.reduceLT, Nat.reduceLeDiff, Nat.reduceSub, Nat.reduceDiv, Nat.reducePow, Nat.reduceBEq, Int.reduceBEq, Int.reduceBNe, Int.reduceLT, Int.reduceLE, Int.reduceEq, lt_dec' klt, hx, hg]) | (refine K_condA (fun hc => ?_) (fun hc => ?_) <;> try (exact absurd hc (by decide))))
        refine Hold.mk (CallB.frz5 (by simp only [go_sem, ↓reduceIte, reduceCtorEq, Nat.reduceAdd, Nat.reduceMul, Nat.reduceEqDiff, Nat.reduceLT, Nat.reduceLeDiff, Nat.reduceSub, Nat.reduceDiv, Nat.reducePow, Nat.reduceBEq, Int.reduceBEq, Int.reduceBNe, Int.reduceLT, Int.reduceLE, Int.reduceEq]; rfl) (by first | exact clo_LL _ | exact CloRow.all (by simp [go_sem])) <| LCall.use (ebl_rc kpre (cur := (b : Int)) (c := b) (by omega) rfl 1 0 [((u.length : Nat) : Int)]) rfl hm hb (o := 10) (by omega) ((by (repeat (first | exact (fun _ _ h => h) | refine LowIn.curL ?_ | exact LowB.base | refine LowIn.upd ?_ (lowHp_none (by omega) (by omega)) | refine LowB.upd ?_ (lowHp_none (by omega) (by omega)))))) (Nat.le_of_ble_eq_true rfl) ?_ (fun _ _ _ _ h => h.elim))
        rintro r bl' cur' ⟨fr', hp', nx'⟩ ⟨rfl, rfl, rfl⟩ _ hb' hlen' hnx hfr hin hold
        simp only at hnx hfr hin hold
        subst hnx hfr
        simp only [go_sem, ↓reduceIte, reduceCtorEq, Nat.reduceAdd, Nat.reduceMul, Nat.reduceEqDiff, Nat.reduceLT, Nat.reduceLeDiff, Nat.reduceSub, Nat.reduceDiv, Nat.reducePow, Nat.reduceBEq, Int.reduceBEq, Int.reduceBNe, Int.reduceLT, Int.reduceLE, Int.reduceEq]
        refine hK _ ?_; clear hK hKp K Kp; (try clear hanc anc)
        repeat (first | refine Kq_norm_code ?_ | refine Kq_norm_blk ?_ | refine Kq_norm_lp ?_)
        refine K_low (fr := [(0, .ptr 0 0), (7, .rw 2), (10, .i u.length), (11, .i k)]) (loc := [(2, .row 1 ((es.map (fun (b : Nat) => (b : Int))).map AV.i))]) _ (fun i => i) hN hb' hlen' hm (by omega) hin (by simp [go_sem, lowM]) (by intro p hp; obtain rfl := List.mem_singleton.1 hp; exact ⟨Nat.le_refl 2, (by show 2 < 10; decide), (by rw [rowi_ren]; exact hold _ _ (by simp [go_sem]) (lowHp_none (by omega) (by omega))), rowi_ids _ _, lowHp_none (by omega) (.inl (by omega))⟩) (by simp) ?_
        clear hin hold; clear hb; have hb := hb'; clear hb'
        repeat' (first | refine K_seq ?_ | refine K_blk ?_ | refine AW_skip ?_ | refine AW_exit ?_ | refine Kq_exit_code ?_ | refine Kq_exit_lp ?_ | refine Kq_exit_blk ?_ | refine Kq_exit_ne (by decide) ?_ | refine Kq_norm_code ?_ | refine Kq_norm_blk ?_ | refine Kq_norm_lp ?_ | rw [wrap64 (by omega) (by omega)] | (refine hK _ ?_; clear hK hKp K Kp; (try clear hanc anc)) | (refine hKp _ _ ?_; clear hK hKp K Kp; (try clear hanc anc)) | ((with_reducible refine And.intro ?_ ?_); (focus (first | trivial | omega | (simp only [Fits]; omega) | (refine ⟨?_, ?_⟩ <;> (simp only [Fits]; omega)) | assumption | (rw [hanc]; rfl)))) | ((first | refine K_regA hE fun K Kp hK hKp => ?_ | refine K_drwA true mixed hE fun K Kp hK hKp anc hanc => ?_ | refine K_drwA false mixed hE fun K Kp hK hKp anc hanc => ?_); simp only [go_sem, ↓reduceIte, reduceCtorEq, Nat.reduceAdd, Nat.reduceMul, Nat.reduceEqDiff, Nat.reduceLT, Nat.reduceLeDiff, Nat.reduceSub, Nat.reduceDiv, Nat.reducePow, Nat.reduceBEq, Int.reduceBEq, Int.reduceBNe, Int.reduceLT, Int.reduceLE, Int.reduceEq]) | ((first | refine onG_split_t (fun hg => ?_) (fun hg => ?_) | refine onG_split_f (fun hg => ?_) (fun hg => ?_)) <;> simp only [go_sem, ↓reduceIte, reduceCtorEq, Nat.reduceAdd, Nat.reduceMul, Nat.reduceEqDiff, Nat.reduceLT, Nat.reduceLeDiff, Nat.reduceSub, Nat.reduceDiv, Nat.reducePow, Nat.reduceBEq, Int.reduceBEq, Int.reduceBNe, Int.reduceLT, Int.reduceLE, Int.reduceEq, hg]) | (refine K_condA (fun hc => ?_) (fun hc => ?_) <;> try (exact absurd hc (by decide))))
        refine ⟨(k + 1, endB v b 1 0 [((u.length : Nat) : Int)]), ⟨by simp only; omega, kt, hvb, by simp only; rw [endB_len]; exact kl⟩, by simp only; omega, lowM (fun i => i) 10, ?_⟩
        try dsimp only
        rw [hN]; exact ent_low (fr := [(0, .ptr 0 0), (7, .rw 2), (10, .i u.length), (11, .i (k + 1 : Nat))]) (loc := [(2, .row 1 ((es.map (fun (b : Nat) => (b : Int))).map AV.i))]) (base := 10) (fun i => i) hb (by omega) hm (by omega) (by (repeat (first | exact (fun _ _ h => h) | refine LowIn.curL ?_ | exact LowB.base | refine LowIn.upd ?_ (lowHp_none (by omega) (by omega)) | refine LowB.upd ?_ (lowHp_none (by omega) (by omega))))) (by simp [go_sem, lowM]) (by intro p hp; obtain rfl := List.mem_singleton.1 hp; exact ⟨Nat.le_refl 2, (by show 2 < 10; decide), (by rw [rowi_ren]; simp [go_sem]), rowi_ids _ _, lowHp_none (by omega) (by omega)⟩) (by simp)
      · obtain rfl : k = es.length := by omega
        rw [List.drop_length, List.foldl_nil] at kt
        rw [← kt] at hjl
        repeat' (first | refine K_seq ?_ | refine K_blk ?_ | refine AW_skip ?_ | refine AW_exit ?_ | refine Kq_exit_code ?_ | refine Kq_exit_lp ?_ | refine Kq_exit_blk ?_ | refine Kq_exit_ne (by decide) ?_ | refine Kq_norm_code ?_ | refine Kq_norm_blk ?_ | refine Kq_norm_lp ?_ | rw [wrap64 (by omega) (by omega)] | (refine hK _ ?_; clear hK hKp K Kp; (try clear hanc anc)) | (refine hKp _ _ ?_; clear hK hKp K Kp; (try clear hanc anc)) | ((with_reducible refine And.intro ?_ ?_); (focus (first | trivial | omega | (simp only [Fits]; omega) | (refine ⟨?_, ?_⟩ <;> (simp only [Fits]; omega)) | assumption | (rw [hanc]; rfl)))) | ((first | refine K_regA hE fun K Kp hK hKp => ?_ | refine K_drwA true mixed hE fun K Kp hK hKp anc hanc => ?_ | refine K_drwA false mixed hE fun K Kp hK hKp anc hanc => ?_); simp only [go_sem, ↓reduceIte, reduceCtorEq, Nat.reduceAdd, Nat.reduceMul, Nat.reduceEqDiff, Nat.reduceLT, Nat.reduceLeDiff, Nat.reduceSub, Nat.reduceDiv, Nat.reducePow, Nat.reduceBEq, Int.reduceBEq, Int.reduceBNe, Int.reduceLT, Int.reduceLE, Int.reduceEq, ge_dec']) | ((first | refine onG_split_t (fun hg => ?_) (fun hg => ?_) | refine onG_split_f (fun hg => ?_) (fun hg => ?_)) <;> simp only [go_sem, ↓reduceIte, reduceCtorEq, Nat.reduceAdd, Nat.reduceMul, Nat.reduceEqDiff, Nat.reduceLT, Nat.reduceLeDiff, Nat.reduceSub, Nat.reduceDiv, Nat.reducePow, Nat.reduceBEq, Int.reduceBEq, Int.reduceBNe, Int.reduceLT, Int.reduceLE, Int.reduceEq, ge_dec', hg]) | (refine K_condA (fun hc => ?_) (fun hc => ?_) <;> try (exact absurd hc (by decide))))
        refine K_ret ?_
        exact (hQ _ (.i u.length) v 0 (resA_tmp (by simp only [go_sem, ↓reduceIte, reduceCtorEq, Nat.reduceAdd, Nat.reduceMul, Nat.reduceEqDiff, Nat.reduceLT, Nat.reduceLeDiff, Nat.reduceSub, Nat.reduceDiv, Nat.reducePow, Nat.reduceBEq, Int.reduceBEq, Int.reduceBNe, Int.reduceLT, Int.reduceLE, Int.reduceEq])) (by rw [hjl]; exact ⟨rfl, rfl, rfl⟩) rfl (Out.of_in (base := 10) hb hm (by omega) (by (repeat (first | exact (fun _ _ h => h) | refine LowIn.curL ?_ | exact LowB.base | refine LowIn.upd ?_ (lowHp_none (by omega) (by omega)) | refine LowB.upd ?_ (lowHp_none (by omega) (by omega))))) hlenv)).1
end Go.Proofs.Ytdheeecpkkjfiaa

