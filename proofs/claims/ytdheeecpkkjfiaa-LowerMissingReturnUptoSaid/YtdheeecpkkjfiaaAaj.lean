/- A part of the proof: an abstract machine for the walks, and what the walked functions compute. -/
import Derived.Test.YtdheeecpkkjfiaaAai
set_option linter.unusedVariables false
set_option linter.unusedSimpArgs false
/- Chapter 10: examine. -/
set_option linter.unusedSimpArgs false
set_option linter.unusedVariables false
set_option maxHeartbeats 4000000
set_option maxRecDepth 100000
namespace Go.Proofs.Ytdheeecpkkjfiaa
open Go.Am Go.Proofs Go.Low
attribute [local irreducible] AW CallP CallB

def ExC (N : Nat) : Prop := ∀ l : List Nd, Nd.szL l < N → ∀ d : Int, 0 ≤ d → d ≤ 1000 → ∀ (bl : List Blk) (cur : Int), OkB bl → bl.length ≤ 400000 →
  LCall Try.prog 29 [.sl (Nd.avL l), .i d] (hsL mdL) bl cur (fun r bl' cur' => formedL l d = true ∧ r = .tup [] ∧ bl' = bl ∧ cur' = cur) (fun x bl' cur' => formedL l d = false ∧ x = failAV 1 ∧ bl' = bl ∧ cur' = cur)

theorem szok_LL (ps : List (List Nd)) : SzOk (Nd.avLL ps) 1 := by
  intro x hx
  rw [Nd.avLL_eq] at hx
  obtain ⟨p, _, rfl⟩ := List.mem_map.1 hx
  rfl

theorem arms_pos {ps : List (List Nd)} (h : ps ≠ []) : decide ((ps.length : Int) > 0) = true := by
  cases ps with
  | nil => exact absurd rfl h
  | cons a l => exact decide_eq_true (by simp only [List.length_cons]; omega)

theorem exam_lc {N : Nat} (hN2 : N ≤ 2 ^ 40) (ih : ExC N) : ExC (N + 1) := by
  intro l hn d hd0 hd1 bl cur hb hlen
  have hm := mdL_ok
  have hal := Nd.len_le l
  refine LCall.intro Try.func29 rfl isf29 (by simp [Try.f29]) hm fun E Q hE hN hQ hQp => K_start ?_
  refine K_low (fr := [(0, .ptr 0 0), (1, .sl (Nd.avL l)), (2, .i d)]) (loc := []) (base := 2) (fun i => i) hN hb (by omega) hm (Nat.le_refl 2) (fun _ _ h => h) (by simp [go_sem, lowM]) (by simp) (by simp) ?_
  repeat' (first | refine K_seq ?_ | refine K_blk ?_ | refine AW_skip ?_ | refine AW_exit ?_ | refine Kq_exit_code ?_ | refine Kq_exit_lp ?_ | refine Kq_exit_blk ?_ | refine Kq_exit_ne (by decide) ?_ | refine Kq_norm_code ?_ | refine Kq_norm_blk ?_ | refine Kq_norm_lp ?_ | rw [wrap64 (by omega) (by omega)] | (refine hK _ ?_; clear hK hKp K Kp; (try clear hanc anc)) | (refine hKp _ _ ?_; clear hK hKp K Kp; (try clear hanc anc)) | ((with_reducible refine And.intro ?_ ?_); (focus (first | trivial | omega | (simp only [Fits]; omega) | (refine ⟨?_, ?_⟩ <;> (simp only [Fits]; omega)) | assumption | (rw [hanc]; rfl)))) | ((first | refine K_regA hE fun K Kp hK hKp => ?_ | refine K_drwA true mixed hE fun K Kp hK hKp anc hanc => ?_ | refine K_drwA false mixed hE fun K Kp hK hKp anc hanc => ?_); simp only [go_sem, ↓reduceIte, reduceCtorEq, Nat.reduceAdd, Nat.reduceMul, Nat.reduceEqDiff, Nat.reduceLT, Nat.reduceLeDiff, Nat.reduceSub, Nat.reduceDiv, Nat.reducePow, Nat.reduceBEq, Int.reduceBEq, Int.reduceBNe, Int.reduceLT, Int.reduceLE, Int.reduceEq]) | ((first | refine onG_split_t (fun hg => ?_) (fun hg => ?_) | refine onG_split_f (fun hg => ?_) (fun hg => ?_)) <;> simp only [go_sem, ↓reduceIte, reduceCtorEq, Nat.reduceAdd, Nat.reduceMul, Nat.reduceEqDiff, Nat.reduceLT, Nat.reduceLeDiff, Nat.reduceSub, Nat.reduceDiv, Nat.reducePow, Nat.reduceBEq, Int.reduceBEq, Int.reduceBNe, Int.reduceLT, Int.reduceLE, Int.reduceEq, hg]) | (refine K_condA (fun hc => ?_) (fun hc => ?_) <;> try (exact absurd hc (by decide))))
  refine K_loop (X := Nat) (fun x => x ≤ l.length ∧ formedL l d = formedL (l.drop x) d) (fun x => lowSt [(0, .ptr 0 0), (2, .i d), (12, .sl (Nd.avL l)), (13, .i l.length), (14, .i x)] [] (hsL mdL) bl cur) (fun x => l.length - x) 0 ⟨Nat.zero_le _, rfl⟩ (lowM (fun i => i) 10) ?_ ?_
  · try dsimp only
    rw [hN]; exact ent_low (fr := [(0, .ptr 0 0), (2, .i d), (12, .sl (Nd.avL l)), (13, .i l.length), (14, .i (0 : Nat))]) (loc := []) (base := 10) (fun i => i) hb (by omega) hm (by omega) (by (repeat (first | exact (fun _ _ h => h) | refine LowIn.curL ?_ | exact LowB.base | refine LowIn.upd ?_ (lowHp_none (by omega) (by omega)) | refine LowB.upd ?_ (lowHp_none (by omega) (by omega))))) (by simp [go_sem, lowM]) (by simp) (by simp)
  rintro i ⟨hi, ht⟩
  by_cases hlt : i < l.length
  · obtain ⟨n, hx⟩ := get?_of' hlt
    have hxs := Nd.sz_mem (List.mem_of_getElem? hx)
    rw [Nd.sz_eq] at hxs
    have har := Nd.lenL_le n.arms
    have hsz : SzOk (Nd.avLL n.arms) 1 := szok_LL n.arms
    have e1 : IntKind.i64.wrap (d - 1) = d - 1 := wrap64 (by omega) (by omega)
    rw [drop_of' hx, formedL, formedN_eq] at ht
    have hk7 : n.kind = 1 ∨ n.kind = 2 ∨ n.kind = 3 ∨ n.kind = 5 ∨ n.kind = 6 ∨ (n.kind = 4 ∧ n.arms ≠ []) ∨ (n.kind = 4 ∧ n.arms = []) ∨ (n.kind < 1 ∨ 6 < n.kind) := by
      by_cases hA : n.arms = []
      · simp only [hA, ne_eq, not_true_eq_false, and_false, and_true, false_or]; omega
      · simp only [hA, ne_eq, not_false_eq_true, and_false, and_true, false_or]; omega
    by_cases hd : 0 < d
    · have hd2 : decide (d > 0) = true := decide_eq_true hd
      rcases hk7 with hk | hk | hk | hk | hk | ⟨hk, hA⟩ | ⟨hk, hA⟩ | hk
      · repeat' (first | refine K_seq ?_ | refine K_blk ?_ | refine AW_skip ?_ | refine AW_exit ?_ | refine Kq_exit_code ?_ | refine Kq_exit_lp ?_ | refine Kq_exit_blk ?_ | refine Kq_exit_ne (by decide) ?_ | refine Kq_norm_code ?_ | refine Kq_norm_blk ?_ | refine Kq_norm_lp ?_ | rw [wrap64 (by omega) (by omega)] | (refine hK _ ?_; clear hK hKp K Kp; (try clear hanc anc)) | (refine hKp _ _ ?_; clear hK hKp K Kp; (try clear hanc anc)) | ((with_reducible refine And.intro ?_ ?_); (focus (first | trivial | omega | (simp only [Fits]; omega) | (refine ⟨?_, ?_⟩ <;> (simp only [Fits]; omega)) | assumption | (rw [hanc]; rfl)))) | ((first | refine K_regA hE fun K Kp hK hKp => ?_ | refine K_drwA true mixed hE fun K Kp hK hKp anc hanc => ?_ | refine K_drwA false mixed hE fun K Kp hK hKp anc hanc => ?_); simp only [go_sem, ↓reduceIte, reduceCtorEq, Nat.reduceAdd, Nat.reduceMul, Nat.reduceEqDiff, Nat.reduceLT, Nat.reduceLeDiff, Nat.reduceSub, Nat.reduceDiv, Nat.reducePow, Nat.reduceBEq, Int.reduceBEq, Int.reduceBNe, Int.reduceLT, Int.reduceLE, Int.reduceEq, lt_dec' hlt, hx, Nd.av_eq, hk, mdL, hd2, hd2]) | ((first | refine onG_split_t (fun hg => ?_) (fun hg => ?_) | refine onG_split_f (fun hg => ?_) (fun hg => ?_)) <;> simp only [go_sem, ↓reduceIte, reduceCtorEq, Nat.reduceAdd, Nat.reduceMul, Nat.reduceEqDiff, Nat.reduceLT, Nat.reduceLeDiff, Nat.reduceSub, Nat.reduceDiv, Nat.reducePow, Nat.reduceBEq, Int.reduceBEq, Int.reduceBNe, Int.reduceLT, Int.reduceLE, Int.reduceEq, lt_dec' hlt, hx, Nd.av_eq, hk, mdL, hd2, hd2, hg]) | (refine K_condA (fun hc => ?_) (fun hc => ?_) <;> try (exact absurd hc (by decide))))
        refine Hold.mk (CallB.of_A0 (check_call _ _) rfl (fun r hr => ?_) (fun x hx => absurd hx.1 (by decide)))
        rw [hr.2]
        simp only [go_sem, ↓reduceIte, reduceCtorEq, Nat.reduceAdd, Nat.reduceMul, Nat.reduceEqDiff, Nat.reduceLT, Nat.reduceLeDiff, Nat.reduceSub, Nat.reduceDiv, Nat.reducePow, Nat.reduceBEq, Int.reduceBEq, Int.reduceBNe, Int.reduceLT, Int.reduceLE, Int.reduceEq]
        repeat' (first | refine K_seq ?_ | refine K_blk ?_ | refine AW_skip ?_ | refine AW_exit ?_ | refine Kq_exit_code ?_ | refine Kq_exit_lp ?_ | refine Kq_exit_blk ?_ | refine Kq_exit_ne (by decide) ?_ | refine Kq_norm_code ?_ | refine Kq_norm_blk ?_ | refine Kq_norm_lp ?_ | rw [wrap64 (by omega) (by omega)] | (refine hK _ ?_; clear hK hKp K Kp; (try clear hanc anc)) | (refine hKp _ _ ?_; clear hK hKp K Kp; (try clear hanc anc)) | ((with_reducible refine And.intro ?_ ?_); (focus (first | trivial | omega | (simp only [Fits]; omega) | (refine ⟨?_, ?_⟩ <;> (simp only [Fits]; omega)) | assumption | (rw [hanc]; rfl)))) | ((first | refine K_regA hE fun K Kp hK hKp => ?_ | refine K_drwA true mixed hE fun K Kp hK hKp anc hanc => ?_ | refine K_drwA false mixed hE fun K Kp hK hKp anc hanc => ?_); simp only [go_sem, ↓reduceIte, reduceCtorEq, Nat.reduceAdd, Nat.reduceMul, Nat.reduceEqDiff, Nat.reduceLT, Nat.reduceLeDiff, Nat.reduceSub, Nat.reduceDiv, Nat.reducePow, Nat.reduceBEq, Int.reduceBEq, Int.reduceBNe, Int.reduceLT, Int.reduceLE, Int.reduceEq]) | ((first | refine onG_split_t (fun hg => ?_) (fun hg => ?_) | refine onG_split_f (fun hg => ?_) (fun hg => ?_)) <;> simp only [go_sem, ↓reduceIte, reduceCtorEq, Nat.reduceAdd, Nat.reduceMul, Nat.reduceEqDiff, Nat.reduceLT, Nat.reduceLeDiff, Nat.reduceSub, Nat.reduceDiv, Nat.reducePow, Nat.reduceBEq, Int.reduceBEq, Int.reduceBNe, Int.reduceLT, Int.reduceLE, Int.reduceEq, hg]) | (refine K_condA (fun hc => ?_) (fun hc => ?_) <;> try (exact absurd hc (by decide))))
        refine ⟨⟨hsz, (by simp only [Fits]; omega)⟩, ?_⟩
        repeat' (first | refine K_seq ?_ | refine K_blk ?_ | refine AW_skip ?_ | refine AW_exit ?_ | refine Kq_exit_code ?_ | refine Kq_exit_lp ?_ | refine Kq_exit_blk ?_ | refine Kq_exit_ne (by decide) ?_ | refine Kq_norm_code ?_ | refine Kq_norm_blk ?_ | refine Kq_norm_lp ?_ | rw [wrap64 (by omega) (by omega)] | (refine hK _ ?_; clear hK hKp K Kp; (try clear hanc anc)) | (refine hKp _ _ ?_; clear hK hKp K Kp; (try clear hanc anc)) | ((with_reducible refine And.intro ?_ ?_); (focus (first | trivial | omega | (simp only [Fits]; omega) | (refine ⟨?_, ?_⟩ <;> (simp only [Fits]; omega)) | assumption | (rw [hanc]; rfl)))) | ((first | refine K_regA hE fun K Kp hK hKp => ?_ | refine K_drwA true mixed hE fun K Kp hK hKp anc hanc => ?_ | refine K_drwA false mixed hE fun K Kp hK hKp anc hanc => ?_); simp only [go_sem, ↓reduceIte, reduceCtorEq, Nat.reduceAdd, Nat.reduceMul, Nat.reduceEqDiff, Nat.reduceLT, Nat.reduceLeDiff, Nat.reduceSub, Nat.reduceDiv, Nat.reducePow, Nat.reduceBEq, Int.reduceBEq, Int.reduceBNe, Int.reduceLT, Int.reduceLE, Int.reduceEq]) | ((first | refine onG_split_t (fun hg => ?_) (fun hg => ?_) | refine onG_split_f (fun hg => ?_) (fun hg => ?_)) <;> simp only [go_sem, ↓reduceIte, reduceCtorEq, Nat.reduceAdd, Nat.reduceMul, Nat.reduceEqDiff, Nat.reduceLT, Nat.reduceLeDiff, Nat.reduceSub, Nat.reduceDiv, Nat.reducePow, Nat.reduceBEq, Int.reduceBEq, Int.reduceBNe, Int.reduceLT, Int.reduceLE, Int.reduceEq, hg]) | (refine K_condA (fun hc => ?_) (fun hc => ?_) <;> try (exact absurd hc (by decide))))
        refine AW_frz1 52 43991616 (sz := 1) (by simp only [go_sem, ↓reduceIte, reduceCtorEq, Nat.reduceAdd, Nat.reduceMul, Nat.reduceEqDiff, Nat.reduceLT, Nat.reduceLeDiff, Nat.reduceSub, Nat.reduceDiv, Nat.reducePow, Nat.reduceBEq, Int.reduceBEq, Int.reduceBNe, Int.reduceLT, Int.reduceLE, Int.reduceEq]) (by simp only [go_sem, ↓reduceIte, reduceCtorEq, Nat.reduceAdd, Nat.reduceMul, Nat.reduceEqDiff, Nat.reduceLT, Nat.reduceLeDiff, Nat.reduceSub, Nat.reduceDiv, Nat.reducePow, Nat.reduceBEq, Int.reduceBEq, Int.reduceBNe, Int.reduceLT, Int.reduceLE, Int.reduceEq]; rw [Nd.avLL, Nd.avLL]) (clo_LL (n.thn :: n.els :: n.arms)) ?_
        have hmem : ∀ p, p ∈ n.thn :: n.els :: n.arms → Nd.szL p < N := by
          intro p hpm
          rcases List.mem_cons.1 hpm with rfl | hpm
          · omega
          · rcases List.mem_cons.1 hpm with rfl | hpm
            · omega
            · have := Nd.szL_mem hpm; omega
        have ht0 : formedL l d = (formedP (n.thn :: n.els :: n.arms) (d - 1) && formedL (l.drop (i + 1)) d) := by
          rw [ht]; simp [formedP, hk, Bool.and_assoc, show ¬ d < 1 by omega, hk]
        have hpl : ((n.thn :: n.els :: n.arms).length : Int) = (n.arms.length : Int) + 1 + 1 := by simp
        have hpl2 : (n.thn :: n.els :: n.arms).length = n.arms.length + 2 := by simp
        generalize n.thn :: n.els :: n.arms = ps at *
        refine K_loop (X := Nat) (fun y => y ≤ ps.length ∧ formedL l d = (formedP (ps.drop y) (d - 1) && formedL (l.drop (i + 1)) d)) (fun y => lowSt [(0, .ptr 0 0), (2, .i d), (12, .sl (Nd.avL l)), (13, .i l.length), (14, .i i), (52, .sl (Nd.avLL ps)), (53, .i ps.length), (54, .i y)] [] (hsL mdL) bl cur) (fun y => ps.length - y) 0 ⟨Nat.zero_le _, ht0⟩ (lowM (fun i => i) 10) ?_ ?_
        · try dsimp only
          rw [hN]; exact ent_low (fr := [(0, .ptr 0 0), (2, .i d), (12, .sl (Nd.avL l)), (13, .i l.length), (14, .i i), (52, .sl (Nd.avLL ps)), (53, .i ps.length), (54, .i (0 : Nat))]) (loc := []) (base := 10) (fun i => i) hb (by omega) hm (by omega) (by (repeat (first | exact (fun _ _ h => h) | refine LowIn.curL ?_ | exact LowB.base | refine LowIn.upd ?_ (lowHp_none (by omega) (by omega)) | refine LowB.upd ?_ (lowHp_none (by omega) (by omega))))) (by simp [go_sem, lowM, hpl]) (by simp) (by simp)
        rintro y ⟨yi, yt⟩
        by_cases ylt : y < ps.length
        · obtain ⟨p, hp⟩ := get?_of' ylt
          have hps := hmem p (List.mem_of_getElem? hp)
          rw [drop_of' hp, formedP] at yt
          have hcall := ih p hps (d - 1) (by omega) (by omega) bl cur hb hlen
          repeat' (first | refine K_seq ?_ | refine K_blk ?_ | refine AW_skip ?_ | refine AW_exit ?_ | refine Kq_exit_code ?_ | refine Kq_exit_lp ?_ | refine Kq_exit_blk ?_ | refine Kq_exit_ne (by decide) ?_ | refine Kq_norm_code ?_ | refine Kq_norm_blk ?_ | refine Kq_norm_lp ?_ | rw [wrap64 (by omega) (by omega)] | (refine hK _ ?_; clear hK hKp K Kp; (try clear hanc anc)) | (refine hKp _ _ ?_; clear hK hKp K Kp; (try clear hanc anc)) | ((with_reducible refine And.intro ?_ ?_); (focus (first | trivial | omega | (simp only [Fits]; omega) | (refine ⟨?_, ?_⟩ <;> (simp only [Fits]; omega)) | assumption | (rw [hanc]; rfl)))) | ((first | refine K_regA hE fun K Kp hK hKp => ?_ | refine K_drwA true mixed hE fun K Kp hK hKp anc hanc => ?_ | refine K_drwA false mixed hE fun K Kp hK hKp anc hanc => ?_); simp only [go_sem, ↓reduceIte, reduceCtorEq, Nat.reduceAdd, Nat.reduceMul, Nat.reduceEqDiff, Nat.reduceLT, Nat.reduceLeDiff, Nat.reduceSub, Nat.reduceDiv, Nat.reducePow, Nat.reduceBEq, Int.reduceBEq, Int.reduceBNe, Int.reduceLT, Int.reduceLE, Int.reduceEq, lt_dec' ylt, hp, e1]) | ((first | refine onG_split_t (fun hg => ?_) (fun hg => ?_) | refine onG_split_f (fun hg => ?_) (fun hg => ?_)) <;> simp only [go_sem, ↓reduceIte, reduceCtorEq, Nat.reduceAdd, Nat.reduceMul, Nat.reduceEqDiff, Nat.reduceLT, Nat.reduceLeDiff, Nat.reduceSub, Nat.reduceDiv, Nat.reducePow, Nat.reduceBEq, Int.reduceBEq, Int.reduceBNe, Int.reduceLT, Int.reduceLE, Int.reduceEq, lt_dec' ylt, hp, e1, hg]) | (refine K_condA (fun hc => ?_) (fun hc => ?_) <;> try (exact absurd hc (by decide))))
          refine Hold.mk ( LCall.use (hcall) rfl hm hb (o := 10) (by omega) ((by (repeat (first | exact (fun _ _ h => h) | refine LowIn.curL ?_ | exact LowB.base | refine LowIn.upd ?_ (lowHp_none (by omega) (by omega)) | refine LowB.upd ?_ (lowHp_none (by omega) (by omega)))))) (Nat.le_of_ble_eq_true rfl) ?_ (fun x bl' cur' σ' ⟨hf1, h1, h2, h3⟩ _ hb' hlen' _ _ hin _ => hKp _ _ (hQp _ _ bl cur ⟨by rw [yt]; simp [hf1], h1, rfl, rfl⟩ (by rw [h1]; rfl) (by subst h2 h3; exact Out.of_in hb' hm (by omega) hin hlen'))))
          rintro r bl' cur' ⟨fr', hp', nx'⟩ ⟨hf1, rfl, rfl, rfl⟩ _ hb' hlen' hnx hfr hin hold
          simp only at hnx hfr hin hold
          subst hnx hfr
          simp only [go_sem, ↓reduceIte, reduceCtorEq, Nat.reduceAdd, Nat.reduceMul, Nat.reduceEqDiff, Nat.reduceLT, Nat.reduceLeDiff, Nat.reduceSub, Nat.reduceDiv, Nat.reducePow, Nat.reduceBEq, Int.reduceBEq, Int.reduceBNe, Int.reduceLT, Int.reduceLE, Int.reduceEq]
          refine hK _ ?_; clear hK hKp K Kp; (try clear hanc anc)
          repeat (first | refine Kq_norm_code ?_ | refine Kq_norm_blk ?_ | refine Kq_norm_lp ?_)
          refine K_low (fr := [(0, .ptr 0 0), (2, .i d), (12, .sl (Nd.avL l)), (13, .i l.length), (14, .i i), (52, .sl (Nd.avLL ps)), (53, .i ps.length), (54, .i y)]) (loc := []) _ (fun i => i) hN hb' hlen' hm (by omega) hin (by simp [go_sem, lowM]) (by simp [hold]) (by simp) ?_
          clear hin hold; clear hb; have hb := hb'; clear hb'
          repeat' (first | refine K_seq ?_ | refine K_blk ?_ | refine AW_skip ?_ | refine AW_exit ?_ | refine Kq_exit_code ?_ | refine Kq_exit_lp ?_ | refine Kq_exit_blk ?_ | refine Kq_exit_ne (by decide) ?_ | refine Kq_norm_code ?_ | refine Kq_norm_blk ?_ | refine Kq_norm_lp ?_ | rw [wrap64 (by omega) (by omega)] | (refine hK _ ?_; clear hK hKp K Kp; (try clear hanc anc)) | (refine hKp _ _ ?_; clear hK hKp K Kp; (try clear hanc anc)) | ((with_reducible refine And.intro ?_ ?_); (focus (first | trivial | omega | (simp only [Fits]; omega) | (refine ⟨?_, ?_⟩ <;> (simp only [Fits]; omega)) | assumption | (rw [hanc]; rfl)))) | ((first | refine K_regA hE fun K Kp hK hKp => ?_ | refine K_drwA true mixed hE fun K Kp hK hKp anc hanc => ?_ | refine K_drwA false mixed hE fun K Kp hK hKp anc hanc => ?_); simp only [go_sem, ↓reduceIte, reduceCtorEq, Nat.reduceAdd, Nat.reduceMul, Nat.reduceEqDiff, Nat.reduceLT, Nat.reduceLeDiff, Nat.reduceSub, Nat.reduceDiv, Nat.reducePow, Nat.reduceBEq, Int.reduceBEq, Int.reduceBNe, Int.reduceLT, Int.reduceLE, Int.reduceEq]) | ((first | refine onG_split_t (fun hg => ?_) (fun hg => ?_) | refine onG_split_f (fun hg => ?_) (fun hg => ?_)) <;> simp only [go_sem, ↓reduceIte, reduceCtorEq, Nat.reduceAdd, Nat.reduceMul, Nat.reduceEqDiff, Nat.reduceLT, Nat.reduceLeDiff, Nat.reduceSub, Nat.reduceDiv, Nat.reducePow, Nat.reduceBEq, Int.reduceBEq, Int.reduceBNe, Int.reduceLT, Int.reduceLE, Int.reduceEq, hg]) | (refine K_condA (fun hc => ?_) (fun hc => ?_) <;> try (exact absurd hc (by decide))))
          refine ⟨y + 1, ⟨by omega, by rw [yt]; simp [hf1]⟩, by omega, lowM (fun i => i) 10, ?_⟩
          try dsimp only
          rw [hN]; exact ent_low (fr := [(0, .ptr 0 0), (2, .i d), (12, .sl (Nd.avL l)), (13, .i l.length), (14, .i i), (52, .sl (Nd.avLL ps)), (53, .i ps.length), (54, .i (y + 1 : Nat))]) (loc := []) (base := 10) (fun i => i) hb (by omega) hm (by omega) (by (repeat (first | exact (fun _ _ h => h) | refine LowIn.curL ?_ | exact LowB.base | refine LowIn.upd ?_ (lowHp_none (by omega) (by omega)) | refine LowB.upd ?_ (lowHp_none (by omega) (by omega))))) (by simp [go_sem, lowM]) (by simp) (by simp)
        · obtain rfl : y = ps.length := by omega
          rw [List.drop_length, formedP] at yt
          repeat' (first | refine K_seq ?_ | refine K_blk ?_ | refine AW_skip ?_ | refine AW_exit ?_ | refine Kq_exit_code ?_ | refine Kq_exit_lp ?_ | refine Kq_exit_blk ?_ | refine Kq_exit_ne (by decide) ?_ | refine Kq_norm_code ?_ | refine Kq_norm_blk ?_ | refine Kq_norm_lp ?_ | rw [wrap64 (by omega) (by omega)] | (refine hK _ ?_; clear hK hKp K Kp; (try clear hanc anc)) | (refine hKp _ _ ?_; clear hK hKp K Kp; (try clear hanc anc)) | ((with_reducible refine And.intro ?_ ?_); (focus (first | trivial | omega | (simp only [Fits]; omega) | (refine ⟨?_, ?_⟩ <;> (simp only [Fits]; omega)) | assumption | (rw [hanc]; rfl)))) | ((first | refine K_regA hE fun K Kp hK hKp => ?_ | refine K_drwA true mixed hE fun K Kp hK hKp anc hanc => ?_ | refine K_drwA false mixed hE fun K Kp hK hKp anc hanc => ?_); simp only [go_sem, ↓reduceIte, reduceCtorEq, Nat.reduceAdd, Nat.reduceMul, Nat.reduceEqDiff, Nat.reduceLT, Nat.reduceLeDiff, Nat.reduceSub, Nat.reduceDiv, Nat.reducePow, Nat.reduceBEq, Int.reduceBEq, Int.reduceBNe, Int.reduceLT, Int.reduceLE, Int.reduceEq, ge_dec']) | ((first | refine onG_split_t (fun hg => ?_) (fun hg => ?_) | refine onG_split_f (fun hg => ?_) (fun hg => ?_)) <;> simp only [go_sem, ↓reduceIte, reduceCtorEq, Nat.reduceAdd, Nat.reduceMul, Nat.reduceEqDiff, Nat.reduceLT, Nat.reduceLeDiff, Nat.reduceSub, Nat.reduceDiv, Nat.reducePow, Nat.reduceBEq, Int.reduceBEq, Int.reduceBNe, Int.reduceLT, Int.reduceLE, Int.reduceEq, ge_dec', hg]) | (refine K_condA (fun hc => ?_) (fun hc => ?_) <;> try (exact absurd hc (by decide))))
          refine ⟨i + 1, ⟨by omega, by rw [yt]; simp⟩, by omega, lowM (fun i => i) 10, ?_⟩
          try dsimp only
          rw [hN]; exact ent_low (fr := [(0, .ptr 0 0), (2, .i d), (12, .sl (Nd.avL l)), (13, .i l.length), (14, .i (i + 1 : Nat))]) (loc := []) (base := 10) (fun i => i) hb (by omega) hm (by omega) (by (repeat (first | exact (fun _ _ h => h) | refine LowIn.curL ?_ | exact LowB.base | refine LowIn.upd ?_ (lowHp_none (by omega) (by omega)) | refine LowB.upd ?_ (lowHp_none (by omega) (by omega))))) (by simp [go_sem, lowM]) (by simp) (by simp)
      · repeat' (first | refine K_seq ?_ | refine K_blk ?_ | refine AW_skip ?_ | refine AW_exit ?_ | refine Kq_exit_code ?_ | refine Kq_exit_lp ?_ | refine Kq_exit_blk ?_ | refine Kq_exit_ne (by decide) ?_ | refine Kq_norm_code ?_ | refine Kq_norm_blk ?_ | refine Kq_norm_lp ?_ | rw [wrap64 (by omega) (by omega)] | (refine hK _ ?_; clear hK hKp K Kp; (try clear hanc anc)) | (refine hKp _ _ ?_; clear hK hKp K Kp; (try clear hanc anc)) | ((with_reducible refine And.intro ?_ ?_); (focus (first | trivial | omega | (simp only [Fits]; omega) | (refine ⟨?_, ?_⟩ <;> (simp only [Fits]; omega)) | assumption | (rw [hanc]; rfl)))) | ((first | refine K_regA hE fun K Kp hK hKp => ?_ | refine K_drwA true mixed hE fun K Kp hK hKp anc hanc => ?_ | refine K_drwA false mixed hE fun K Kp hK hKp anc hanc => ?_); simp only [go_sem, ↓reduceIte, reduceCtorEq, Nat.reduceAdd, Nat.reduceMul, Nat.reduceEqDiff, Nat.reduceLT, Nat.reduceLeDiff, Nat.reduceSub, Nat.reduceDiv, Nat.reducePow, Nat.reduceBEq, Int.reduceBEq, Int.reduceBNe, Int.reduceLT, Int.reduceLE, Int.reduceEq, lt_dec' hlt, hx, Nd.av_eq, hk, mdL, hd2, hd2]) | ((first | refine onG_split_t (fun hg => ?_) (fun hg => ?_) | refine onG_split_f (fun hg => ?_) (fun hg => ?_)) <;> simp only [go_sem, ↓reduceIte, reduceCtorEq, Nat.reduceAdd, Nat.reduceMul, Nat.reduceEqDiff, Nat.reduceLT, Nat.reduceLeDiff, Nat.reduceSub, Nat.reduceDiv, Nat.reducePow, Nat.reduceBEq, Int.reduceBEq, Int.reduceBNe, Int.reduceLT, Int.reduceLE, Int.reduceEq, lt_dec' hlt, hx, Nd.av_eq, hk, mdL, hd2, hd2, hg]) | (refine K_condA (fun hc => ?_) (fun hc => ?_) <;> try (exact absurd hc (by decide))))
        refine Hold.mk (CallB.of_A0 (check_call _ _) rfl (fun r hr => ?_) (fun x hx => absurd hx.1 (by decide)))
        rw [hr.2]
        simp only [go_sem, ↓reduceIte, reduceCtorEq, Nat.reduceAdd, Nat.reduceMul, Nat.reduceEqDiff, Nat.reduceLT, Nat.reduceLeDiff, Nat.reduceSub, Nat.reduceDiv, Nat.reducePow, Nat.reduceBEq, Int.reduceBEq, Int.reduceBNe, Int.reduceLT, Int.reduceLE, Int.reduceEq]
        repeat' (first | refine K_seq ?_ | refine K_blk ?_ | refine AW_skip ?_ | refine AW_exit ?_ | refine Kq_exit_code ?_ | refine Kq_exit_lp ?_ | refine Kq_exit_blk ?_ | refine Kq_exit_ne (by decide) ?_ | refine Kq_norm_code ?_ | refine Kq_norm_blk ?_ | refine Kq_norm_lp ?_ | rw [wrap64 (by omega) (by omega)] | (refine hK _ ?_; clear hK hKp K Kp; (try clear hanc anc)) | (refine hKp _ _ ?_; clear hK hKp K Kp; (try clear hanc anc)) | ((with_reducible refine And.intro ?_ ?_); (focus (first | trivial | omega | (simp only [Fits]; omega) | (refine ⟨?_, ?_⟩ <;> (simp only [Fits]; omega)) | assumption | (rw [hanc]; rfl)))) | ((first | refine K_regA hE fun K Kp hK hKp => ?_ | refine K_drwA true mixed hE fun K Kp hK hKp anc hanc => ?_ | refine K_drwA false mixed hE fun K Kp hK hKp anc hanc => ?_); simp only [go_sem, ↓reduceIte, reduceCtorEq, Nat.reduceAdd, Nat.reduceMul, Nat.reduceEqDiff, Nat.reduceLT, Nat.reduceLeDiff, Nat.reduceSub, Nat.reduceDiv, Nat.reducePow, Nat.reduceBEq, Int.reduceBEq, Int.reduceBNe, Int.reduceLT, Int.reduceLE, Int.reduceEq]) | ((first | refine onG_split_t (fun hg => ?_) (fun hg => ?_) | refine onG_split_f (fun hg => ?_) (fun hg => ?_)) <;> simp only [go_sem, ↓reduceIte, reduceCtorEq, Nat.reduceAdd, Nat.reduceMul, Nat.reduceEqDiff, Nat.reduceLT, Nat.reduceLeDiff, Nat.reduceSub, Nat.reduceDiv, Nat.reducePow, Nat.reduceBEq, Int.reduceBEq, Int.reduceBNe, Int.reduceLT, Int.reduceLE, Int.reduceEq, hg]) | (refine K_condA (fun hc => ?_) (fun hc => ?_) <;> try (exact absurd hc (by decide))))
        refine ⟨⟨hsz, (by simp only [Fits]; omega)⟩, ?_⟩
        repeat' (first | refine K_seq ?_ | refine K_blk ?_ | refine AW_skip ?_ | refine AW_exit ?_ | refine Kq_exit_code ?_ | refine Kq_exit_lp ?_ | refine Kq_exit_blk ?_ | refine Kq_exit_ne (by decide) ?_ | refine Kq_norm_code ?_ | refine Kq_norm_blk ?_ | refine Kq_norm_lp ?_ | rw [wrap64 (by omega) (by omega)] | (refine hK _ ?_; clear hK hKp K Kp; (try clear hanc anc)) | (refine hKp _ _ ?_; clear hK hKp K Kp; (try clear hanc anc)) | ((with_reducible refine And.intro ?_ ?_); (focus (first | trivial | omega | (simp only [Fits]; omega) | (refine ⟨?_, ?_⟩ <;> (simp only [Fits]; omega)) | assumption | (rw [hanc]; rfl)))) | ((first | refine K_regA hE fun K Kp hK hKp => ?_ | refine K_drwA true mixed hE fun K Kp hK hKp anc hanc => ?_ | refine K_drwA false mixed hE fun K Kp hK hKp anc hanc => ?_); simp only [go_sem, ↓reduceIte, reduceCtorEq, Nat.reduceAdd, Nat.reduceMul, Nat.reduceEqDiff, Nat.reduceLT, Nat.reduceLeDiff, Nat.reduceSub, Nat.reduceDiv, Nat.reducePow, Nat.reduceBEq, Int.reduceBEq, Int.reduceBNe, Int.reduceLT, Int.reduceLE, Int.reduceEq]) | ((first | refine onG_split_t (fun hg => ?_) (fun hg => ?_) | refine onG_split_f (fun hg => ?_) (fun hg => ?_)) <;> simp only [go_sem, ↓reduceIte, reduceCtorEq, Nat.reduceAdd, Nat.reduceMul, Nat.reduceEqDiff, Nat.reduceLT, Nat.reduceLeDiff, Nat.reduceSub, Nat.reduceDiv, Nat.reducePow, Nat.reduceBEq, Int.reduceBEq, Int.reduceBNe, Int.reduceLT, Int.reduceLE, Int.reduceEq, hg]) | (refine K_condA (fun hc => ?_) (fun hc => ?_) <;> try (exact absurd hc (by decide))))
        refine AW_frz1 52 43991616 (sz := 1) (by simp only [go_sem, ↓reduceIte, reduceCtorEq, Nat.reduceAdd, Nat.reduceMul, Nat.reduceEqDiff, Nat.reduceLT, Nat.reduceLeDiff, Nat.reduceSub, Nat.reduceDiv, Nat.reducePow, Nat.reduceBEq, Int.reduceBEq, Int.reduceBNe, Int.reduceLT, Int.reduceLE, Int.reduceEq]) (by simp only [go_sem, ↓reduceIte, reduceCtorEq, Nat.reduceAdd, Nat.reduceMul, Nat.reduceEqDiff, Nat.reduceLT, Nat.reduceLeDiff, Nat.reduceSub, Nat.reduceDiv, Nat.reducePow, Nat.reduceBEq, Int.reduceBEq, Int.reduceBNe, Int.reduceLT, Int.reduceLE, Int.reduceEq]; rw [Nd.avLL, Nd.avLL]) (clo_LL (n.thn :: n.els :: n.arms)) ?_
        have hmem : ∀ p, p ∈ n.thn :: n.els :: n.arms → Nd.szL p < N := by
          intro p hpm
          rcases List.mem_cons.1 hpm with rfl | hpm
          · omega
          · rcases List.mem_cons.1 hpm with rfl | hpm
            · omega
            · have := Nd.szL_mem hpm; omega
        have ht0 : formedL l d = (formedP (n.thn :: n.els :: n.arms) (d - 1) && formedL (l.drop (i + 1)) d) := by
          rw [ht]; simp [formedP, hk, Bool.and_assoc, show ¬ d < 1 by omega, hk]
        have hpl : ((n.thn :: n.els :: n.arms).length : Int) = (n.arms.length : Int) + 1 + 1 := by simp
        have hpl2 : (n.thn :: n.els :: n.arms).length = n.arms.length + 2 := by simp
        generalize n.thn :: n.els :: n.arms = ps at *
        refine K_loop (X := Nat) (fun y => y ≤ ps.length ∧ formedL l d = (formedP (ps.drop y) (d - 1) && formedL (l.drop (i + 1)) d)) (fun y => lowSt [(0, .ptr 0 0), (2, .i d), (12, .sl (Nd.avL l)), (13, .i l.length), (14, .i i), (52, .sl (Nd.avLL ps)), (53, .i ps.length), (54, .i y)] [] (hsL mdL) bl cur) (fun y => ps.length - y) 0 ⟨Nat.zero_le _, ht0⟩ (lowM (fun i => i) 10) ?_ ?_
        · try dsimp only
          rw [hN]; exact ent_low (fr := [(0, .ptr 0 0), (2, .i d), (12, .sl (Nd.avL l)), (13, .i l.length), (14, .i i), (52, .sl (Nd.avLL ps)), (53, .i ps.length), (54, .i (0 : Nat))]) (loc := []) (base := 10) (fun i => i) hb (by omega) hm (by omega) (by (repeat (first | exact (fun _ _ h => h) | refine LowIn.curL ?_ | exact LowB.base | refine LowIn.upd ?_ (lowHp_none (by omega) (by omega)) | refine LowB.upd ?_ (lowHp_none (by omega) (by omega))))) (by simp [go_sem, lowM, hpl]) (by simp) (by simp)
        rintro y ⟨yi, yt⟩
        by_cases ylt : y < ps.length
        · obtain ⟨p, hp⟩ := get?_of' ylt
          have hps := hmem p (List.mem_of_getElem? hp)
          rw [drop_of' hp, formedP] at yt
          have hcall := ih p hps (d - 1) (by omega) (by omega) bl cur hb hlen
          repeat' (first | refine K_seq ?_ | refine K_blk ?_ | refine AW_skip ?_ | refine AW_exit ?_ | refine Kq_exit_code ?_ | refine Kq_exit_lp ?_ | refine Kq_exit_blk ?_ | refine Kq_exit_ne (by decide) ?_ | refine Kq_norm_code ?_ | refine Kq_norm_blk ?_ | refine Kq_norm_lp ?_ | rw [wrap64 (by omega) (by omega)] | (refine hK _ ?_; clear hK hKp K Kp; (try clear hanc anc)) | (refine hKp _ _ ?_; clear hK hKp K Kp; (try clear hanc anc)) | ((with_reducible refine And.intro ?_ ?_); (focus (first | trivial | omega | (simp only [Fits]; omega) | (refine ⟨?_, ?_⟩ <;> (simp only [Fits]; omega)) | assumption | (rw [hanc]; rfl)))) | ((first | refine K_regA hE fun K Kp hK hKp => ?_ | refine K_drwA true mixed hE fun K Kp hK hKp anc hanc => ?_ | refine K_drwA false mixed hE fun K Kp hK hKp anc hanc => ?_); simp only [go_sem, ↓reduceIte, reduceCtorEq, Nat.reduceAdd, Nat.reduceMul, Nat.reduceEqDiff, Nat.reduceLT, Nat.reduceLeDiff, Nat.reduceSub, Nat.reduceDiv, Nat.reducePow, Nat.reduceBEq, Int.reduceBEq, Int.reduceBNe, Int.reduceLT, Int.reduceLE, Int.reduceEq, lt_dec' ylt, hp, e1]) | ((first | refine onG_split_t (fun hg => ?_) (fun hg => ?_) | refine onG_split_f (fun hg => ?_) (fun hg => ?_)) <;> simp only [go_sem, ↓reduceIte, reduceCtorEq, Nat.reduceAdd, Nat.reduceMul, Nat.reduceEqDiff, Nat.reduceLT, Nat.reduceLeDiff, Nat.reduceSub, Nat.reduceDiv, Nat.reducePow, Nat.reduceBEq, Int.reduceBEq, Int.reduceBNe, Int.reduceLT, Int.reduceLE, Int.reduceEq, lt_dec' ylt, hp, e1, hg]) | (refine K_condA (fun hc => ?_) (fun hc => ?_) <;> try (exact absurd hc (by decide))))
          refine Hold.mk ( LCall.use (hcall) rfl hm hb (o := 10) (by omega) ((by (repeat (first | exact (fun _ _ h => h) | refine LowIn.curL ?_ | exact LowB.base | refine LowIn.upd ?_ (lowHp_none (by omega) (by omega)) | refine LowB.upd ?_ (lowHp_none (by omega) (by omega)))))) (Nat.le_of_ble_eq_true rfl) ?_ (fun x bl' cur' σ' ⟨hf1, h1, h2, h3⟩ _ hb' hlen' _ _ hin _ => hKp _ _ (hQp _ _ bl cur ⟨by rw [yt]; simp [hf1], h1, rfl, rfl⟩ (by rw [h1]; rfl) (by subst h2 h3; exact Out.of_in hb' hm (by omega) hin hlen'))))
          rintro r bl' cur' ⟨fr', hp', nx'⟩ ⟨hf1, rfl, rfl, rfl⟩ _ hb' hlen' hnx hfr hin hold
          simp only at hnx hfr hin hold
          subst hnx hfr
          simp only [go_sem, ↓reduceIte, reduceCtorEq, Nat.reduceAdd, Nat.reduceMul, Nat.reduceEqDiff, Nat.reduceLT, Nat.reduceLeDiff, Nat.reduceSub, Nat.reduceDiv, Nat.reducePow, Nat.reduceBEq, Int.reduceBEq, Int.reduceBNe, Int.reduceLT, Int.reduceLE, Int.reduceEq]
          refine hK _ ?_; clear hK hKp K Kp; (try clear hanc anc)
          repeat (first | refine Kq_norm_code ?_ | refine Kq_norm_blk ?_ | refine Kq_norm_lp ?_)
          refine K_low (fr := [(0, .ptr 0 0), (2, .i d), (12, .sl (Nd.avL l)), (13, .i l.length), (14, .i i), (52, .sl (Nd.avLL ps)), (53, .i ps.length), (54, .i y)]) (loc := []) _ (fun i => i) hN hb' hlen' hm (by omega) hin (by simp [go_sem, lowM]) (by simp [hold]) (by simp) ?_
          clear hin hold; clear hb; have hb := hb'; clear hb'
          repeat' (first | refine K_seq ?_ | refine K_blk ?_ | refine AW_skip ?_ | refine AW_exit ?_ | refine Kq_exit_code ?_ | refine Kq_exit_lp ?_ | refine Kq_exit_blk ?_ | refine Kq_exit_ne (by decide) ?_ | refine Kq_norm_code ?_ | refine Kq_norm_blk ?_ | refine Kq_norm_lp ?_ | rw [wrap64 (by omega) (by omega)] | (refine hK _ ?_; clear hK hKp K Kp; (try clear hanc anc)) | (refine hKp _ _ ?_; clear hK hKp K Kp; (try clear hanc anc)) | ((with_reducible refine And.intro ?_ ?_); (focus (first | trivial | omega | (simp only [Fits]; omega) | (refine ⟨?_, ?_⟩ <;> (simp only [Fits]; omega)) | assumption | (rw [hanc]; rfl)))) | ((first | refine K_regA hE fun K Kp hK hKp => ?_ | refine K_drwA true mixed hE fun K Kp hK hKp anc hanc => ?_ | refine K_drwA false mixed hE fun K Kp hK hKp anc hanc => ?_); simp only [go_sem, ↓reduceIte, reduceCtorEq, Nat.reduceAdd, Nat.reduceMul, Nat.reduceEqDiff, Nat.reduceLT, Nat.reduceLeDiff, Nat.reduceSub, Nat.reduceDiv, Nat.reducePow, Nat.reduceBEq, Int.reduceBEq, Int.reduceBNe, Int.reduceLT, Int.reduceLE, Int.reduceEq]) | ((first | refine onG_split_t (fun hg => ?_) (fun hg => ?_) | refine onG_split_f (fun hg => ?_) (fun hg => ?_)) <;> simp only [go_sem, ↓reduceIte, reduceCtorEq, Nat.reduceAdd, Nat.reduceMul, Nat.reduceEqDiff, Nat.reduceLT, Nat.reduceLeDiff, Nat.reduceSub, Nat.reduceDiv, Nat.reducePow, Nat.reduceBEq, Int.reduceBEq, Int.reduceBNe, Int.reduceLT, Int.reduceLE, Int.reduceEq, hg]) | (refine K_condA (fun hc => ?_) (fun hc => ?_) <;> try (exact absurd hc (by decide))))
          refine ⟨y + 1, ⟨by omega, by rw [yt]; simp [hf1]⟩, by omega, lowM (fun i => i) 10, ?_⟩
          try dsimp only
          rw [hN]; exact ent_low (fr := [(0, .ptr 0 0), (2, .i d), (12, .sl (Nd.avL l)), (13, .i l.length), (14, .i i), (52, .sl (Nd.avLL ps)), (53, .i ps.length), (54, .i (y + 1 : Nat))]) (loc := []) (base := 10) (fun i => i) hb (by omega) hm (by omega) (by (repeat (first | exact (fun _ _ h => h) | refine LowIn.curL ?_ | exact LowB.base | refine LowIn.upd ?_ (lowHp_none (by omega) (by omega)) | refine LowB.upd ?_ (lowHp_none (by omega) (by omega))))) (by simp [go_sem, lowM]) (by simp) (by simp)
        · obtain rfl : y = ps.length := by omega
          rw [List.drop_length, formedP] at yt
          repeat' (first | refine K_seq ?_ | refine K_blk ?_ | refine AW_skip ?_ | refine AW_exit ?_ | refine Kq_exit_code ?_ | refine Kq_exit_lp ?_ | refine Kq_exit_blk ?_ | refine Kq_exit_ne (by decide) ?_ | refine Kq_norm_code ?_ | refine Kq_norm_blk ?_ | refine Kq_norm_lp ?_ | rw [wrap64 (by omega) (by omega)] | (refine hK _ ?_; clear hK hKp K Kp; (try clear hanc anc)) | (refine hKp _ _ ?_; clear hK hKp K Kp; (try clear hanc anc)) | ((with_reducible refine And.intro ?_ ?_); (focus (first | trivial | omega | (simp only [Fits]; omega) | (refine ⟨?_, ?_⟩ <;> (simp only [Fits]; omega)) | assumption | (rw [hanc]; rfl)))) | ((first | refine K_regA hE fun K Kp hK hKp => ?_ | refine K_drwA true mixed hE fun K Kp hK hKp anc hanc => ?_ | refine K_drwA false mixed hE fun K Kp hK hKp anc hanc => ?_); simp only [go_sem, ↓reduceIte, reduceCtorEq, Nat.reduceAdd, Nat.reduceMul, Nat.reduceEqDiff, Nat.reduceLT, Nat.reduceLeDiff, Nat.reduceSub, Nat.reduceDiv, Nat.reducePow, Nat.reduceBEq, Int.reduceBEq, Int.reduceBNe, Int.reduceLT, Int.reduceLE, Int.reduceEq, ge_dec']) | ((first | refine onG_split_t (fun hg => ?_) (fun hg => ?_) | refine onG_split_f (fun hg => ?_) (fun hg => ?_)) <;> simp only [go_sem, ↓reduceIte, reduceCtorEq, Nat.reduceAdd, Nat.reduceMul, Nat.reduceEqDiff, Nat.reduceLT, Nat.reduceLeDiff, Nat.reduceSub, Nat.reduceDiv, Nat.reducePow, Nat.reduceBEq, Int.reduceBEq, Int.reduceBNe, Int.reduceLT, Int.reduceLE, Int.reduceEq, ge_dec', hg]) | (refine K_condA (fun hc => ?_) (fun hc => ?_) <;> try (exact absurd hc (by decide))))
          refine ⟨i + 1, ⟨by omega, by rw [yt]; simp⟩, by omega, lowM (fun i => i) 10, ?_⟩
          try dsimp only
          rw [hN]; exact ent_low (fr := [(0, .ptr 0 0), (2, .i d), (12, .sl (Nd.avL l)), (13, .i l.length), (14, .i (i + 1 : Nat))]) (loc := []) (base := 10) (fun i => i) hb (by omega) hm (by omega) (by (repeat (first | exact (fun _ _ h => h) | refine LowIn.curL ?_ | exact LowB.base | refine LowIn.upd ?_ (lowHp_none (by omega) (by omega)) | refine LowB.upd ?_ (lowHp_none (by omega) (by omega))))) (by simp [go_sem, lowM]) (by simp) (by simp)
      · repeat' (first | refine K_seq ?_ | refine K_blk ?_ | refine AW_skip ?_ | refine AW_exit ?_ | refine Kq_exit_code ?_ | refine Kq_exit_lp ?_ | refine Kq_exit_blk ?_ | refine Kq_exit_ne (by decide) ?_ | refine Kq_norm_code ?_ | refine Kq_norm_blk ?_ | refine Kq_norm_lp ?_ | rw [wrap64 (by omega) (by omega)] | (refine hK _ ?_; clear hK hKp K Kp; (try clear hanc anc)) | (refine hKp _ _ ?_; clear hK hKp K Kp; (try clear hanc anc)) | ((with_reducible refine And.intro ?_ ?_); (focus (first | trivial | omega | (simp only [Fits]; omega) | (refine ⟨?_, ?_⟩ <;> (simp only [Fits]; omega)) | assumption | (rw [hanc]; rfl)))) | ((first | refine K_regA hE fun K Kp hK hKp => ?_ | refine K_drwA true mixed hE fun K Kp hK hKp anc hanc => ?_ | refine K_drwA false mixed hE fun K Kp hK hKp anc hanc => ?_); simp only [go_sem, ↓reduceIte, reduceCtorEq, Nat.reduceAdd, Nat.reduceMul, Nat.reduceEqDiff, Nat.reduceLT, Nat.reduceLeDiff, Nat.reduceSub, Nat.reduceDiv, Nat.reducePow, Nat.reduceBEq, Int.reduceBEq, Int.reduceBNe, Int.reduceLT, Int.reduceLE, Int.reduceEq, lt_dec' hlt, hx, Nd.av_eq, hk, mdL, hd2, hd2]) | ((first | refine onG_split_t (fun hg => ?_) (fun hg => ?_) | refine onG_split_f (fun hg => ?_) (fun hg => ?_)) <;> simp only [go_sem, ↓reduceIte, reduceCtorEq, Nat.reduceAdd, Nat.reduceMul, Nat.reduceEqDiff, Nat.reduceLT, Nat.reduceLeDiff, Nat.reduceSub, Nat.reduceDiv, Nat.reducePow, Nat.reduceBEq, Int.reduceBEq, Int.reduceBNe, Int.reduceLT, Int.reduceLE, Int.reduceEq, lt_dec' hlt, hx, Nd.av_eq, hk, mdL, hd2, hd2, hg]) | (refine K_condA (fun hc => ?_) (fun hc => ?_) <;> try (exact absurd hc (by decide))))
        refine Hold.mk (CallB.of_A0 (check_call _ _) rfl (fun r hr => ?_) (fun x hx => absurd hx.1 (by decide)))
        rw [hr.2]
        simp only [go_sem, ↓reduceIte, reduceCtorEq, Nat.reduceAdd, Nat.reduceMul, Nat.reduceEqDiff, Nat.reduceLT, Nat.reduceLeDiff, Nat.reduceSub, Nat.reduceDiv, Nat.reducePow, Nat.reduceBEq, Int.reduceBEq, Int.reduceBNe, Int.reduceLT, Int.reduceLE, Int.reduceEq]
        repeat' (first | refine K_seq ?_ | refine K_blk ?_ | refine AW_skip ?_ | refine AW_exit ?_ | refine Kq_exit_code ?_ | refine Kq_exit_lp ?_ | refine Kq_exit_blk ?_ | refine Kq_exit_ne (by decide) ?_ | refine Kq_norm_code ?_ | refine Kq_norm_blk ?_ | refine Kq_norm_lp ?_ | rw [wrap64 (by omega) (by omega)] | (refine hK _ ?_; clear hK hKp K Kp; (try clear hanc anc)) | (refine hKp _ _ ?_; clear hK hKp K Kp; (try clear hanc anc)) | ((with_reducible refine And.intro ?_ ?_); (focus (first | trivial | omega | (simp only [Fits]; omega) | (refine ⟨?_, ?_⟩ <;> (simp only [Fits]; omega)) | assumption | (rw [hanc]; rfl)))) | ((first | refine K_regA hE fun K Kp hK hKp => ?_ | refine K_drwA true mixed hE fun K Kp hK hKp anc hanc => ?_ | refine K_drwA false mixed hE fun K Kp hK hKp anc hanc => ?_); simp only [go_sem, ↓reduceIte, reduceCtorEq, Nat.reduceAdd, Nat.reduceMul, Nat.reduceEqDiff, Nat.reduceLT, Nat.reduceLeDiff, Nat.reduceSub, Nat.reduceDiv, Nat.reducePow, Nat.reduceBEq, Int.reduceBEq, Int.reduceBNe, Int.reduceLT, Int.reduceLE, Int.reduceEq]) | ((first | refine onG_split_t (fun hg => ?_) (fun hg => ?_) | refine onG_split_f (fun hg => ?_) (fun hg => ?_)) <;> simp only [go_sem, ↓reduceIte, reduceCtorEq, Nat.reduceAdd, Nat.reduceMul, Nat.reduceEqDiff, Nat.reduceLT, Nat.reduceLeDiff, Nat.reduceSub, Nat.reduceDiv, Nat.reducePow, Nat.reduceBEq, Int.reduceBEq, Int.reduceBNe, Int.reduceLT, Int.reduceLE, Int.reduceEq, hg]) | (refine K_condA (fun hc => ?_) (fun hc => ?_) <;> try (exact absurd hc (by decide))))
        refine ⟨⟨hsz, (by simp only [Fits]; omega)⟩, ?_⟩
        repeat' (first | refine K_seq ?_ | refine K_blk ?_ | refine AW_skip ?_ | refine AW_exit ?_ | refine Kq_exit_code ?_ | refine Kq_exit_lp ?_ | refine Kq_exit_blk ?_ | refine Kq_exit_ne (by decide) ?_ | refine Kq_norm_code ?_ | refine Kq_norm_blk ?_ | refine Kq_norm_lp ?_ | rw [wrap64 (by omega) (by omega)] | (refine hK _ ?_; clear hK hKp K Kp; (try clear hanc anc)) | (refine hKp _ _ ?_; clear hK hKp K Kp; (try clear hanc anc)) | ((with_reducible refine And.intro ?_ ?_); (focus (first | trivial | omega | (simp only [Fits]; omega) | (refine ⟨?_, ?_⟩ <;> (simp only [Fits]; omega)) | assumption | (rw [hanc]; rfl)))) | ((first | refine K_regA hE fun K Kp hK hKp => ?_ | refine K_drwA true mixed hE fun K Kp hK hKp anc hanc => ?_ | refine K_drwA false mixed hE fun K Kp hK hKp anc hanc => ?_); simp only [go_sem, ↓reduceIte, reduceCtorEq, Nat.reduceAdd, Nat.reduceMul, Nat.reduceEqDiff, Nat.reduceLT, Nat.reduceLeDiff, Nat.reduceSub, Nat.reduceDiv, Nat.reducePow, Nat.reduceBEq, Int.reduceBEq, Int.reduceBNe, Int.reduceLT, Int.reduceLE, Int.reduceEq]) | ((first | refine onG_split_t (fun hg => ?_) (fun hg => ?_) | refine onG_split_f (fun hg => ?_) (fun hg => ?_)) <;> simp only [go_sem, ↓reduceIte, reduceCtorEq, Nat.reduceAdd, Nat.reduceMul, Nat.reduceEqDiff, Nat.reduceLT, Nat.reduceLeDiff, Nat.reduceSub, Nat.reduceDiv, Nat.reducePow, Nat.reduceBEq, Int.reduceBEq, Int.reduceBNe, Int.reduceLT, Int.reduceLE, Int.reduceEq, hg]) | (refine K_condA (fun hc => ?_) (fun hc => ?_) <;> try (exact absurd hc (by decide))))
        refine AW_frz1 52 43991616 (sz := 1) (by simp only [go_sem, ↓reduceIte, reduceCtorEq, Nat.reduceAdd, Nat.reduceMul, Nat.reduceEqDiff, Nat.reduceLT, Nat.reduceLeDiff, Nat.reduceSub, Nat.reduceDiv, Nat.reducePow, Nat.reduceBEq, Int.reduceBEq, Int.reduceBNe, Int.reduceLT, Int.reduceLE, Int.reduceEq]) (by simp only [go_sem, ↓reduceIte, reduceCtorEq, Nat.reduceAdd, Nat.reduceMul, Nat.reduceEqDiff, Nat.reduceLT, Nat.reduceLeDiff, Nat.reduceSub, Nat.reduceDiv, Nat.reducePow, Nat.reduceBEq, Int.reduceBEq, Int.reduceBNe, Int.reduceLT, Int.reduceLE, Int.reduceEq]; rw [Nd.avLL, Nd.avLL]) (clo_LL (n.thn :: n.els :: n.arms)) ?_
        have hmem : ∀ p, p ∈ n.thn :: n.els :: n.arms → Nd.szL p < N := by
          intro p hpm
          rcases List.mem_cons.1 hpm with rfl | hpm
          · omega
          · rcases List.mem_cons.1 hpm with rfl | hpm
            · omega
            · have := Nd.szL_mem hpm; omega
        have ht0 : formedL l d = (formedP (n.thn :: n.els :: n.arms) (d - 1) && formedL (l.drop (i + 1)) d) := by
          rw [ht]; simp [formedP, hk, Bool.and_assoc, show ¬ d < 1 by omega, hk]
        have hpl : ((n.thn :: n.els :: n.arms).length : Int) = (n.arms.length : Int) + 1 + 1 := by simp
        have hpl2 : (n.thn :: n.els :: n.arms).length = n.arms.length + 2 := by simp
        generalize n.thn :: n.els :: n.arms = ps at *
        refine K_loop (X := Nat) (fun y => y ≤ ps.length ∧ formedL l d = (formedP (ps.drop y) (d - 1) && formedL (l.drop (i + 1)) d)) (fun y => lowSt [(0, .ptr 0 0), (2, .i d), (12, .sl (Nd.avL l)), (13, .i l.length), (14, .i i), (52, .sl (Nd.avLL ps)), (53, .i ps.length), (54, .i y)] [] (hsL mdL) bl cur) (fun y => ps.length - y) 0 ⟨Nat.zero_le _, ht0⟩ (lowM (fun i => i) 10) ?_ ?_
        · try dsimp only
          rw [hN]; exact ent_low (fr := [(0, .ptr 0 0), (2, .i d), (12, .sl (Nd.avL l)), (13, .i l.length), (14, .i i), (52, .sl (Nd.avLL ps)), (53, .i ps.length), (54, .i (0 : Nat))]) (loc := []) (base := 10) (fun i => i) hb (by omega) hm (by omega) (by (repeat (first | exact (fun _ _ h => h) | refine LowIn.curL ?_ | exact LowB.base | refine LowIn.upd ?_ (lowHp_none (by omega) (by omega)) | refine LowB.upd ?_ (lowHp_none (by omega) (by omega))))) (by simp [go_sem, lowM, hpl]) (by simp) (by simp)
        rintro y ⟨yi, yt⟩
        by_cases ylt : y < ps.length
        · obtain ⟨p, hp⟩ := get?_of' ylt
          have hps := hmem p (List.mem_of_getElem? hp)
          rw [drop_of' hp, formedP] at yt
          have hcall := ih p hps (d - 1) (by omega) (by omega) bl cur hb hlen
          repeat' (first | refine K_seq ?_ | refine K_blk ?_ | refine AW_skip ?_ | refine AW_exit ?_ | refine Kq_exit_code ?_ | refine Kq_exit_lp ?_ | refine Kq_exit_blk ?_ | refine Kq_exit_ne (by decide) ?_ | refine Kq_norm_code ?_ | refine Kq_norm_blk ?_ | refine Kq_norm_lp ?_ | rw [wrap64 (by omega) (by omega)] | (refine hK _ ?_; clear hK hKp K Kp; (try clear hanc anc)) | (refine hKp _ _ ?_; clear hK hKp K Kp; (try clear hanc anc)) | ((with_reducible refine And.intro ?_ ?_); (focus (first | trivial | omega | (simp only [Fits]; omega) | (refine ⟨?_, ?_⟩ <;> (simp only [Fits]; omega)) | assumption | (rw [hanc]; rfl)))) | ((first | refine K_regA hE fun K Kp hK hKp => ?_ | refine K_drwA true mixed hE fun K Kp hK hKp anc hanc => ?_ | refine K_drwA false mixed hE fun K Kp hK hKp anc hanc => ?_); simp only [go_sem, ↓reduceIte, reduceCtorEq, Nat.reduceAdd, Nat.reduceMul, Nat.reduceEqDiff, Nat.reduceLT, Nat.reduceLeDiff, Nat.reduceSub, Nat.reduceDiv, Nat.reducePow, Nat.reduceBEq, Int.reduceBEq, Int.reduceBNe, Int.reduceLT, Int.reduceLE, Int.reduceEq, lt_dec' ylt, hp, e1]) | ((first | refine onG_split_t (fun hg => ?_) (fun hg => ?_) | refine onG_split_f (fun hg => ?_) (fun hg => ?_)) <;> simp only [go_sem, ↓reduceIte, reduceCtorEq, Nat.reduceAdd, Nat.reduceMul, Nat.reduceEqDiff, Nat.reduceLT, Nat.reduceLeDiff, Nat.reduceSub, Nat.reduceDiv, Nat.reducePow, Nat.reduceBEq, Int.reduceBEq, Int.reduceBNe, Int.reduceLT, Int.reduceLE, Int.reduceEq, lt_dec' ylt, hp, e1, hg]) | (refine K_condA (fun hc => ?_) (fun hc => ?_) <;> try (exact absurd hc (by decide))))
          refine Hold.mk ( LCall.use (hcall) rfl hm hb (o := 10) (by omega) ((by (repeat (first | exact (fun _ _ h => h) | refine LowIn.curL ?_ | exact LowB.base | refine LowIn.upd ?_ (lowHp_none (by omega) (by omega)) | refine LowB.upd ?_ (lowHp_none (by omega) (by omega)))))) (Nat.le_of_ble_eq_true rfl) ?_ (fun x bl' cur' σ' ⟨hf1, h1, h2, h3⟩ _ hb' hlen' _ _ hin _ => hKp _ _ (hQp _ _ bl cur ⟨by rw [yt]; simp [hf1], h1, rfl, rfl⟩ (by rw [h1]; rfl) (by subst h2 h3; exact Out.of_in hb' hm (by omega) hin hlen'))))
          rintro r bl' cur' ⟨fr', hp', nx'⟩ ⟨hf1, rfl, rfl, rfl⟩ _ hb' hlen' hnx hfr hin hold
          simp only at hnx hfr hin hold
          subst hnx hfr
          simp only [go_sem, ↓reduceIte, reduceCtorEq, Nat.reduceAdd, Nat.reduceMul, Nat.reduceEqDiff, Nat.reduceLT, Nat.reduceLeDiff, Nat.reduceSub, Nat.reduceDiv, Nat.reducePow, Nat.reduceBEq, Int.reduceBEq, Int.reduceBNe, Int.reduceLT, Int.reduceLE, Int.reduceEq]
          refine hK _ ?_; clear hK hKp K Kp; (try clear hanc anc)
          repeat (first | refine Kq_norm_code ?_ | refine Kq_norm_blk ?_ | refine Kq_norm_lp ?_)
          refine K_low (fr := [(0, .ptr 0 0), (2, .i d), (12, .sl (Nd.avL l)), (13, .i l.length), (14, .i i), (52, .sl (Nd.avLL ps)), (53, .i ps.length), (54, .i y)]) (loc := []) _ (fun i => i) hN hb' hlen' hm (by omega) hin (by simp [go_sem, lowM]) (by simp [hold]) (by simp) ?_
          clear hin hold; clear hb; have hb := hb'; clear hb'
          repeat' (first | refine K_seq ?_ | refine K_blk ?_ | refine AW_skip ?_ | refine AW_exit ?_ | refine Kq_exit_code ?_ | refine Kq_exit_lp ?_ | refine Kq_exit_blk ?_ | refine Kq_exit_ne (by decide) ?_ | refine Kq_norm_code ?_ | refine Kq_norm_blk ?_ | refine Kq_norm_lp ?_ | rw [wrap64 (by omega) (by omega)] | (refine hK _ ?_; clear hK hKp K Kp; (try clear hanc anc)) | (refine hKp _ _ ?_; clear hK hKp K Kp; (try clear hanc anc)) | ((with_reducible refine And.intro ?_ ?_); (focus (first | trivial | omega | (simp only [Fits]; omega) | (refine ⟨?_, ?_⟩ <;> (simp only [Fits]; omega)) | assumption | (rw [hanc]; rfl)))) | ((first | refine K_regA hE fun K Kp hK hKp => ?_ | refine K_drwA true mixed hE fun K Kp hK hKp anc hanc => ?_ | refine K_drwA false mixed hE fun K Kp hK hKp anc hanc => ?_); simp only [go_sem, ↓reduceIte, reduceCtorEq, Nat.reduceAdd, Nat.reduceMul, Nat.reduceEqDiff, Nat.reduceLT, Nat.reduceLeDiff, Nat.reduceSub, Nat.reduceDiv, Nat.reducePow, Nat.reduceBEq, Int.reduceBEq, Int.reduceBNe, Int.reduceLT, Int.reduceLE, Int.reduceEq]) | ((first | refine onG_split_t (fun hg => ?_) (fun hg => ?_) | refine onG_split_f (fun hg => ?_) (fun hg => ?_)) <;> simp only [go_sem, ↓reduceIte, reduceCtorEq, Nat.reduceAdd, Nat.reduceMul, Nat.reduceEqDiff, Nat.reduceLT, Nat.reduceLeDiff, Nat.reduceSub, Nat.reduceDiv, Nat.reducePow, Nat.reduceBEq, Int.reduceBEq, Int.reduceBNe, Int.reduceLT, Int.reduceLE, Int.reduceEq, hg]) | (refine K_condA (fun hc => ?_) (fun hc => ?_) <;> try (exact absurd hc (by decide))))
          refine ⟨y + 1, ⟨by omega, by rw [yt]; simp [hf1]⟩, by omega, lowM (fun i => i) 10, ?_⟩
          try dsimp only
          rw [hN]; exact ent_low (fr := [(0, .ptr 0 0), (2, .i d), (12, .sl (Nd.avL l)), (13, .i l.length), (14, .i i), (52, .sl (Nd.avLL ps)), (53, .i ps.length), (54, .i (y + 1 : Nat))]) (loc := []) (base := 10) (fun i => i) hb (by omega) hm (by omega) (by (repeat (first | exact (fun _ _ h => h) | refine LowIn.curL ?_ | exact LowB.base | refine LowIn.upd ?_ (lowHp_none (by omega) (by omega)) | refine LowB.upd ?_ (lowHp_none (by omega) (by omega))))) (by simp [go_sem, lowM]) (by simp) (by simp)
        · obtain rfl : y = ps.length := by omega
          rw [List.drop_length, formedP] at yt
          repeat' (first | refine K_seq ?_ | refine K_blk ?_ | refine AW_skip ?_ | refine AW_exit ?_ | refine Kq_exit_code ?_ | refine Kq_exit_lp ?_ | refine Kq_exit_blk ?_ | refine Kq_exit_ne (by decide) ?_ | refine Kq_norm_code ?_ | refine Kq_norm_blk ?_ | refine Kq_norm_lp ?_ | rw [wrap64 (by omega) (by omega)] | (refine hK _ ?_; clear hK hKp K Kp; (try clear hanc anc)) | (refine hKp _ _ ?_; clear hK hKp K Kp; (try clear hanc anc)) | ((with_reducible refine And.intro ?_ ?_); (focus (first | trivial | omega | (simp only [Fits]; omega) | (refine ⟨?_, ?_⟩ <;> (simp only [Fits]; omega)) | assumption | (rw [hanc]; rfl)))) | ((first | refine K_regA hE fun K Kp hK hKp => ?_ | refine K_drwA true mixed hE fun K Kp hK hKp anc hanc => ?_ | refine K_drwA false mixed hE fun K Kp hK hKp anc hanc => ?_); simp only [go_sem, ↓reduceIte, reduceCtorEq, Nat.reduceAdd, Nat.reduceMul, Nat.reduceEqDiff, Nat.reduceLT, Nat.reduceLeDiff, Nat.reduceSub, Nat.reduceDiv, Nat.reducePow, Nat.reduceBEq, Int.reduceBEq, Int.reduceBNe, Int.reduceLT, Int.reduceLE, Int.reduceEq, ge_dec']) | ((first | refine onG_split_t (fun hg => ?_) (fun hg => ?_) | refine onG_split_f (fun hg => ?_) (fun hg => ?_)) <;> simp only [go_sem, ↓reduceIte, reduceCtorEq, Nat.reduceAdd, Nat.reduceMul, Nat.reduceEqDiff, Nat.reduceLT, Nat.reduceLeDiff, Nat.reduceSub, Nat.reduceDiv, Nat.reducePow, Nat.reduceBEq, Int.reduceBEq, Int.reduceBNe, Int.reduceLT, Int.reduceLE, Int.reduceEq, ge_dec', hg]) | (refine K_condA (fun hc => ?_) (fun hc => ?_) <;> try (exact absurd hc (by decide))))
          refine ⟨i + 1, ⟨by omega, by rw [yt]; simp⟩, by omega, lowM (fun i => i) 10, ?_⟩
          try dsimp only
          rw [hN]; exact ent_low (fr := [(0, .ptr 0 0), (2, .i d), (12, .sl (Nd.avL l)), (13, .i l.length), (14, .i (i + 1 : Nat))]) (loc := []) (base := 10) (fun i => i) hb (by omega) hm (by omega) (by (repeat (first | exact (fun _ _ h => h) | refine LowIn.curL ?_ | exact LowB.base | refine LowIn.upd ?_ (lowHp_none (by omega) (by omega)) | refine LowB.upd ?_ (lowHp_none (by omega) (by omega))))) (by simp [go_sem, lowM]) (by simp) (by simp)
      · repeat' (first | refine K_seq ?_ | refine K_blk ?_ | refine AW_skip ?_ | refine AW_exit ?_ | refine Kq_exit_code ?_ | refine Kq_exit_lp ?_ | refine Kq_exit_blk ?_ | refine Kq_exit_ne (by decide) ?_ | refine Kq_norm_code ?_ | refine Kq_norm_blk ?_ | refine Kq_norm_lp ?_ | rw [wrap64 (by omega) (by omega)] | (refine hK _ ?_; clear hK hKp K Kp; (try clear hanc anc)) | (refine hKp _ _ ?_; clear hK hKp K Kp; (try clear hanc anc)) | ((with_reducible refine And.intro ?_ ?_); (focus (first | trivial | omega | (simp only [Fits]; omega) | (refine ⟨?_, ?_⟩ <;> (simp only [Fits]; omega)) | assumption | (rw [hanc]; rfl)))) | ((first | refine K_regA hE fun K Kp hK hKp => ?_ | refine K_drwA true mixed hE fun K Kp hK hKp anc hanc => ?_ | refine K_drwA false mixed hE fun K Kp hK hKp anc hanc => ?_); simp only [go_sem, ↓reduceIte, reduceCtorEq, Nat.reduceAdd, Nat.reduceMul, Nat.reduceEqDiff, Nat.reduceLT, Nat.reduceLeDiff, Nat.reduceSub, Nat.reduceDiv, Nat.reducePow, Nat.reduceBEq, Int.reduceBEq, Int.reduceBNe, Int.reduceLT, Int.reduceLE, Int.reduceEq, lt_dec' hlt, hx, Nd.av_eq, hk, mdL, hd2, hd2]) | ((first | refine onG_split_t (fun hg => ?_) (fun hg => ?_) | refine onG_split_f (fun hg => ?_) (fun hg => ?_)) <;> simp only [go_sem, ↓reduceIte, reduceCtorEq, Nat.reduceAdd, Nat.reduceMul, Nat.reduceEqDiff, Nat.reduceLT, Nat.reduceLeDiff, Nat.reduceSub, Nat.reduceDiv, Nat.reducePow, Nat.reduceBEq, Int.reduceBEq, Int.reduceBNe, Int.reduceLT, Int.reduceLE, Int.reduceEq, lt_dec' hlt, hx, Nd.av_eq, hk, mdL, hd2, hd2, hg]) | (refine K_condA (fun hc => ?_) (fun hc => ?_) <;> try (exact absurd hc (by decide))))
        refine Hold.mk (CallB.of_A0 (check_call _ _) rfl (fun r hr => ?_) (fun x hx => absurd hx.1 (by decide)))
        rw [hr.2]
        simp only [go_sem, ↓reduceIte, reduceCtorEq, Nat.reduceAdd, Nat.reduceMul, Nat.reduceEqDiff, Nat.reduceLT, Nat.reduceLeDiff, Nat.reduceSub, Nat.reduceDiv, Nat.reducePow, Nat.reduceBEq, Int.reduceBEq, Int.reduceBNe, Int.reduceLT, Int.reduceLE, Int.reduceEq]
        repeat' (first | refine K_seq ?_ | refine K_blk ?_ | refine AW_skip ?_ | refine AW_exit ?_ | refine Kq_exit_code ?_ | refine Kq_exit_lp ?_ | refine Kq_exit_blk ?_ | refine Kq_exit_ne (by decide) ?_ | refine Kq_norm_code ?_ | refine Kq_norm_blk ?_ | refine Kq_norm_lp ?_ | rw [wrap64 (by omega) (by omega)] | (refine hK _ ?_; clear hK hKp K Kp; (try clear hanc anc)) | (refine hKp _ _ ?_; clear hK hKp K Kp; (try clear hanc anc)) | ((with_reducible refine And.intro ?_ ?_); (focus (first | trivial | omega | (simp only [Fits]; omega) | (refine ⟨?_, ?_⟩ <;> (simp only [Fits]; omega)) | assumption | (rw [hanc]; rfl)))) | ((first | refine K_regA hE fun K Kp hK hKp => ?_ | refine K_drwA true mixed hE fun K Kp hK hKp anc hanc => ?_ | refine K_drwA false mixed hE fun K Kp hK hKp anc hanc => ?_); simp only [go_sem, ↓reduceIte, reduceCtorEq, Nat.reduceAdd, Nat.reduceMul, Nat.reduceEqDiff, Nat.reduceLT, Nat.reduceLeDiff, Nat.reduceSub, Nat.reduceDiv, Nat.reducePow, Nat.reduceBEq, Int.reduceBEq, Int.reduceBNe, Int.reduceLT, Int.reduceLE, Int.reduceEq]) | ((first | refine onG_split_t (fun hg => ?_) (fun hg => ?_) | refine onG_split_f (fun hg => ?_) (fun hg => ?_)) <;> simp only [go_sem, ↓reduceIte, reduceCtorEq, Nat.reduceAdd, Nat.reduceMul, Nat.reduceEqDiff, Nat.reduceLT, Nat.reduceLeDiff, Nat.reduceSub, Nat.reduceDiv, Nat.reducePow, Nat.reduceBEq, Int.reduceBEq, Int.reduceBNe, Int.reduceLT, Int.reduceLE, Int.reduceEq, hg]) | (refine K_condA (fun hc => ?_) (fun hc => ?_) <;> try (exact absurd hc (by decide))))
        refine ⟨⟨hsz, (by simp only [Fits]; omega)⟩, ?_⟩
        repeat' (first | refine K_seq ?_ | refine K_blk ?_ | refine AW_skip ?_ | refine AW_exit ?_ | refine Kq_exit_code ?_ | refine Kq_exit_lp ?_ | refine Kq_exit_blk ?_ | refine Kq_exit_ne (by decide) ?_ | refine Kq_norm_code ?_ | refine Kq_norm_blk ?_ | refine Kq_norm_lp ?_ | rw [wrap64 (by omega) (by omega)] | (refine hK _ ?_; clear hK hKp K Kp; (try clear hanc anc)) | (refine hKp _ _ ?_; clear hK hKp K Kp; (try clear hanc anc)) | ((with_reducible refine And.intro ?_ ?_); (focus (first | trivial | omega | (simp only [Fits]; omega) | (refine ⟨?_, ?_⟩ <;> (simp only [Fits]; omega)) | assumption | (rw [hanc]; rfl)))) | ((first | refine K_regA hE fun K Kp hK hKp => ?_ | refine K_drwA true mixed hE fun K Kp hK hKp anc hanc => ?_ | refine K_drwA false mixed hE fun K Kp hK hKp anc hanc => ?_); simp only [go_sem, ↓reduceIte, reduceCtorEq, Nat.reduceAdd, Nat.reduceMul, Nat.reduceEqDiff, Nat.reduceLT, Nat.reduceLeDiff, Nat.reduceSub, Nat.reduceDiv, Nat.reducePow, Nat.reduceBEq, Int.reduceBEq, Int.reduceBNe, Int.reduceLT, Int.reduceLE, Int.reduceEq]) | ((first | refine onG_split_t (fun hg => ?_) (fun hg => ?_) | refine onG_split_f (fun hg => ?_) (fun hg => ?_)) <;> simp only [go_sem, ↓reduceIte, reduceCtorEq, Nat.reduceAdd, Nat.reduceMul, Nat.reduceEqDiff, Nat.reduceLT, Nat.reduceLeDiff, Nat.reduceSub, Nat.reduceDiv, Nat.reducePow, Nat.reduceBEq, Int.reduceBEq, Int.reduceBNe, Int.reduceLT, Int.reduceLE, Int.reduceEq, hg]) | (refine K_condA (fun hc => ?_) (fun hc => ?_) <;> try (exact absurd hc (by decide))))
        refine AW_frz1 52 43991616 (sz := 1) (by simp only [go_sem, ↓reduceIte, reduceCtorEq, Nat.reduceAdd, Nat.reduceMul, Nat.reduceEqDiff, Nat.reduceLT, Nat.reduceLeDiff, Nat.reduceSub, Nat.reduceDiv, Nat.reducePow, Nat.reduceBEq, Int.reduceBEq, Int.reduceBNe, Int.reduceLT, Int.reduceLE, Int.reduceEq]) (by simp only [go_sem, ↓reduceIte, reduceCtorEq, Nat.reduceAdd, Nat.reduceMul, Nat.reduceEqDiff, Nat.reduceLT, Nat.reduceLeDiff, Nat.reduceSub, Nat.reduceDiv, Nat.reducePow, Nat.reduceBEq, Int.reduceBEq, Int.reduceBNe, Int.reduceLT, Int.reduceLE, Int.reduceEq]; rw [Nd.avLL, Nd.avLL]) (clo_LL (n.thn :: n.els :: n.arms)) ?_
        have hmem : ∀ p, p ∈ n.thn :: n.els :: n.arms → Nd.szL p < N := by
          intro p hpm
          rcases List.mem_cons.1 hpm with rfl | hpm
          · omega
          · rcases List.mem_cons.1 hpm with rfl | hpm
            · omega
            · have := Nd.szL_mem hpm; omega
        have ht0 : formedL l d = (formedP (n.thn :: n.els :: n.arms) (d - 1) && formedL (l.drop (i + 1)) d) := by
          rw [ht]; simp [formedP, hk, Bool.and_assoc, show ¬ d < 1 by omega, hk]
        have hpl : ((n.thn :: n.els :: n.arms).length : Int) = (n.arms.length : Int) + 1 + 1 := by simp
        have hpl2 : (n.thn :: n.els :: n.arms).length = n.arms.length + 2 := by simp
        generalize n.thn :: n.els :: n.arms = ps at *
        refine K_loop (X := Nat) (fun y => y ≤ ps.length ∧ formedL l d = (formedP (ps.drop y) (d - 1) && formedL (l.drop (i + 1)) d)) (fun y => lowSt [(0, .ptr 0 0), (2, .i d), (12, .sl (Nd.avL l)), (13, .i l.length), (14, .i i), (52, .sl (Nd.avLL ps)), (53, .i ps.length), (54, .i y)] [] (hsL mdL) bl cur) (fun y => ps.length - y) 0 ⟨Nat.zero_le _, ht0⟩ (lowM (fun i => i) 10) ?_ ?_
        · try dsimp only
          rw [hN]; exact ent_low (fr := [(0, .ptr 0 0), (2, .i d), (12, .sl (Nd.avL l)), (13, .i l.length), (14, .i i), (52, .sl (Nd.avLL ps)), (53, .i ps.length), (54, .i (0 : Nat))]) (loc := []) (base := 10) (fun i => i) hb (by omega) hm (by omega) (by (repeat (first | exact (fun _ _ h => h) | refine LowIn.curL ?_ | exact LowB.base | refine LowIn.upd ?_ (lowHp_none (by omega) (by omega)) | refine LowB.upd ?_ (lowHp_none (by omega) (by omega))))) (by simp [go_sem, lowM, hpl]) (by simp) (by simp)
        rintro y ⟨yi, yt⟩
        by_cases ylt : y < ps.length
        · obtain ⟨p, hp⟩ := get?_of' ylt
          have hps := hmem p (List.mem_of_getElem? hp)
          rw [drop_of' hp, formedP] at yt
          have hcall := ih p hps (d - 1) (by omega) (by omega) bl cur hb hlen
          repeat' (first | refine K_seq ?_ | refine K_blk ?_ | refine AW_skip ?_ | refine AW_exit ?_ | refine Kq_exit_code ?_ | refine Kq_exit_lp ?_ | refine Kq_exit_blk ?_ | refine Kq_exit_ne (by decide) ?_ | refine Kq_norm_code ?_ | refine Kq_norm_blk ?_ | refine Kq_norm_lp ?_ | rw [wrap64 (by omega) (by omega)] | (refine hK _ ?_; clear hK hKp K Kp; (try clear hanc anc)) | (refine hKp _ _ ?_; clear hK hKp K Kp; (try clear hanc anc)) | ((with_reducible refine And.intro ?_ ?_); (focus (first | trivial | omega | (simp only [Fits]; omega) | (refine ⟨?_, ?_⟩ <;> (simp only [Fits]; omega)) | assumption | (rw [hanc]; rfl)))) | ((first | refine K_regA hE fun K Kp hK hKp => ?_ | refine K_drwA true mixed hE fun K Kp hK hKp anc hanc => ?_ | refine K_drwA false mixed hE fun K Kp hK hKp anc hanc => ?_); simp only [go_sem, ↓reduceIte, reduceCtorEq, Nat.reduceAdd, Nat.reduceMul, Nat.reduceEqDiff, Nat.reduceLT, Nat.reduceLeDiff, Nat.reduceSub, Nat.reduceDiv, Nat.reducePow, Nat.reduceBEq, Int.reduceBEq, Int.reduceBNe, Int.reduceLT, Int.reduceLE, Int.reduceEq, lt_dec' ylt, hp, e1]) | ((first | refine onG_split_t (fun hg => ?_) (fun hg => ?_) | refine onG_split_f (fun hg => ?_) (fun hg => ?_)) <;> simp only [go_sem, ↓reduceIte, reduceCtorEq, Nat.reduceAdd, Nat.reduceMul, Nat.reduceEqDiff, Nat.reduceLT, Nat.reduceLeDiff, Nat.reduceSub, Nat.reduceDiv, Nat.reducePow, Nat.reduceBEq, Int.reduceBEq, Int.reduceBNe, Int.reduceLT, Int.reduceLE, Int.reduceEq, lt_dec' ylt, hp, e1, hg]) | (refine K_condA (fun hc => ?_) (fun hc => ?_) <;> try (exact absurd hc (by decide))))
          refine Hold.mk ( LCall.use (hcall) rfl hm hb (o := 10) (by omega) ((by (repeat (first | exact (fun _ _ h => h) | refine LowIn.curL ?_ | exact LowB.base | refine LowIn.upd ?_ (lowHp_none (by omega) (by omega)) | refine LowB.upd ?_ (lowHp_none (by omega) (by omega)))))) (Nat.le_of_ble_eq_true rfl) ?_ (fun x bl' cur' σ' ⟨hf1, h1, h2, h3⟩ _ hb' hlen' _ _ hin _ => hKp _ _ (hQp _ _ bl cur ⟨by rw [yt]; simp [hf1], h1, rfl, rfl⟩ (by rw [h1]; rfl) (by subst h2 h3; exact Out.of_in hb' hm (by omega) hin hlen'))))
          rintro r bl' cur' ⟨fr', hp', nx'⟩ ⟨hf1, rfl, rfl, rfl⟩ _ hb' hlen' hnx hfr hin hold
          simp only at hnx hfr hin hold
          subst hnx hfr
          simp only [go_sem, ↓reduceIte, reduceCtorEq, Nat.reduceAdd, Nat.reduceMul, Nat.reduceEqDiff, Nat.reduceLT, Nat.reduceLeDiff, Nat.reduceSub, Nat.reduceDiv, Nat.reducePow, Nat.reduceBEq, Int.reduceBEq, Int.reduceBNe, Int.reduceLT, Int.reduceLE, Int.reduceEq]
          refine hK _ ?_; clear hK hKp K Kp; (try clear hanc anc)
          repeat (first | refine Kq_norm_code ?_ | refine Kq_norm_blk ?_ | refine Kq_norm_lp ?_)
          refine K_low (fr := [(0, .ptr 0 0), (2, .i d), (12, .sl (Nd.avL l)), (13, .i l.length), (14, .i i), (52, .sl (Nd.avLL ps)), (53, .i ps.length), (54, .i y)]) (loc := []) _ (fun i => i) hN hb' hlen' hm (by omega) hin (by simp [go_sem, lowM]) (by simp [hold]) (by simp) ?_
          clear hin hold; clear hb; have hb := hb'; clear hb'
          repeat' (first | refine K_seq ?_ | refine K_blk ?_ | refine AW_skip ?_ | refine AW_exit ?_ | refine Kq_exit_code ?_ | refine Kq_exit_lp ?_ | refine Kq_exit_blk ?_ | refine Kq_exit_ne (by decide) ?_ | refine Kq_norm_code ?_ | refine Kq_norm_blk ?_ | refine Kq_norm_lp ?_ | rw [wrap64 (by omega) (by omega)] | (refine hK _ ?_; clear hK hKp K Kp; (try clear hanc anc)) | (refine hKp _ _ ?_; clear hK hKp K Kp; (try clear hanc anc)) | ((with_reducible refine And.intro ?_ ?_); (focus (first | trivial | omega | (simp only [Fits]; omega) | (refine ⟨?_, ?_⟩ <;> (simp only [Fits]; omega)) | assumption | (rw [hanc]; rfl)))) | ((first | refine K_regA hE fun K Kp hK hKp => ?_ | refine K_drwA true mixed hE fun K Kp hK hKp anc hanc => ?_ | refine K_drwA false mixed hE fun K Kp hK hKp anc hanc => ?_); simp only [go_sem, ↓reduceIte, reduceCtorEq, Nat.reduceAdd, Nat.reduceMul, Nat.reduceEqDiff, Nat.reduceLT, Nat.reduceLeDiff, Nat.reduceSub, Nat.reduceDiv, Nat.reducePow, Nat.reduceBEq, Int.reduceBEq, Int.reduceBNe, Int.reduceLT, Int.reduceLE, Int.reduceEq]) | ((first | refine onG_split_t (fun hg => ?_) (fun hg => ?_) | refine onG_split_f (fun hg => ?_) (fun hg => ?_)) <;> simp only [go_sem, ↓reduceIte, reduceCtorEq, Nat.reduceAdd, Nat.reduceMul, Nat.reduceEqDiff, Nat.reduceLT, Nat.reduceLeDiff, Nat.reduceSub, Nat.reduceDiv, Nat.reducePow, Nat.reduceBEq, Int.reduceBEq, Int.reduceBNe, Int.reduceLT, Int.reduceLE, Int.reduceEq, hg]) | (refine K_condA (fun hc => ?_) (fun hc => ?_) <;> try (exact absurd hc (by decide))))
          refine ⟨y + 1, ⟨by omega, by rw [yt]; simp [hf1]⟩, by omega, lowM (fun i => i) 10, ?_⟩
          try dsimp only
          rw [hN]; exact ent_low (fr := [(0, .ptr 0 0), (2, .i d), (12, .sl (Nd.avL l)), (13, .i l.length), (14, .i i), (52, .sl (Nd.avLL ps)), (53, .i ps.length), (54, .i (y + 1 : Nat))]) (loc := []) (base := 10) (fun i => i) hb (by omega) hm (by omega) (by (repeat (first | exact (fun _ _ h => h) | refine LowIn.curL ?_ | exact LowB.base | refine LowIn.upd ?_ (lowHp_none (by omega) (by omega)) | refine LowB.upd ?_ (lowHp_none (by omega) (by omega))))) (by simp [go_sem, lowM]) (by simp) (by simp)
        · obtain rfl : y = ps.length := by omega
          rw [List.drop_length, formedP] at yt
          repeat' (first | refine K_seq ?_ | refine K_blk ?_ | refine AW_skip ?_ | refine AW_exit ?_ | refine Kq_exit_code ?_ | refine Kq_exit_lp ?_ | refine Kq_exit_blk ?_ | refine Kq_exit_ne (by decide) ?_ | refine Kq_norm_code ?_ | refine Kq_norm_blk ?_ | refine Kq_norm_lp ?_ | rw [wrap64 (by omega) (by omega)] | (refine hK _ ?_; clear hK hKp K Kp; (try clear hanc anc)) | (refine hKp _ _ ?_; clear hK hKp K Kp; (try clear hanc anc)) | ((with_reducible refine And.intro ?_ ?_); (focus (first | trivial | omega | (simp only [Fits]; omega) | (refine ⟨?_, ?_⟩ <;> (simp only [Fits]; omega)) | assumption | (rw [hanc]; rfl)))) | ((first | refine K_regA hE fun K Kp hK hKp => ?_ | refine K_drwA true mixed hE fun K Kp hK hKp anc hanc => ?_ | refine K_drwA false mixed hE fun K Kp hK hKp anc hanc => ?_); simp only [go_sem, ↓reduceIte, reduceCtorEq, Nat.reduceAdd, Nat.reduceMul, Nat.reduceEqDiff, Nat.reduceLT, Nat.reduceLeDiff, Nat.reduceSub, Nat.reduceDiv, Nat.reducePow, Nat.reduceBEq, Int.reduceBEq, Int.reduceBNe, Int.reduceLT, Int.reduceLE, Int.reduceEq, ge_dec']) | ((first | refine onG_split_t (fun hg => ?_) (fun hg => ?_) | refine onG_split_f (fun hg => ?_) (fun hg => ?_)) <;> simp only [go_sem, ↓reduceIte, reduceCtorEq, Nat.reduceAdd, Nat.reduceMul, Nat.reduceEqDiff, Nat.reduceLT, Nat.reduceLeDiff, Nat.reduceSub, Nat.reduceDiv, Nat.reducePow, Nat.reduceBEq, Int.reduceBEq, Int.reduceBNe, Int.reduceLT, Int.reduceLE, Int.reduceEq, ge_dec', hg]) | (refine K_condA (fun hc => ?_) (fun hc => ?_) <;> try (exact absurd hc (by decide))))
          refine ⟨i + 1, ⟨by omega, by rw [yt]; simp⟩, by omega, lowM (fun i => i) 10, ?_⟩
          try dsimp only
          rw [hN]; exact ent_low (fr := [(0, .ptr 0 0), (2, .i d), (12, .sl (Nd.avL l)), (13, .i l.length), (14, .i (i + 1 : Nat))]) (loc := []) (base := 10) (fun i => i) hb (by omega) hm (by omega) (by (repeat (first | exact (fun _ _ h => h) | refine LowIn.curL ?_ | exact LowB.base | refine LowIn.upd ?_ (lowHp_none (by omega) (by omega)) | refine LowB.upd ?_ (lowHp_none (by omega) (by omega))))) (by simp [go_sem, lowM]) (by simp) (by simp)
      · repeat' (first | refine K_seq ?_ | refine K_blk ?_ | refine AW_skip ?_ | refine AW_exit ?_ | refine Kq_exit_code ?_ | refine Kq_exit_lp ?_ | refine Kq_exit_blk ?_ | refine Kq_exit_ne (by decide) ?_ | refine Kq_norm_code ?_ | refine Kq_norm_blk ?_ | refine Kq_norm_lp ?_ | rw [wrap64 (by omega) (by omega)] | (refine hK _ ?_; clear hK hKp K Kp; (try clear hanc anc)) | (refine hKp _ _ ?_; clear hK hKp K Kp; (try clear hanc anc)) | ((with_reducible refine And.intro ?_ ?_); (focus (first | trivial | omega | (simp only [Fits]; omega) | (refine ⟨?_, ?_⟩ <;> (simp only [Fits]; omega)) | assumption | (rw [hanc]; rfl)))) | ((first | refine K_regA hE fun K Kp hK hKp => ?_ | refine K_drwA true mixed hE fun K Kp hK hKp anc hanc => ?_ | refine K_drwA false mixed hE fun K Kp hK hKp anc hanc => ?_); simp only [go_sem, ↓reduceIte, reduceCtorEq, Nat.reduceAdd, Nat.reduceMul, Nat.reduceEqDiff, Nat.reduceLT, Nat.reduceLeDiff, Nat.reduceSub, Nat.reduceDiv, Nat.reducePow, Nat.reduceBEq, Int.reduceBEq, Int.reduceBNe, Int.reduceLT, Int.reduceLE, Int.reduceEq, lt_dec' hlt, hx, Nd.av_eq, hk, mdL, hd2, hd2]) | ((first | refine onG_split_t (fun hg => ?_) (fun hg => ?_) | refine onG_split_f (fun hg => ?_) (fun hg => ?_)) <;> simp only [go_sem, ↓reduceIte, reduceCtorEq, Nat.reduceAdd, Nat.reduceMul, Nat.reduceEqDiff, Nat.reduceLT, Nat.reduceLeDiff, Nat.reduceSub, Nat.reduceDiv, Nat.reducePow, Nat.reduceBEq, Int.reduceBEq, Int.reduceBNe, Int.reduceLT, Int.reduceLE, Int.reduceEq, lt_dec' hlt, hx, Nd.av_eq, hk, mdL, hd2, hd2, hg]) | (refine K_condA (fun hc => ?_) (fun hc => ?_) <;> try (exact absurd hc (by decide))))
        refine Hold.mk (CallB.of_A0 (check_call _ _) rfl (fun r hr => ?_) (fun x hx => absurd hx.1 (by decide)))
        rw [hr.2]
        simp only [go_sem, ↓reduceIte, reduceCtorEq, Nat.reduceAdd, Nat.reduceMul, Nat.reduceEqDiff, Nat.reduceLT, Nat.reduceLeDiff, Nat.reduceSub, Nat.reduceDiv, Nat.reducePow, Nat.reduceBEq, Int.reduceBEq, Int.reduceBNe, Int.reduceLT, Int.reduceLE, Int.reduceEq]
        repeat' (first | refine K_seq ?_ | refine K_blk ?_ | refine AW_skip ?_ | refine AW_exit ?_ | refine Kq_exit_code ?_ | refine Kq_exit_lp ?_ | refine Kq_exit_blk ?_ | refine Kq_exit_ne (by decide) ?_ | refine Kq_norm_code ?_ | refine Kq_norm_blk ?_ | refine Kq_norm_lp ?_ | rw [wrap64 (by omega) (by omega)] | (refine hK _ ?_; clear hK hKp K Kp; (try clear hanc anc)) | (refine hKp _ _ ?_; clear hK hKp K Kp; (try clear hanc anc)) | ((with_reducible refine And.intro ?_ ?_); (focus (first | trivial | omega | (simp only [Fits]; omega) | (refine ⟨?_, ?_⟩ <;> (simp only [Fits]; omega)) | assumption | (rw [hanc]; rfl)))) | ((first | refine K_regA hE fun K Kp hK hKp => ?_ | refine K_drwA true mixed hE fun K Kp hK hKp anc hanc => ?_ | refine K_drwA false mixed hE fun K Kp hK hKp anc hanc => ?_); simp only [go_sem, ↓reduceIte, reduceCtorEq, Nat.reduceAdd, Nat.reduceMul, Nat.reduceEqDiff, Nat.reduceLT, Nat.reduceLeDiff, Nat.reduceSub, Nat.reduceDiv, Nat.reducePow, Nat.reduceBEq, Int.reduceBEq, Int.reduceBNe, Int.reduceLT, Int.reduceLE, Int.reduceEq]) | ((first | refine onG_split_t (fun hg => ?_) (fun hg => ?_) | refine onG_split_f (fun hg => ?_) (fun hg => ?_)) <;> simp only [go_sem, ↓reduceIte, reduceCtorEq, Nat.reduceAdd, Nat.reduceMul, Nat.reduceEqDiff, Nat.reduceLT, Nat.reduceLeDiff, Nat.reduceSub, Nat.reduceDiv, Nat.reducePow, Nat.reduceBEq, Int.reduceBEq, Int.reduceBNe, Int.reduceLT, Int.reduceLE, Int.reduceEq, hg]) | (refine K_condA (fun hc => ?_) (fun hc => ?_) <;> try (exact absurd hc (by decide))))
        refine ⟨⟨hsz, (by simp only [Fits]; omega)⟩, ?_⟩
        repeat' (first | refine K_seq ?_ | refine K_blk ?_ | refine AW_skip ?_ | refine AW_exit ?_ | refine Kq_exit_code ?_ | refine Kq_exit_lp ?_ | refine Kq_exit_blk ?_ | refine Kq_exit_ne (by decide) ?_ | refine Kq_norm_code ?_ | refine Kq_norm_blk ?_ | refine Kq_norm_lp ?_ | rw [wrap64 (by omega) (by omega)] | (refine hK _ ?_; clear hK hKp K Kp; (try clear hanc anc)) | (refine hKp _ _ ?_; clear hK hKp K Kp; (try clear hanc anc)) | ((with_reducible refine And.intro ?_ ?_); (focus (first | trivial | omega | (simp only [Fits]; omega) | (refine ⟨?_, ?_⟩ <;> (simp only [Fits]; omega)) | assumption | (rw [hanc]; rfl)))) | ((first | refine K_regA hE fun K Kp hK hKp => ?_ | refine K_drwA true mixed hE fun K Kp hK hKp anc hanc => ?_ | refine K_drwA false mixed hE fun K Kp hK hKp anc hanc => ?_); simp only [go_sem, ↓reduceIte, reduceCtorEq, Nat.reduceAdd, Nat.reduceMul, Nat.reduceEqDiff, Nat.reduceLT, Nat.reduceLeDiff, Nat.reduceSub, Nat.reduceDiv, Nat.reducePow, Nat.reduceBEq, Int.reduceBEq, Int.reduceBNe, Int.reduceLT, Int.reduceLE, Int.reduceEq]) | ((first | refine onG_split_t (fun hg => ?_) (fun hg => ?_) | refine onG_split_f (fun hg => ?_) (fun hg => ?_)) <;> simp only [go_sem, ↓reduceIte, reduceCtorEq, Nat.reduceAdd, Nat.reduceMul, Nat.reduceEqDiff, Nat.reduceLT, Nat.reduceLeDiff, Nat.reduceSub, Nat.reduceDiv, Nat.reducePow, Nat.reduceBEq, Int.reduceBEq, Int.reduceBNe, Int.reduceLT, Int.reduceLE, Int.reduceEq, hg]) | (refine K_condA (fun hc => ?_) (fun hc => ?_) <;> try (exact absurd hc (by decide))))
        refine AW_frz1 52 43991616 (sz := 1) (by simp only [go_sem, ↓reduceIte, reduceCtorEq, Nat.reduceAdd, Nat.reduceMul, Nat.reduceEqDiff, Nat.reduceLT, Nat.reduceLeDiff, Nat.reduceSub, Nat.reduceDiv, Nat.reducePow, Nat.reduceBEq, Int.reduceBEq, Int.reduceBNe, Int.reduceLT, Int.reduceLE, Int.reduceEq]) (by simp only [go_sem, ↓reduceIte, reduceCtorEq, Nat.reduceAdd, Nat.reduceMul, Nat.reduceEqDiff, Nat.reduceLT, Nat.reduceLeDiff, Nat.reduceSub, Nat.reduceDiv, Nat.reducePow, Nat.reduceBEq, Int.reduceBEq, Int.reduceBNe, Int.reduceLT, Int.reduceLE, Int.reduceEq]; rw [Nd.avLL, Nd.avLL]) (clo_LL (n.thn :: n.els :: n.arms)) ?_
        have hmem : ∀ p, p ∈ n.thn :: n.els :: n.arms → Nd.szL p < N := by
          intro p hpm
          rcases List.mem_cons.1 hpm with rfl | hpm
          · omega
          · rcases List.mem_cons.1 hpm with rfl | hpm
            · omega
            · have := Nd.szL_mem hpm; omega
        have ht0 : formedL l d = (formedP (n.thn :: n.els :: n.arms) (d - 1) && formedL (l.drop (i + 1)) d) := by
          rw [ht]; simp [formedP, hk, Bool.and_assoc, show ¬ d < 1 by omega, hk]
        have hpl : ((n.thn :: n.els :: n.arms).length : Int) = (n.arms.length : Int) + 1 + 1 := by simp
        have hpl2 : (n.thn :: n.els :: n.arms).length = n.arms.length + 2 := by simp
        generalize n.thn :: n.els :: n.arms = ps at *
        refine K_loop (X := Nat) (fun y => y ≤ ps.length ∧ formedL l d = (formedP (ps.drop y) (d - 1) && formedL (l.drop (i + 1)) d)) (fun y => lowSt [(0, .ptr 0 0), (2, .i d), (12, .sl (Nd.avL l)), (13, .i l.length), (14, .i i), (52, .sl (Nd.avLL ps)), (53, .i ps.length), (54, .i y)] [] (hsL mdL) bl cur) (fun y => ps.length - y) 0 ⟨Nat.zero_le _, ht0⟩ (lowM (fun i => i) 10) ?_ ?_
        · try dsimp only
          rw [hN]; exact ent_low (fr := [(0, .ptr 0 0), (2, .i d), (12, .sl (Nd.avL l)), (13, .i l.length), (14, .i i), (52, .sl (Nd.avLL ps)), (53, .i ps.length), (54, .i (0 : Nat))]) (loc := []) (base := 10) (fun i => i) hb (by omega) hm (by omega) (by (repeat (first | exact (fun _ _ h => h) | refine LowIn.curL ?_ | exact LowB.base | refine LowIn.upd ?_ (lowHp_none (by omega) (by omega)) | refine LowB.upd ?_ (lowHp_none (by omega) (by omega))))) (by simp [go_sem, lowM, hpl]) (by simp) (by simp)
        rintro y ⟨yi, yt⟩
        by_cases ylt : y < ps.length
        · obtain ⟨p, hp⟩ := get?_of' ylt
          have hps := hmem p (List.mem_of_getElem? hp)
          rw [drop_of' hp, formedP] at yt
          have hcall := ih p hps (d - 1) (by omega) (by omega) bl cur hb hlen
          repeat' (first | refine K_seq ?_ | refine K_blk ?_ | refine AW_skip ?_ | refine AW_exit ?_ | refine Kq_exit_code ?_ | refine Kq_exit_lp ?_ | refine Kq_exit_blk ?_ | refine Kq_exit_ne (by decide) ?_ | refine Kq_norm_code ?_ | refine Kq_norm_blk ?_ | refine Kq_norm_lp ?_ | rw [wrap64 (by omega) (by omega)] | (refine hK _ ?_; clear hK hKp K Kp; (try clear hanc anc)) | (refine hKp _ _ ?_; clear hK hKp K Kp; (try clear hanc anc)) | ((with_reducible refine And.intro ?_ ?_); (focus (first | trivial | omega | (simp only [Fits]; omega) | (refine ⟨?_, ?_⟩ <;> (simp only [Fits]; omega)) | assumption | (rw [hanc]; rfl)))) | ((first | refine K_regA hE fun K Kp hK hKp => ?_ | refine K_drwA true mixed hE fun K Kp hK hKp anc hanc => ?_ | refine K_drwA false mixed hE fun K Kp hK hKp anc hanc => ?_); simp only [go_sem, ↓reduceIte, reduceCtorEq, Nat.reduceAdd, Nat.reduceMul, Nat.reduceEqDiff, Nat.reduceLT, Nat.reduceLeDiff, Nat.reduceSub, Nat.reduceDiv, Nat.reducePow, Nat.reduceBEq, Int.reduceBEq, Int.reduceBNe, Int.reduceLT, Int.reduceLE, Int.reduceEq, lt_dec' ylt, hp, e1]) | ((first | refine onG_split_t (fun hg => ?_) (fun hg => ?_) | refine onG_split_f (fun hg => ?_) (fun hg => ?_)) <;> simp only [go_sem, ↓reduceIte, reduceCtorEq, Nat.reduceAdd, Nat.reduceMul, Nat.reduceEqDiff, Nat.reduceLT, Nat.reduceLeDiff, Nat.reduceSub, Nat.reduceDiv, Nat.reducePow, Nat.reduceBEq, Int.reduceBEq, Int.reduceBNe, Int.reduceLT, Int.reduceLE, Int.reduceEq, lt_dec' ylt, hp, e1, hg]) | (refine K_condA (fun hc => ?_) (fun hc => ?_) <;> try (exact absurd hc (by decide))))
          refine Hold.mk ( LCall.use (hcall) rfl hm hb (o := 10) (by omega) ((by (repeat (first | exact (fun _ _ h => h) | refine LowIn.curL ?_ | exact LowB.base | refine LowIn.upd ?_ (lowHp_none (by omega) (by omega)) | refine LowB.upd ?_ (lowHp_none (by omega) (by omega)))))) (Nat.le_of_ble_eq_true rfl) ?_ (fun x bl' cur' σ' ⟨hf1, h1, h2, h3⟩ _ hb' hlen' _ _ hin _ => hKp _ _ (hQp _ _ bl cur ⟨by rw [yt]; simp [hf1], h1, rfl, rfl⟩ (by rw [h1]; rfl) (by subst h2 h3; exact Out.of_in hb' hm (by omega) hin hlen'))))
          rintro r bl' cur' ⟨fr', hp', nx'⟩ ⟨hf1, rfl, rfl, rfl⟩ _ hb' hlen' hnx hfr hin hold
          simp only at hnx hfr hin hold
          subst hnx hfr
          simp only [go_sem, ↓reduceIte, reduceCtorEq, Nat.reduceAdd, Nat.reduceMul, Nat.reduceEqDiff, Nat.reduceLT, Nat.reduceLeDiff, Nat.reduceSub, Nat.reduceDiv, Nat.reducePow, Nat.reduceBEq, Int.reduceBEq, Int.reduceBNe, Int.reduceLT, Int.reduceLE, Int.reduceEq]
          refine hK _ ?_; clear hK hKp K Kp; (try clear hanc anc)
          repeat (first | refine Kq_norm_code ?_ | refine Kq_norm_blk ?_ | refine Kq_norm_lp ?_)
          refine K_low (fr := [(0, .ptr 0 0), (2, .i d), (12, .sl (Nd.avL l)), (13, .i l.length), (14, .i i), (52, .sl (Nd.avLL ps)), (53, .i ps.length), (54, .i y)]) (loc := []) _ (fun i => i) hN hb' hlen' hm (by omega) hin (by simp [go_sem, lowM]) (by simp [hold]) (by simp) ?_
          clear hin hold; clear hb; have hb := hb'; clear hb'
          repeat' (first | refine K_seq ?_ | refine K_blk ?_ | refine AW_skip ?_ | refine AW_exit ?_ | refine Kq_exit_code ?_ | refine Kq_exit_lp ?_ | refine Kq_exit_blk ?_ | refine Kq_exit_ne (by decide) ?_ | refine Kq_norm_code ?_ | refine Kq_norm_blk ?_ | refine Kq_norm_lp ?_ | rw [wrap64 (by omega) (by omega)] | (refine hK _ ?_; clear hK hKp K Kp; (try clear hanc anc)) | (refine hKp _ _ ?_; clear hK hKp K Kp; (try clear hanc anc)) | ((with_reducible refine And.intro ?_ ?_); (focus (first | trivial | omega | (simp only [Fits]; omega) | (refine ⟨?_, ?_⟩ <;> (simp only [Fits]; omega)) | assumption | (rw [hanc]; rfl)))) | ((first | refine K_regA hE fun K Kp hK hKp => ?_ | refine K_drwA true mixed hE fun K Kp hK hKp anc hanc => ?_ | refine K_drwA false mixed hE fun K Kp hK hKp anc hanc => ?_); simp only [go_sem, ↓reduceIte, reduceCtorEq, Nat.reduceAdd, Nat.reduceMul, Nat.reduceEqDiff, Nat.reduceLT, Nat.reduceLeDiff, Nat.reduceSub, Nat.reduceDiv, Nat.reducePow, Nat.reduceBEq, Int.reduceBEq, Int.reduceBNe, Int.reduceLT, Int.reduceLE, Int.reduceEq]) | ((first | refine onG_split_t (fun hg => ?_) (fun hg => ?_) | refine onG_split_f (fun hg => ?_) (fun hg => ?_)) <;> simp only [go_sem, ↓reduceIte, reduceCtorEq, Nat.reduceAdd, Nat.reduceMul, Nat.reduceEqDiff, Nat.reduceLT, Nat.reduceLeDiff, Nat.reduceSub, Nat.reduceDiv, Nat.reducePow, Nat.reduceBEq, Int.reduceBEq, Int.reduceBNe, Int.reduceLT, Int.reduceLE, Int.reduceEq, hg]) | (refine K_condA (fun hc => ?_) (fun hc => ?_) <;> try (exact absurd hc (by decide))))
          refine ⟨y + 1, ⟨by omega, by rw [yt]; simp [hf1]⟩, by omega, lowM (fun i => i) 10, ?_⟩
          try dsimp only
          rw [hN]; exact ent_low (fr := [(0, .ptr 0 0), (2, .i d), (12, .sl (Nd.avL l)), (13, .i l.length), (14, .i i), (52, .sl (Nd.avLL ps)), (53, .i ps.length), (54, .i (y + 1 : Nat))]) (loc := []) (base := 10) (fun i => i) hb (by omega) hm (by omega) (by (repeat (first | exact (fun _ _ h => h) | refine LowIn.curL ?_ | exact LowB.base | refine LowIn.upd ?_ (lowHp_none (by omega) (by omega)) | refine LowB.upd ?_ (lowHp_none (by omega) (by omega))))) (by simp [go_sem, lowM]) (by simp) (by simp)
        · obtain rfl : y = ps.length := by omega
          rw [List.drop_length, formedP] at yt
          repeat' (first | refine K_seq ?_ | refine K_blk ?_ | refine AW_skip ?_ | refine AW_exit ?_ | refine Kq_exit_code ?_ | refine Kq_exit_lp ?_ | refine Kq_exit_blk ?_ | refine Kq_exit_ne (by decide) ?_ | refine Kq_norm_code ?_ | refine Kq_norm_blk ?_ | refine Kq_norm_lp ?_ | rw [wrap64 (by omega) (by omega)] | (refine hK _ ?_; clear hK hKp K Kp; (try clear hanc anc)) | (refine hKp _ _ ?_; clear hK hKp K Kp; (try clear hanc anc)) | ((with_reducible refine And.intro ?_ ?_); (focus (first | trivial | omega | (simp only [Fits]; omega) | (refine ⟨?_, ?_⟩ <;> (simp only [Fits]; omega)) | assumption | (rw [hanc]; rfl)))) | ((first | refine K_regA hE fun K Kp hK hKp => ?_ | refine K_drwA true mixed hE fun K Kp hK hKp anc hanc => ?_ | refine K_drwA false mixed hE fun K Kp hK hKp anc hanc => ?_); simp only [go_sem, ↓reduceIte, reduceCtorEq, Nat.reduceAdd, Nat.reduceMul, Nat.reduceEqDiff, Nat.reduceLT, Nat.reduceLeDiff, Nat.reduceSub, Nat.reduceDiv, Nat.reducePow, Nat.reduceBEq, Int.reduceBEq, Int.reduceBNe, Int.reduceLT, Int.reduceLE, Int.reduceEq, ge_dec']) | ((first | refine onG_split_t (fun hg => ?_) (fun hg => ?_) | refine onG_split_f (fun hg => ?_) (fun hg => ?_)) <;> simp only [go_sem, ↓reduceIte, reduceCtorEq, Nat.reduceAdd, Nat.reduceMul, Nat.reduceEqDiff, Nat.reduceLT, Nat.reduceLeDiff, Nat.reduceSub, Nat.reduceDiv, Nat.reducePow, Nat.reduceBEq, Int.reduceBEq, Int.reduceBNe, Int.reduceLT, Int.reduceLE, Int.reduceEq, ge_dec', hg]) | (refine K_condA (fun hc => ?_) (fun hc => ?_) <;> try (exact absurd hc (by decide))))
          refine ⟨i + 1, ⟨by omega, by rw [yt]; simp⟩, by omega, lowM (fun i => i) 10, ?_⟩
          try dsimp only
          rw [hN]; exact ent_low (fr := [(0, .ptr 0 0), (2, .i d), (12, .sl (Nd.avL l)), (13, .i l.length), (14, .i (i + 1 : Nat))]) (loc := []) (base := 10) (fun i => i) hb (by omega) hm (by omega) (by (repeat (first | exact (fun _ _ h => h) | refine LowIn.curL ?_ | exact LowB.base | refine LowIn.upd ?_ (lowHp_none (by omega) (by omega)) | refine LowB.upd ?_ (lowHp_none (by omega) (by omega))))) (by simp [go_sem, lowM]) (by simp) (by simp)
      · repeat' (first | refine K_seq ?_ | refine K_blk ?_ | refine AW_skip ?_ | refine AW_exit ?_ | refine Kq_exit_code ?_ | refine Kq_exit_lp ?_ | refine Kq_exit_blk ?_ | refine Kq_exit_ne (by decide) ?_ | refine Kq_norm_code ?_ | refine Kq_norm_blk ?_ | refine Kq_norm_lp ?_ | rw [wrap64 (by omega) (by omega)] | (refine hK _ ?_; clear hK hKp K Kp; (try clear hanc anc)) | (refine hKp _ _ ?_; clear hK hKp K Kp; (try clear hanc anc)) | ((with_reducible refine And.intro ?_ ?_); (focus (first | trivial | omega | (simp only [Fits]; omega) | (refine ⟨?_, ?_⟩ <;> (simp only [Fits]; omega)) | assumption | (rw [hanc]; rfl)))) | ((first | refine K_regA hE fun K Kp hK hKp => ?_ | refine K_drwA true mixed hE fun K Kp hK hKp anc hanc => ?_ | refine K_drwA false mixed hE fun K Kp hK hKp anc hanc => ?_); simp only [go_sem, ↓reduceIte, reduceCtorEq, Nat.reduceAdd, Nat.reduceMul, Nat.reduceEqDiff, Nat.reduceLT, Nat.reduceLeDiff, Nat.reduceSub, Nat.reduceDiv, Nat.reducePow, Nat.reduceBEq, Int.reduceBEq, Int.reduceBNe, Int.reduceLT, Int.reduceLE, Int.reduceEq, lt_dec' hlt, hx, Nd.av_eq, hk, mdL, hd2, arms_pos hA]) | ((first | refine onG_split_t (fun hg => ?_) (fun hg => ?_) | refine onG_split_f (fun hg => ?_) (fun hg => ?_)) <;> simp only [go_sem, ↓reduceIte, reduceCtorEq, Nat.reduceAdd, Nat.reduceMul, Nat.reduceEqDiff, Nat.reduceLT, Nat.reduceLeDiff, Nat.reduceSub, Nat.reduceDiv, Nat.reducePow, Nat.reduceBEq, Int.reduceBEq, Int.reduceBNe, Int.reduceLT, Int.reduceLE, Int.reduceEq, lt_dec' hlt, hx, Nd.av_eq, hk, mdL, hd2, arms_pos hA, hg]) | (refine K_condA (fun hc => ?_) (fun hc => ?_) <;> try (exact absurd hc (by decide))))
        refine Hold.mk (CallB.of_A0 (check_call _ _) rfl (fun r hr => ?_) (fun x hx => absurd hx.1 (by decide)))
        rw [hr.2]
        simp only [go_sem, ↓reduceIte, reduceCtorEq, Nat.reduceAdd, Nat.reduceMul, Nat.reduceEqDiff, Nat.reduceLT, Nat.reduceLeDiff, Nat.reduceSub, Nat.reduceDiv, Nat.reducePow, Nat.reduceBEq, Int.reduceBEq, Int.reduceBNe, Int.reduceLT, Int.reduceLE, Int.reduceEq]
        repeat' (first | refine K_seq ?_ | refine K_blk ?_ | refine AW_skip ?_ | refine AW_exit ?_ | refine Kq_exit_code ?_ | refine Kq_exit_lp ?_ | refine Kq_exit_blk ?_ | refine Kq_exit_ne (by decide) ?_ | refine Kq_norm_code ?_ | refine Kq_norm_blk ?_ | refine Kq_norm_lp ?_ | rw [wrap64 (by omega) (by omega)] | (refine hK _ ?_; clear hK hKp K Kp; (try clear hanc anc)) | (refine hKp _ _ ?_; clear hK hKp K Kp; (try clear hanc anc)) | ((with_reducible refine And.intro ?_ ?_); (focus (first | trivial | omega | (simp only [Fits]; omega) | (refine ⟨?_, ?_⟩ <;> (simp only [Fits]; omega)) | assumption | (rw [hanc]; rfl)))) | ((first | refine K_regA hE fun K Kp hK hKp => ?_ | refine K_drwA true mixed hE fun K Kp hK hKp anc hanc => ?_ | refine K_drwA false mixed hE fun K Kp hK hKp anc hanc => ?_); simp only [go_sem, ↓reduceIte, reduceCtorEq, Nat.reduceAdd, Nat.reduceMul, Nat.reduceEqDiff, Nat.reduceLT, Nat.reduceLeDiff, Nat.reduceSub, Nat.reduceDiv, Nat.reducePow, Nat.reduceBEq, Int.reduceBEq, Int.reduceBNe, Int.reduceLT, Int.reduceLE, Int.reduceEq]) | ((first | refine onG_split_t (fun hg => ?_) (fun hg => ?_) | refine onG_split_f (fun hg => ?_) (fun hg => ?_)) <;> simp only [go_sem, ↓reduceIte, reduceCtorEq, Nat.reduceAdd, Nat.reduceMul, Nat.reduceEqDiff, Nat.reduceLT, Nat.reduceLeDiff, Nat.reduceSub, Nat.reduceDiv, Nat.reducePow, Nat.reduceBEq, Int.reduceBEq, Int.reduceBNe, Int.reduceLT, Int.reduceLE, Int.reduceEq, hg]) | (refine K_condA (fun hc => ?_) (fun hc => ?_) <;> try (exact absurd hc (by decide))))
        refine ⟨⟨hsz, (by simp only [Fits]; omega)⟩, ?_⟩
        repeat' (first | refine K_seq ?_ | refine K_blk ?_ | refine AW_skip ?_ | refine AW_exit ?_ | refine Kq_exit_code ?_ | refine Kq_exit_lp ?_ | refine Kq_exit_blk ?_ | refine Kq_exit_ne (by decide) ?_ | refine Kq_norm_code ?_ | refine Kq_norm_blk ?_ | refine Kq_norm_lp ?_ | rw [wrap64 (by omega) (by omega)] | (refine hK _ ?_; clear hK hKp K Kp; (try clear hanc anc)) | (refine hKp _ _ ?_; clear hK hKp K Kp; (try clear hanc anc)) | ((with_reducible refine And.intro ?_ ?_); (focus (first | trivial | omega | (simp only [Fits]; omega) | (refine ⟨?_, ?_⟩ <;> (simp only [Fits]; omega)) | assumption | (rw [hanc]; rfl)))) | ((first | refine K_regA hE fun K Kp hK hKp => ?_ | refine K_drwA true mixed hE fun K Kp hK hKp anc hanc => ?_ | refine K_drwA false mixed hE fun K Kp hK hKp anc hanc => ?_); simp only [go_sem, ↓reduceIte, reduceCtorEq, Nat.reduceAdd, Nat.reduceMul, Nat.reduceEqDiff, Nat.reduceLT, Nat.reduceLeDiff, Nat.reduceSub, Nat.reduceDiv, Nat.reducePow, Nat.reduceBEq, Int.reduceBEq, Int.reduceBNe, Int.reduceLT, Int.reduceLE, Int.reduceEq]) | ((first | refine onG_split_t (fun hg => ?_) (fun hg => ?_) | refine onG_split_f (fun hg => ?_) (fun hg => ?_)) <;> simp only [go_sem, ↓reduceIte, reduceCtorEq, Nat.reduceAdd, Nat.reduceMul, Nat.reduceEqDiff, Nat.reduceLT, Nat.reduceLeDiff, Nat.reduceSub, Nat.reduceDiv, Nat.reducePow, Nat.reduceBEq, Int.reduceBEq, Int.reduceBNe, Int.reduceLT, Int.reduceLE, Int.reduceEq, hg]) | (refine K_condA (fun hc => ?_) (fun hc => ?_) <;> try (exact absurd hc (by decide))))
        refine AW_frz1 52 43991616 (sz := 1) (by simp only [go_sem, ↓reduceIte, reduceCtorEq, Nat.reduceAdd, Nat.reduceMul, Nat.reduceEqDiff, Nat.reduceLT, Nat.reduceLeDiff, Nat.reduceSub, Nat.reduceDiv, Nat.reducePow, Nat.reduceBEq, Int.reduceBEq, Int.reduceBNe, Int.reduceLT, Int.reduceLE, Int.reduceEq]) (by simp only [go_sem, ↓reduceIte, reduceCtorEq, Nat.reduceAdd, Nat.reduceMul, Nat.reduceEqDiff, Nat.reduceLT, Nat.reduceLeDiff, Nat.reduceSub, Nat.reduceDiv, Nat.reducePow, Nat.reduceBEq, Int.reduceBEq, Int.reduceBNe, Int.reduceLT, Int.reduceLE, Int.reduceEq]; rw [Nd.avLL, Nd.avLL]) (clo_LL (n.thn :: n.els :: n.arms)) ?_
        have hmem : ∀ p, p ∈ n.thn :: n.els :: n.arms → Nd.szL p < N := by
          intro p hpm
          rcases List.mem_cons.1 hpm with rfl | hpm
          · omega
          · rcases List.mem_cons.1 hpm with rfl | hpm
            · omega
            · have := Nd.szL_mem hpm; omega
        have ht0 : formedL l d = (formedP (n.thn :: n.els :: n.arms) (d - 1) && formedL (l.drop (i + 1)) d) := by
          rw [ht]; simp [formedP, hk, Bool.and_assoc, show ¬ d < 1 by omega, hA]
        have hpl : ((n.thn :: n.els :: n.arms).length : Int) = (n.arms.length : Int) + 1 + 1 := by simp
        have hpl2 : (n.thn :: n.els :: n.arms).length = n.arms.length + 2 := by simp
        generalize n.thn :: n.els :: n.arms = ps at *
        refine K_loop (X := Nat) (fun y => y ≤ ps.length ∧ formedL l d = (formedP (ps.drop y) (d - 1) && formedL (l.drop (i + 1)) d)) (fun y => lowSt [(0, .ptr 0 0), (2, .i d), (12, .sl (Nd.avL l)), (13, .i l.length), (14, .i i), (52, .sl (Nd.avLL ps)), (53, .i ps.length), (54, .i y)] [] (hsL mdL) bl cur) (fun y => ps.length - y) 0 ⟨Nat.zero_le _, ht0⟩ (lowM (fun i => i) 10) ?_ ?_
        · try dsimp only
          rw [hN]; exact ent_low (fr := [(0, .ptr 0 0), (2, .i d), (12, .sl (Nd.avL l)), (13, .i l.length), (14, .i i), (52, .sl (Nd.avLL ps)), (53, .i ps.length), (54, .i (0 : Nat))]) (loc := []) (base := 10) (fun i => i) hb (by omega) hm (by omega) (by (repeat (first | exact (fun _ _ h => h) | refine LowIn.curL ?_ | exact LowB.base | refine LowIn.upd ?_ (lowHp_none (by omega) (by omega)) | refine LowB.upd ?_ (lowHp_none (by omega) (by omega))))) (by simp [go_sem, lowM, hpl]) (by simp) (by simp)
        rintro y ⟨yi, yt⟩
        by_cases ylt : y < ps.length
        · obtain ⟨p, hp⟩ := get?_of' ylt
          have hps := hmem p (List.mem_of_getElem? hp)
          rw [drop_of' hp, formedP] at yt
          have hcall := ih p hps (d - 1) (by omega) (by omega) bl cur hb hlen
          repeat' (first | refine K_seq ?_ | refine K_blk ?_ | refine AW_skip ?_ | refine AW_exit ?_ | refine Kq_exit_code ?_ | refine Kq_exit_lp ?_ | refine Kq_exit_blk ?_ | refine Kq_exit_ne (by decide) ?_ | refine Kq_norm_code ?_ | refine Kq_norm_blk ?_ | refine Kq_norm_lp ?_ | rw [wrap64 (by omega) (by omega)] | (refine hK _ ?_; clear hK hKp K Kp; (try clear hanc anc)) | (refine hKp _ _ ?_; clear hK hKp K Kp; (try clear hanc anc)) | ((with_reducible refine And.intro ?_ ?_); (focus (first | trivial | omega | (simp only [Fits]; omega) | (refine ⟨?_, ?_⟩ <;> (simp only [Fits]; omega)) | assumption | (rw [hanc]; rfl)))) | ((first | refine K_regA hE fun K Kp hK hKp => ?_ | refine K_drwA true mixed hE fun K Kp hK hKp anc hanc => ?_ | refine K_drwA false mixed hE fun K Kp hK hKp anc hanc => ?_); simp only [go_sem, ↓reduceIte, reduceCtorEq, Nat.reduceAdd, Nat.reduceMul, Nat.reduceEqDiff, Nat.reduceLT, Nat.reduceLeDiff, Nat.reduceSub, Nat.reduceDiv, Nat.reducePow, Nat.reduceBEq, Int.reduceBEq, Int.reduceBNe, Int.reduceLT, Int.reduceLE, Int.reduceEq, lt_dec' ylt, hp, e1]) | ((first | refine onG_split_t (fun hg => ?_) (fun hg => ?_) | refine onG_split_f (fun hg => ?_) (fun hg => ?_)) <;> simp only [go_sem, ↓reduceIte, reduceCtorEq, Nat.reduceAdd, Nat.reduceMul, Nat.reduceEqDiff, Nat.reduceLT, Nat.reduceLeDiff, Nat.reduceSub, Nat.reduceDiv, Nat.reducePow, Nat.reduceBEq, Int.reduceBEq, Int.reduceBNe, Int.reduceLT, Int.reduceLE, Int.reduceEq, lt_dec' ylt, hp, e1, hg]) | (refine K_condA (fun hc => ?_) (fun hc => ?_) <;> try (exact absurd hc (by decide))))
          refine Hold.mk ( LCall.use (hcall) rfl hm hb (o := 10) (by omega) ((by (repeat (first | exact (fun _ _ h => h) | refine LowIn.curL ?_ | exact LowB.base | refine LowIn.upd ?_ (lowHp_none (by omega) (by omega)) | refine LowB.upd ?_ (lowHp_none (by omega) (by omega)))))) (Nat.le_of_ble_eq_true rfl) ?_ (fun x bl' cur' σ' ⟨hf1, h1, h2, h3⟩ _ hb' hlen' _ _ hin _ => hKp _ _ (hQp _ _ bl cur ⟨by rw [yt]; simp [hf1], h1, rfl, rfl⟩ (by rw [h1]; rfl) (by subst h2 h3; exact Out.of_in hb' hm (by omega) hin hlen'))))
          rintro r bl' cur' ⟨fr', hp', nx'⟩ ⟨hf1, rfl, rfl, rfl⟩ _ hb' hlen' hnx hfr hin hold
          simp only at hnx hfr hin hold
          subst hnx hfr
          simp only [go_sem, ↓reduceIte, reduceCtorEq, Nat.reduceAdd, Nat.reduceMul, Nat.reduceEqDiff, Nat.reduceLT, Nat.reduceLeDiff, Nat.reduceSub, Nat.reduceDiv, Nat.reducePow, Nat.reduceBEq, Int.reduceBEq, Int.reduceBNe, Int.reduceLT, Int.reduceLE, Int.reduceEq]
          refine hK _ ?_; clear hK hKp K Kp; (try clear hanc anc)
          repeat (first | refine Kq_norm_code ?_ | refine Kq_norm_blk ?_ | refine Kq_norm_lp ?_)
          refine K_low (fr := [(0, .ptr 0 0), (2, .i d), (12, .sl (Nd.avL l)), (13, .i l.length), (14, .i i), (52, .sl (Nd.avLL ps)), (53, .i ps.length), (54, .i y)]) (loc := []) _ (fun i => i) hN hb' hlen' hm (by omega) hin (by simp [go_sem, lowM]) (by simp [hold]) (by simp) ?_
          clear hin hold; clear hb; have hb := hb'; clear hb'
          repeat' (first | refine K_seq ?_ | refine K_blk ?_ | refine AW_skip ?_ | refine AW_exit ?_ | refine Kq_exit_code ?_ | refine Kq_exit_lp ?_ | refine Kq_exit_blk ?_ | refine Kq_exit_ne (by decide) ?_ | refine Kq_norm_code ?_ | refine Kq_norm_blk ?_ | refine Kq_norm_lp ?_ | rw [wrap64 (by omega) (by omega)] | (refine hK _ ?_; clear hK hKp K Kp; (try clear hanc anc)) | (refine hKp _ _ ?_; clear hK hKp K Kp; (try clear hanc anc)) | ((with_reducible refine And.intro ?_ ?_); (focus (first | trivial | omega | (simp only [Fits]; omega) | (refine ⟨?_, ?_⟩ <;> (simp only [Fits]; omega)) | assumption | (rw [hanc]; rfl)))) | ((first | refine K_regA hE fun K Kp hK hKp => ?_ | refine K_drwA true mixed hE fun K Kp hK hKp anc hanc => ?_ | refine K_drwA false mixed hE fun K Kp hK hKp anc hanc => ?_); simp only [go_sem, ↓reduceIte, reduceCtorEq, Nat.reduceAdd, Nat.reduceMul, Nat.reduceEqDiff, Nat.reduceLT, Nat.reduceLeDiff, Nat.reduceSub, Nat.reduceDiv, Nat.reducePow, Nat.reduceBEq, Int.reduceBEq, Int.reduceBNe, Int.reduceLT, Int.reduceLE, Int.reduceEq]) | ((first | refine onG_split_t (fun hg => ?_) (fun hg => ?_) | refine onG_split_f (fun hg => ?_) (fun hg => ?_)) <;> simp only [go_sem, ↓reduceIte, reduceCtorEq, Nat.reduceAdd, Nat.reduceMul, Nat.reduceEqDiff, Nat.reduceLT, Nat.reduceLeDiff, Nat.reduceSub, Nat.reduceDiv, Nat.reducePow, Nat.reduceBEq, Int.reduceBEq, Int.reduceBNe, Int.reduceLT, Int.reduceLE, Int.reduceEq, hg]) | (refine K_condA (fun hc => ?_) (fun hc => ?_) <;> try (exact absurd hc (by decide))))
          refine ⟨y + 1, ⟨by omega, by rw [yt]; simp [hf1]⟩, by omega, lowM (fun i => i) 10, ?_⟩
          try dsimp only
          rw [hN]; exact ent_low (fr := [(0, .ptr 0 0), (2, .i d), (12, .sl (Nd.avL l)), (13, .i l.length), (14, .i i), (52, .sl (Nd.avLL ps)), (53, .i ps.length), (54, .i (y + 1 : Nat))]) (loc := []) (base := 10) (fun i => i) hb (by omega) hm (by omega) (by (repeat (first | exact (fun _ _ h => h) | refine LowIn.curL ?_ | exact LowB.base | refine LowIn.upd ?_ (lowHp_none (by omega) (by omega)) | refine LowB.upd ?_ (lowHp_none (by omega) (by omega))))) (by simp [go_sem, lowM]) (by simp) (by simp)
        · obtain rfl : y = ps.length := by omega
          rw [List.drop_length, formedP] at yt
          repeat' (first | refine K_seq ?_ | refine K_blk ?_ | refine AW_skip ?_ | refine AW_exit ?_ | refine Kq_exit_code ?_ | refine Kq_exit_lp ?_ | refine Kq_exit_blk ?_ | refine Kq_exit_ne (by decide) ?_ | refine Kq_norm_code ?_ | refine Kq_norm_blk ?_ | refine Kq_norm_lp ?_ | rw [wrap64 (by omega) (by omega)] | (refine hK _ ?_; clear hK hKp K Kp; (try clear hanc anc)) | (refine hKp _ _ ?_; clear hK hKp K Kp; (try clear hanc anc)) | ((with_reducible refine And.intro ?_ ?_); (focus (first | trivial | omega | (simp only [Fits]; omega) | (refine ⟨?_, ?_⟩ <;> (simp only [Fits]; omega)) | assumption | (rw [hanc]; rfl)))) | ((first | refine K_regA hE fun K Kp hK hKp => ?_ | refine K_drwA true mixed hE fun K Kp hK hKp anc hanc => ?_ | refine K_drwA false mixed hE fun K Kp hK hKp anc hanc => ?_); simp only [go_sem, ↓reduceIte, reduceCtorEq, Nat.reduceAdd, Nat.reduceMul, Nat.reduceEqDiff, Nat.reduceLT, Nat.reduceLeDiff, Nat.reduceSub, Nat.reduceDiv, Nat.reducePow, Nat.reduceBEq, Int.reduceBEq, Int.reduceBNe, Int.reduceLT, Int.reduceLE, Int.reduceEq, ge_dec']) | ((first | refine onG_split_t (fun hg => ?_) (fun hg => ?_) | refine onG_split_f (fun hg => ?_) (fun hg => ?_)) <;> simp only [go_sem, ↓reduceIte, reduceCtorEq, Nat.reduceAdd, Nat.reduceMul, Nat.reduceEqDiff, Nat.reduceLT, Nat.reduceLeDiff, Nat.reduceSub, Nat.reduceDiv, Nat.reducePow, Nat.reduceBEq, Int.reduceBEq, Int.reduceBNe, Int.reduceLT, Int.reduceLE, Int.reduceEq, ge_dec', hg]) | (refine K_condA (fun hc => ?_) (fun hc => ?_) <;> try (exact absurd hc (by decide))))
          refine ⟨i + 1, ⟨by omega, by rw [yt]; simp⟩, by omega, lowM (fun i => i) 10, ?_⟩
          try dsimp only
          rw [hN]; exact ent_low (fr := [(0, .ptr 0 0), (2, .i d), (12, .sl (Nd.avL l)), (13, .i l.length), (14, .i (i + 1 : Nat))]) (loc := []) (base := 10) (fun i => i) hb (by omega) hm (by omega) (by (repeat (first | exact (fun _ _ h => h) | refine LowIn.curL ?_ | exact LowB.base | refine LowIn.upd ?_ (lowHp_none (by omega) (by omega)) | refine LowB.upd ?_ (lowHp_none (by omega) (by omega))))) (by simp [go_sem, lowM]) (by simp) (by simp)
      · have hff : formedL l d = false := by rw [ht]; simp [hk, hA]
        repeat' (first | refine K_seq ?_ | refine K_blk ?_ | refine AW_skip ?_ | refine AW_exit ?_ | refine Kq_exit_code ?_ | refine Kq_exit_lp ?_ | refine Kq_exit_blk ?_ | refine Kq_exit_ne (by decide) ?_ | refine Kq_norm_code ?_ | refine Kq_norm_blk ?_ | refine Kq_norm_lp ?_ | rw [wrap64 (by omega) (by omega)] | (refine hK _ ?_; clear hK hKp K Kp; (try clear hanc anc)) | (refine hKp _ _ ?_; clear hK hKp K Kp; (try clear hanc anc)) | ((with_reducible refine And.intro ?_ ?_); (focus (first | trivial | omega | (simp only [Fits]; omega) | (refine ⟨?_, ?_⟩ <;> (simp only [Fits]; omega)) | assumption | (rw [hanc]; rfl)))) | ((first | refine K_regA hE fun K Kp hK hKp => ?_ | refine K_drwA true mixed hE fun K Kp hK hKp anc hanc => ?_ | refine K_drwA false mixed hE fun K Kp hK hKp anc hanc => ?_); simp only [go_sem, ↓reduceIte, reduceCtorEq, Nat.reduceAdd, Nat.reduceMul, Nat.reduceEqDiff, Nat.reduceLT, Nat.reduceLeDiff, Nat.reduceSub, Nat.reduceDiv, Nat.reducePow, Nat.reduceBEq, Int.reduceBEq, Int.reduceBNe, Int.reduceLT, Int.reduceLE, Int.reduceEq, lt_dec' hlt, hx, Nd.av_eq, hk, mdL, hd2, hA]) | ((first | refine onG_split_t (fun hg => ?_) (fun hg => ?_) | refine onG_split_f (fun hg => ?_) (fun hg => ?_)) <;> simp only [go_sem, ↓reduceIte, reduceCtorEq, Nat.reduceAdd, Nat.reduceMul, Nat.reduceEqDiff, Nat.reduceLT, Nat.reduceLeDiff, Nat.reduceSub, Nat.reduceDiv, Nat.reducePow, Nat.reduceBEq, Int.reduceBEq, Int.reduceBNe, Int.reduceLT, Int.reduceLE, Int.reduceEq, lt_dec' hlt, hx, Nd.av_eq, hk, mdL, hd2, hA, hg]) | (refine K_condA (fun hc => ?_) (fun hc => ?_) <;> try (exact absurd hc (by decide))))
        refine Hold.mk (CallB.of_A0 (check_call _ _) rfl (fun r hr => absurd hr.1 (by decide)) (fun x hx => ?_))
        obtain ⟨_, rfl⟩ := hx
        exact hKp _ _ (hQp _ _ bl cur ⟨hff, rfl, rfl, rfl⟩ rfl (Out.of_in (base := 10) hb hm (by omega) (by (repeat (first | exact (fun _ _ h => h) | refine LowIn.upd ?_ (lowHp_none (by omega) (by omega))))) (by omega)))
      · have hff : formedL l d = false := by
          rw [ht]
          rcases hk with hk | hk
          · have : decide (n.kind < 1) = true := decide_eq_true hk
            simp [this]
          · have : decide (6 < n.kind) = true := decide_eq_true hk
            simp [this]
        have k1 : (n.kind = 1) = False := eq_false (by omega)
        have k2 : (n.kind = 2) = False := eq_false (by omega)
        have k3 : (n.kind = 3) = False := eq_false (by omega)
        have k4 : (n.kind = 4) = False := eq_false (by omega)
        have k5 : (n.kind = 5) = False := eq_false (by omega)
        have k6 : (n.kind = 6) = False := eq_false (by omega)
        have k7 : (n.kind != 4) = true := by simp; omega
        repeat' (first | refine K_seq ?_ | refine K_blk ?_ | refine AW_skip ?_ | refine AW_exit ?_ | refine Kq_exit_code ?_ | refine Kq_exit_lp ?_ | refine Kq_exit_blk ?_ | refine Kq_exit_ne (by decide) ?_ | refine Kq_norm_code ?_ | refine Kq_norm_blk ?_ | refine Kq_norm_lp ?_ | rw [wrap64 (by omega) (by omega)] | (refine hK _ ?_; clear hK hKp K Kp; (try clear hanc anc)) | (refine hKp _ _ ?_; clear hK hKp K Kp; (try clear hanc anc)) | ((with_reducible refine And.intro ?_ ?_); (focus (first | trivial | omega | (simp only [Fits]; omega) | (refine ⟨?_, ?_⟩ <;> (simp only [Fits]; omega)) | assumption | (rw [hanc]; rfl)))) | ((first | refine K_regA hE fun K Kp hK hKp => ?_ | refine K_drwA true mixed hE fun K Kp hK hKp anc hanc => ?_ | refine K_drwA false mixed hE fun K Kp hK hKp anc hanc => ?_); simp only [go_sem, ↓reduceIte, reduceCtorEq, Nat.reduceAdd, Nat.reduceMul, Nat.reduceEqDiff, Nat.reduceLT, Nat.reduceLeDiff, Nat.reduceSub, Nat.reduceDiv, Nat.reducePow, Nat.reduceBEq, Int.reduceBEq, Int.reduceBNe, Int.reduceLT, Int.reduceLE, Int.reduceEq, lt_dec' hlt, hx, Nd.av_eq, mdL, hd2, k1, k2, k3, k4, k5, k6, k7]) | ((first | refine onG_split_t (fun hg => ?_) (fun hg => ?_) | refine onG_split_f (fun hg => ?_) (fun hg => ?_)) <;> simp only [go_sem, ↓reduceIte, reduceCtorEq, Nat.reduceAdd, Nat.reduceMul, Nat.reduceEqDiff, Nat.reduceLT, Nat.reduceLeDiff, Nat.reduceSub, Nat.reduceDiv, Nat.reducePow, Nat.reduceBEq, Int.reduceBEq, Int.reduceBNe, Int.reduceLT, Int.reduceLE, Int.reduceEq, lt_dec' hlt, hx, Nd.av_eq, mdL, hd2, k1, k2, k3, k4, k5, k6, k7, hg]) | (refine K_condA (fun hc => ?_) (fun hc => ?_) <;> try (exact absurd hc (by decide))))
        refine Hold.mk (CallB.of_A0 (check_call _ _) rfl (fun r hr => absurd hr.1 (by decide)) (fun x hx => ?_))
        obtain ⟨_, rfl⟩ := hx
        exact hKp _ _ (hQp _ _ bl cur ⟨hff, rfl, rfl, rfl⟩ rfl (Out.of_in (base := 10) hb hm (by omega) (by (repeat (first | exact (fun _ _ h => h) | refine LowIn.upd ?_ (lowHp_none (by omega) (by omega))))) (by omega)))
    · have hd2 : decide (d > 0) = false := decide_eq_false hd
      have hff : formedL l d = false := by rw [ht]; have : decide (d < 1) = true := decide_eq_true (by omega); simp [this]
      rcases hk7 with hk | hk | hk | hk | hk | ⟨hk, hA⟩ | ⟨hk, hA⟩ | hk
      · repeat' (first | refine K_seq ?_ | refine K_blk ?_ | refine AW_skip ?_ | refine AW_exit ?_ | refine Kq_exit_code ?_ | refine Kq_exit_lp ?_ | refine Kq_exit_blk ?_ | refine Kq_exit_ne (by decide) ?_ | refine Kq_norm_code ?_ | refine Kq_norm_blk ?_ | refine Kq_norm_lp ?_ | rw [wrap64 (by omega) (by omega)] | (refine hK _ ?_; clear hK hKp K Kp; (try clear hanc anc)) | (refine hKp _ _ ?_; clear hK hKp K Kp; (try clear hanc anc)) | ((with_reducible refine And.intro ?_ ?_); (focus (first | trivial | omega | (simp only [Fits]; omega) | (refine ⟨?_, ?_⟩ <;> (simp only [Fits]; omega)) | assumption | (rw [hanc]; rfl)))) | ((first | refine K_regA hE fun K Kp hK hKp => ?_ | refine K_drwA true mixed hE fun K Kp hK hKp anc hanc => ?_ | refine K_drwA false mixed hE fun K Kp hK hKp anc hanc => ?_); simp only [go_sem, ↓reduceIte, reduceCtorEq, Nat.reduceAdd, Nat.reduceMul, Nat.reduceEqDiff, Nat.reduceLT, Nat.reduceLeDiff, Nat.reduceSub, Nat.reduceDiv, Nat.reducePow, Nat.reduceBEq, Int.reduceBEq, Int.reduceBNe, Int.reduceLT, Int.reduceLE, Int.reduceEq, lt_dec' hlt, hx, Nd.av_eq, hk, mdL, hd2]) | ((first | refine onG_split_t (fun hg => ?_) (fun hg => ?_) | refine onG_split_f (fun hg => ?_) (fun hg => ?_)) <;> simp only [go_sem, ↓reduceIte, reduceCtorEq, Nat.reduceAdd, Nat.reduceMul, Nat.reduceEqDiff, Nat.reduceLT, Nat.reduceLeDiff, Nat.reduceSub, Nat.reduceDiv, Nat.reducePow, Nat.reduceBEq, Int.reduceBEq, Int.reduceBNe, Int.reduceLT, Int.reduceLE, Int.reduceEq, lt_dec' hlt, hx, Nd.av_eq, hk, mdL, hd2, hg]) | (refine K_condA (fun hc => ?_) (fun hc => ?_) <;> try (exact absurd hc (by decide))))
        refine Hold.mk (CallB.of_A0 (check_call _ _) rfl (fun r hr => absurd hr.1 (by decide)) (fun x hx => ?_))
        obtain ⟨_, rfl⟩ := hx
        exact hKp _ _ (hQp _ _ bl cur ⟨hff, rfl, rfl, rfl⟩ rfl (Out.of_in (base := 10) hb hm (by omega) (by (repeat (first | exact (fun _ _ h => h) | refine LowIn.upd ?_ (lowHp_none (by omega) (by omega))))) (by omega)))
      · repeat' (first | refine K_seq ?_ | refine K_blk ?_ | refine AW_skip ?_ | refine AW_exit ?_ | refine Kq_exit_code ?_ | refine Kq_exit_lp ?_ | refine Kq_exit_blk ?_ | refine Kq_exit_ne (by decide) ?_ | refine Kq_norm_code ?_ | refine Kq_norm_blk ?_ | refine Kq_norm_lp ?_ | rw [wrap64 (by omega) (by omega)] | (refine hK _ ?_; clear hK hKp K Kp; (try clear hanc anc)) | (refine hKp _ _ ?_; clear hK hKp K Kp; (try clear hanc anc)) | ((with_reducible refine And.intro ?_ ?_); (focus (first | trivial | omega | (simp only [Fits]; omega) | (refine ⟨?_, ?_⟩ <;> (simp only [Fits]; omega)) | assumption | (rw [hanc]; rfl)))) | ((first | refine K_regA hE fun K Kp hK hKp => ?_ | refine K_drwA true mixed hE fun K Kp hK hKp anc hanc => ?_ | refine K_drwA false mixed hE fun K Kp hK hKp anc hanc => ?_); simp only [go_sem, ↓reduceIte, reduceCtorEq, Nat.reduceAdd, Nat.reduceMul, Nat.reduceEqDiff, Nat.reduceLT, Nat.reduceLeDiff, Nat.reduceSub, Nat.reduceDiv, Nat.reducePow, Nat.reduceBEq, Int.reduceBEq, Int.reduceBNe, Int.reduceLT, Int.reduceLE, Int.reduceEq, lt_dec' hlt, hx, Nd.av_eq, hk, mdL, hd2]) | ((first | refine onG_split_t (fun hg => ?_) (fun hg => ?_) | refine onG_split_f (fun hg => ?_) (fun hg => ?_)) <;> simp only [go_sem, ↓reduceIte, reduceCtorEq, Nat.reduceAdd, Nat.reduceMul, Nat.reduceEqDiff, Nat.reduceLT, Nat.reduceLeDiff, Nat.reduceSub, Nat.reduceDiv, Nat.reducePow, Nat.reduceBEq, Int.reduceBEq, Int.reduceBNe, Int.reduceLT, Int.reduceLE, Int.reduceEq, lt_dec' hlt, hx, Nd.av_eq, hk, mdL, hd2, hg]) | (refine K_condA (fun hc => ?_) (fun hc => ?_) <;> try (exact absurd hc (by decide))))
        refine Hold.mk (CallB.of_A0 (check_call _ _) rfl (fun r hr => absurd hr.1 (by decide)) (fun x hx => ?_))
        obtain ⟨_, rfl⟩ := hx
        exact hKp _ _ (hQp _ _ bl cur ⟨hff, rfl, rfl, rfl⟩ rfl (Out.of_in (base := 10) hb hm (by omega) (by (repeat (first | exact (fun _ _ h => h) | refine LowIn.upd ?_ (lowHp_none (by omega) (by omega))))) (by omega)))
      · repeat' (first | refine K_seq ?_ | refine K_blk ?_ | refine AW_skip ?_ | refine AW_exit ?_ | refine Kq_exit_code ?_ | refine Kq_exit_lp ?_ | refine Kq_exit_blk ?_ | refine Kq_exit_ne (by decide) ?_ | refine Kq_norm_code ?_ | refine Kq_norm_blk ?_ | refine Kq_norm_lp ?_ | rw [wrap64 (by omega) (by omega)] | (refine hK _ ?_; clear hK hKp K Kp; (try clear hanc anc)) | (refine hKp _ _ ?_; clear hK hKp K Kp; (try clear hanc anc)) | ((with_reducible refine And.intro ?_ ?_); (focus (first | trivial | omega | (simp only [Fits]; omega) | (refine ⟨?_, ?_⟩ <;> (simp only [Fits]; omega)) | assumption | (rw [hanc]; rfl)))) | ((first | refine K_regA hE fun K Kp hK hKp => ?_ | refine K_drwA true mixed hE fun K Kp hK hKp anc hanc => ?_ | refine K_drwA false mixed hE fun K Kp hK hKp anc hanc => ?_); simp only [go_sem, ↓reduceIte, reduceCtorEq, Nat.reduceAdd, Nat.reduceMul, Nat.reduceEqDiff, Nat.reduceLT, Nat.reduceLeDiff, Nat.reduceSub, Nat.reduceDiv, Nat.reducePow, Nat.reduceBEq, Int.reduceBEq, Int.reduceBNe, Int.reduceLT, Int.reduceLE, Int.reduceEq, lt_dec' hlt, hx, Nd.av_eq, hk, mdL, hd2]) | ((first | refine onG_split_t (fun hg => ?_) (fun hg => ?_) | refine onG_split_f (fun hg => ?_) (fun hg => ?_)) <;> simp only [go_sem, ↓reduceIte, reduceCtorEq, Nat.reduceAdd, Nat.reduceMul, Nat.reduceEqDiff, Nat.reduceLT, Nat.reduceLeDiff, Nat.reduceSub, Nat.reduceDiv, Nat.reducePow, Nat.reduceBEq, Int.reduceBEq, Int.reduceBNe, Int.reduceLT, Int.reduceLE, Int.reduceEq, lt_dec' hlt, hx, Nd.av_eq, hk, mdL, hd2, hg]) | (refine K_condA (fun hc => ?_) (fun hc => ?_) <;> try (exact absurd hc (by decide))))
        refine Hold.mk (CallB.of_A0 (check_call _ _) rfl (fun r hr => absurd hr.1 (by decide)) (fun x hx => ?_))
        obtain ⟨_, rfl⟩ := hx
        exact hKp _ _ (hQp _ _ bl cur ⟨hff, rfl, rfl, rfl⟩ rfl (Out.of_in (base := 10) hb hm (by omega) (by (repeat (first | exact (fun _ _ h => h) | refine LowIn.upd ?_ (lowHp_none (by omega) (by omega))))) (by omega)))
      · repeat' (first | refine K_seq ?_ | refine K_blk ?_ | refine AW_skip ?_ | refine AW_exit ?_ | refine Kq_exit_code ?_ | refine Kq_exit_lp ?_ | refine Kq_exit_blk ?_ | refine Kq_exit_ne (by decide) ?_ | refine Kq_norm_code ?_ | refine Kq_norm_blk ?_ | refine Kq_norm_lp ?_ | rw [wrap64 (by omega) (by omega)] | (refine hK _ ?_; clear hK hKp K Kp; (try clear hanc anc)) | (refine hKp _ _ ?_; clear hK hKp K Kp; (try clear hanc anc)) | ((with_reducible refine And.intro ?_ ?_); (focus (first | trivial | omega | (simp only [Fits]; omega) | (refine ⟨?_, ?_⟩ <;> (simp only [Fits]; omega)) | assumption | (rw [hanc]; rfl)))) | ((first | refine K_regA hE fun K Kp hK hKp => ?_ | refine K_drwA true mixed hE fun K Kp hK hKp anc hanc => ?_ | refine K_drwA false mixed hE fun K Kp hK hKp anc hanc => ?_); simp only [go_sem, ↓reduceIte, reduceCtorEq, Nat.reduceAdd, Nat.reduceMul, Nat.reduceEqDiff, Nat.reduceLT, Nat.reduceLeDiff, Nat.reduceSub, Nat.reduceDiv, Nat.reducePow, Nat.reduceBEq, Int.reduceBEq, Int.reduceBNe, Int.reduceLT, Int.reduceLE, Int.reduceEq, lt_dec' hlt, hx, Nd.av_eq, hk, mdL, hd2]) | ((first | refine onG_split_t (fun hg => ?_) (fun hg => ?_) | refine onG_split_f (fun hg => ?_) (fun hg => ?_)) <;> simp only [go_sem, ↓reduceIte, reduceCtorEq, Nat.reduceAdd, Nat.reduceMul, Nat.reduceEqDiff, Nat.reduceLT, Nat.reduceLeDiff, Nat.reduceSub, Nat.reduceDiv, Nat.reducePow, Nat.reduceBEq, Int.reduceBEq, Int.reduceBNe, Int.reduceLT, Int.reduceLE, Int.reduceEq, lt_dec' hlt, hx, Nd.av_eq, hk, mdL, hd2, hg]) | (refine K_condA (fun hc => ?_) (fun hc => ?_) <;> try (exact absurd hc (by decide))))
        refine Hold.mk (CallB.of_A0 (check_call _ _) rfl (fun r hr => absurd hr.1 (by decide)) (fun x hx => ?_))
        obtain ⟨_, rfl⟩ := hx
        exact hKp _ _ (hQp _ _ bl cur ⟨hff, rfl, rfl, rfl⟩ rfl (Out.of_in (base := 10) hb hm (by omega) (by (repeat (first | exact (fun _ _ h => h) | refine LowIn.upd ?_ (lowHp_none (by omega) (by omega))))) (by omega)))
      · repeat' (first | refine K_seq ?_ | refine K_blk ?_ | refine AW_skip ?_ | refine AW_exit ?_ | refine Kq_exit_code ?_ | refine Kq_exit_lp ?_ | refine Kq_exit_blk ?_ | refine Kq_exit_ne (by decide) ?_ | refine Kq_norm_code ?_ | refine Kq_norm_blk ?_ | refine Kq_norm_lp ?_ | rw [wrap64 (by omega) (by omega)] | (refine hK _ ?_; clear hK hKp K Kp; (try clear hanc anc)) | (refine hKp _ _ ?_; clear hK hKp K Kp; (try clear hanc anc)) | ((with_reducible refine And.intro ?_ ?_); (focus (first | trivial | omega | (simp only [Fits]; omega) | (refine ⟨?_, ?_⟩ <;> (simp only [Fits]; omega)) | assumption | (rw [hanc]; rfl)))) | ((first | refine K_regA hE fun K Kp hK hKp => ?_ | refine K_drwA true mixed hE fun K Kp hK hKp anc hanc => ?_ | refine K_drwA false mixed hE fun K Kp hK hKp anc hanc => ?_); simp only [go_sem, ↓reduceIte, reduceCtorEq, Nat.reduceAdd, Nat.reduceMul, Nat.reduceEqDiff, Nat.reduceLT, Nat.reduceLeDiff, Nat.reduceSub, Nat.reduceDiv, Nat.reducePow, Nat.reduceBEq, Int.reduceBEq, Int.reduceBNe, Int.reduceLT, Int.reduceLE, Int.reduceEq, lt_dec' hlt, hx, Nd.av_eq, hk, mdL, hd2]) | ((first | refine onG_split_t (fun hg => ?_) (fun hg => ?_) | refine onG_split_f (fun hg => ?_) (fun hg => ?_)) <;> simp only [go_sem, ↓reduceIte, reduceCtorEq, Nat.reduceAdd, Nat.reduceMul, Nat.reduceEqDiff, Nat.reduceLT, Nat.reduceLeDiff, Nat.reduceSub, Nat.reduceDiv, Nat.reducePow, Nat.reduceBEq, Int.reduceBEq, Int.reduceBNe, Int.reduceLT, Int.reduceLE, Int.reduceEq, lt_dec' hlt, hx, Nd.av_eq, hk, mdL, hd2, hg]) | (refine K_condA (fun hc => ?_) (fun hc => ?_) <;> try (exact absurd hc (by decide))))
        refine Hold.mk (CallB.of_A0 (check_call _ _) rfl (fun r hr => absurd hr.1 (by decide)) (fun x hx => ?_))
        obtain ⟨_, rfl⟩ := hx
        exact hKp _ _ (hQp _ _ bl cur ⟨hff, rfl, rfl, rfl⟩ rfl (Out.of_in (base := 10) hb hm (by omega) (by (repeat (first | exact (fun _ _ h => h) | refine LowIn.upd ?_ (lowHp_none (by omega) (by omega))))) (by omega)))
      · repeat' (first | refine K_seq ?_ | refine K_blk ?_ | refine AW_skip ?_ | refine AW_exit ?_ | refine Kq_exit_code ?_ | refine Kq_exit_lp ?_ | refine Kq_exit_blk ?_ | refine Kq_exit_ne (by decide) ?_ | refine Kq_norm_code ?_ | refine Kq_norm_blk ?_ | refine Kq_norm_lp ?_ | rw [wrap64 (by omega) (by omega)] | (refine hK _ ?_; clear hK hKp K Kp; (try clear hanc anc)) | (refine hKp _ _ ?_; clear hK hKp K Kp; (try clear hanc anc)) | ((with_reducible refine And.intro ?_ ?_); (focus (first | trivial | omega | (simp only [Fits]; omega) | (refine ⟨?_, ?_⟩ <;> (simp only [Fits]; omega)) | assumption | (rw [hanc]; rfl)))) | ((first | refine K_regA hE fun K Kp hK hKp => ?_ | refine K_drwA true mixed hE fun K Kp hK hKp anc hanc => ?_ | refine K_drwA false mixed hE fun K Kp hK hKp anc hanc => ?_); simp only [go_sem, ↓reduceIte, reduceCtorEq, Nat.reduceAdd, Nat.reduceMul, Nat.reduceEqDiff, Nat.reduceLT, Nat.reduceLeDiff, Nat.reduceSub, Nat.reduceDiv, Nat.reducePow, Nat.reduceBEq, Int.reduceBEq, Int.reduceBNe, Int.reduceLT, Int.reduceLE, Int.reduceEq, lt_dec' hlt, hx, Nd.av_eq, hk, mdL, hd2]) | ((first | refine onG_split_t (fun hg => ?_) (fun hg => ?_) | refine onG_split_f (fun hg => ?_) (fun hg => ?_)) <;> simp only [go_sem, ↓reduceIte, reduceCtorEq, Nat.reduceAdd, Nat.reduceMul, Nat.reduceEqDiff, Nat.reduceLT, Nat.reduceLeDiff, Nat.reduceSub, Nat.reduceDiv, Nat.reducePow, Nat.reduceBEq, Int.reduceBEq, Int.reduceBNe, Int.reduceLT, Int.reduceLE, Int.reduceEq, lt_dec' hlt, hx, Nd.av_eq, hk, mdL, hd2, hg]) | (refine K_condA (fun hc => ?_) (fun hc => ?_) <;> try (exact absurd hc (by decide))))
        refine Hold.mk (CallB.of_A0 (check_call _ _) rfl (fun r hr => absurd hr.1 (by decide)) (fun x hx => ?_))
        obtain ⟨_, rfl⟩ := hx
        exact hKp _ _ (hQp _ _ bl cur ⟨hff, rfl, rfl, rfl⟩ rfl (Out.of_in (base := 10) hb hm (by omega) (by (repeat (first | exact (fun _ _ h => h) | refine LowIn.upd ?_ (lowHp_none (by omega) (by omega))))) (by omega)))
      · repeat' (first | refine K_seq ?_ | refine K_blk ?_ | refine AW_skip ?_ | refine AW_exit ?_ | refine Kq_exit_code ?_ | refine Kq_exit_lp ?_ | refine Kq_exit_blk ?_ | refine Kq_exit_ne (by decide) ?_ | refine Kq_norm_code ?_ | refine Kq_norm_blk ?_ | refine Kq_norm_lp ?_ | rw [wrap64 (by omega) (by omega)] | (refine hK _ ?_; clear hK hKp K Kp; (try clear hanc anc)) | (refine hKp _ _ ?_; clear hK hKp K Kp; (try clear hanc anc)) | ((with_reducible refine And.intro ?_ ?_); (focus (first | trivial | omega | (simp only [Fits]; omega) | (refine ⟨?_, ?_⟩ <;> (simp only [Fits]; omega)) | assumption | (rw [hanc]; rfl)))) | ((first | refine K_regA hE fun K Kp hK hKp => ?_ | refine K_drwA true mixed hE fun K Kp hK hKp anc hanc => ?_ | refine K_drwA false mixed hE fun K Kp hK hKp anc hanc => ?_); simp only [go_sem, ↓reduceIte, reduceCtorEq, Nat.reduceAdd, Nat.reduceMul, Nat.reduceEqDiff, Nat.reduceLT, Nat.reduceLeDiff, Nat.reduceSub, Nat.reduceDiv, Nat.reducePow, Nat.reduceBEq, Int.reduceBEq, Int.reduceBNe, Int.reduceLT, Int.reduceLE, Int.reduceEq, lt_dec' hlt, hx, Nd.av_eq, hk, mdL, hd2]) | ((first | refine onG_split_t (fun hg => ?_) (fun hg => ?_) | refine onG_split_f (fun hg => ?_) (fun hg => ?_)) <;> simp only [go_sem, ↓reduceIte, reduceCtorEq, Nat.reduceAdd, Nat.reduceMul, Nat.reduceEqDiff, Nat.reduceLT, Nat.reduceLeDiff, Nat.reduceSub, Nat.reduceDiv, Nat.reducePow, Nat.reduceBEq, Int.reduceBEq, Int.reduceBNe, Int.reduceLT, Int.reduceLE, Int.reduceEq, lt_dec' hlt, hx, Nd.av_eq, hk, mdL, hd2, hg]) | (refine K_condA (fun hc => ?_) (fun hc => ?_) <;> try (exact absurd hc (by decide))))
        refine Hold.mk (CallB.of_A0 (check_call _ _) rfl (fun r hr => absurd hr.1 (by decide)) (fun x hx => ?_))
        obtain ⟨_, rfl⟩ := hx
        exact hKp _ _ (hQp _ _ bl cur ⟨hff, rfl, rfl, rfl⟩ rfl (Out.of_in (base := 10) hb hm (by omega) (by (repeat (first | exact (fun _ _ h => h) | refine LowIn.upd ?_ (lowHp_none (by omega) (by omega))))) (by omega)))
      · have k1 : (n.kind = 1) = False := eq_false (by omega)
        have k2 : (n.kind = 2) = False := eq_false (by omega)
        have k3 : (n.kind = 3) = False := eq_false (by omega)
        have k4 : (n.kind = 4) = False := eq_false (by omega)
        have k5 : (n.kind = 5) = False := eq_false (by omega)
        have k6 : (n.kind = 6) = False := eq_false (by omega)
        have k7 : (n.kind != 4) = true := by simp; omega
        repeat' (first | refine K_seq ?_ | refine K_blk ?_ | refine AW_skip ?_ | refine AW_exit ?_ | refine Kq_exit_code ?_ | refine Kq_exit_lp ?_ | refine Kq_exit_blk ?_ | refine Kq_exit_ne (by decide) ?_ | refine Kq_norm_code ?_ | refine Kq_norm_blk ?_ | refine Kq_norm_lp ?_ | rw [wrap64 (by omega) (by omega)] | (refine hK _ ?_; clear hK hKp K Kp; (try clear hanc anc)) | (refine hKp _ _ ?_; clear hK hKp K Kp; (try clear hanc anc)) | ((with_reducible refine And.intro ?_ ?_); (focus (first | trivial | omega | (simp only [Fits]; omega) | (refine ⟨?_, ?_⟩ <;> (simp only [Fits]; omega)) | assumption | (rw [hanc]; rfl)))) | ((first | refine K_regA hE fun K Kp hK hKp => ?_ | refine K_drwA true mixed hE fun K Kp hK hKp anc hanc => ?_ | refine K_drwA false mixed hE fun K Kp hK hKp anc hanc => ?_); simp only [go_sem, ↓reduceIte, reduceCtorEq, Nat.reduceAdd, Nat.reduceMul, Nat.reduceEqDiff, Nat.reduceLT, Nat.reduceLeDiff, Nat.reduceSub, Nat.reduceDiv, Nat.reducePow, Nat.reduceBEq, Int.reduceBEq, Int.reduceBNe, Int.reduceLT, Int.reduceLE, Int.reduceEq, lt_dec' hlt, hx, Nd.av_eq, mdL, hd2, k1, k2, k3, k4, k5, k6, k7]) | ((first | refine onG_split_t (fun hg => ?_) (fun hg => ?_) | refine onG_split_f (fun hg => ?_) (fun hg => ?_)) <;> simp only [go_sem, ↓reduceIte, reduceCtorEq, Nat.reduceAdd, Nat.reduceMul, Nat.reduceEqDiff, Nat.reduceLT, Nat.reduceLeDiff, Nat.reduceSub, Nat.reduceDiv, Nat.reducePow, Nat.reduceBEq, Int.reduceBEq, Int.reduceBNe, Int.reduceLT, Int.reduceLE, Int.reduceEq, lt_dec' hlt, hx, Nd.av_eq, mdL, hd2, k1, k2, k3, k4, k5, k6, k7, hg]) | (refine K_condA (fun hc => ?_) (fun hc => ?_) <;> try (exact absurd hc (by decide))))
        refine Hold.mk (CallB.of_A0 (check_call _ _) rfl (fun r hr => absurd hr.1 (by decide)) (fun x hx => ?_))
        obtain ⟨_, rfl⟩ := hx
        exact hKp _ _ (hQp _ _ bl cur ⟨hff, rfl, rfl, rfl⟩ rfl (Out.of_in (base := 10) hb hm (by omega) (by (repeat (first | exact (fun _ _ h => h) | refine LowIn.upd ?_ (lowHp_none (by omega) (by omega))))) (by omega)))
  · obtain rfl : i = l.length := by omega
    rw [List.drop_length, formedL] at ht
    repeat' (first | refine K_seq ?_ | refine K_blk ?_ | refine AW_skip ?_ | refine AW_exit ?_ | refine Kq_exit_code ?_ | refine Kq_exit_lp ?_ | refine Kq_exit_blk ?_ | refine Kq_exit_ne (by decide) ?_ | refine Kq_norm_code ?_ | refine Kq_norm_blk ?_ | refine Kq_norm_lp ?_ | rw [wrap64 (by omega) (by omega)] | (refine hK _ ?_; clear hK hKp K Kp; (try clear hanc anc)) | (refine hKp _ _ ?_; clear hK hKp K Kp; (try clear hanc anc)) | ((with_reducible refine And.intro ?_ ?_); (focus (first | trivial | omega | (simp only [Fits]; omega) | (refine ⟨?_, ?_⟩ <;> (simp only [Fits]; omega)) | assumption | (rw [hanc]; rfl)))) | ((first | refine K_regA hE fun K Kp hK hKp => ?_ | refine K_drwA true mixed hE fun K Kp hK hKp anc hanc => ?_ | refine K_drwA false mixed hE fun K Kp hK hKp anc hanc => ?_); simp only [go_sem, ↓reduceIte, reduceCtorEq, Nat.reduceAdd, Nat.reduceMul, Nat.reduceEqDiff, Nat.reduceLT, Nat.reduceLeDiff, Nat.reduceSub, Nat.reduceDiv, Nat.reducePow, Nat.reduceBEq, Int.reduceBEq, Int.reduceBNe, Int.reduceLT, Int.reduceLE, Int.reduceEq, ge_dec']) | ((first | refine onG_split_t (fun hg => ?_) (fun hg => ?_) | refine onG_split_f (fun hg => ?_) (fun hg => ?_)) <;> simp only [go_sem, ↓reduceIte, reduceCtorEq, Nat.reduceAdd, Nat.reduceMul, Nat.reduceEqDiff, Nat.reduceLT, Nat.reduceLeDiff, Nat.reduceSub, Nat.reduceDiv, Nat.reducePow, Nat.reduceBEq, Int.reduceBEq, Int.reduceBNe, Int.reduceLT, Int.reduceLE, Int.reduceEq, ge_dec', hg]) | (refine K_condA (fun hc => ?_) (fun hc => ?_) <;> try (exact absurd hc (by decide))))
    refine Kq_norm_nil ?_
    exact (hQ _ (.tup []) bl cur rfl ⟨ht, rfl, rfl, rfl⟩ rfl (Out.of_in (base := 10) hb hm (by omega) (fun _ _ h => h) (by omega))).2

theorem examC : ∀ N, N ≤ 2 ^ 40 → ExC N
  | 0, _ => fun l hl => absurd hl (Nat.not_lt_zero _)
  | N + 1, h => exam_lc (by omega) (examC N (by omega))
end Go.Proofs.Ytdheeecpkkjfiaa


/- Chapter 10: the deferred function of Lower. -/
set_option linter.unusedSimpArgs false
set_option linter.unusedVariables false
set_option maxHeartbeats 4000000
set_option maxRecDepth 100000
namespace Go.Proofs.Ytdheeecpkkjfiaa
open Go.Am Go.Proofs Go.Low
attribute [local irreducible] AW CallP CallB

theorem rec_none (a b : AV) (ha : a.isTup = false) : DCall Try.prog 27 (ptrs 2) (mkHp [(0, .cells [a]), (1, .cells [b])]) 2 2 none (fun hp' => hp' 0 = some (.cells [a]) ∧ hp' 1 = some (.cells [b])) := by
  refine DCall.of_body Try.func27 isf27 rfl (by simp [Try.f27]) (by simp [Try.f27]) rfl (by simp [Try.f27, ptrs]) fun E Q hE hN hQ => K_start ?_
  have ep : ptrs 2 = [.ptr 0 0, .ptr 1 0] := rfl
  rw [ep]
  simp only [recX]
  repeat' (first | refine K_seq ?_ | refine K_blk ?_ | refine AW_skip ?_ | refine AW_exit ?_ | refine Kq_exit_code ?_ | refine Kq_exit_lp ?_ | refine Kq_exit_blk ?_ | refine Kq_exit_ne (by decide) ?_ | refine Kq_norm_code ?_ | refine Kq_norm_blk ?_ | refine Kq_norm_lp ?_ | rw [wrap64 (by omega) (by omega)] | (refine hK _ ?_; clear hK hKp K Kp; (try clear hanc anc)) | (refine hKp _ _ ?_; clear hK hKp K Kp; (try clear hanc anc)) | ((with_reducible refine And.intro ?_ ?_); (focus (first | trivial | omega | (simp only [Fits]; omega) | (refine ⟨?_, ?_⟩ <;> (simp only [Fits]; omega)) | assumption | (rw [hanc]; rfl)))) | ((first | refine K_regA hE fun K Kp hK hKp => ?_ | refine K_drwA true mixed hE fun K Kp hK hKp anc hanc => ?_ | refine K_drwA false mixed hE fun K Kp hK hKp anc hanc => ?_); simp only [go_sem, ↓reduceIte, reduceCtorEq, Nat.reduceAdd, Nat.reduceMul, Nat.reduceEqDiff, Nat.reduceLT, Nat.reduceLeDiff, Nat.reduceSub, Nat.reduceDiv, Nat.reducePow, Nat.reduceBEq, Int.reduceBEq, Int.reduceBNe, Int.reduceLT, Int.reduceLE, Int.reduceEq]) | ((first | refine onG_split_t (fun hg => ?_) (fun hg => ?_) | refine onG_split_f (fun hg => ?_) (fun hg => ?_)) <;> simp only [go_sem, ↓reduceIte, reduceCtorEq, Nat.reduceAdd, Nat.reduceMul, Nat.reduceEqDiff, Nat.reduceLT, Nat.reduceLeDiff, Nat.reduceSub, Nat.reduceDiv, Nat.reducePow, Nat.reduceBEq, Int.reduceBEq, Int.reduceBNe, Int.reduceLT, Int.reduceLE, Int.reduceEq, hg]) | (refine K_condA (fun hc => ?_) (fun hc => ?_) <;> try (exact absurd hc (by decide))))
  refine Kq_norm_nil ?_
  exact (hQ _ ⟨by simp only [go_sem, ↓reduceIte, reduceCtorEq, Nat.reduceAdd, Nat.reduceMul, Nat.reduceEqDiff, Nat.reduceLT, Nat.reduceLeDiff, Nat.reduceSub, Nat.reduceDiv, Nat.reducePow, Nat.reduceBEq, Int.reduceBEq, Int.reduceBNe, Int.reduceLT, Int.reduceLE, Int.reduceEq], by simp only [go_sem, ↓reduceIte, reduceCtorEq, Nat.reduceAdd, Nat.reduceMul, Nat.reduceEqDiff, Nat.reduceLT, Nat.reduceLeDiff, Nat.reduceSub, Nat.reduceDiv, Nat.reducePow, Nat.reduceBEq, Int.reduceBEq, Int.reduceBNe, Int.reduceLT, Int.reduceLE, Int.reduceEq]⟩).2

theorem rec_some (a b : AV) (e : Int) (ha : a.isTup = false) (hb : b.isTup = false) : DCall Try.prog 27 (ptrs 2) (mkHp [(0, .cells [a]), (1, .cells [b])]) 2 2 (some (failAV e)) (fun hp' => hp' 0 = some (.cells [.nilsl]) ∧ hp' 1 = some (.cells [.i e])) := by
  refine DCall.of_body Try.func27 isf27 rfl (by simp [Try.f27]) (by simp [Try.f27]) rfl (by simp [Try.f27, ptrs]) fun E Q hE hN hQ => K_start ?_
  have ep : ptrs 2 = [.ptr 0 0, .ptr 1 0] := rfl
  rw [ep]
  simp only [recX]
  repeat' (first | refine K_seq ?_ | refine K_blk ?_ | refine AW_skip ?_ | refine AW_exit ?_ | refine Kq_exit_code ?_ | refine Kq_exit_lp ?_ | refine Kq_exit_blk ?_ | refine Kq_exit_ne (by decide) ?_ | refine Kq_norm_code ?_ | refine Kq_norm_blk ?_ | refine Kq_norm_lp ?_ | rw [wrap64 (by omega) (by omega)] | (refine hK _ ?_; clear hK hKp K Kp; (try clear hanc anc)) | (refine hKp _ _ ?_; clear hK hKp K Kp; (try clear hanc anc)) | ((with_reducible refine And.intro ?_ ?_); (focus (first | trivial | omega | (simp only [Fits]; omega) | (refine ⟨?_, ?_⟩ <;> (simp only [Fits]; omega)) | assumption | (rw [hanc]; rfl)))) | ((first | refine K_regA hE fun K Kp hK hKp => ?_ | refine K_drwA true mixed hE fun K Kp hK hKp anc hanc => ?_ | refine K_drwA false mixed hE fun K Kp hK hKp anc hanc => ?_); simp only [go_sem, ↓reduceIte, reduceCtorEq, Nat.reduceAdd, Nat.reduceMul, Nat.reduceEqDiff, Nat.reduceLT, Nat.reduceLeDiff, Nat.reduceSub, Nat.reduceDiv, Nat.reducePow, Nat.reduceBEq, Int.reduceBEq, Int.reduceBNe, Int.reduceLT, Int.reduceLE, Int.reduceEq]) | ((first | refine onG_split_t (fun hg => ?_) (fun hg => ?_) | refine onG_split_f (fun hg => ?_) (fun hg => ?_)) <;> simp only [go_sem, ↓reduceIte, reduceCtorEq, Nat.reduceAdd, Nat.reduceMul, Nat.reduceEqDiff, Nat.reduceLT, Nat.reduceLeDiff, Nat.reduceSub, Nat.reduceDiv, Nat.reducePow, Nat.reduceBEq, Int.reduceBEq, Int.reduceBNe, Int.reduceLT, Int.reduceLE, Int.reduceEq, hg]) | (refine K_condA (fun hc => ?_) (fun hc => ?_) <;> try (exact absurd hc (by decide))))
  refine K_all (.alt 0 (.alt 1 (.alt 2 (.alt 3 .leaf .nil) .nil) (.alt 2 (.alt 1 (.alt 3 .leaf .nil) .nil) .nil)) (.alt 2 (.alt 0 (.alt 1 (.alt 3 .leaf .nil) .nil) .nil) .nil)) mixed (by rw [hE]; rfl) rfl rfl (by simp only [List.length_cons, List.length_nil, Nat.reduceAdd]; rfl) (by simp only [List.map_cons, List.map_nil]; rfl) fun K Kp hK hKp => ?_
  repeat' (first | refine goTr_one rfl ?_ | refine goTr_alt rfl ?_ ?_ | simp only [go_sem, ↓reduceIte, reduceCtorEq, Nat.reduceAdd, Nat.reduceMul, Nat.reduceEqDiff, Nat.reduceLT, Nat.reduceLeDiff, Nat.reduceSub, Nat.reduceDiv, Nat.reducePow, Nat.reduceBEq, Int.reduceBEq, Int.reduceBNe, Int.reduceLT, Int.reduceLE, Int.reduceEq])
  all_goals (refine hK _ (Kq_norm_nil ?_); exact (hQ _ ⟨by simp only [go_sem, ↓reduceIte, reduceCtorEq, Nat.reduceAdd, Nat.reduceMul, Nat.reduceEqDiff, Nat.reduceLT, Nat.reduceLeDiff, Nat.reduceSub, Nat.reduceDiv, Nat.reducePow, Nat.reduceBEq, Int.reduceBEq, Int.reduceBNe, Int.reduceLT, Int.reduceLE, Int.reduceEq], by simp only [go_sem, ↓reduceIte, reduceCtorEq, Nat.reduceAdd, Nat.reduceMul, Nat.reduceEqDiff, Nat.reduceLT, Nat.reduceLeDiff, Nat.reduceSub, Nat.reduceDiv, Nat.reducePow, Nat.reduceBEq, Int.reduceBEq, Int.reduceBNe, Int.reduceLT, Int.reduceLE, Int.reduceEq]⟩).2)
end Go.Proofs.Ytdheeecpkkjfiaa


/- Chapter 10: the blocks of a lowering, frozen. -/
set_option linter.unusedVariables false
set_option linter.unusedSimpArgs false
namespace Go.Low
open Go Go.Am
variable {P : Program} {E : En} {σ : St} {Q : AEx → St → Prop}

def frzB (b : Blk) : AV := .agg [.sl b.code, .i b.kind, .i b.a, .sl ((b.tg.getD []).map AV.i)]

theorem cloL_mem : ∀ {l : List AV}, AV.cloL l = true → ∀ x, x ∈ l → x.clo = true
  | a :: l, h, x, hx => by
    simp only [AV.cloL, Bool.and_eq_true] at h
    rcases List.mem_cons.1 hx with rfl | hx
    · exact h.1
    · exact cloL_mem h.2 x hx
theorem clo_cells {x : AV} (h : x.clo = true) : ∀ c, c ∈ x.cells → c.clo = true := by
  cases x <;> simp only [AV.cells, List.mem_singleton] <;> first | (rintro c rfl; exact h) | skip
  exact cloL_mem h

theorem blk_snap {md : Hs} {o : Nat} {bl : List Blk} {cur : Int} {c k : Nat} {b : Blk} (hc : c = o + 1 + k) (ho : 2 ≤ o) (hk : bl[k]? = some b) (hb : ∀ x, x ∈ b.code → x.clo = true) :
    (blkAV c b).snapOk (fun i => if o < i then lowHp md o bl cur i else none) ∧ frzB b = (blkAV c b).snap (fun i => if o < i then lowHp md o bl cur i else none) := by
  unfold blkAV frzB
  have ht : (tgAV b.tg).snapOk (fun i => if o < i then lowHp md o bl cur i else none) ∧ AV.sl ((b.tg.getD []).map AV.i) = (tgAV b.tg).snap (fun i => if o < i then lowHp md o bl cur i else none) := by
    cases b.tg <;> exact ⟨by simp [tgAV, AV.snapOk], by simp [tgAV, AV.snap]⟩
  have hcd : (cAV c b).snapOk (fun i => if o < i then lowHp md o bl cur i else none) ∧ AV.sl b.code = (cAV c b).snap (fun i => if o < i then lowHp md o bl cur i else none) := by
    unfold cAV
    split
    · rename_i e; rw [e]; exact ⟨by simp [AV.snapOk], by simp [AV.snap]⟩
    · rename_i e
      have hF : (if o < c then lowHp md o bl cur c else none) = some (.row 7 b.code) := by
        rw [if_pos (by omega)]; exact lowHp_code ⟨hc, ho⟩ hk e
      refine ⟨?_, ?_⟩
      · rw [AV.snapOk, hF]; exact fun x hx => clo_cells (hb x hx)
      · rw [AV.snap, hF]
  refine ⟨?_, ?_⟩
  · simp only [AV.snapOk, AV.snapOkL, and_true]
    exact ⟨hcd.1, trivial, trivial, ht.1⟩
  · simp only [AV.snap, AV.snapL]
    rw [← hcd.2, ← ht.2]

theorem AW_frzBl {c : Code} {md : Hs} {bl : List Blk} {cur : Int} (t base : Nat) (hb2 : 2 ≤ base) (hx : σ.fr t = some (.rw base)) (hl : LowIn σ.hp md base bl cur) (hb : OkB bl)
    (h : AW P E c Q ⟨upd σ.fr t (.sl (bl.map frzB)), fun _ => none, σ.nx⟩) : AW P E c Q σ := by
  have hrow : lowHp md base bl cur base = some (.row 4 (blksAV (base + 1) bl)) := by
    unfold lowHp
    rw [if_neg (by omega), if_neg (by omega), if_pos rfl]
  refine AW.frz (σ' := ⟨σ.fr, fun i => if i = base then some (.row 4 (bl.map frzB)) else none, σ.nx⟩) (fun i => if base < i then lowHp md base bl cur i else none) (fun i o h' => ?_) (fun t' x' h' => ⟨x', h', .inl rfl⟩) (fun i o' h' => ?_) rfl ?_
  · split at h'
    · exact hl _ _ h'
    · cases h'
  · simp only at h'
    split at h'
    · rename_i e
      subst e
      cases h'
      refine ⟨if_neg (Nat.lt_irrefl _), _, hl _ _ hrow, rfl, by simp [blksAV_len], fun k hk => ?_⟩
      rw [blksAV_len] at hk
      have e1 : (blksAV (i + 1) bl).getD k default = blkAV (i + 1 + k) bl[k] := by
        rw [List.getD_eq_getElem?_getD, blksAV_get?]; simp [hk]
      have e2 : (bl.map frzB).getD k default = frzB bl[k] := by
        rw [List.getD_eq_getElem?_getD]; simp [hk]
      rw [e1, e2]
      generalize hbk : bl[k] = b
      have hbm : b ∈ bl := hbk ▸ List.getElem_mem hk
      have hk? : bl[k]? = some b := by rw [← hbk]; simp [hk]
      exact .inr (blk_snap (by omega) hb2 hk? (hb b hbm))
    · cases h'
  · refine AW.frz (σ' := ⟨upd σ.fr t (.sl (bl.map frzB)), fun _ => none, σ.nx⟩) (fun i => if i = base then some (.row 4 (bl.map frzB)) else none) (fun i o h' => h') (fun t' x' h' => ?_) (fun i o' h' => by cases h') rfl h
    simp only [upd] at h'
    split at h'
    · rename_i e
      subst e
      cases h'
      refine ⟨_, hx, .inr ⟨?_, ?_⟩⟩
      · rw [AV.snapOk]
        simp only [if_true]
        intro x hx' y hy
        obtain ⟨b, _, rfl⟩ := List.mem_map.1 hx'
        simp only [frzB, AV.cells, List.mem_cons, List.not_mem_nil, or_false] at hy
        rcases hy with rfl | rfl | rfl | rfl <;> rfl
      · rw [AV.snap]; simp
    · exact ⟨x', h', .inl rfl⟩
end Go.Low

/- Chapter 10: the blocks of a lowering, frozen, in the cell of a result. -/
set_option linter.unusedVariables false
set_option linter.unusedSimpArgs false
namespace Go.Low
open Go Go.Am
variable {P : Program} {E : En} {σ : St} {Q : AEx → St → Prop}

theorem K_low4 {c : Code} {fr : List (Nat × AV)} {loc : List (Nat × AObj)} {md : Hs} {bl : List Blk} {cur : Int} (base : Nat) (q : Nat → Nat) (hN : E.np = 4) (hb : OkB bl) (hlen : bl.length ≤ 500000) (hm : OkM md) (hbase : 2 ≤ base) (hl : LowIn σ.hp md base bl cur)
    (h1 : ∀ p, p ∈ fr → σ.fr p.1 = some (p.2.ren (lowM q base)) ∧ p.2.ids (· < 1000000))
    (h2 : ∀ p, p ∈ loc → 2 ≤ p.1 ∧ p.1 < 10 ∧ σ.hp (q p.1) = some (p.2.ren (lowM q base)) ∧ p.2.ids (· < 1000000) ∧ lowHp md base bl cur (q p.1) = none) (h3 : loc.Pairwise fun a b => q a.1 ≠ q b.1)
    (h : AW P E c Q ⟨mkFr fr, hpOn loc (lowHp md 10 bl cur), 1000000⟩) (q2 : q 2 = 2 := by rfl) (q3 : q 3 = 3 := by rfl) : AW P E c Q σ := by
  have he := ent_low q hb hlen hm hbase hl h1 h2 h3
  refine AW.ent (lowM q base) ⟨he.1, he.2.1, he.2.2.1, fun id hid => ?_⟩ h
  rw [hN] at hid
  have h4 : id = 0 ∨ id = 1 ∨ id = 2 ∨ id = 3 := by omega
  rcases h4 with rfl | rfl | rfl | rfl
  · exact ⟨rfl, by show 0 < 1000000; decide⟩
  · exact ⟨rfl, by show 1 < 1000000; decide⟩
  · exact ⟨q2, by show 2 < 1000000; decide⟩
  · exact ⟨q3, by show 3 < 1000000; decide⟩

theorem ent_low4 {fr : List (Nat × AV)} {loc : List (Nat × AObj)} {md : Hs} {bl : List Blk} {cur : Int} {base : Nat} (q : Nat → Nat) (hb : OkB bl) (hlen : bl.length ≤ 500000) (hm : OkM md) (hbase : 2 ≤ base) (hl : LowIn σ.hp md base bl cur)
    (h1 : ∀ p, p ∈ fr → σ.fr p.1 = some (p.2.ren (lowM q base)) ∧ p.2.ids (· < 1000000))
    (h2 : ∀ p, p ∈ loc → 2 ≤ p.1 ∧ p.1 < 10 ∧ σ.hp (q p.1) = some (p.2.ren (lowM q base)) ∧ p.2.ids (· < 1000000) ∧ lowHp md base bl cur (q p.1) = none) (h3 : loc.Pairwise fun a b => q a.1 ≠ q b.1) (q2 : q 2 = 2 := by rfl) (q3 : q 3 = 3 := by rfl) :
    Ent 4 (lowM q base) σ (lowSt fr loc md bl cur) := by
  have he := ent_low q hb hlen hm hbase hl h1 h2 h3
  refine ⟨he.1, he.2.1, he.2.2.1, fun id hid => ?_⟩
  have h4 : id = 0 ∨ id = 1 ∨ id = 2 ∨ id = 3 := by omega
  rcases h4 with rfl | rfl | rfl | rfl
  · exact ⟨rfl, by show 0 < 1000000; decide⟩
  · exact ⟨rfl, by show 1 < 1000000; decide⟩
  · exact ⟨q2, by show 2 < 1000000; decide⟩
  · exact ⟨q3, by show 3 < 1000000; decide⟩

theorem AW_frzCell {c : Code} {md : Hs} {bl : List Blk} {cur : Int} {b : AV} (fr : List (Nat × AV)) (base : Nat) (hb2 : 3 < base) (hl : LowIn σ.hp md base bl cur) (hb : OkB bl)
    (h2 : σ.hp 2 = some (.cells [.rw base])) (h3 : σ.hp 3 = some (.cells [b])) (hfr : ∀ p, p ∈ fr → σ.fr p.1 = some p.2)
    (h : AW P E c Q ⟨mkFr fr, mkHp [(2, .cells [.sl (bl.map frzB)]), (3, .cells [b])], σ.nx⟩) : AW P E c Q σ := by
  have hrow : lowHp md base bl cur base = some (.row 4 (blksAV (base + 1) bl)) := by
    unfold lowHp
    rw [if_neg (by omega), if_neg (by omega), if_pos rfl]
  have hfr' : ∀ t x, mkFr fr t = some x → σ.fr t = some x := fun t x hx => hfr _ (mkFr_mem hx)
  refine AW.frz (σ' := ⟨mkFr fr, fun i => if i = base then some (.row 4 (bl.map frzB)) else if i = 2 then some (.cells [.rw base]) else if i = 3 then some (.cells [b]) else none, σ.nx⟩) (fun i => if base < i then lowHp md base bl cur i else none) (fun i o h' => ?_) (fun t' x' h' => ⟨x', hfr' _ _ h', .inl rfl⟩) (fun i o' h' => ?_) rfl ?_
  · split at h'
    · exact hl _ _ h'
    · cases h'
  · simp only at h'
    split at h'
    · rename_i e
      subst e
      cases h'
      refine ⟨if_neg (Nat.lt_irrefl _), _, hl _ _ hrow, rfl, by simp [blksAV_len], fun k hk => ?_⟩
      rw [blksAV_len] at hk
      have e1 : (blksAV (i + 1) bl).getD k default = blkAV (i + 1 + k) bl[k] := by
        rw [List.getD_eq_getElem?_getD, blksAV_get?]; simp [hk]
      have e2 : (bl.map frzB).getD k default = frzB bl[k] := by
        rw [List.getD_eq_getElem?_getD]; simp [hk]
      rw [e1, e2]
      generalize hbk : bl[k] = b
      have hbm : b ∈ bl := hbk ▸ List.getElem_mem hk
      have hk? : bl[k]? = some b := by rw [← hbk]; simp [hk]
      exact .inr (blk_snap (by omega) (by omega) hk? (hb b hbm))
    · split at h'
      · rename_i e; subst e; cases h'
        exact ⟨if_neg (by omega), _, h2, SnpO.refl _⟩
      · split at h'
        · rename_i e; subst e; cases h'
          exact ⟨if_neg (by omega), _, h3, SnpO.refl _⟩
        · cases h'
  · refine AW.frz (σ' := ⟨mkFr fr, mkHp [(2, .cells [.sl (bl.map frzB)]), (3, .cells [b])], σ.nx⟩) (fun i => if i = base then some (.row 4 (bl.map frzB)) else none) (fun i o h' => ?_) (fun t' x' h' => ⟨x', h', .inl rfl⟩) (fun i o' h' => ?_) rfl h
    · split at h'
      · rename_i e; subst e; simp only [if_true]; exact h'
      · cases h'
    · simp only [mkHp, updo] at h'
      split at h'
      · rename_i e; subst e; cases h'
        refine ⟨if_neg (by omega), .cells [.rw base], (by simp only; rw [if_neg (by omega)]; rfl), rfl, fun k hk => ?_⟩
        obtain rfl : k = 0 := by simpa using hk
        refine .inr ⟨?_, ?_⟩
        · simp only [List.getD_cons_zero, AV.snapOk, if_true]
          intro x hx' y hy
          obtain ⟨b, _, rfl⟩ := List.mem_map.1 hx'
          simp only [frzB, AV.cells, List.mem_cons, List.not_mem_nil, or_false] at hy
          rcases hy with rfl | rfl | rfl | rfl <;> rfl
        · simp only [List.getD_cons_zero, AV.snap, if_true]
      · split at h'
        · rename_i e; subst e; cases h'
          exact ⟨if_neg (by omega), .cells [b], (by simp only; rw [if_neg (by omega)]; rfl), SnpO.refl _⟩
        · cases h'

theorem loc_one {hp : Nat → Option AObj} {md : Hs} {base : Nat} {bl : List Blk} {cur : Int} {m : Nat → Nat} {i : Nat} {cs : List AV} (h2 : 2 ≤ i) (h10 : i < 10) (hc : AV.cloL cs = true) (hh : hp i = some (.cells cs)) (hn : lowHp md base bl cur i = none) :
    2 ≤ i ∧ i < 10 ∧ hp i = some ((AObj.cells cs).ren m) ∧ (AObj.cells cs).ids (· < 1000000) ∧ lowHp md base bl cur i = none :=
  ⟨h2, h10, by rw [hh]; simp only [AObj.ren, cloL_renL hc], cloL_idsL hc, hn⟩

theorem Kq_nil : Kq P E [] Q = Q := by rw [Kq]
end Go.Low

/- Chapter 10: the two lowerings agree up to 400 blocks (plain Lean). -/
set_option linter.unusedVariables false
namespace Go.Low
open Go Go.Am

def Big (r : Int × List Blk) (s : Bool × LS) : Prop := 400 < r.2.length ∧ 400 < s.2.bl.length

theorem add2_bl (s : LS) : (s.add 2).bl = s.bl ++ [Blk.nil] ++ [Blk.nil] := (rep2 s.bl).symm
theorem add3_bl (s : LS) : (s.add 3).bl = s.bl ++ [Blk.nil] ++ [Blk.nil] ++ [Blk.nil] := (rep3 s.bl).symm
theorem end_bl (s : LS) (k a : Int) (ts : List Int) : (s.end k a ts).bl = endB s.bl s.cur k a ts := rfl
theorem at_bl (s : LS) (k : Nat) : (s.at k).bl = s.bl := rfl
theorem at_cur (s : LS) (k : Nat) : (s.at k).cur = k := rfl

theorem rJoin_big {es es' : List Nat} {bl : List Blk} {s : LS} (h : s.cur < s.bl.length) (he : ∀ b, b ∈ es' → b < s.bl.length) (h1 : 400 < bl.length) (h2 : 400 < s.bl.length) : Big (rJoin es bl) (joinL es' s) :=
  ⟨Nat.lt_of_lt_of_le h1 (rg_join es bl).1.le, Nat.lt_of_lt_of_le h2 (joinL_grow es' s h he).le⟩

mutual
theorem rN_same : ∀ (n : Nd) (s : LS), s.cur < s.bl.length → sameR (rN n s.bl s.cur) (lowN n s) ∨ Big (rN n s.bl s.cur) (lowN n s)
  | .mk k a x t e arms, s, h => by
    rw [rN, lowN]
    split
    · exact .inl ⟨rfl, rfl⟩
    · split
      · have e0 : (endB (s.bl ++ [Blk.nil] ++ [Blk.nil]) s.cur 2 a [(s.bl.length : Int), s.bl.length + 1]) = (((s.add 2).end 2 a [(s.bl.length : Int), s.bl.length + 1]).at s.bl.length).bl := by rw [at_bl, end_bl, add2_bl]; rfl
        have l1 : (((s.add 2).end 2 a [(s.bl.length : Int), s.bl.length + 1]).at s.bl.length).bl.length = s.bl.length + 2 := by rw [at_bl, end_len, add_len]
        simp only [e0]
        generalize hs1 : ((s.add 2).end 2 a [(s.bl.length : Int), s.bl.length + 1]).at s.bl.length = s1 at *
        have hc1 : s1.cur = s.bl.length := by rw [← hs1]; rfl
        have hlt1 : s1.cur < s1.bl.length := by omega
        have i1 := rL_same t s1 hlt1
        rw [hc1] at i1
        have g1 := lowL_grow t s1 hlt1
        have g1' := (rL_grow t s1.bl (s.bl.length : Int) (by omega)).1.le
        have hlt2 : ((lowL t s1).2.at (s.bl.length + 1)).cur < ((lowL t s1).2.at (s.bl.length + 1)).bl.length := by rw [at_cur, at_bl]; have := g1.le; omega
        have g2 := lowL_grow e _ hlt2
        have g2' := (rL_grow e (rL t s1.bl (s.bl.length : Int)).2 ((s.bl.length : Int) + 1) (by omega)).1.le
        have hes : ∀ b, b ∈ (if (lowL t s1).1 then [(lowL t s1).2.cur] else []) ++ (if (lowL e ((lowL t s1).2.at (s.bl.length + 1))).1 then [(lowL e ((lowL t s1).2.at (s.bl.length + 1))).2.cur] else []) → b < (lowL e ((lowL t s1).2.at (s.bl.length + 1))).2.bl.length := by
          intro b hb
          rcases List.mem_append.1 hb with hb | hb
          · split at hb
            · have := List.mem_singleton.1 hb; have := g1.cur; have := g2.le; rw [at_bl] at this; omega
            · cases hb
          · split at hb
            · have := List.mem_singleton.1 hb; have := g2.cur; omega
            · cases hb
        rcases i1 with i1 | i1
        · have i2 := rL_same e _ hlt2
          rw [at_cur, at_bl, show (((s.bl.length + 1 : Nat)) : Int) = (s.bl.length : Int) + 1 by simp] at i2
          have x1 := exitOf_same i1
          rw [i1.1]
          rcases i2 with i2 | i2
          · rw [x1, exitOf_same i2, i2.1]
            exact .inl (rJoin_same _ _)
          · exact .inr (rJoin_big g2.cur hes i2.1 i2.2)
        · refine .inr (rJoin_big g2.cur hes (Nat.lt_of_lt_of_le i1.1 g2') ?_)
          have := g2.le
          rw [at_bl] at this
          exact Nat.lt_of_lt_of_le i1.2 this
      · split
        · have e0 : (endB (endB (s.bl ++ [Blk.nil] ++ [Blk.nil] ++ [Blk.nil]) s.cur 1 0 [(s.bl.length : Int)]) s.bl.length 2 a [(s.bl.length : Int) + 1, s.bl.length + 2]) = (((((s.add 3).end 1 0 [(s.bl.length : Int)]).at s.bl.length).end 2 a [(s.bl.length : Int) + 1, s.bl.length + 2]).at (s.bl.length + 1)).bl := by rw [at_bl, end_bl, at_bl, end_bl, add3_bl]; rfl
          have l1 : (((((s.add 3).end 1 0 [(s.bl.length : Int)]).at s.bl.length).end 2 a [(s.bl.length : Int) + 1, s.bl.length + 2]).at (s.bl.length + 1)).bl.length = s.bl.length + 3 := by rw [at_bl, end_len, at_bl, end_len, add_len]
          simp only [e0]
          generalize hs1 : ((((s.add 3).end 1 0 [(s.bl.length : Int)]).at s.bl.length).end 2 a [(s.bl.length : Int) + 1, s.bl.length + 2]).at (s.bl.length + 1) = s1 at *
          have hc1 : s1.cur = s.bl.length + 1 := by rw [← hs1]; rfl
          have hlt1 : s1.cur < s1.bl.length := by omega
          have i1 := rL_same t s1 hlt1
          rw [hc1, show (((s.bl.length + 1 : Nat)) : Int) = (s.bl.length : Int) + 1 by simp] at i1
          rcases i1 with i1 | i1
          · refine .inl ⟨?_, by simp [LS.at]⟩
            simp only [at_bl]
            rw [i1.2]
            cases hb : (lowL t s1).1
            · simpa using i1.1
            · simp [i1.1, end_bl]
          · refine .inr ⟨?_, ?_⟩
            · simp only
              split
              · rw [endB_len]; exact i1.1
              · exact i1.1
            · simp only [at_bl]
              split
              · rw [end_len]; exact i1.2
              · exact i1.2
        · split
          · have e0 : (endB (s.bl ++ List.replicate arms.length Blk.nil) s.cur 3 a ((List.range arms.length).map fun (i : Nat) => (s.bl.length : Int) + (i : Int))) = ((s.add arms.length).end 3 a ((List.range arms.length).map fun (i : Nat) => (s.bl.length : Int) + (i : Int))).bl := rfl
            have l1 : ((s.add arms.length).end 3 a ((List.range arms.length).map fun (i : Nat) => (s.bl.length : Int) + (i : Int))).bl.length = s.bl.length + arms.length := by rw [end_len, add_len]
            simp only [e0]
            generalize hs1 : (s.add arms.length).end 3 a ((List.range arms.length).map fun (i : Nat) => (s.bl.length : Int) + (i : Int)) = s1 at *
            have hc1 : s1.cur = s.cur := by rw [← hs1]; rfl
            have g := lowP_grow arms s.bl.length s1 (by omega) (by omega)
            rcases rP_same arms s.bl.length s1 (by omega) (by omega) with i | i
            · rw [i.1, i.2]; exact .inl (rJoin_same _ _)
            · exact .inr (rJoin_big g.1.cur g.2 i.1 i.2)
          · split
            · exact .inl ⟨rfl, rfl⟩
            · exact .inl ⟨rfl, rfl⟩
theorem rL_same : ∀ (l : List Nd) (s : LS), s.cur < s.bl.length → sameR (rL l s.bl (s.cur : Int)) (lowL l s) ∨ Big (rL l s.bl (s.cur : Int)) (lowL l s)
  | [], s, h => by rw [rL, lowL]; exact .inl ⟨rfl, rfl⟩
  | n :: l, s, h => by
    have gl := lowL_grow (n :: l) s h
    rw [rL]
    split
    · rename_i hc
      rw [lowL]
      simp only [Int.toNat_natCast]
      have g1 := lowN_grow n s h
      have g1' := rN_grow n s.bl s.cur h
      rcases rN_same n s h with i | i
      · rw [i.1, i.2]
        cases hb : (lowN n s).1
        · simp only [Bool.false_eq_true, if_false]
          refine .inl ⟨?_, ?_⟩
          · cases l <;> simp [rL]
          · cases l <;> simp [rL]
        · simp only [if_true]
          exact rL_same l _ g1.cur
      · refine .inr ⟨?_, ?_⟩
        · exact Nat.lt_of_lt_of_le i.1 (rL_grow l _ _ g1'.2).1.le
        · split
          · exact Nat.lt_of_lt_of_le i.2 (lowL_grow l _ g1.cur).le
          · exact i.2
    · rename_i hc
      refine .inr ⟨by simp only; omega, ?_⟩
      have := gl.le
      omega
theorem rP_same : ∀ (ps : List (List Nd)) (f : Nat) (s : LS), s.cur < s.bl.length → f + ps.length ≤ s.bl.length → ((rP ps f s.bl).1 = (lowP ps f s).1 ∧ (rP ps f s.bl).2 = (lowP ps f s).2.bl) ∨ (400 < (rP ps f s.bl).2.length ∧ 400 < (lowP ps f s).2.bl.length)
  | [], f, s, _, _ => by rw [rP, lowP]; exact .inl ⟨rfl, rfl⟩
  | p :: ps, f, s, h, hf => by
    rw [rP, lowP]
    simp only [List.length_cons] at hf
    have hlt : (s.at f).cur < (s.at f).bl.length := by rw [at_cur, at_bl]; omega
    have g1 := lowL_grow p _ hlt
    have g1l := g1.le
    rw [at_bl] at g1l
    have g1' := (rL_grow p s.bl (f : Int) (by omega)).1.le
    have i1 := rL_same p _ hlt
    rw [at_cur, at_bl] at i1
    rcases i1 with i1 | i1
    · rw [exitOf_same i1, i1.1]
      rcases rP_same ps (f + 1) (lowL p (s.at f)).2 g1.cur (by omega) with i2 | i2
      · exact .inl ⟨by simp only; rw [i2.1], i2.2⟩
      · exact .inr i2
    · refine .inr ⟨Nat.lt_of_lt_of_le i1.1 (rP_grow ps (f + 1) _ (by omega)).le, Nat.lt_of_lt_of_le i1.2 (lowP_grow ps (f + 1) _ g1.cur (by omega)).1.le⟩
end
end Go.Low
