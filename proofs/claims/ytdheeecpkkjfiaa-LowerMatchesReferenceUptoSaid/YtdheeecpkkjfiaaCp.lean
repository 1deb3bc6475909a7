/- A part of the proof: an abstract machine for the walks, and what the walked functions compute. -/
import Derived.Test.YtdheeecpkkjfiaaCj
import Derived.Test.YtdheeecpkkjfiaaCk
import Derived.Test.YtdheeecpkkjfiaaCm
import Derived.Test.YtdheeecpkkjfiaaCe
import Derived.Test.YtdheeecpkkjfiaaMf
import Derived.Test.YtdheeecpkkjfiaaCn
import Derived.Test.YtdheeecpkkjfiaaCb
set_option linter.unusedVariables false
set_option linter.unusedSimpArgs false
/- Chapter 10: the reference's Lower. -/
set_option linter.unusedSimpArgs false
set_option linter.unusedVariables false
set_option maxHeartbeats 4000000
set_option maxRecDepth 100000
namespace Go.Proofs.Ytdheeecpkkjfiaa
open Go.Am Go.Proofs Go.Low
attribute [local irreducible] AW CallP CallB

def rT6 : Tr := .alt 0 (.alt 1 (.alt 2 (.alt 3 (.alt 4 (.alt 5 .leaf .nil) .nil) .nil) (.alt 3 (.alt 2 (.alt 4 (.alt 5 .leaf .nil) .nil) (.alt 4 (.alt 2 (.alt 5 .leaf .nil) .nil) .nil)) .nil)) (.alt 3 (.alt 1 (.alt 2 (.alt 4 (.alt 5 .leaf .nil) .nil) (.alt 4 (.alt 2 (.alt 5 .leaf .nil) .nil) .nil)) (.alt 4 (.alt 1 (.alt 2 (.alt 5 .leaf .nil) .nil) .nil) .nil)) .nil)) (.alt 1 (.alt 0 (.alt 2 (.alt 3 (.alt 4 (.alt 5 .leaf .nil) .nil) .nil) (.alt 3 (.alt 2 (.alt 4 (.alt 5 .leaf .nil) .nil) (.alt 4 (.alt 2 (.alt 5 .leaf .nil) .nil) .nil)) .nil)) (.alt 2 (.alt 0 (.alt 3 (.alt 4 (.alt 5 .leaf .nil) .nil) .nil) (.alt 3 (.alt 0 (.alt 4 (.alt 5 .leaf .nil) .nil) (.alt 4 (.alt 0 (.alt 5 .leaf .nil) .nil) .nil)) .nil)) (.alt 3 (.alt 0 (.alt 2 (.alt 4 (.alt 5 .leaf .nil) .nil) (.alt 4 (.alt 2 (.alt 5 .leaf .nil) .nil) .nil)) (.alt 2 (.alt 0 (.alt 4 (.alt 5 .leaf .nil) .nil) (.alt 4 (.alt 0 (.alt 5 .leaf .nil) .nil) .nil)) (.alt 4 (.alt 0 (.alt 2 (.alt 5 .leaf .nil) .nil) (.alt 2 (.alt 0 (.alt 5 .leaf .nil) .nil) .nil)) .nil))) .nil))) (.alt 3 (.alt 0 (.alt 1 (.alt 2 (.alt 4 (.alt 5 .leaf .nil) .nil) (.alt 4 (.alt 2 (.alt 5 .leaf .nil) .nil) .nil)) (.alt 4 (.alt 1 (.alt 2 (.alt 5 .leaf .nil) .nil) .nil) .nil)) (.alt 1 (.alt 0 (.alt 2 (.alt 4 (.alt 5 .leaf .nil) .nil) (.alt 4 (.alt 2 (.alt 5 .leaf .nil) .nil) .nil)) (.alt 2 (.alt 0 (.alt 4 (.alt 5 .leaf .nil) .nil) (.alt 4 (.alt 0 (.alt 5 .leaf .nil) .nil) .nil)) (.alt 4 (.alt 0 (.alt 2 (.alt 5 .leaf .nil) .nil) (.alt 2 (.alt 0 (.alt 5 .leaf .nil) .nil) .nil)) .nil))) (.alt 4 (.alt 0 (.alt 1 (.alt 2 (.alt 5 .leaf .nil) .nil) .nil) (.alt 1 (.alt 0 (.alt 2 (.alt 5 .leaf .nil) .nil) (.alt 2 (.alt 0 (.alt 5 .leaf .nil) .nil) .nil)) .nil)) .nil))) .nil))

def bigB (bl : List Blk) (i : Nat) : Bool := decide (200 < bl.length) || (bl.take i).any fun b => decide (400 < b.code.length)
/-- What the reference's Lower returns. -/
def rlowRes (l : List Nd) : List Blk × Int :=
  if formedL l 60 = false then ([], 1)
  else if leftL l = true then ([], 5)
  else if bigB (rL l [Blk.nil] 0).2 (rL l [Blk.nil] 0).2.length = true then ([], 2)
  else ((rL l [Blk.nil] 0).2, 0)

theorem rlower_low (ts : List Ty) (l : List Nd) (h : Nd.szL l ≤ 2 ^ 30) (hf : formedL l 60 = true) (hl : leftL l = false) (hz : 4 * szL l ≤ 399999) : PCall Try.prog 12 [.agg [.sl (Ty.avL ts), .sl (Nd.avL l)]] (resAV (rlowRes l)) := by
  have hR : rlowRes l = if bigB (rL l [Blk.nil] 0).2 (rL l [Blk.nil] 0).2.length = true then ([], 2) else ((rL l [Blk.nil] 0).2, 0) := by
    unfold rlowRes; rw [if_neg (by simp [hf]), if_neg (by simp [hl])]
  have hk := formedL_kd l 60 hf
  refine PCall.intro Try.func12 rfl isf12 (by simp [Try.f12]) (by simp [AV.cloL, AV.clo]) fun E Q hE hN hQ => K_start ?_
  repeat' (first | refine K_seq ?_ | refine K_blk ?_ | refine AW_skip ?_ | refine AW_exit ?_ | refine Kq_exit_code ?_ | refine Kq_exit_lp ?_ | refine Kq_exit_blk ?_ | refine Kq_exit_ne (by decide) ?_ | refine Kq_norm_code ?_ | refine Kq_norm_blk ?_ | refine Kq_norm_lp ?_ | rw [wrap64 (by omega) (by omega)] | (refine hK _ ?_; clear hK hKp K Kp; (try clear hanc anc)) | (refine hKp _ _ ?_; clear hK hKp K Kp; (try clear hanc anc)) | ((with_reducible refine And.intro ?_ ?_); (focus (first | trivial | omega | (simp only [Fits]; omega) | (refine ⟨?_, ?_⟩ <;> (simp only [Fits]; omega)) | assumption | (rw [hanc]; rfl)))) | ((first | refine K_regA hE fun K Kp hK hKp => ?_ | ((first | apply CallP_mk | apply CallB_mk); (focus (simp only [go_sem]; rfl)); (focus (first | exact formed_call (2 ^ 31) l 60 (by omega) (by omega) (by omega) (by omega) | exact left_call (2 ^ 31) l (by omega) (by omega))); (focus (simp [go_sem])); (focus (first | exact .inl rfl | (right; simp [go_sem]))))); simp only [go_sem, ↓reduceIte, reduceCtorEq, Nat.reduceAdd, Nat.reduceMul, Nat.reduceEqDiff, Nat.reduceLT, Nat.reduceLeDiff, Nat.reduceSub, Nat.reduceDiv, Nat.reducePow, Nat.reduceBEq, Int.reduceBEq, Int.reduceBNe, Int.reduceLT, Int.reduceLE, Int.reduceEq, hf, hl]) | ((first | refine onG_split_t (fun hg => ?_) (fun hg => ?_) | refine onG_split_f (fun hg => ?_) (fun hg => ?_)) <;> simp only [go_sem, ↓reduceIte, reduceCtorEq, Nat.reduceAdd, Nat.reduceMul, Nat.reduceEqDiff, Nat.reduceLT, Nat.reduceLeDiff, Nat.reduceSub, Nat.reduceDiv, Nat.reducePow, Nat.reduceBEq, Int.reduceBEq, Int.reduceBNe, Int.reduceLT, Int.reduceLE, Int.reduceEq, hf, hl, hg]) | (refine K_condA (fun hc => ?_) (fun hc => ?_) <;> try (exact absurd hc (by decide))) | (refine K_ret ?_; refine (hQ _ ⟨_, by (try simp only [go_sem, ↓reduceIte, Nat.reduceEqDiff]); rfl, by simp [go_sem], ?_, by first | rfl | assumption⟩).1))
  refine AW_nilc 11534336 0 4 (l := [.nilsl]) (by simp only [go_sem, ↓reduceIte, reduceCtorEq, Nat.reduceAdd, Nat.reduceMul, Nat.reduceEqDiff, Nat.reduceLT, Nat.reduceLeDiff, Nat.reduceSub, Nat.reduceDiv, Nat.reducePow, Nat.reduceBEq, Int.reduceBEq, Int.reduceBNe, Int.reduceLT, Int.reduceLE, Int.reduceEq]) rfl ?_
  have hm := okR
  have hb : OkB [] := fun _ h => by cases h
  refine K_top (fr := [(4, .ptr 0 0), (1, .ptr 2 0)]) (loc := [(2, .cells [.sl (Ty.avL ts), .sl (Nd.avL l)])]) (md := hsR) (cur := 0) 11534336 1 13631488 (fun _ => 0) hN hm (by decide) (by decide) (by decide) (by simp [go_sem, hsR, AV.renL, AV.ren, topM]) (by simp [hsR]) (by simp [go_sem]) (by simp [go_sem, topM]) (by simp [go_sem, AV.renL, AV.ren]) (by simp) ?_
  have hp0 : PreB [] 400000 := ⟨hb, by simp, fun b h => by cases h⟩
  have hp1 : PreB ([] ++ [Blk.nil]) 399999 := hp0.grow (rg_nil []) (by omega)
  have hcl := rlistC (szL l + 1) l (by omega) hk ([] ++ [Blk.nil]) 0 (by simp) (hp1.mono (by omega))
  have e34 : 1000000 + 1048576 * 4 + (2 - hsR.np) = 5194305 := by show 1000000 + 1048576 * 4 + (2 - 1) = _; decide
  have e33 : 1000000 + 1048576 * 5 + (2 - hsR.np) = 6242881 := by show 1000000 + 1048576 * 5 + (2 - 1) = _; decide
  generalize hy : rL l ([] ++ [Blk.nil]) 0 = y at *
  refine K_allM ⟨mkFr [(4, .ptr 0 0)], hpOn [] (lowHp hsR 10 y.2 0), 1000000⟩ rT6 mixed hE ?_ fun Kp hKp => ?_
  rotate_left
  · unfold rT6
    repeat' (first | refine goTr_one rfl ?_ | refine goTr_alt rfl ?_ ?_ | simp only [go_sem, ↓reduceIte, reduceCtorEq, Nat.reduceAdd, Nat.reduceMul, Nat.reduceEqDiff, Nat.reduceLT, Nat.reduceLeDiff, Nat.reduceSub, Nat.reduceDiv, Nat.reducePow, Nat.reduceBEq, Int.reduceBEq, Int.reduceBNe, Int.reduceLT, Int.reduceLE, Int.reduceEq])
    all_goals
      refine Hold.mk (LCall.use (blk_rc hp0 (k := 0) rfl) rfl hm hb (o := 10) (by omega) (by (repeat (first | exact (fun _ _ h => h) | refine LowIn.upd ?_ (lowHp_none (by omega) (by omega))))) (Nat.le_of_ble_eq_true rfl) ?_ (fun _ _ _ _ h => h.elim))
      rintro r1 bl' cur' ⟨fr', hp', nx'⟩ ⟨rfl, rfl, rfl⟩ _ hb' hlen' hnx hfr hin hold
      simp only at hnx hfr hin hold
      subst hnx hfr
      rw [e34] at hin
      have q2 := hold 2 _ (by simp only [go_sem, ↓reduceIte, reduceCtorEq, Nat.reduceAdd, Nat.reduceMul, Nat.reduceEqDiff, Nat.reduceLT, Nat.reduceLeDiff, Nat.reduceSub, Nat.reduceDiv, Nat.reducePow, Nat.reduceBEq, Int.reduceBEq, Int.reduceBNe, Int.reduceLT, Int.reduceLE, Int.reduceEq]; rfl) (lowHp_none (by omega) (by omega))
      clear hold
      simp only [go_sem, ↓reduceIte, reduceCtorEq, Nat.reduceAdd, Nat.reduceMul, Nat.reduceEqDiff, Nat.reduceLT, Nat.reduceLeDiff, Nat.reduceSub, Nat.reduceDiv, Nat.reducePow, Nat.reduceBEq, Int.reduceBEq, Int.reduceBNe, Int.reduceLT, Int.reduceLE, Int.reduceEq]
      repeat' (first | refine goTr_one rfl ?_ | refine goTr_alt rfl ?_ ?_ | simp only [go_sem, ↓reduceIte, reduceCtorEq, Nat.reduceAdd, Nat.reduceMul, Nat.reduceEqDiff, Nat.reduceLT, Nat.reduceLeDiff, Nat.reduceSub, Nat.reduceDiv, Nat.reducePow, Nat.reduceBEq, Int.reduceBEq, Int.reduceBNe, Int.reduceLT, Int.reduceLE, Int.reduceEq, q2])
      all_goals
        refine Hold.mk (LCall.use hcl rfl hm hb' (o := 5194305) (by omega) hin (Nat.le_of_ble_eq_true rfl) ?_ (fun _ _ _ _ h => h.elim))
        rintro r2 bl2 cur2 ⟨fr2, hp2, nx2⟩ ⟨rfl, rfl, rfl⟩ _ hb2 hlen2 hnx2 hfr2 hin2 hold2
        simp only at hnx2 hfr2 hin2 hold2
        subst hnx2 hfr2
        rw [e33] at hin2
        simp only [go_sem, ↓reduceIte, reduceCtorEq, Nat.reduceAdd, Nat.reduceMul, Nat.reduceEqDiff, Nat.reduceLT, Nat.reduceLeDiff, Nat.reduceSub, Nat.reduceDiv, Nat.reducePow, Nat.reduceBEq, Int.reduceBEq, Int.reduceBNe, Int.reduceLT, Int.reduceLE, Int.reduceEq]
        exact ⟨_, Ent.le (np := hsR.np) (ent_low (base := 6242881) (fr := [(4, .ptr 0 0)]) (loc := []) (fun i => i) hb2 hlen2 hm (by omega) hin2 (by simp [go_sem, lowM]) (by simp) (by simp)) (by rw [hN]; exact Nat.zero_le _)⟩
  have gr := rL_grow l ([] ++ [Blk.nil]) 0 (by simp)
  rw [hy] at gr
  have hby : OkB y.2 := gr.1.ok hp1.ok
  have hly : y.2.length ≤ 400000 := by have := gr.1.ge; simp only [List.length_append, List.length_cons, List.length_nil] at this; omega
  have hcy : ∀ b, b ∈ y.2 → b.code.length ≤ 400000 := fun b hb => by have := gr.1.code 0 (fun b hb => by simp only [List.nil_append, List.mem_singleton] at hb; subst hb; simp) b hb; omega
  replace hy : rL l [Blk.nil] 0 = y := hy
  rw [hy] at hR
  clear hcl hp0 hp1 hb gr
  obtain ⟨yc, bl⟩ := y
  simp only at hby hly hR hcy ⊢
  clear hy
  have hb := hby
  repeat' (first | refine K_seq ?_ | refine K_blk ?_ | refine AW_skip ?_ | refine AW_exit ?_ | refine Kq_exit_code ?_ | refine Kq_exit_lp ?_ | refine Kq_exit_blk ?_ | refine Kq_exit_ne (by decide) ?_ | refine Kq_norm_code ?_ | refine Kq_norm_blk ?_ | refine Kq_norm_lp ?_ | rw [wrap64 (by omega) (by omega)] | (refine hK _ ?_; clear hK hKp K Kp; (try clear hanc anc)) | (refine hKp _ _ ?_; clear hK hKp K Kp; (try clear hanc anc)) | ((with_reducible refine And.intro ?_ ?_); (focus (first | trivial | omega | (simp only [Fits]; omega) | (refine ⟨?_, ?_⟩ <;> (simp only [Fits]; omega)) | assumption | (rw [hanc]; rfl)))) | ((first | refine K_regA hE fun K Kp hK hKp => ?_ | refine K_drwA true mixed hE fun K Kp hK hKp anc hanc => ?_ | refine K_drwA false mixed hE fun K Kp hK hKp anc hanc => ?_); simp only [go_sem, ↓reduceIte, reduceCtorEq, Nat.reduceAdd, Nat.reduceMul, Nat.reduceEqDiff, Nat.reduceLT, Nat.reduceLeDiff, Nat.reduceSub, Nat.reduceDiv, Nat.reducePow, Nat.reduceBEq, Int.reduceBEq, Int.reduceBNe, Int.reduceLT, Int.reduceLE, Int.reduceEq, blksAV_len]) | ((first | refine onG_split_t (fun hg => ?_) (fun hg => ?_) | refine onG_split_f (fun hg => ?_) (fun hg => ?_)) <;> simp only [go_sem, ↓reduceIte, reduceCtorEq, Nat.reduceAdd, Nat.reduceMul, Nat.reduceEqDiff, Nat.reduceLT, Nat.reduceLeDiff, Nat.reduceSub, Nat.reduceDiv, Nat.reducePow, Nat.reduceBEq, Int.reduceBEq, Int.reduceBNe, Int.reduceLT, Int.reduceLE, Int.reduceEq, blksAV_len, hg]) | (refine K_condA (fun hc => ?_) (fun hc => ?_) <;> try (exact absurd hc (by decide))))
  refine K_loop (X := Nat) (fun x => x ≤ bl.length) (fun x => lowSt [(4, .ptr 0 0), (5, .bool (bigB bl x)), (6, .i x)] [] hsR bl 0) (fun x => bl.length - x) 0 (Nat.zero_le _) (lowM (fun i => i) 10) ?_ ?_
  · rw [hN]
    exact Ent.le (np := hsR.np) (ent_low (fr := [(4, .ptr 0 0), (5, .bool (bigB bl 0)), (6, .i (0 : Nat))]) (loc := []) (base := 10) (fun i => i) hb (by omega) hm (by omega) (fun _ _ h => h) (by simp [go_sem, lowM, bigB]; omega) (by simp) (by simp)) (Nat.zero_le _)
  intro i hi
  by_cases hlt : i < bl.length
  · obtain ⟨b, hbi⟩ := get?_of' hlt
    have hcb := hcy b (List.mem_of_getElem? hbi)
    have hbs : bigB bl (i + 1) = (bigB bl i || decide (400 < b.code.length)) := by
      unfold bigB
      rw [List.take_add_one, hbi]
      simp [Bool.or_assoc]
    cases hbg : bigB bl i
    · by_cases hne : b.code = []
      · have hcv : cAV (11 + i) b = .nilsl := if_pos hne
        repeat' (first | refine K_seq ?_ | refine K_blk ?_ | refine AW_skip ?_ | refine AW_exit ?_ | refine Kq_exit_code ?_ | refine Kq_exit_lp ?_ | refine Kq_exit_blk ?_ | refine Kq_exit_ne (by decide) ?_ | refine Kq_norm_code ?_ | refine Kq_norm_blk ?_ | refine Kq_norm_lp ?_ | rw [wrap64 (by omega) (by omega)] | (refine hK _ ?_; clear hK hKp K Kp; (try clear hanc anc)) | (refine hKp _ _ ?_; clear hK hKp K Kp; (try clear hanc anc)) | ((with_reducible refine And.intro ?_ ?_); (focus (first | trivial | omega | (simp only [Fits]; omega) | (refine ⟨?_, ?_⟩ <;> (simp only [Fits]; omega)) | assumption | (rw [hanc]; rfl)))) | ((first | refine K_regA hE fun K Kp hK hKp => ?_ | refine K_drwA true mixed hE fun K Kp hK hKp anc hanc => ?_ | refine K_drwA false mixed hE fun K Kp hK hKp anc hanc => ?_); simp only [go_sem, ↓reduceIte, reduceCtorEq, Nat.reduceAdd, Nat.reduceMul, Nat.reduceEqDiff, Nat.reduceLT, Nat.reduceLeDiff, Nat.reduceSub, Nat.reduceDiv, Nat.reducePow, Nat.reduceBEq, Int.reduceBEq, Int.reduceBNe, Int.reduceLT, Int.reduceLE, Int.reduceEq, hbg, lt_dec' hlt, blksAV_len, blksAV_get?, hbi, blkAV, hcv]) | ((first | refine onG_split_t (fun hg => ?_) (fun hg => ?_) | refine onG_split_f (fun hg => ?_) (fun hg => ?_)) <;> simp only [go_sem, ↓reduceIte, reduceCtorEq, Nat.reduceAdd, Nat.reduceMul, Nat.reduceEqDiff, Nat.reduceLT, Nat.reduceLeDiff, Nat.reduceSub, Nat.reduceDiv, Nat.reducePow, Nat.reduceBEq, Int.reduceBEq, Int.reduceBNe, Int.reduceLT, Int.reduceLE, Int.reduceEq, hbg, lt_dec' hlt, blksAV_len, blksAV_get?, hbi, blkAV, hcv, hg]) | (refine K_condA (fun hc => ?_) (fun hc => ?_) <;> try (exact absurd hc (by decide))))
        refine ⟨i + 1, by omega, by omega, lowM (fun i => i) 10, ?_⟩
        rw [hN, hbs, hbg]
        exact Ent.le (np := hsR.np) (ent_low (fr := [(4, .ptr 0 0), (5, .bool (false || decide (400 < b.code.length))), (6, .i (i + 1 : Nat))]) (loc := []) (base := 10) (fun i => i) hb (by omega) hm (by omega) (fun _ _ h => h) (by simp [go_sem, lowM, hne]) (by simp) (by simp)) (Nat.zero_le _)
      · have hcv : cAV (11 + i) b = .rw (11 + i) := if_neg hne
        have hl : lowHp hsR 10 bl 0 (11 + i) = some (.row 7 b.code) := lowHp_code (by omega) hbi hne
        repeat' (first | refine K_seq ?_ | refine K_blk ?_ | refine AW_skip ?_ | refine AW_exit ?_ | refine Kq_exit_code ?_ | refine Kq_exit_lp ?_ | refine Kq_exit_blk ?_ | refine Kq_exit_ne (by decide) ?_ | refine Kq_norm_code ?_ | refine Kq_norm_blk ?_ | refine Kq_norm_lp ?_ | rw [wrap64 (by omega) (by omega)] | (refine hK _ ?_; clear hK hKp K Kp; (try clear hanc anc)) | (refine hKp _ _ ?_; clear hK hKp K Kp; (try clear hanc anc)) | ((with_reducible refine And.intro ?_ ?_); (focus (first | trivial | omega | (simp only [Fits]; omega) | (refine ⟨?_, ?_⟩ <;> (simp only [Fits]; omega)) | assumption | (rw [hanc]; rfl)))) | ((first | refine K_regA hE fun K Kp hK hKp => ?_ | refine K_drwA true mixed hE fun K Kp hK hKp anc hanc => ?_ | refine K_drwA false mixed hE fun K Kp hK hKp anc hanc => ?_); simp only [go_sem, ↓reduceIte, reduceCtorEq, Nat.reduceAdd, Nat.reduceMul, Nat.reduceEqDiff, Nat.reduceLT, Nat.reduceLeDiff, Nat.reduceSub, Nat.reduceDiv, Nat.reducePow, Nat.reduceBEq, Int.reduceBEq, Int.reduceBNe, Int.reduceLT, Int.reduceLE, Int.reduceEq, hbg, lt_dec' hlt, blksAV_len, blksAV_get?, hbi, blkAV, hcv, hl]) | ((first | refine onG_split_t (fun hg => ?_) (fun hg => ?_) | refine onG_split_f (fun hg => ?_) (fun hg => ?_)) <;> simp only [go_sem, ↓reduceIte, reduceCtorEq, Nat.reduceAdd, Nat.reduceMul, Nat.reduceEqDiff, Nat.reduceLT, Nat.reduceLeDiff, Nat.reduceSub, Nat.reduceDiv, Nat.reducePow, Nat.reduceBEq, Int.reduceBEq, Int.reduceBNe, Int.reduceLT, Int.reduceLE, Int.reduceEq, hbg, lt_dec' hlt, blksAV_len, blksAV_get?, hbi, blkAV, hcv, hl, hg]) | (refine K_condA (fun hc => ?_) (fun hc => ?_) <;> try (exact absurd hc (by decide))))
        refine ⟨i + 1, by omega, by omega, lowM (fun i => i) 10, ?_⟩
        rw [hN, hbs, hbg]
        exact Ent.le (np := hsR.np) (ent_low (fr := [(4, .ptr 0 0), (5, .bool (false || decide (400 < b.code.length))), (6, .i (i + 1 : Nat))]) (loc := []) (base := 10) (fun i => i) hb (by omega) hm (by omega) (fun _ _ h => h) (by simp [go_sem, lowM] <;> omega) (by simp) (by simp)) (Nat.zero_le _)
    · repeat' (first | refine K_seq ?_ | refine K_blk ?_ | refine AW_skip ?_ | refine AW_exit ?_ | refine Kq_exit_code ?_ | refine Kq_exit_lp ?_ | refine Kq_exit_blk ?_ | refine Kq_exit_ne (by decide) ?_ | refine Kq_norm_code ?_ | refine Kq_norm_blk ?_ | refine Kq_norm_lp ?_ | rw [wrap64 (by omega) (by omega)] | (refine hK _ ?_; clear hK hKp K Kp; (try clear hanc anc)) | (refine hKp _ _ ?_; clear hK hKp K Kp; (try clear hanc anc)) | ((with_reducible refine And.intro ?_ ?_); (focus (first | trivial | omega | (simp only [Fits]; omega) | (refine ⟨?_, ?_⟩ <;> (simp only [Fits]; omega)) | assumption | (rw [hanc]; rfl)))) | ((first | refine K_regA hE fun K Kp hK hKp => ?_ | refine K_drwA true mixed hE fun K Kp hK hKp anc hanc => ?_ | refine K_drwA false mixed hE fun K Kp hK hKp anc hanc => ?_); simp only [go_sem, ↓reduceIte, reduceCtorEq, Nat.reduceAdd, Nat.reduceMul, Nat.reduceEqDiff, Nat.reduceLT, Nat.reduceLeDiff, Nat.reduceSub, Nat.reduceDiv, Nat.reducePow, Nat.reduceBEq, Int.reduceBEq, Int.reduceBNe, Int.reduceLT, Int.reduceLE, Int.reduceEq, hbg, lt_dec' hlt, blksAV_len]) | ((first | refine onG_split_t (fun hg => ?_) (fun hg => ?_) | refine onG_split_f (fun hg => ?_) (fun hg => ?_)) <;> simp only [go_sem, ↓reduceIte, reduceCtorEq, Nat.reduceAdd, Nat.reduceMul, Nat.reduceEqDiff, Nat.reduceLT, Nat.reduceLeDiff, Nat.reduceSub, Nat.reduceDiv, Nat.reducePow, Nat.reduceBEq, Int.reduceBEq, Int.reduceBNe, Int.reduceLT, Int.reduceLE, Int.reduceEq, hbg, lt_dec' hlt, blksAV_len, hg]) | (refine K_condA (fun hc => ?_) (fun hc => ?_) <;> try (exact absurd hc (by decide))))
      refine ⟨i + 1, by omega, by omega, lowM (fun i => i) 10, ?_⟩
      rw [hN, hbs, hbg]
      exact Ent.le (np := hsR.np) (ent_low (fr := [(4, .ptr 0 0), (5, .bool (true || decide (400 < b.code.length))), (6, .i (i + 1 : Nat))]) (loc := []) (base := 10) (fun i => i) hb (by omega) hm (by omega) (fun _ _ h => h) (by simp [go_sem, lowM] <;> omega) (by simp) (by simp)) (Nat.zero_le _)
  · obtain rfl : i = bl.length := by omega
    cases hbg : bigB bl bl.length
    · rw [hbg] at hR
      repeat' (first | refine K_seq ?_ | refine K_blk ?_ | refine AW_skip ?_ | refine AW_exit ?_ | refine Kq_exit_code ?_ | refine Kq_exit_lp ?_ | refine Kq_exit_blk ?_ | refine Kq_exit_ne (by decide) ?_ | refine Kq_norm_code ?_ | refine Kq_norm_blk ?_ | refine Kq_norm_lp ?_ | rw [wrap64 (by omega) (by omega)] | (refine hK _ ?_; clear hK hKp K Kp; (try clear hanc anc)) | (refine hKp _ _ ?_; clear hK hKp K Kp; (try clear hanc anc)) | ((with_reducible refine And.intro ?_ ?_); (focus (first | trivial | omega | (simp only [Fits]; omega) | (refine ⟨?_, ?_⟩ <;> (simp only [Fits]; omega)) | assumption | (rw [hanc]; rfl)))) | ((first | refine K_regA hE fun K Kp hK hKp => ?_ | refine K_drwA true mixed hE fun K Kp hK hKp anc hanc => ?_ | refine K_drwA false mixed hE fun K Kp hK hKp anc hanc => ?_); simp only [go_sem, ↓reduceIte, reduceCtorEq, Nat.reduceAdd, Nat.reduceMul, Nat.reduceEqDiff, Nat.reduceLT, Nat.reduceLeDiff, Nat.reduceSub, Nat.reduceDiv, Nat.reducePow, Nat.reduceBEq, Int.reduceBEq, Int.reduceBNe, Int.reduceLT, Int.reduceLE, Int.reduceEq, hbg, ge_dec', blksAV_len]) | ((first | refine onG_split_t (fun hg => ?_) (fun hg => ?_) | refine onG_split_f (fun hg => ?_) (fun hg => ?_)) <;> simp only [go_sem, ↓reduceIte, reduceCtorEq, Nat.reduceAdd, Nat.reduceMul, Nat.reduceEqDiff, Nat.reduceLT, Nat.reduceLeDiff, Nat.reduceSub, Nat.reduceDiv, Nat.reducePow, Nat.reduceBEq, Int.reduceBEq, Int.reduceBNe, Int.reduceLT, Int.reduceLE, Int.reduceEq, hbg, ge_dec', blksAV_len, hg]) | (refine K_condA (fun hc => ?_) (fun hc => ?_) <;> try (exact absurd hc (by decide))))
      refine AW_frzBl (md := hsR) (bl := bl) (cur := 0) 2 10 (by omega) (by simp only [go_sem, ↓reduceIte, reduceCtorEq, Nat.reduceAdd, Nat.reduceMul, Nat.reduceEqDiff, Nat.reduceLT, Nat.reduceLeDiff, Nat.reduceSub, Nat.reduceDiv, Nat.reducePow, Nat.reduceBEq, Int.reduceBEq, Int.reduceBNe, Int.reduceLT, Int.reduceLE, Int.reduceEq]) (fun _ _ h => h) hb ?_
      refine K_ret (hQ _ ⟨.tup [.sl (bl.map frzB), .i 0], ?_, ⟨trivial, trivial, trivial⟩, by rw [hR]; rfl, by rw [hR]; rfl⟩).1
      simp [resA, rvA, Try.f12, go_sem]
    · rw [hbg] at hR
      repeat' (first | refine K_seq ?_ | refine K_blk ?_ | refine AW_skip ?_ | refine AW_exit ?_ | refine Kq_exit_code ?_ | refine Kq_exit_lp ?_ | refine Kq_exit_blk ?_ | refine Kq_exit_ne (by decide) ?_ | refine Kq_norm_code ?_ | refine Kq_norm_blk ?_ | refine Kq_norm_lp ?_ | rw [wrap64 (by omega) (by omega)] | (refine hK _ ?_; clear hK hKp K Kp; (try clear hanc anc)) | (refine hKp _ _ ?_; clear hK hKp K Kp; (try clear hanc anc)) | ((with_reducible refine And.intro ?_ ?_); (focus (first | trivial | omega | (simp only [Fits]; omega) | (refine ⟨?_, ?_⟩ <;> (simp only [Fits]; omega)) | assumption | (rw [hanc]; rfl)))) | ((first | refine K_regA hE fun K Kp hK hKp => ?_ | refine K_drwA true mixed hE fun K Kp hK hKp anc hanc => ?_ | refine K_drwA false mixed hE fun K Kp hK hKp anc hanc => ?_); simp only [go_sem, ↓reduceIte, reduceCtorEq, Nat.reduceAdd, Nat.reduceMul, Nat.reduceEqDiff, Nat.reduceLT, Nat.reduceLeDiff, Nat.reduceSub, Nat.reduceDiv, Nat.reducePow, Nat.reduceBEq, Int.reduceBEq, Int.reduceBNe, Int.reduceLT, Int.reduceLE, Int.reduceEq, hbg, ge_dec', blksAV_len]) | ((first | refine onG_split_t (fun hg => ?_) (fun hg => ?_) | refine onG_split_f (fun hg => ?_) (fun hg => ?_)) <;> simp only [go_sem, ↓reduceIte, reduceCtorEq, Nat.reduceAdd, Nat.reduceMul, Nat.reduceEqDiff, Nat.reduceLT, Nat.reduceLeDiff, Nat.reduceSub, Nat.reduceDiv, Nat.reducePow, Nat.reduceBEq, Int.reduceBEq, Int.reduceBNe, Int.reduceLT, Int.reduceLE, Int.reduceEq, hbg, ge_dec', blksAV_len, hg]) | (refine K_condA (fun hc => ?_) (fun hc => ?_) <;> try (exact absurd hc (by decide))))
      refine K_ret (hQ _ ⟨.tup [.nilsl, .i 2], ?_, ⟨trivial, trivial, trivial⟩, by rw [hR]; rfl, by rw [hR]; rfl⟩).1
      simp [resA, rvA, Try.f12, go_sem]

theorem rlower_call (ts : List Ty) (l : List Nd) (h : Nd.szL l ≤ 2 ^ 30) (hz : 4 * szL l ≤ 399999) : PCall Try.prog 12 [.agg [.sl (Ty.avL ts), .sl (Nd.avL l)]] (resAV (rlowRes l)) := by
  cases hf : formedL l 60
  · have hR : rlowRes l = ([], 1) := by unfold rlowRes; rw [if_pos hf]
    rw [hR]
    refine PCall.intro Try.func12 rfl isf12 (by simp [Try.f12]) (by simp [AV.cloL, AV.clo]) fun E Q hE hN hQ => K_start ?_
    repeat' (first | refine K_seq ?_ | refine K_blk ?_ | refine AW_skip ?_ | refine AW_exit ?_ | refine Kq_exit_code ?_ | refine Kq_exit_lp ?_ | refine Kq_exit_blk ?_ | refine Kq_exit_ne (by decide) ?_ | refine Kq_norm_code ?_ | refine Kq_norm_blk ?_ | refine Kq_norm_lp ?_ | rw [wrap64 (by omega) (by omega)] | (refine hK _ ?_; clear hK hKp K Kp; (try clear hanc anc)) | (refine hKp _ _ ?_; clear hK hKp K Kp; (try clear hanc anc)) | ((with_reducible refine And.intro ?_ ?_); (focus (first | trivial | omega | (simp only [Fits]; omega) | (refine ⟨?_, ?_⟩ <;> (simp only [Fits]; omega)) | assumption | (rw [hanc]; rfl)))) | ((first | refine K_regA hE fun K Kp hK hKp => ?_ | refine K_drwA false mixed hE fun K Kp hK hKp anc hanc => ?_ | ((first | apply CallP_mk | apply CallB_mk); (focus (simp only [go_sem]; rfl)); (focus (exact formed_call (2 ^ 31) l 60 (by omega) (by omega) (by omega) (by omega))); (focus (simp [go_sem])); (focus (first | exact .inl rfl | (right; simp [go_sem]))))); simp only [go_sem, ↓reduceIte, reduceCtorEq, Nat.reduceAdd, Nat.reduceMul, Nat.reduceEqDiff, Nat.reduceLT, Nat.reduceLeDiff, Nat.reduceSub, Nat.reduceDiv, Nat.reducePow, Nat.reduceBEq, Int.reduceBEq, Int.reduceBNe, Int.reduceLT, Int.reduceLE, Int.reduceEq, hf]) | ((first | refine onG_split_t (fun hg => ?_) (fun hg => ?_) | refine onG_split_f (fun hg => ?_) (fun hg => ?_)) <;> simp only [go_sem, ↓reduceIte, reduceCtorEq, Nat.reduceAdd, Nat.reduceMul, Nat.reduceEqDiff, Nat.reduceLT, Nat.reduceLeDiff, Nat.reduceSub, Nat.reduceDiv, Nat.reducePow, Nat.reduceBEq, Int.reduceBEq, Int.reduceBNe, Int.reduceLT, Int.reduceLE, Int.reduceEq, hf, hg]) | (refine K_condA (fun hc => ?_) (fun hc => ?_) <;> try (exact absurd hc (by decide))) | (refine K_ret ?_; refine (hQ _ ⟨_, by (try simp only [go_sem, ↓reduceIte, Nat.reduceEqDiff]); rfl, by simp [go_sem], ?_, by first | rfl | assumption⟩).1))
    all_goals rfl
  · cases hl : leftL l
    · exact rlower_low ts l h hf hl hz
    · have hR : rlowRes l = ([], 5) := by unfold rlowRes; rw [if_neg (by simp [hf]), if_pos hl]
      rw [hR]
      refine PCall.intro Try.func12 rfl isf12 (by simp [Try.f12]) (by simp [AV.cloL, AV.clo]) fun E Q hE hN hQ => K_start ?_
      repeat' (first | refine K_seq ?_ | refine K_blk ?_ | refine AW_skip ?_ | refine AW_exit ?_ | refine Kq_exit_code ?_ | refine Kq_exit_lp ?_ | refine Kq_exit_blk ?_ | refine Kq_exit_ne (by decide) ?_ | refine Kq_norm_code ?_ | refine Kq_norm_blk ?_ | refine Kq_norm_lp ?_ | rw [wrap64 (by omega) (by omega)] | (refine hK _ ?_; clear hK hKp K Kp; (try clear hanc anc)) | (refine hKp _ _ ?_; clear hK hKp K Kp; (try clear hanc anc)) | ((with_reducible refine And.intro ?_ ?_); (focus (first | trivial | omega | (simp only [Fits]; omega) | (refine ⟨?_, ?_⟩ <;> (simp only [Fits]; omega)) | assumption | (rw [hanc]; rfl)))) | ((first | refine K_regA hE fun K Kp hK hKp => ?_ | refine K_drwA false mixed hE fun K Kp hK hKp anc hanc => ?_ | ((first | apply CallP_mk | apply CallB_mk); (focus (simp only [go_sem]; rfl)); (focus (first | exact formed_call (2 ^ 31) l 60 (by omega) (by omega) (by omega) (by omega) | exact left_call (2 ^ 31) l (by omega) (by omega))); (focus (simp [go_sem])); (focus (first | exact .inl rfl | (right; simp [go_sem]))))); simp only [go_sem, ↓reduceIte, reduceCtorEq, Nat.reduceAdd, Nat.reduceMul, Nat.reduceEqDiff, Nat.reduceLT, Nat.reduceLeDiff, Nat.reduceSub, Nat.reduceDiv, Nat.reducePow, Nat.reduceBEq, Int.reduceBEq, Int.reduceBNe, Int.reduceLT, Int.reduceLE, Int.reduceEq, hf, hl]) | ((first | refine onG_split_t (fun hg => ?_) (fun hg => ?_) | refine onG_split_f (fun hg => ?_) (fun hg => ?_)) <;> simp only [go_sem, ↓reduceIte, reduceCtorEq, Nat.reduceAdd, Nat.reduceMul, Nat.reduceEqDiff, Nat.reduceLT, Nat.reduceLeDiff, Nat.reduceSub, Nat.reduceDiv, Nat.reducePow, Nat.reduceBEq, Int.reduceBEq, Int.reduceBNe, Int.reduceLT, Int.reduceLE, Int.reduceEq, hf, hl, hg]) | (refine K_condA (fun hc => ?_) (fun hc => ?_) <;> try (exact absurd hc (by decide))) | (refine K_ret ?_; refine (hQ _ ⟨_, by (try simp only [go_sem, ↓reduceIte, Nat.reduceEqDiff]); rfl, by simp [go_sem], ?_, by first | rfl | assumption⟩).1))
      all_goals rfl
end Go.Proofs.Ytdheeecpkkjfiaa


/- Chapter 10: the program's and the reference's lowering return the same (plain Lean). -/
set_option linter.unusedVariables false
set_option linter.unusedSimpArgs false
namespace Go.Low
open Go Go.Am Go.Proofs.Ytdheeecpkkjfiaa

mutual
theorem leftN_ways : ∀ (n : Nd), kdN n → leftN n = waysN n
  | .mk k a x t e arms, h => by
    rw [kdN] at h
    rw [leftN, waysN]
    have hk : k = 1 ∨ k = 2 ∨ k = 3 ∨ k = 4 ∨ k = 5 ∨ k = 6 := by omega
    rcases hk with rfl | rfl | rfl | rfl | rfl | rfl
    · simp
    · simp [leftL_ways t h.2.2.1, leftL_ways e h.2.2.2.1]
    · simp
    · simp [leftP_ways arms h.2.2.2.2]
    · simp
    · simp
theorem leftL_ways : ∀ (l : List Nd), kdL l → leftL l = waysL l
  | [], _ => by rw [leftL, waysL]
  | n :: l, h => by
    rw [kdL] at h
    rw [leftL, waysL, leftN_ways n h.1, leftL_ways l h.2]
theorem leftP_ways : ∀ (ps : List (List Nd)), kdP ps → leftP ps = waysP ps
  | [], _ => by rw [leftP, waysP]
  | p :: ps, h => by
    rw [kdP] at h
    rw [leftP, waysP, leftL_ways p h.1, leftP_ways ps h.2]
end

theorem bigB_iff (bl : List Blk) : bigB bl bl.length = true ↔ 200 < bl.length ∨ (∃ b, b ∈ bl ∧ 400 < b.code.length) := by
  unfold bigB
  rw [List.take_length]
  simp

theorem low_ref (l : List Nd) : lowRes l = rlowRes l := by
  unfold lowRes rlowRes
  by_cases hf : formedL l 60 = false
  · rw [if_pos hf, if_pos hf]
  · rw [if_neg hf, if_neg hf]
    have hk := formedL_kd l 60 (by simpa using hf)
    rw [leftL_ways l hk, ← lowL_ways l hk lowS0]
    by_cases hl : (lowL l lowS0).1 = true
    · rw [if_pos hl, if_pos hl]
    · rw [if_neg hl, if_neg hl]
      rcases rL_same l lowS0 (by simp [lowS0]) with ⟨h1, h2⟩ | ⟨h1, h2⟩
      · have h3 : (rL l [Blk.nil] 0).2 = (lowL l lowS0).2.bl := h1
        rw [h3]
        by_cases hb : bigB (lowL l lowS0).2.bl (lowL l lowS0).2.bl.length = true
        · rw [if_pos hb, if_pos ((bigB_iff _).1 hb)]
        · rw [if_neg hb, if_neg (fun h => hb ((bigB_iff _).2 h))]
      · have h3 : 400 < (rL l [Blk.nil] 0).2.length := h1
        rw [if_pos (.inl (by omega)), if_pos ((bigB_iff _).2 (.inl (by omega)))]

/-- What holds of the blocks of a lowering. -/
def BkI (b : Blk) : Prop := (∃ is : List Ins, b.code = is.map Ins.av ∧ ∀ x, x ∈ is → x.ok) ∧ (b.tg.getD []).length ≤ 2 ^ 30

theorem bki_nil : BkI Blk.nil := ⟨⟨[], rfl, fun _ h => (by cases h)⟩, by simp⟩
theorem bki_add {s : LS} (h : ∀ b, b ∈ s.bl → BkI b) (n : Nat) : ∀ b, b ∈ (s.add n).bl → BkI b := by
  intro b hb
  rcases List.mem_append.1 hb with hb | hb
  · exact h b hb
  · rw [(List.mem_replicate.1 hb).2]; exact bki_nil
theorem bki_end {s : LS} (h : ∀ b, b ∈ s.bl → BkI b) (k a : Int) (ts : List Int) (ht : ts.length ≤ 2 ^ 30) : ∀ b, b ∈ (s.end k a ts).bl → BkI b := by
  intro b hb
  rcases mem_modify hb with hb | ⟨c, hc, rfl⟩
  · exact h b hb
  · exact ⟨(h c hc).1, ht⟩
theorem bki_ins {s : LS} (h : ∀ b, b ∈ s.bl → BkI b) {x : Ins} (hx : x.ok) : ∀ b, b ∈ (s.ins x.av).bl → BkI b := by
  intro b hb
  rcases mem_modify hb with hb | ⟨c, hc, rfl⟩
  · exact h b hb
  · obtain ⟨⟨is, h1, h2⟩, h3⟩ := h c hc
    refine ⟨⟨is ++ [x], by simp [h1], fun y hy => ?_⟩, h3⟩
    rcases List.mem_append.1 hy with hy | hy
    · exact h2 y hy
    · rw [List.mem_singleton.1 hy]; exact hx
theorem bki_join (es : List Nat) {s : LS} (h : ∀ b, b ∈ s.bl → BkI b) : ∀ b, b ∈ (joinL es s).2.bl → BkI b := by
  have key : ∀ (es : List Nat) (j : Int) (t : LS), (∀ b, b ∈ t.bl → BkI b) → ∀ b, b ∈ (es.foldl (fun t b => (t.at b).end 1 0 [j]) t).bl → BkI b := by
    intro es
    induction es with
    | nil => intro j t ht; exact ht
    | cons e es ih =>
      intro j t ht
      rw [List.foldl_cons]
      exact ih j _ (bki_end (s := t.at e) ht 1 0 [j] (by simp))
  unfold joinL
  split
  · exact h
  · exact key es _ _ (bki_add h 1)

mutual
theorem lowN_bki : ∀ (n : Nd) (s : LS), n.sz ≤ 2 ^ 30 → (∀ b, b ∈ s.bl → BkI b) → ∀ b, b ∈ (lowN n s).2.bl → BkI b
  | .mk k a x t e arms, s, hz, h => by
    rw [Nd.sz_eq] at hz
    simp only [Nd.ins, Nd.thn, Nd.els, Nd.arms] at hz
    have har := Nd.lenL_le arms
    rw [lowN]
    split
    · refine bki_ins h ⟨?_, ?_⟩ <;> unfold Ins.sz at hz <;> omega
    · split
      · exact bki_join _ (lowL_bki e _ (by omega) (lowL_bki t _ (by omega) (bki_end (bki_add h 2) _ _ _ (by simp))))
      · split
        · have h1 := lowL_bki t (((((s.add 3).end 1 0 [(s.bl.length : Int)]).at s.bl.length).end 2 a [(s.bl.length : Int) + 1, s.bl.length + 2]).at (s.bl.length + 1)) (by omega) (bki_end (s := ((s.add 3).end 1 0 [(s.bl.length : Int)]).at s.bl.length) (bki_end (bki_add h 3) _ _ _ (by simp)) _ _ _ (by simp))
          simp only [at_bl]
          split
          · exact bki_end h1 _ _ _ (by simp)
          · exact h1
        · split
          · exact bki_join _ (lowP_bki arms _ _ (by omega) (bki_end (bki_add h _) _ _ _ (by simp; omega)))
          · split
            · exact bki_end h _ _ _ (by simp)
            · exact bki_end h _ _ _ (by simp)
theorem lowL_bki : ∀ (l : List Nd) (s : LS), Nd.szL l ≤ 2 ^ 30 → (∀ b, b ∈ s.bl → BkI b) → ∀ b, b ∈ (lowL l s).2.bl → BkI b
  | [], s, hz, h => by rw [lowL]; exact h
  | n :: l, s, hz, h => by
    rw [Nd.szL] at hz
    have h1 := lowN_bki n s (by omega) h
    rw [lowL]
    split
    · exact lowL_bki l _ (by omega) h1
    · exact h1
theorem lowP_bki : ∀ (ps : List (List Nd)) (f : Nat) (s : LS), Nd.szLL ps ≤ 2 ^ 30 → (∀ b, b ∈ s.bl → BkI b) → ∀ b, b ∈ (lowP ps f s).2.bl → BkI b
  | [], f, s, hz, h => by rw [lowP]; exact h
  | p :: ps, f, s, hz, h => by
    rw [Nd.szLL] at hz
    rw [lowP]
    exact lowP_bki ps (f + 1) _ (by omega) (lowL_bki p (s.at f) (by omega) h)
end

theorem bki_list : ∀ (bl : List Blk), (∀ b, b ∈ bl → BkI b ∧ b.code.length ≤ 2 ^ 30) → ∃ B : List Bk, bl.map frzB = B.map Bk.av ∧ (∀ x, x ∈ B → x.ok) ∧ B.length = bl.length
  | [], _ => ⟨[], rfl, fun _ h => (by cases h), rfl⟩
  | b :: l, h => by
    obtain ⟨B, h1, h2, h3⟩ := bki_list l fun b hb => h b (List.mem_cons_of_mem _ hb)
    obtain ⟨⟨⟨is, g1, g2⟩, g3⟩, g4⟩ := h b (by simp)
    refine ⟨⟨is, b.kind, b.a, b.tg.getD []⟩ :: B, ?_, fun x hx => ?_, by simp [h3]⟩
    · simp only [List.map_cons, h1, frzB, Bk.av, g1]
    · rcases List.mem_cons.1 hx with rfl | hx
      · exact ⟨by have := congrArg List.length g1; rw [List.length_map] at this; simp only; omega, g3, g2⟩
      · exact h2 x hx

theorem low_bk (l : List Nd) (h : Nd.szL l ≤ 2 ^ 30) : ∃ B : List Bk, (lowRes l).1.map frzB = B.map Bk.av ∧ (∀ x, x ∈ B → x.ok) ∧ B.length ≤ 200 := by
  have h0 := lowL_bki l lowS0 h (fun b hb => by simp only [lowS0, List.mem_singleton] at hb; subst hb; exact bki_nil)
  unfold lowRes
  split
  · exact ⟨[], rfl, fun _ h => (by cases h), by simp⟩
  · split
    · exact ⟨[], rfl, fun _ h => (by cases h), by simp⟩
    · split
      · exact ⟨[], rfl, fun _ h => (by cases h), by simp⟩
      · rename_i hb
        obtain ⟨B, h1, h2, h3⟩ := bki_list (lowL l lowS0).2.bl fun b hb' => ⟨h0 b hb', by
          have : ¬ 400 < b.code.length := fun h => hb (.inr ⟨b, hb', h⟩)
          omega⟩
        exact ⟨B, h1, h2, by rw [h3]; have : ¬ 200 < (lowL l lowS0).2.bl.length := fun h => hb (.inl h); omega⟩
end Go.Low

/- Chapter 10: LowerMatchesReference. -/
set_option linter.unusedSimpArgs false
set_option linter.unusedVariables false
set_option maxHeartbeats 4000000
set_option maxRecDepth 100000
namespace Go.Proofs.Ytdheeecpkkjfiaa
open Go.Am Go.Proofs Go.Low
attribute [local irreducible] AW CallP CallB

theorem few_sz' {l : List Nd} (h : sizeL l 1000 > 0) : 4 * szL l ≤ 399999 := by
  have := sizeL_szL l 1000 h
  omega

theorem match_pc (ts : List Ty) (l : List Nd) (h : Nd.szL l ≤ 2 ^ 30) : PCall Try.prog 3 [.agg [.sl (Ty.avL ts), .sl (Nd.avL l)]] (.bool true) := by
  refine PCall.intro Try.func3 rfl isf3 (by simp [Try.f3]) (by simp [AV.cloL, AV.clo]) fun E Q hE hN hQ => K_start ?_
  by_cases hf : sizeL l 1000 > 0
  · have hd := decide_eq_true hf
    obtain ⟨B, h1, h2, h3⟩ := low_bk l h
    have c1 := lower_call ts l h (few_sz' hf)
    have c2 := rlower_call ts l h (few_sz' hf)
    rw [← low_ref] at c2
    unfold resAV at c1 c2
    rw [h1] at c1 c2
    generalize (lowRes l).2 = e at *
    repeat' (first | refine K_seq ?_ | refine K_blk ?_ | refine AW_skip ?_ | refine AW_exit ?_ | refine Kq_exit_code ?_ | refine Kq_exit_lp ?_ | refine Kq_exit_blk ?_ | refine Kq_exit_ne (by decide) ?_ | refine Kq_norm_code ?_ | refine Kq_norm_blk ?_ | refine Kq_norm_lp ?_ | rw [wrap64 (by omega) (by omega)] | (refine hK _ ?_; clear hK hKp K Kp; (try clear hanc anc)) | (refine hKp _ _ ?_; clear hK hKp K Kp; (try clear hanc anc)) | ((with_reducible refine And.intro ?_ ?_); (focus (first | trivial | omega | (simp only [Fits]; omega) | (refine ⟨?_, ?_⟩ <;> (simp only [Fits]; omega)) | assumption | (rw [hanc]; rfl)))) | ((first | refine K_regA hE fun K Kp hK hKp => ?_ | refine K_drwA false mixed hE fun K Kp hK hKp anc hanc => ?_ | ((first | apply CallP_mk | apply CallB_mk); (focus (simp only [go_sem]; rfl)); (focus (first | exact head_pc | exact few_call ts l h | exact c1 | exact c2 | exact sameBlocks_refl B h2 (by omega))); (focus (simp [go_sem])); (focus (first | exact .inl rfl | (right; simp [go_sem]))))); simp only [go_sem, ↓reduceIte, reduceCtorEq, Nat.reduceAdd, Nat.reduceMul, Nat.reduceEqDiff, Nat.reduceLT, Nat.reduceLeDiff, Nat.reduceSub, Nat.reduceDiv, Nat.reducePow, Nat.reduceBEq, Int.reduceBEq, Int.reduceBNe, Int.reduceLT, Int.reduceLE, Int.reduceEq, hd]) | ((first | refine onG_split_t (fun hg => ?_) (fun hg => ?_) | refine onG_split_f (fun hg => ?_) (fun hg => ?_)) <;> simp only [go_sem, ↓reduceIte, reduceCtorEq, Nat.reduceAdd, Nat.reduceMul, Nat.reduceEqDiff, Nat.reduceLT, Nat.reduceLeDiff, Nat.reduceSub, Nat.reduceDiv, Nat.reducePow, Nat.reduceBEq, Int.reduceBEq, Int.reduceBNe, Int.reduceLT, Int.reduceLE, Int.reduceEq, hd, hg]) | (refine K_condA (fun hc => ?_) (fun hc => ?_) <;> try (exact absurd hc (by decide))) | (refine K_ret ?_; refine (hQ _ ⟨_, by (try simp only [go_sem, ↓reduceIte, Nat.reduceEqDiff]); rfl, by simp [go_sem], ?_, by first | rfl | assumption⟩).1))
    all_goals rfl
  · have hd := decide_eq_false hf
    repeat' (first | refine K_seq ?_ | refine K_blk ?_ | refine AW_skip ?_ | refine AW_exit ?_ | refine Kq_exit_code ?_ | refine Kq_exit_lp ?_ | refine Kq_exit_blk ?_ | refine Kq_exit_ne (by decide) ?_ | refine Kq_norm_code ?_ | refine Kq_norm_blk ?_ | refine Kq_norm_lp ?_ | rw [wrap64 (by omega) (by omega)] | (refine hK _ ?_; clear hK hKp K Kp; (try clear hanc anc)) | (refine hKp _ _ ?_; clear hK hKp K Kp; (try clear hanc anc)) | ((with_reducible refine And.intro ?_ ?_); (focus (first | trivial | omega | (simp only [Fits]; omega) | (refine ⟨?_, ?_⟩ <;> (simp only [Fits]; omega)) | assumption | (rw [hanc]; rfl)))) | ((first | refine K_regA hE fun K Kp hK hKp => ?_ | refine K_drwA false mixed hE fun K Kp hK hKp anc hanc => ?_ | ((first | apply CallP_mk | apply CallB_mk); (focus (simp only [go_sem]; rfl)); (focus (first | exact head_pc | exact few_call ts l h)); (focus (simp [go_sem])); (focus (first | exact .inl rfl | (right; simp [go_sem]))))); simp only [go_sem, ↓reduceIte, reduceCtorEq, Nat.reduceAdd, Nat.reduceMul, Nat.reduceEqDiff, Nat.reduceLT, Nat.reduceLeDiff, Nat.reduceSub, Nat.reduceDiv, Nat.reducePow, Nat.reduceBEq, Int.reduceBEq, Int.reduceBNe, Int.reduceLT, Int.reduceLE, Int.reduceEq, hd]) | ((first | refine onG_split_t (fun hg => ?_) (fun hg => ?_) | refine onG_split_f (fun hg => ?_) (fun hg => ?_)) <;> simp only [go_sem, ↓reduceIte, reduceCtorEq, Nat.reduceAdd, Nat.reduceMul, Nat.reduceEqDiff, Nat.reduceLT, Nat.reduceLeDiff, Nat.reduceSub, Nat.reduceDiv, Nat.reducePow, Nat.reduceBEq, Int.reduceBEq, Int.reduceBNe, Int.reduceLT, Int.reduceLE, Int.reduceEq, hd, hg]) | (refine K_condA (fun hc => ?_) (fun hc => ?_) <;> try (exact absurd hc (by decide))) | (refine K_ret ?_; refine (hQ _ ⟨_, by (try simp only [go_sem, ↓reduceIte, Nat.reduceEqDiff]); rfl, by simp [go_sem], ?_, by first | rfl | assumption⟩).1))
    rfl

theorem lowerMatchesReference_pcall {H : Type} {d : DataW H} (h : DT Try.prog 25 d) (hb : bulk d ≤ 1048576) : PCall Try.prog 3 [avD d] (.bool true) := by
  obtain ⟨ts, l, h1, h2, h3⟩ := opn_typed h
  rw [h1]
  exact match_pc ts l (by omega)
end Go.Proofs.Ytdheeecpkkjfiaa

