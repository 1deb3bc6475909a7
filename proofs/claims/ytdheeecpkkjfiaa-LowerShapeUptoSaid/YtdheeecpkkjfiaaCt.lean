/- A part of the proof: an abstract machine for the walks, and what the walked functions compute. -/
import Derived.Test.YtdheeecpkkjfiaaCr
import Derived.Test.YtdheeecpkkjfiaaCqa
import Derived.Test.YtdheeecpkkjfiaaCb
import Derived.Test.YtdheeecpkkjfiaaCn
set_option linter.unusedVariables false
set_option linter.unusedSimpArgs false
/- Chapter 10: reached. -/
set_option linter.unusedSimpArgs false
set_option linter.unusedVariables false
set_option maxHeartbeats 4000000
set_option maxRecDepth 100000
namespace Go.Low
open Go Go.Am Go.Proofs.Ytdheeecpkkjfiaa
def remS : List Bk → List Bool → Nat
  | x :: B, u :: U => (if u then 0 else x.tg.length) + remS B U
  | _, _ => 0
theorem remS_set : ∀ {B : List Bk} {U : List Bool} {v : Nat} {x : Bk}, B[v]? = some x → U[v]? = some false → remS B (U.set v true) + x.tg.length = remS B U
  | [], _, _, _, h, _ => by simp at h
  | _ :: _, [], _, _, _, h => by simp at h
  | y :: B, u :: U, 0, x, h1, h2 => by
    simp only [List.getElem?_cons_zero, Option.some.injEq] at h1 h2
    subst h1 h2
    simp [remS, List.set_cons_zero]
    omega
  | y :: B, u :: U, v + 1, x, h1, h2 => by
    simp only [List.getElem?_cons_succ] at h1 h2
    have := remS_set h1 h2
    rw [List.set_cons_succ, remS, remS]
    omega
theorem remS_le {M : Nat} : ∀ {B : List Bk} {U : List Bool}, (∀ x, x ∈ B → x.tg.length ≤ M) → remS B U ≤ B.length * M
  | [], _, _ => by simp [remS]
  | _ :: _, [], _ => by simp [remS]
  | x :: B, u :: U, h => by
    have h1 := remS_le (B := B) (U := U) fun y hy => h y (List.mem_cons_of_mem _ hy)
    have h2 := h x (by simp)
    rw [remS, List.length_cons, Nat.succ_mul]
    split <;> omega
end Go.Low
namespace Go.Proofs.Ytdheeecpkkjfiaa
open Go.Am Go.Proofs Go.Low
attribute [local irreducible] AW CallP CallB

theorem reached_call {B : List Bk} {n : Nat} (hp : BOk B n) (hok : ∀ x, x ∈ B → x.ok) (hl : B.length ≤ 200) : PCall Try.prog 17 [.sl (B.map Bk.av)] (.sl (bl (List.replicate B.length true))) := by
  have hpos := hp.pos
  have q0 : decide (0 < (B.length : Int)) = true := by simp; omega
  refine PCall.intro Try.func17 rfl isf17 (by simp [Try.f17]) (by simp [AV.cloL, AV.clo]) fun E Q hE hN hQ => K_start ?_
  repeat' (first | refine K_seq ?_ | refine K_blk ?_ | refine AW_skip ?_ | refine AW_exit ?_ | refine Kq_exit_code ?_ | refine Kq_exit_lp ?_ | refine Kq_exit_blk ?_ | refine Kq_exit_ne (by decide) ?_ | refine Kq_norm_code ?_ | refine Kq_norm_blk ?_ | refine Kq_norm_lp ?_ | rw [wrap64 (by omega) (by omega)] | (refine hK _ ?_; clear hK hKp K Kp; (try clear hanc anc)) | (refine hKp _ _ ?_; clear hK hKp K Kp; (try clear hanc anc)) | ((with_reducible refine And.intro ?_ ?_); (focus (first | trivial | omega | (simp only [Fits]; omega) | (refine ⟨?_, ?_⟩ <;> (simp only [Fits]; omega)) | assumption | (rw [hanc]; rfl)))) | ((first | refine K_regA hE fun K Kp hK hKp => ?_ | refine K_drwA false mixed hE fun K Kp hK hKp anc hanc => ?_); simp only [go_sem, ↓reduceIte, reduceCtorEq, Nat.reduceAdd, Nat.reduceMul, Nat.reduceEqDiff, Nat.reduceLT, Nat.reduceLeDiff, Nat.reduceSub, Nat.reduceDiv, Nat.reducePow, Nat.reduceBEq, Int.reduceBEq, Int.reduceBNe, Int.reduceLT, Int.reduceLE, Int.reduceEq, q0]) | ((first | refine onG_split_t (fun hg => ?_) (fun hg => ?_) | refine onG_split_f (fun hg => ?_) (fun hg => ?_)) <;> simp only [go_sem, ↓reduceIte, reduceCtorEq, Nat.reduceAdd, Nat.reduceMul, Nat.reduceEqDiff, Nat.reduceLT, Nat.reduceLeDiff, Nat.reduceSub, Nat.reduceDiv, Nat.reducePow, Nat.reduceBEq, Int.reduceBEq, Int.reduceBNe, Int.reduceLT, Int.reduceLE, Int.reduceEq, q0, hg]) | (refine K_condA (fun hc => ?_) (fun hc => ?_) <;> try (exact absurd hc (by decide))) | (refine K_ret ?_; refine (hQ _ ⟨_, by (try simp only [go_sem, ↓reduceIte, Nat.reduceEqDiff]); rfl, by simp [go_sem], ?_, by first | rfl | assumption⟩).1))
  refine K_loop (X := Nat × List Bool × List Int) (fun x => x.1 ≤ x.2.2.length ∧ x.2.1.length = B.length ∧ x.2.2.length + remS B x.2.1 ≤ 1 + B.length * 2 ^ 30 ∧ x.2.2[0]? = some 0 ∧ (∀ t, t ∈ x.2.2 → 0 ≤ t ∧ t < B.length) ∧ (∀ (j : Nat) t, j < x.1 → x.2.2[j]? = some t → x.2.1[t.toNat]? = some true) ∧ (∀ (v : Nat) y t, x.2.1[v]? = some true → B[v]? = some y → t ∈ y.tg → t ∈ x.2.2)) (fun x => mkSt [(0, .sl (B.map Bk.av)), (3, .rw 0), (4, .rw 1), (5, AV.i x.1)] [(0, .row 1 (bl x.2.1)), (1, .row 1 (il x.2.2))] 2) (fun x => remS B x.2.1 + (x.2.2.length - x.1)) (0, List.replicate B.length false, [0]) ⟨Nat.zero_le _, by simp, ?_, rfl, ?_, ?_, ?_⟩ (fun i => if i = 0 then 3145728 else 11534336) (by refine ent_mk (by simp [go_sem, il, List.map_cons, List.map_nil]) (by simp [go_sem, il, List.map_cons, List.map_nil]) (by simp) (by simp [hN])) ?_
  · have := remS_le (B := B) (U := List.replicate B.length false) (fun x hx => (hok x hx).2.1)
    simp only [List.length_cons, List.length_nil]; omega
  · intro t ht
    rw [List.mem_singleton.1 ht]
    omega
  · intro j t hj
    exact absurd hj (Nat.not_lt_zero _)
  · intro v y t hv
    rw [List.getElem?_replicate] at hv
    split at hv <;> cases hv
  rintro ⟨i, U, W⟩ ⟨hi, hU, hr, h0, hin, hdn, hcl⟩
  simp only at hi hU hr h0 hin hdn hcl
  by_cases hlt : i < W.length
  · obtain ⟨t, ht⟩ := get?_of hlt
    obtain ⟨t1, t2⟩ := hin t (List.mem_of_getElem? ht)
    obtain ⟨v, rfl⟩ := Int.eq_ofNat_of_zero_le t1
    obtain ⟨u, hu⟩ := get?_of (show v < U.length by omega)
    obtain ⟨y, hy⟩ := get?_of (show v < B.length by omega)
    have p1 : decide ((v : Int) < 0) = false := by simp
    have p2 : decide ((B.length : Int) ≤ (v : Int)) = false := by simp; omega
    cases u
    · have hr2 := remS_set hy hu
      have hyl : y.tg.length ≤ 2 ^ 30 := (hok y (List.mem_of_getElem? hy)).2.1
      repeat' (first | refine K_seq ?_ | refine K_blk ?_ | refine AW_skip ?_ | refine AW_exit ?_ | refine Kq_exit_code ?_ | refine Kq_exit_lp ?_ | refine Kq_exit_blk ?_ | refine Kq_exit_ne (by decide) ?_ | refine Kq_norm_code ?_ | refine Kq_norm_blk ?_ | refine Kq_norm_lp ?_ | rw [wrap64 (by omega) (by omega)] | (refine hK _ ?_; clear hK hKp K Kp; (try clear hanc anc)) | (refine hKp _ _ ?_; clear hK hKp K Kp; (try clear hanc anc)) | ((with_reducible refine And.intro ?_ ?_); (focus (first | trivial | omega | (simp only [Fits]; omega) | (refine ⟨?_, ?_⟩ <;> (simp only [Fits]; omega)) | assumption | (rw [hanc]; rfl)))) | ((first | refine K_regA hE fun K Kp hK hKp => ?_ | refine K_drwA false mixed hE fun K Kp hK hKp anc hanc => ?_); simp only [go_sem, ↓reduceIte, reduceCtorEq, Nat.reduceAdd, Nat.reduceMul, Nat.reduceEqDiff, Nat.reduceLT, Nat.reduceLeDiff, Nat.reduceSub, Nat.reduceDiv, Nat.reducePow, Nat.reduceBEq, Int.reduceBEq, Int.reduceBNe, Int.reduceLT, Int.reduceLE, Int.reduceEq, lt_dec hlt, ht, hu, hy, Bk.av, p1, p2]) | ((first | refine onG_split_t (fun hg => ?_) (fun hg => ?_) | refine onG_split_f (fun hg => ?_) (fun hg => ?_)) <;> simp only [go_sem, ↓reduceIte, reduceCtorEq, Nat.reduceAdd, Nat.reduceMul, Nat.reduceEqDiff, Nat.reduceLT, Nat.reduceLeDiff, Nat.reduceSub, Nat.reduceDiv, Nat.reducePow, Nat.reduceBEq, Int.reduceBEq, Int.reduceBNe, Int.reduceLT, Int.reduceLE, Int.reduceEq, lt_dec hlt, ht, hu, hy, Bk.av, p1, p2, hg]) | (refine K_condA (fun hc => ?_) (fun hc => ?_) <;> try (exact absurd hc (by decide))) | (refine K_ret ?_; refine (hQ _ ⟨_, by (try simp only [go_sem, ↓reduceIte, Nat.reduceEqDiff]); rfl, by simp [go_sem], ?_, by first | rfl | assumption⟩).1))
      refine ⟨⟨szok_int _, (by simp only [Fits]; omega)⟩, ?_⟩
      repeat' (first | refine K_seq ?_ | refine K_blk ?_ | refine AW_skip ?_ | refine AW_exit ?_ | refine Kq_exit_code ?_ | refine Kq_exit_lp ?_ | refine Kq_exit_blk ?_ | refine Kq_exit_ne (by decide) ?_ | refine Kq_norm_code ?_ | refine Kq_norm_blk ?_ | refine Kq_norm_lp ?_ | rw [wrap64 (by omega) (by omega)] | (refine hK _ ?_; clear hK hKp K Kp; (try clear hanc anc)) | (refine hKp _ _ ?_; clear hK hKp K Kp; (try clear hanc anc)) | ((with_reducible refine And.intro ?_ ?_); (focus (first | trivial | omega | (simp only [Fits]; omega) | (refine ⟨?_, ?_⟩ <;> (simp only [Fits]; omega)) | assumption | (rw [hanc]; rfl)))) | ((first | refine K_regA hE fun K Kp hK hKp => ?_ | refine K_drwA false mixed hE fun K Kp hK hKp anc hanc => ?_); simp only [go_sem, ↓reduceIte, reduceCtorEq, Nat.reduceAdd, Nat.reduceMul, Nat.reduceEqDiff, Nat.reduceLT, Nat.reduceLeDiff, Nat.reduceSub, Nat.reduceDiv, Nat.reducePow, Nat.reduceBEq, Int.reduceBEq, Int.reduceBNe, Int.reduceLT, Int.reduceLE, Int.reduceEq]) | ((first | refine onG_split_t (fun hg => ?_) (fun hg => ?_) | refine onG_split_f (fun hg => ?_) (fun hg => ?_)) <;> simp only [go_sem, ↓reduceIte, reduceCtorEq, Nat.reduceAdd, Nat.reduceMul, Nat.reduceEqDiff, Nat.reduceLT, Nat.reduceLeDiff, Nat.reduceSub, Nat.reduceDiv, Nat.reducePow, Nat.reduceBEq, Int.reduceBEq, Int.reduceBNe, Int.reduceLT, Int.reduceLE, Int.reduceEq, hg]) | (refine K_condA (fun hc => ?_) (fun hc => ?_) <;> try (exact absurd hc (by decide))) | (refine K_ret ?_; refine (hQ _ ⟨_, by (try simp only [go_sem, ↓reduceIte, Nat.reduceEqDiff]); rfl, by simp [go_sem], ?_, by first | rfl | assumption⟩).1))
      have hvl : v < U.length := (List.getElem?_eq_some_iff.1 hu).1
      have hself : (U.set v true)[v]? = some true := by rw [List.getElem?_set_self hvl]
      have hkeep : ∀ m : Nat, U[m]? = some true → (U.set v true)[m]? = some true := fun m hm => by
        by_cases e : v = m
        · subst e; exact hself
        · rw [List.getElem?_set_ne e, hm]
      refine ⟨(i + 1, U.set v true, W ++ y.tg), ⟨by simp only [List.length_append]; omega, by simpa using hU, by simp only [List.length_append]; omega, ?_, fun t ht' => ?_, fun j t hj hjt => ?_, fun m z t hm hz htz => ?_⟩, by simp only [List.length_append]; omega, fun i => if i = 0 then 0 else 35651586, by refine ent_mk (by simp [go_sem]) (by simp [go_sem]) (by simp) (by simp [hN])⟩
      · rw [List.getElem?_append_left (by omega), h0]
      · rcases List.mem_append.1 ht' with h | h
        · exact hin t h
        · have := (hp.good v y hy).2 t h
          omega
      · rw [List.getElem?_append_left (by simp only at hj; omega)] at hjt
        by_cases hji : j < i
        · exact hkeep _ (hdn j t hji hjt)
        · have : j = i := by simp only at hj; omega
          subst this
          rw [ht] at hjt
          cases hjt
          exact hself
      · by_cases e : v = m
        · subst e
          rw [hy] at hz
          cases hz
          exact List.mem_append.2 (.inr htz)
        · rw [List.getElem?_set_ne e] at hm
          exact List.mem_append.2 (.inl (hcl m z t hm hz htz))
    · repeat' (first | refine K_seq ?_ | refine K_blk ?_ | refine AW_skip ?_ | refine AW_exit ?_ | refine Kq_exit_code ?_ | refine Kq_exit_lp ?_ | refine Kq_exit_blk ?_ | refine Kq_exit_ne (by decide) ?_ | refine Kq_norm_code ?_ | refine Kq_norm_blk ?_ | refine Kq_norm_lp ?_ | rw [wrap64 (by omega) (by omega)] | (refine hK _ ?_; clear hK hKp K Kp; (try clear hanc anc)) | (refine hKp _ _ ?_; clear hK hKp K Kp; (try clear hanc anc)) | ((with_reducible refine And.intro ?_ ?_); (focus (first | trivial | omega | (simp only [Fits]; omega) | (refine ⟨?_, ?_⟩ <;> (simp only [Fits]; omega)) | assumption | (rw [hanc]; rfl)))) | ((first | refine K_regA hE fun K Kp hK hKp => ?_ | refine K_drwA false mixed hE fun K Kp hK hKp anc hanc => ?_); simp only [go_sem, ↓reduceIte, reduceCtorEq, Nat.reduceAdd, Nat.reduceMul, Nat.reduceEqDiff, Nat.reduceLT, Nat.reduceLeDiff, Nat.reduceSub, Nat.reduceDiv, Nat.reducePow, Nat.reduceBEq, Int.reduceBEq, Int.reduceBNe, Int.reduceLT, Int.reduceLE, Int.reduceEq, lt_dec hlt, ht, hu, p1, p2]) | ((first | refine onG_split_t (fun hg => ?_) (fun hg => ?_) | refine onG_split_f (fun hg => ?_) (fun hg => ?_)) <;> simp only [go_sem, ↓reduceIte, reduceCtorEq, Nat.reduceAdd, Nat.reduceMul, Nat.reduceEqDiff, Nat.reduceLT, Nat.reduceLeDiff, Nat.reduceSub, Nat.reduceDiv, Nat.reducePow, Nat.reduceBEq, Int.reduceBEq, Int.reduceBNe, Int.reduceLT, Int.reduceLE, Int.reduceEq, lt_dec hlt, ht, hu, p1, p2, hg]) | (refine K_condA (fun hc => ?_) (fun hc => ?_) <;> try (exact absurd hc (by decide))) | (refine K_ret ?_; refine (hQ _ ⟨_, by (try simp only [go_sem, ↓reduceIte, Nat.reduceEqDiff]); rfl, by simp [go_sem], ?_, by first | rfl | assumption⟩).1))
      refine ⟨(i + 1, U, W), ⟨by simp only; omega, hU, hr, h0, hin, fun j t hj hjt => ?_, hcl⟩, by simp only; omega, fun i => i, by refine ent_mk (by simp [go_sem]) (by simp [go_sem]) (by simp) (by simp [hN])⟩
      by_cases hji : j < i
      · exact hdn j t hji hjt
      · have : j = i := by simp only at hj; omega
        subst this
        rw [ht] at hjt
        cases hjt
        exact hu
  · have hlt0 : 0 < W.length := (List.getElem?_eq_some_iff.1 h0).1
    obtain rfl : i = W.length := by omega
    have hall : U = List.replicate B.length true := by
      have hS := hp.reach (fun v => U[v]? = some true) (hdn 0 0 hlt0 h0) (fun j x t hj htg hs => by
        have hm := hcl j x t hs hj htg
        obtain ⟨k, hk⟩ := List.getElem?_of_mem hm
        exact hdn k t (List.getElem?_eq_some_iff.1 hk).1 hk)
      refine List.ext_getElem? fun j => ?_
      rw [List.getElem?_replicate]
      split
      · rename_i hj; exact hS j hj
      · exact List.getElem?_eq_none (by omega)
    repeat' (first | refine K_seq ?_ | refine K_blk ?_ | refine AW_skip ?_ | refine AW_exit ?_ | refine Kq_exit_code ?_ | refine Kq_exit_lp ?_ | refine Kq_exit_blk ?_ | refine Kq_exit_ne (by decide) ?_ | refine Kq_norm_code ?_ | refine Kq_norm_blk ?_ | refine Kq_norm_lp ?_ | rw [wrap64 (by omega) (by omega)] | (refine hK _ ?_; clear hK hKp K Kp; (try clear hanc anc)) | (refine hKp _ _ ?_; clear hK hKp K Kp; (try clear hanc anc)) | ((with_reducible refine And.intro ?_ ?_); (focus (first | trivial | omega | (simp only [Fits]; omega) | (refine ⟨?_, ?_⟩ <;> (simp only [Fits]; omega)) | assumption | (rw [hanc]; rfl)))) | ((first | refine K_regA hE fun K Kp hK hKp => ?_ | refine K_drwA true mixed hE fun K Kp hK hKp anc hanc => ?_ | refine K_drwA false mixed hE fun K Kp hK hKp anc hanc => ?_); simp only [go_sem, ↓reduceIte, reduceCtorEq, Nat.reduceAdd, Nat.reduceMul, Nat.reduceEqDiff, Nat.reduceLT, Nat.reduceLeDiff, Nat.reduceSub, Nat.reduceDiv, Nat.reducePow, Nat.reduceBEq, Int.reduceBEq, Int.reduceBNe, Int.reduceLT, Int.reduceLE, Int.reduceEq, ge_dec]) | ((first | refine onG_split_t (fun hg => ?_) (fun hg => ?_) | refine onG_split_f (fun hg => ?_) (fun hg => ?_)) <;> simp only [go_sem, ↓reduceIte, reduceCtorEq, Nat.reduceAdd, Nat.reduceMul, Nat.reduceEqDiff, Nat.reduceLT, Nat.reduceLeDiff, Nat.reduceSub, Nat.reduceDiv, Nat.reducePow, Nat.reduceBEq, Int.reduceBEq, Int.reduceBNe, Int.reduceLT, Int.reduceLE, Int.reduceEq, ge_dec, hg]) | (refine K_condA (fun hc => ?_) (fun hc => ?_) <;> try (exact absurd hc (by decide))))
    refine K_ret (hQ _ ⟨.rw 0, resA_tmp (by simp only [go_sem, ↓reduceIte, reduceCtorEq, Nat.reduceAdd, Nat.reduceMul, Nat.reduceEqDiff, Nat.reduceLT, Nat.reduceLeDiff, Nat.reduceSub, Nat.reduceDiv, Nat.reducePow, Nat.reduceBEq, Int.reduceBEq, Int.reduceBNe, Int.reduceLT, Int.reduceLE, Int.reduceEq]), ?_, ?_, ?_⟩).1
    · simp only [go_sem, AV.snapOk, ↓reduceIte, Nat.reduceEqDiff]
      exact clo_bl _
    · simp [go_sem, AV.snap, hall]
    · simp only [AV.clo, bl_clo]
end Go.Proofs.Ytdheeecpkkjfiaa


/- Chapter 10: LowerShape. -/
set_option linter.unusedSimpArgs false
set_option linter.unusedVariables false
set_option maxHeartbeats 4000000
set_option maxRecDepth 100000
namespace Go.Low
open Go Go.Am
theorem bcnt_le {M : Nat} {p : Nat → Int → Bool} : ∀ {B : List Bk} {k : Nat}, (∀ x, x ∈ B → x.tg.length ≤ M) → bcnt p k B ≤ B.length * M
  | [], _, _ => by simp [bcnt]
  | x :: B, k, h => by
    have h1 := bcnt_le (p := p) (B := B) (k := k + 1) fun y hy => h y (List.mem_cons_of_mem _ hy)
    have h2 := h x (by simp)
    have h3 := List.countP_le_length (p := p k) (l := x.tg)
    rw [bcnt, List.length_cons, Nat.succ_mul]
    omega
end Go.Low
namespace Go.Proofs.Ytdheeecpkkjfiaa
open Go.Am Go.Proofs Go.Low
attribute [local irreducible] AW CallP CallB

theorem few_sz4 {l : List Nd} (h : sizeL l 1000 > 0) : 4 * szL l ≤ 399999 := by
  have := sizeL_szL l 1000 h
  omega

theorem shape_pc (ts : List Ty) (l : List Nd) (h : Nd.szL l ≤ 2 ^ 30) : PCall Try.prog 5 [.agg [.sl (Ty.avL ts), .sl (Nd.avL l)]] (.bool true) := by
  refine PCall.intro Try.func5 rfl isf5 (by simp [Try.f5]) (by simp [AV.cloL, AV.clo]) fun E Q hE hN hQ => K_start ?_
  by_cases hf : sizeL l 1000 > 0
  · have hd := decide_eq_true hf
    obtain ⟨B, h1, h2, h3⟩ := low_bk l h
    have c1 := lower_call ts l h (few_sz4 hf)
    unfold resAV at c1
    rw [h1] at c1
    have hp := low_bok h1
    generalize (lowRes l).2 = e at *
    generalize loopsL l = L at *
    by_cases he : e = 0
    · subst he
      have hp := hp rfl
      have hpos := hp.pos
      have q0 : decide (0 < (B.length : Int)) = true := by simp; omega
      have c2 := reached_call hp h2 h3
      have hmax : ∀ t : Nat, bcnt (eqT t) 0 B ≤ B.length * 2 ^ 30 := fun t => bcnt_le fun x hx => (h2 x hx).2.1
      repeat' (first | refine K_seq ?_ | refine K_blk ?_ | refine AW_skip ?_ | refine AW_exit ?_ | refine Kq_exit_code ?_ | refine Kq_exit_lp ?_ | refine Kq_exit_blk ?_ | refine Kq_exit_ne (by decide) ?_ | refine Kq_norm_code ?_ | refine Kq_norm_blk ?_ | refine Kq_norm_lp ?_ | rw [wrap64 (by omega) (by omega)] | (refine hK _ ?_; clear hK hKp K Kp; (try clear hanc anc)) | (refine hKp _ _ ?_; clear hK hKp K Kp; (try clear hanc anc)) | ((with_reducible refine And.intro ?_ ?_); (focus (first | trivial | omega | (simp only [Fits]; omega) | (refine ⟨?_, ?_⟩ <;> (simp only [Fits]; omega)) | assumption | (rw [hanc]; rfl)))) | ((first | refine K_regA hE fun K Kp hK hKp => ?_ | refine K_drwA false mixed hE fun K Kp hK hKp anc hanc => ?_ | ((first | apply CallP_mk | apply CallB_mk); (focus (simp only [go_sem]; rfl)); (focus (first | exact head_pc | exact few_call ts l h | exact c1)); (focus (simp [go_sem])); (focus (first | exact .inl rfl | (right; simp [go_sem]))))); simp only [go_sem, ↓reduceIte, reduceCtorEq, Nat.reduceAdd, Nat.reduceMul, Nat.reduceEqDiff, Nat.reduceLT, Nat.reduceLeDiff, Nat.reduceSub, Nat.reduceDiv, Nat.reducePow, Nat.reduceBEq, Int.reduceBEq, Int.reduceBNe, Int.reduceLT, Int.reduceLE, Int.reduceEq, hd]) | ((first | refine onG_split_t (fun hg => ?_) (fun hg => ?_) | refine onG_split_f (fun hg => ?_) (fun hg => ?_)) <;> simp only [go_sem, ↓reduceIte, reduceCtorEq, Nat.reduceAdd, Nat.reduceMul, Nat.reduceEqDiff, Nat.reduceLT, Nat.reduceLeDiff, Nat.reduceSub, Nat.reduceDiv, Nat.reducePow, Nat.reduceBEq, Int.reduceBEq, Int.reduceBNe, Int.reduceLT, Int.reduceLE, Int.reduceEq, hd, hg]) | (refine K_condA (fun hc => ?_) (fun hc => ?_) <;> try (exact absurd hc (by decide))) | (refine K_ret ?_; refine (hQ _ ⟨_, by (try simp only [go_sem, ↓reduceIte, Nat.reduceEqDiff]); rfl, by simp [go_sem], ?_, by first | rfl | assumption⟩).1))
      refine K_loop (X := Nat × List Int) (fun x => x.1 ≤ B.length ∧ x.2.length = B.length ∧ ∀ (t : Nat) (d : Int), x.2[t]? = some d → 0 ≤ d ∧ d + (bcnt (eqT t) x.1 (B.drop x.1) : Nat) = (bcnt (eqT t) 0 B : Nat)) (fun x => mkSt [(3, .bool true), (4, .sl (B.map Bk.av)), (6, .rw 0), (7, AV.i x.1)] [(0, .row 1 (il x.2))] 1) (fun x => B.length - x.1) (0, List.replicate B.length 0) ⟨Nat.zero_le _, by simp, ?_⟩ (fun i => 18874368) (by refine ent_mk (by simp [go_sem]) (by simp [go_sem]) (by simp) (by simp [hN])) ?_
      · intro t d ht
        rw [List.getElem?_replicate] at ht
        split at ht
        · cases ht; simp
        · cases ht
      rintro ⟨b, D⟩ ⟨hb, hD, hdc⟩
      simp only at hb hD hdc
      by_cases hlt : b < B.length
      · obtain ⟨x, hx⟩ := get?_of hlt
        obtain ⟨hsh, htg⟩ := hp.good b x hx
        rw [drop_of hx] at hdc
        simp only [bcnt] at hdc
        have hxl : x.tg.length ≤ 2 ^ 30 := (h2 x (List.mem_of_getElem? hx)).2.1
        repeat' (first | refine K_seq ?_ | refine K_blk ?_ | refine AW_skip ?_ | refine AW_exit ?_ | refine Kq_exit_code ?_ | refine Kq_exit_lp ?_ | refine Kq_exit_blk ?_ | refine Kq_exit_ne (by decide) ?_ | refine Kq_norm_code ?_ | refine Kq_norm_blk ?_ | refine Kq_norm_lp ?_ | rw [wrap64 (by omega) (by omega)] | (refine hK _ ?_; clear hK hKp K Kp; (try clear hanc anc)) | (refine hKp _ _ ?_; clear hK hKp K Kp; (try clear hanc anc)) | ((with_reducible refine And.intro ?_ ?_); (focus (first | trivial | omega | (simp only [Fits]; omega) | (refine ⟨?_, ?_⟩ <;> (simp only [Fits]; omega)) | assumption | (rw [hanc]; rfl)))) | ((first | refine K_regA hE fun K Kp hK hKp => ?_ | refine K_drwA false mixed hE fun K Kp hK hKp anc hanc => ?_); simp only [go_sem, ↓reduceIte, reduceCtorEq, Nat.reduceAdd, Nat.reduceMul, Nat.reduceEqDiff, Nat.reduceLT, Nat.reduceLeDiff, Nat.reduceSub, Nat.reduceDiv, Nat.reducePow, Nat.reduceBEq, Int.reduceBEq, Int.reduceBNe, Int.reduceLT, Int.reduceLE, Int.reduceEq, lt_dec hlt, hx, Bk.av]) | ((first | refine onG_split_t (fun hg => ?_) (fun hg => ?_) | refine onG_split_f (fun hg => ?_) (fun hg => ?_)) <;> simp only [go_sem, ↓reduceIte, reduceCtorEq, Nat.reduceAdd, Nat.reduceMul, Nat.reduceEqDiff, Nat.reduceLT, Nat.reduceLeDiff, Nat.reduceSub, Nat.reduceDiv, Nat.reducePow, Nat.reduceBEq, Int.reduceBEq, Int.reduceBNe, Int.reduceLT, Int.reduceLE, Int.reduceEq, lt_dec hlt, hx, Bk.av, hg]) | (refine K_condA (fun hc => ?_) (fun hc => ?_) <;> try (exact absurd hc (by decide))) | (refine K_ret ?_; refine (hQ _ ⟨_, by (try simp only [go_sem, ↓reduceIte, Nat.reduceEqDiff]); rfl, by simp [go_sem], ?_, by first | rfl | assumption⟩).1))
        refine K_loop (X := Nat × List Int) (fun y => y.1 ≤ x.tg.length ∧ y.2.length = B.length ∧ ∀ (t : Nat) (d : Int), y.2[t]? = some d → 0 ≤ d ∧ d + (((x.tg.drop y.1).countP (eqT t b) + bcnt (eqT t) (b + 1) (B.drop (b + 1)) : Nat) : Int) = (bcnt (eqT t) 0 B : Nat)) (fun y => mkSt [(3, .bool true), (4, .sl (B.map Bk.av)), (6, .rw 0), (7, AV.i b), (8, AV.i y.1)] [(0, .row 1 (il y.2))] 1) (fun y => x.tg.length - y.1) (0, D) ⟨Nat.zero_le _, hD, by simpa using hdc⟩ (fun i => 0) (by refine ent_mk (by simp [go_sem]) (by simp [go_sem]) (by simp) (by simp [hN])) ?_
        rintro ⟨k, D2⟩ ⟨hk0, hD2, hkc⟩
        simp only at hk0 hD2 hkc
        by_cases klt : k < x.tg.length
        · obtain ⟨t, ht⟩ := get?_of klt
          obtain ⟨t1, t2, _⟩ := htg t (List.mem_of_getElem? ht)
          rw [drop_of ht] at hkc
          simp only [List.countP_cons] at hkc
          obtain ⟨n, rfl⟩ := Int.eq_ofNat_of_zero_le (show 0 ≤ t by omega)
          obtain ⟨d, hdn⟩ := get?_of (show n < D2.length by omega)
          have p1 : decide ((n : Int) < 1) = false := by simp; omega
          have p2 : decide ((B.length : Int) ≤ (n : Int)) = false := by simp; omega
          have hd0 := hkc n d hdn
          have hm := hmax n
          have e1 : IntKind.i64.wrap (d + 1) = d + 1 := wrap64 (by omega) (by omega)
          repeat' (first | refine K_seq ?_ | refine K_blk ?_ | refine AW_skip ?_ | refine AW_exit ?_ | refine Kq_exit_code ?_ | refine Kq_exit_lp ?_ | refine Kq_exit_blk ?_ | refine Kq_exit_ne (by decide) ?_ | refine Kq_norm_code ?_ | refine Kq_norm_blk ?_ | refine Kq_norm_lp ?_ | rw [wrap64 (by omega) (by omega)] | (refine hK _ ?_; clear hK hKp K Kp; (try clear hanc anc)) | (refine hKp _ _ ?_; clear hK hKp K Kp; (try clear hanc anc)) | ((with_reducible refine And.intro ?_ ?_); (focus (first | trivial | omega | (simp only [Fits]; omega) | (refine ⟨?_, ?_⟩ <;> (simp only [Fits]; omega)) | assumption | (rw [hanc]; rfl)))) | ((first | refine K_regA hE fun K Kp hK hKp => ?_ | refine K_drwA false mixed hE fun K Kp hK hKp anc hanc => ?_); simp only [go_sem, ↓reduceIte, reduceCtorEq, Nat.reduceAdd, Nat.reduceMul, Nat.reduceEqDiff, Nat.reduceLT, Nat.reduceLeDiff, Nat.reduceSub, Nat.reduceDiv, Nat.reducePow, Nat.reduceBEq, Int.reduceBEq, Int.reduceBNe, Int.reduceLT, Int.reduceLE, Int.reduceEq, lt_dec klt, hx, ht, hdn, Bk.av, p1, p2, e1]) | ((first | refine onG_split_t (fun hg => ?_) (fun hg => ?_) | refine onG_split_f (fun hg => ?_) (fun hg => ?_)) <;> simp only [go_sem, ↓reduceIte, reduceCtorEq, Nat.reduceAdd, Nat.reduceMul, Nat.reduceEqDiff, Nat.reduceLT, Nat.reduceLeDiff, Nat.reduceSub, Nat.reduceDiv, Nat.reducePow, Nat.reduceBEq, Int.reduceBEq, Int.reduceBNe, Int.reduceLT, Int.reduceLE, Int.reduceEq, lt_dec klt, hx, ht, hdn, Bk.av, p1, p2, e1, hg]) | (refine K_condA (fun hc => ?_) (fun hc => ?_) <;> try (exact absurd hc (by decide))) | (refine K_ret ?_; refine (hQ _ ⟨_, by (try simp only [go_sem, ↓reduceIte, Nat.reduceEqDiff]); rfl, by simp [go_sem], ?_, by first | rfl | assumption⟩).1))
          refine ⟨(k + 1, D2.set n (d + 1)), ⟨by simp only; omega, by simpa using hD2, fun m c hc0 => ?_⟩, by simp only; omega, fun i => 0, by refine ent_mk (by simp [go_sem]) (by simp [go_sem]) (by simp) (by simp [hN])⟩
          by_cases hmn : n = m
          · subst hmn
            rw [List.getElem?_set_self (by omega)] at hc0
            cases hc0
            rw [if_pos (by simp [eqT])] at hd0
            simp only
            omega
          · rw [List.getElem?_set_ne hmn] at hc0
            have := hkc m c hc0
            rw [if_neg (by simp only [eqT, beq_iff_eq]; omega)] at this
            simp only
            omega
        · obtain rfl : k = x.tg.length := by omega
          rw [List.drop_length] at hkc
          simp only [List.countP_nil, Nat.zero_add] at hkc
          repeat' (first | refine K_seq ?_ | refine K_blk ?_ | refine AW_skip ?_ | refine AW_exit ?_ | refine Kq_exit_code ?_ | refine Kq_exit_lp ?_ | refine Kq_exit_blk ?_ | refine Kq_exit_ne (by decide) ?_ | refine Kq_norm_code ?_ | refine Kq_norm_blk ?_ | refine Kq_norm_lp ?_ | rw [wrap64 (by omega) (by omega)] | (refine hK _ ?_; clear hK hKp K Kp; (try clear hanc anc)) | (refine hKp _ _ ?_; clear hK hKp K Kp; (try clear hanc anc)) | ((with_reducible refine And.intro ?_ ?_); (focus (first | trivial | omega | (simp only [Fits]; omega) | (refine ⟨?_, ?_⟩ <;> (simp only [Fits]; omega)) | assumption | (rw [hanc]; rfl)))) | ((first | refine K_regA hE fun K Kp hK hKp => ?_ | refine K_drwA false mixed hE fun K Kp hK hKp anc hanc => ?_); simp only [go_sem, ↓reduceIte, reduceCtorEq, Nat.reduceAdd, Nat.reduceMul, Nat.reduceEqDiff, Nat.reduceLT, Nat.reduceLeDiff, Nat.reduceSub, Nat.reduceDiv, Nat.reducePow, Nat.reduceBEq, Int.reduceBEq, Int.reduceBNe, Int.reduceLT, Int.reduceLE, Int.reduceEq, ge_dec, hx, Bk.av]) | ((first | refine onG_split_t (fun hg => ?_) (fun hg => ?_) | refine onG_split_f (fun hg => ?_) (fun hg => ?_)) <;> simp only [go_sem, ↓reduceIte, reduceCtorEq, Nat.reduceAdd, Nat.reduceMul, Nat.reduceEqDiff, Nat.reduceLT, Nat.reduceLeDiff, Nat.reduceSub, Nat.reduceDiv, Nat.reducePow, Nat.reduceBEq, Int.reduceBEq, Int.reduceBNe, Int.reduceLT, Int.reduceLE, Int.reduceEq, ge_dec, hx, Bk.av, hg]) | (refine K_condA (fun hc => ?_) (fun hc => ?_) <;> try (exact absurd hc (by decide))) | (refine K_ret ?_; refine (hQ _ ⟨_, by (try simp only [go_sem, ↓reduceIte, Nat.reduceEqDiff]); rfl, by simp [go_sem], ?_, by first | rfl | assumption⟩).1))
          exact ⟨(b + 1, D2), ⟨by simp only; omega, hD2, hkc⟩, by simp only; omega, fun i => 0, by refine ent_mk (by simp [go_sem]) (by simp [go_sem]) (by simp) (by simp [hN])⟩
      · obtain rfl : b = B.length := by omega
        rw [List.drop_length] at hdc
        simp only [bcnt] at hdc
        have hdc : ∀ (t : Nat) (d : Int), D[t]? = some d → d = (bcnt (eqT t) 0 B : Nat) := fun t d h => by have := hdc t d h; omega
        repeat' (first | refine K_seq ?_ | refine K_blk ?_ | refine AW_skip ?_ | refine AW_exit ?_ | refine Kq_exit_code ?_ | refine Kq_exit_lp ?_ | refine Kq_exit_blk ?_ | refine Kq_exit_ne (by decide) ?_ | refine Kq_norm_code ?_ | refine Kq_norm_blk ?_ | refine Kq_norm_lp ?_ | rw [wrap64 (by omega) (by omega)] | (refine hK _ ?_; clear hK hKp K Kp; (try clear hanc anc)) | (refine hKp _ _ ?_; clear hK hKp K Kp; (try clear hanc anc)) | ((with_reducible refine And.intro ?_ ?_); (focus (first | trivial | omega | (simp only [Fits]; omega) | (refine ⟨?_, ?_⟩ <;> (simp only [Fits]; omega)) | assumption | (rw [hanc]; rfl)))) | ((first | refine K_regA hE fun K Kp hK hKp => ?_ | refine K_drwA false mixed hE fun K Kp hK hKp anc hanc => ?_ | ((first | apply CallP_mk | apply CallB_mk); (focus (simp only [go_sem]; rfl)); (focus (exact c2)); (focus (simp [go_sem])); (focus (first | exact .inl rfl | (right; simp [go_sem]))))); simp only [go_sem, ↓reduceIte, reduceCtorEq, Nat.reduceAdd, Nat.reduceMul, Nat.reduceEqDiff, Nat.reduceLT, Nat.reduceLeDiff, Nat.reduceSub, Nat.reduceDiv, Nat.reducePow, Nat.reduceBEq, Int.reduceBEq, Int.reduceBNe, Int.reduceLT, Int.reduceLE, Int.reduceEq, ge_dec]) | ((first | refine onG_split_t (fun hg => ?_) (fun hg => ?_) | refine onG_split_f (fun hg => ?_) (fun hg => ?_)) <;> simp only [go_sem, ↓reduceIte, reduceCtorEq, Nat.reduceAdd, Nat.reduceMul, Nat.reduceEqDiff, Nat.reduceLT, Nat.reduceLeDiff, Nat.reduceSub, Nat.reduceDiv, Nat.reducePow, Nat.reduceBEq, Int.reduceBEq, Int.reduceBNe, Int.reduceLT, Int.reduceLE, Int.reduceEq, ge_dec, hg]) | (refine K_condA (fun hc => ?_) (fun hc => ?_) <;> try (exact absurd hc (by decide))) | (refine K_ret ?_; refine (hQ _ ⟨_, by (try simp only [go_sem, ↓reduceIte, Nat.reduceEqDiff]); rfl, by simp [go_sem], ?_, by first | rfl | assumption⟩).1))
        refine K_loop (X := Nat) (fun b => b ≤ B.length) (fun b => mkSt [(3, .bool true), (4, .sl (B.map Bk.av)), (6, .rw 0), (10, .sl (bl (List.replicate B.length true))), (11, AV.i b)] [(0, .row 1 (il D))] 1) (fun b => B.length - b) 0 (Nat.zero_le _) (fun i => 0) (by refine ent_mk (by simp [go_sem]) (by simp [go_sem]) (by simp) (by simp [hN])) ?_
        intro b hb
        by_cases hlt : b < B.length
        · obtain ⟨x, hx⟩ := get?_of hlt
          obtain ⟨hsh, htg⟩ := hp.good b x hx
          have hxl : x.tg.length ≤ 2 ^ 30 := (h2 x (List.mem_of_getElem? hx)).2.1
          have hrep : (List.replicate B.length true)[b]? = some true := by rw [List.getElem?_replicate, if_pos hlt]
          repeat' (first | refine K_seq ?_ | refine K_blk ?_ | refine AW_skip ?_ | refine AW_exit ?_ | refine Kq_exit_code ?_ | refine Kq_exit_lp ?_ | refine Kq_exit_blk ?_ | refine Kq_exit_ne (by decide) ?_ | refine Kq_norm_code ?_ | refine Kq_norm_blk ?_ | refine Kq_norm_lp ?_ | rw [wrap64 (by omega) (by omega)] | (refine hK _ ?_; clear hK hKp K Kp; (try clear hanc anc)) | (refine hKp _ _ ?_; clear hK hKp K Kp; (try clear hanc anc)) | ((with_reducible refine And.intro ?_ ?_); (focus (first | trivial | omega | (simp only [Fits]; omega) | (refine ⟨?_, ?_⟩ <;> (simp only [Fits]; omega)) | assumption | (rw [hanc]; rfl)))) | ((first | refine K_regA hE fun K Kp hK hKp => ?_ | refine K_drwA false mixed hE fun K Kp hK hKp anc hanc => ?_); simp only [go_sem, ↓reduceIte, reduceCtorEq, Nat.reduceAdd, Nat.reduceMul, Nat.reduceEqDiff, Nat.reduceLT, Nat.reduceLeDiff, Nat.reduceSub, Nat.reduceDiv, Nat.reducePow, Nat.reduceBEq, Int.reduceBEq, Int.reduceBNe, Int.reduceLT, Int.reduceLE, Int.reduceEq, lt_dec hlt, hx, Bk.av, hrep]) | ((first | refine onG_split_t (fun hg => ?_) (fun hg => ?_) | refine onG_split_f (fun hg => ?_) (fun hg => ?_)) <;> simp only [go_sem, ↓reduceIte, reduceCtorEq, Nat.reduceAdd, Nat.reduceMul, Nat.reduceEqDiff, Nat.reduceLT, Nat.reduceLeDiff, Nat.reduceSub, Nat.reduceDiv, Nat.reducePow, Nat.reduceBEq, Int.reduceBEq, Int.reduceBNe, Int.reduceLT, Int.reduceLE, Int.reduceEq, lt_dec hlt, hx, Bk.av, hrep, hg]) | (refine K_condA (fun hc => ?_) (fun hc => ?_) <;> try (exact absurd hc (by decide))) | (refine K_ret ?_; refine (hQ _ ⟨_, by (try simp only [go_sem, ↓reduceIte, Nat.reduceEqDiff]); rfl, by simp [go_sem], ?_, by first | rfl | assumption⟩).1))
          refine K_loop (X := Nat) (fun k => k ≤ x.tg.length) (fun k => mkSt [(3, .bool true), (4, .sl (B.map Bk.av)), (6, .rw 0), (10, .sl (bl (List.replicate B.length true))), (11, AV.i b), (12, AV.i k)] [(0, .row 1 (il D))] 1) (fun k => x.tg.length - k) 0 (Nat.zero_le _) (fun i => 0) (by refine ent_mk (by simp [go_sem]) (by simp [go_sem]) (by simp) (by simp [hN])) ?_
          intro k hk0
          by_cases klt : k < x.tg.length
          · by_cases hk1 : x.kind = 1
            · have p4 : (x.kind != 1) = false := by simp [hk1]
              repeat' (first | refine K_seq ?_ | refine K_blk ?_ | refine AW_skip ?_ | refine AW_exit ?_ | refine Kq_exit_code ?_ | refine Kq_exit_lp ?_ | refine Kq_exit_blk ?_ | refine Kq_exit_ne (by decide) ?_ | refine Kq_norm_code ?_ | refine Kq_norm_blk ?_ | refine Kq_norm_lp ?_ | rw [wrap64 (by omega) (by omega)] | (refine hK _ ?_; clear hK hKp K Kp; (try clear hanc anc)) | (refine hKp _ _ ?_; clear hK hKp K Kp; (try clear hanc anc)) | ((with_reducible refine And.intro ?_ ?_); (focus (first | trivial | omega | (simp only [Fits]; omega) | (refine ⟨?_, ?_⟩ <;> (simp only [Fits]; omega)) | assumption | (rw [hanc]; rfl)))) | ((first | refine K_regA hE fun K Kp hK hKp => ?_ | refine K_drwA false mixed hE fun K Kp hK hKp anc hanc => ?_); simp only [go_sem, ↓reduceIte, reduceCtorEq, Nat.reduceAdd, Nat.reduceMul, Nat.reduceEqDiff, Nat.reduceLT, Nat.reduceLeDiff, Nat.reduceSub, Nat.reduceDiv, Nat.reducePow, Nat.reduceBEq, Int.reduceBEq, Int.reduceBNe, Int.reduceLT, Int.reduceLE, Int.reduceEq, lt_dec klt, hx, Bk.av, p4]) | ((first | refine onG_split_t (fun hg => ?_) (fun hg => ?_) | refine onG_split_f (fun hg => ?_) (fun hg => ?_)) <;> simp only [go_sem, ↓reduceIte, reduceCtorEq, Nat.reduceAdd, Nat.reduceMul, Nat.reduceEqDiff, Nat.reduceLT, Nat.reduceLeDiff, Nat.reduceSub, Nat.reduceDiv, Nat.reducePow, Nat.reduceBEq, Int.reduceBEq, Int.reduceBNe, Int.reduceLT, Int.reduceLE, Int.reduceEq, lt_dec klt, hx, Bk.av, p4, hg]) | (refine K_condA (fun hc => ?_) (fun hc => ?_) <;> try (exact absurd hc (by decide))) | (refine K_ret ?_; refine (hQ _ ⟨_, by (try simp only [go_sem, ↓reduceIte, Nat.reduceEqDiff]); rfl, by simp [go_sem], ?_, by first | rfl | assumption⟩).1))
              exact ⟨b + 1, by omega, by omega, fun i => 0, by refine ent_mk (by simp [go_sem]) (by simp [go_sem]) (by simp) (by simp [hN])⟩
            · have p4 : (x.kind != 1) = true := by simp [hk1]
              obtain ⟨t, ht⟩ := get?_of klt
              have htm := List.mem_of_getElem? ht
              obtain ⟨t1, t2, _⟩ := htg t htm
              have hu := hp.uniq b x t hx hk1 htm
              obtain ⟨n, rfl⟩ := Int.eq_ofNat_of_zero_le (show 0 ≤ t by omega)
              obtain ⟨d, hdn⟩ := get?_of (show n < D.length by omega)
              have hd1 := hdc n d hdn
              rw [hu] at hd1
              replace hd1 : d = 1 := hd1
              subst hd1
              repeat' (first | refine K_seq ?_ | refine K_blk ?_ | refine AW_skip ?_ | refine AW_exit ?_ | refine Kq_exit_code ?_ | refine Kq_exit_lp ?_ | refine Kq_exit_blk ?_ | refine Kq_exit_ne (by decide) ?_ | refine Kq_norm_code ?_ | refine Kq_norm_blk ?_ | refine Kq_norm_lp ?_ | rw [wrap64 (by omega) (by omega)] | (refine hK _ ?_; clear hK hKp K Kp; (try clear hanc anc)) | (refine hKp _ _ ?_; clear hK hKp K Kp; (try clear hanc anc)) | ((with_reducible refine And.intro ?_ ?_); (focus (first | trivial | omega | (simp only [Fits]; omega) | (refine ⟨?_, ?_⟩ <;> (simp only [Fits]; omega)) | assumption | (rw [hanc]; rfl)))) | ((first | refine K_regA hE fun K Kp hK hKp => ?_ | refine K_drwA false mixed hE fun K Kp hK hKp anc hanc => ?_); simp only [go_sem, ↓reduceIte, reduceCtorEq, Nat.reduceAdd, Nat.reduceMul, Nat.reduceEqDiff, Nat.reduceLT, Nat.reduceLeDiff, Nat.reduceSub, Nat.reduceDiv, Nat.reducePow, Nat.reduceBEq, Int.reduceBEq, Int.reduceBNe, Int.reduceLT, Int.reduceLE, Int.reduceEq, lt_dec klt, hx, ht, hdn, Bk.av, p4]) | ((first | refine onG_split_t (fun hg => ?_) (fun hg => ?_) | refine onG_split_f (fun hg => ?_) (fun hg => ?_)) <;> simp only [go_sem, ↓reduceIte, reduceCtorEq, Nat.reduceAdd, Nat.reduceMul, Nat.reduceEqDiff, Nat.reduceLT, Nat.reduceLeDiff, Nat.reduceSub, Nat.reduceDiv, Nat.reducePow, Nat.reduceBEq, Int.reduceBEq, Int.reduceBNe, Int.reduceLT, Int.reduceLE, Int.reduceEq, lt_dec klt, hx, ht, hdn, Bk.av, p4, hg]) | (refine K_condA (fun hc => ?_) (fun hc => ?_) <;> try (exact absurd hc (by decide))) | (refine K_ret ?_; refine (hQ _ ⟨_, by (try simp only [go_sem, ↓reduceIte, Nat.reduceEqDiff]); rfl, by simp [go_sem], ?_, by first | rfl | assumption⟩).1))
              exact ⟨k + 1, by omega, by omega, fun i => 0, by refine ent_mk (by simp [go_sem]) (by simp [go_sem]) (by simp) (by simp [hN])⟩
          · obtain rfl : k = x.tg.length := by omega
            repeat' (first | refine K_seq ?_ | refine K_blk ?_ | refine AW_skip ?_ | refine AW_exit ?_ | refine Kq_exit_code ?_ | refine Kq_exit_lp ?_ | refine Kq_exit_blk ?_ | refine Kq_exit_ne (by decide) ?_ | refine Kq_norm_code ?_ | refine Kq_norm_blk ?_ | refine Kq_norm_lp ?_ | rw [wrap64 (by omega) (by omega)] | (refine hK _ ?_; clear hK hKp K Kp; (try clear hanc anc)) | (refine hKp _ _ ?_; clear hK hKp K Kp; (try clear hanc anc)) | ((with_reducible refine And.intro ?_ ?_); (focus (first | trivial | omega | (simp only [Fits]; omega) | (refine ⟨?_, ?_⟩ <;> (simp only [Fits]; omega)) | assumption | (rw [hanc]; rfl)))) | ((first | refine K_regA hE fun K Kp hK hKp => ?_ | refine K_drwA false mixed hE fun K Kp hK hKp anc hanc => ?_); simp only [go_sem, ↓reduceIte, reduceCtorEq, Nat.reduceAdd, Nat.reduceMul, Nat.reduceEqDiff, Nat.reduceLT, Nat.reduceLeDiff, Nat.reduceSub, Nat.reduceDiv, Nat.reducePow, Nat.reduceBEq, Int.reduceBEq, Int.reduceBNe, Int.reduceLT, Int.reduceLE, Int.reduceEq, ge_dec, hx, Bk.av]) | ((first | refine onG_split_t (fun hg => ?_) (fun hg => ?_) | refine onG_split_f (fun hg => ?_) (fun hg => ?_)) <;> simp only [go_sem, ↓reduceIte, reduceCtorEq, Nat.reduceAdd, Nat.reduceMul, Nat.reduceEqDiff, Nat.reduceLT, Nat.reduceLeDiff, Nat.reduceSub, Nat.reduceDiv, Nat.reducePow, Nat.reduceBEq, Int.reduceBEq, Int.reduceBNe, Int.reduceLT, Int.reduceLE, Int.reduceEq, ge_dec, hx, Bk.av, hg]) | (refine K_condA (fun hc => ?_) (fun hc => ?_) <;> try (exact absurd hc (by decide))) | (refine K_ret ?_; refine (hQ _ ⟨_, by (try simp only [go_sem, ↓reduceIte, Nat.reduceEqDiff]); rfl, by simp [go_sem], ?_, by first | rfl | assumption⟩).1))
            exact ⟨b + 1, by omega, by omega, fun i => 0, by refine ent_mk (by simp [go_sem]) (by simp [go_sem]) (by simp) (by simp [hN])⟩
        · obtain rfl : b = B.length := by omega
          repeat' (first | refine K_seq ?_ | refine K_blk ?_ | refine AW_skip ?_ | refine AW_exit ?_ | refine Kq_exit_code ?_ | refine Kq_exit_lp ?_ | refine Kq_exit_blk ?_ | refine Kq_exit_ne (by decide) ?_ | refine Kq_norm_code ?_ | refine Kq_norm_blk ?_ | refine Kq_norm_lp ?_ | rw [wrap64 (by omega) (by omega)] | (refine hK _ ?_; clear hK hKp K Kp; (try clear hanc anc)) | (refine hKp _ _ ?_; clear hK hKp K Kp; (try clear hanc anc)) | ((with_reducible refine And.intro ?_ ?_); (focus (first | trivial | omega | (simp only [Fits]; omega) | (refine ⟨?_, ?_⟩ <;> (simp only [Fits]; omega)) | assumption | (rw [hanc]; rfl)))) | ((first | refine K_regA hE fun K Kp hK hKp => ?_ | refine K_drwA false mixed hE fun K Kp hK hKp anc hanc => ?_); simp only [go_sem, ↓reduceIte, reduceCtorEq, Nat.reduceAdd, Nat.reduceMul, Nat.reduceEqDiff, Nat.reduceLT, Nat.reduceLeDiff, Nat.reduceSub, Nat.reduceDiv, Nat.reducePow, Nat.reduceBEq, Int.reduceBEq, Int.reduceBNe, Int.reduceLT, Int.reduceLE, Int.reduceEq, ge_dec, q0]) | ((first | refine onG_split_t (fun hg => ?_) (fun hg => ?_) | refine onG_split_f (fun hg => ?_) (fun hg => ?_)) <;> simp only [go_sem, ↓reduceIte, reduceCtorEq, Nat.reduceAdd, Nat.reduceMul, Nat.reduceEqDiff, Nat.reduceLT, Nat.reduceLeDiff, Nat.reduceSub, Nat.reduceDiv, Nat.reducePow, Nat.reduceBEq, Int.reduceBEq, Int.reduceBNe, Int.reduceLT, Int.reduceLE, Int.reduceEq, ge_dec, q0, hg]) | (refine K_condA (fun hc => ?_) (fun hc => ?_) <;> try (exact absurd hc (by decide))) | (refine K_ret ?_; refine (hQ _ ⟨_, by (try simp only [go_sem, ↓reduceIte, Nat.reduceEqDiff]); rfl, by simp [go_sem], ?_, by first | rfl | assumption⟩).1))
          simp [go_sem, AV.snap]
    · repeat' (first | refine K_seq ?_ | refine K_blk ?_ | refine AW_skip ?_ | refine AW_exit ?_ | refine Kq_exit_code ?_ | refine Kq_exit_lp ?_ | refine Kq_exit_blk ?_ | refine Kq_exit_ne (by decide) ?_ | refine Kq_norm_code ?_ | refine Kq_norm_blk ?_ | refine Kq_norm_lp ?_ | rw [wrap64 (by omega) (by omega)] | (refine hK _ ?_; clear hK hKp K Kp; (try clear hanc anc)) | (refine hKp _ _ ?_; clear hK hKp K Kp; (try clear hanc anc)) | ((with_reducible refine And.intro ?_ ?_); (focus (first | trivial | omega | (simp only [Fits]; omega) | (refine ⟨?_, ?_⟩ <;> (simp only [Fits]; omega)) | assumption | (rw [hanc]; rfl)))) | ((first | refine K_regA hE fun K Kp hK hKp => ?_ | refine K_drwA false mixed hE fun K Kp hK hKp anc hanc => ?_ | ((first | apply CallP_mk | apply CallB_mk); (focus (simp only [go_sem]; rfl)); (focus (first | exact head_pc | exact few_call ts l h | exact c1)); (focus (simp [go_sem])); (focus (first | exact .inl rfl | (right; simp [go_sem]))))); simp only [go_sem, ↓reduceIte, reduceCtorEq, Nat.reduceAdd, Nat.reduceMul, Nat.reduceEqDiff, Nat.reduceLT, Nat.reduceLeDiff, Nat.reduceSub, Nat.reduceDiv, Nat.reducePow, Nat.reduceBEq, Int.reduceBEq, Int.reduceBNe, Int.reduceLT, Int.reduceLE, Int.reduceEq, hd]) | ((first | refine onG_split_t (fun hg => ?_) (fun hg => ?_) | refine onG_split_f (fun hg => ?_) (fun hg => ?_)) <;> simp only [go_sem, ↓reduceIte, reduceCtorEq, Nat.reduceAdd, Nat.reduceMul, Nat.reduceEqDiff, Nat.reduceLT, Nat.reduceLeDiff, Nat.reduceSub, Nat.reduceDiv, Nat.reducePow, Nat.reduceBEq, Int.reduceBEq, Int.reduceBNe, Int.reduceLT, Int.reduceLE, Int.reduceEq, hd, hg]) | (refine K_condA (fun hc => ?_) (fun hc => ?_) <;> try (exact absurd hc (by decide))) | (refine K_ret ?_; refine (hQ _ ⟨_, by (try simp only [go_sem, ↓reduceIte, Nat.reduceEqDiff]); rfl, by simp [go_sem], ?_, by first | rfl | assumption⟩).1))
      · simp [go_sem, AV.snap]
      · simp at hc
        exact absurd hc he
  · have hd := decide_eq_false hf
    repeat' (first | refine K_seq ?_ | refine K_blk ?_ | refine AW_skip ?_ | refine AW_exit ?_ | refine Kq_exit_code ?_ | refine Kq_exit_lp ?_ | refine Kq_exit_blk ?_ | refine Kq_exit_ne (by decide) ?_ | refine Kq_norm_code ?_ | refine Kq_norm_blk ?_ | refine Kq_norm_lp ?_ | rw [wrap64 (by omega) (by omega)] | (refine hK _ ?_; clear hK hKp K Kp; (try clear hanc anc)) | (refine hKp _ _ ?_; clear hK hKp K Kp; (try clear hanc anc)) | ((with_reducible refine And.intro ?_ ?_); (focus (first | trivial | omega | (simp only [Fits]; omega) | (refine ⟨?_, ?_⟩ <;> (simp only [Fits]; omega)) | assumption | (rw [hanc]; rfl)))) | ((first | refine K_regA hE fun K Kp hK hKp => ?_ | refine K_drwA false mixed hE fun K Kp hK hKp anc hanc => ?_ | ((first | apply CallP_mk | apply CallB_mk); (focus (simp only [go_sem]; rfl)); (focus (first | exact head_pc | exact few_call ts l h)); (focus (simp [go_sem])); (focus (first | exact .inl rfl | (right; simp [go_sem]))))); simp only [go_sem, ↓reduceIte, reduceCtorEq, Nat.reduceAdd, Nat.reduceMul, Nat.reduceEqDiff, Nat.reduceLT, Nat.reduceLeDiff, Nat.reduceSub, Nat.reduceDiv, Nat.reducePow, Nat.reduceBEq, Int.reduceBEq, Int.reduceBNe, Int.reduceLT, Int.reduceLE, Int.reduceEq, hd]) | ((first | refine onG_split_t (fun hg => ?_) (fun hg => ?_) | refine onG_split_f (fun hg => ?_) (fun hg => ?_)) <;> simp only [go_sem, ↓reduceIte, reduceCtorEq, Nat.reduceAdd, Nat.reduceMul, Nat.reduceEqDiff, Nat.reduceLT, Nat.reduceLeDiff, Nat.reduceSub, Nat.reduceDiv, Nat.reducePow, Nat.reduceBEq, Int.reduceBEq, Int.reduceBNe, Int.reduceLT, Int.reduceLE, Int.reduceEq, hd, hg]) | (refine K_condA (fun hc => ?_) (fun hc => ?_) <;> try (exact absurd hc (by decide))) | (refine K_ret ?_; refine (hQ _ ⟨_, by (try simp only [go_sem, ↓reduceIte, Nat.reduceEqDiff]); rfl, by simp [go_sem], ?_, by first | rfl | assumption⟩).1))
    rfl

theorem lowerShape_pcall {H : Type} {d : DataW H} (h : DT Try.prog 25 d) (hb : bulk d ≤ 1048576) : PCall Try.prog 5 [avD d] (.bool true) := by
  obtain ⟨ts, l, h1, h2, h3⟩ := opn_typed h
  rw [h1]
  exact shape_pc ts l (by omega)
end Go.Proofs.Ytdheeecpkkjfiaa

