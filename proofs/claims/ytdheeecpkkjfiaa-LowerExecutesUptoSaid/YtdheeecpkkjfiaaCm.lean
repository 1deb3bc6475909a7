/- A part of the proof: an abstract machine for the walks, and what the walked functions compute. -/
import Derived.Test.YtdheeecpkkjfiaaCl
import Derived.Test.YtdheeecpkkjfiaaMf
import Derived.Test.YtdheeecpkkjfiaaCk
import Derived.Test.YtdheeecpkkjfiaaCh
import Derived.Test.YtdheeecpkkjfiaaCc
set_option linter.unusedVariables false
set_option linter.unusedSimpArgs false
/- Chapter 10: the deferred function of Lower. -/
set_option linter.unusedSimpArgs false
set_option linter.unusedVariables false
set_option maxHeartbeats 4000000
set_option maxRecDepth 100000
namespace Go.Proofs.Ytdheeecpkkjfiaa
open Nat (reduceAdd reduceMul reduceEqDiff reduceLT reduceLeDiff reduceSub reduceDiv)
open Int (reduceBNe reduceLE reduceEq)
open Go.Am Go.Proofs Go.Low
attribute [local irreducible] AW CallP CallB

theorem rec_none (a b : AV) (ha : a.isTup = false) : DCall Try.prog 27 (ptrs 2) (mkHp [(0, .cells [a]), (1, .cells [b])]) 2 2 none (fun hp' => hp' 0 = some (.cells [a]) ∧ hp' 1 = some (.cells [b])) := by
  refine DCall.of_body Try.func27 isf27 rfl (by simp [Try.f27]) (by simp [Try.f27]) rfl (by simp [Try.f27, ptrs]) fun E Q hE hN hQ => K_start ?_
  have ep : ptrs 2 = [.ptr 0 0, .ptr 1 0] := rfl
  rw [ep]
  simp only [recX]
  repeat' (first | apply w1 | apply w2 | apply w3 | apply w4 | apply w5 | apply w6 | apply w7 | refine Kq_exit_ne (by decide) ?_ | apply w8 | apply w9 | apply w0 | rw [wrap64 (by omega) (by omega)] | ((first | refine hK _ ?_ | refine hKp _ _ ?_); clear hK hKp K Kp; try clear hanc anc) | ((with_reducible refine And.intro ?_ ?_); (focus (first | trivial | omega | (simp only [Fits]; omega) | assumption | (rw [hanc]; rfl)))) | ((first | refine K_regA hE fun K Kp hK hKp => ?_ | refine K_drwA true mixed hE fun K Kp hK hKp anc hanc => ?_ | refine K_drwA false mixed hE fun K Kp hK hKp anc hanc => ?_); simp only [go_sem, ↓reduceIte, reduceCtorEq, reduceAdd, reduceMul, reduceEqDiff, reduceLT, reduceLeDiff, reduceSub, reduceDiv, Nat.reduceBEq, Int.reduceBEq, reduceBNe, Int.reduceLT, reduceLE, reduceEq]) | ((first | refine onG_split_t (fun hg => ?_) (fun hg => ?_) | refine onG_split_f (fun hg => ?_) (fun hg => ?_)) <;> simp only [go_sem, ↓reduceIte, reduceCtorEq, reduceAdd, reduceMul, reduceEqDiff, reduceLT, reduceLeDiff, reduceSub, reduceDiv, Nat.reduceBEq, Int.reduceBEq, reduceBNe, Int.reduceLT, reduceLE, reduceEq, hg]) | (refine K_condA (fun hc => ?_) (fun hc => ?_) <;> try (exact absurd hc (by decide))))
  refine Kq_norm_nil ?_
  exact (hQ _ ⟨by simp only [go_sem, ↓reduceIte, reduceCtorEq, reduceAdd, reduceMul, reduceEqDiff, reduceLT, reduceLeDiff, reduceSub, reduceDiv, Nat.reduceBEq, Int.reduceBEq, reduceBNe, Int.reduceLT, reduceLE, reduceEq], by simp only [go_sem, ↓reduceIte, reduceCtorEq, reduceAdd, reduceMul, reduceEqDiff, reduceLT, reduceLeDiff, reduceSub, reduceDiv, Nat.reduceBEq, Int.reduceBEq, reduceBNe, Int.reduceLT, reduceLE, reduceEq]⟩).2

theorem rec_some (a b : AV) (e : Int) (ha : a.isTup = false) (hb : b.isTup = false) : DCall Try.prog 27 (ptrs 2) (mkHp [(0, .cells [a]), (1, .cells [b])]) 2 2 (some (failAV e)) (fun hp' => hp' 0 = some (.cells [.nilsl]) ∧ hp' 1 = some (.cells [.i e])) := by
  refine DCall.of_body Try.func27 isf27 rfl (by simp [Try.f27]) (by simp [Try.f27]) rfl (by simp [Try.f27, ptrs]) fun E Q hE hN hQ => K_start ?_
  have ep : ptrs 2 = [.ptr 0 0, .ptr 1 0] := rfl
  rw [ep]
  simp only [recX]
  repeat' (first | apply w1 | apply w2 | apply w3 | apply w4 | apply w5 | apply w6 | apply w7 | refine Kq_exit_ne (by decide) ?_ | apply w8 | apply w9 | apply w0 | rw [wrap64 (by omega) (by omega)] | ((first | refine hK _ ?_ | refine hKp _ _ ?_); clear hK hKp K Kp; try clear hanc anc) | ((with_reducible refine And.intro ?_ ?_); (focus (first | trivial | omega | (simp only [Fits]; omega) | assumption | (rw [hanc]; rfl)))) | ((first | refine K_regA hE fun K Kp hK hKp => ?_ | refine K_drwA true mixed hE fun K Kp hK hKp anc hanc => ?_ | refine K_drwA false mixed hE fun K Kp hK hKp anc hanc => ?_); simp only [go_sem, ↓reduceIte, reduceCtorEq, reduceAdd, reduceMul, reduceEqDiff, reduceLT, reduceLeDiff, reduceSub, reduceDiv, Nat.reduceBEq, Int.reduceBEq, reduceBNe, Int.reduceLT, reduceLE, reduceEq]) | ((first | refine onG_split_t (fun hg => ?_) (fun hg => ?_) | refine onG_split_f (fun hg => ?_) (fun hg => ?_)) <;> simp only [go_sem, ↓reduceIte, reduceCtorEq, reduceAdd, reduceMul, reduceEqDiff, reduceLT, reduceLeDiff, reduceSub, reduceDiv, Nat.reduceBEq, Int.reduceBEq, reduceBNe, Int.reduceLT, reduceLE, reduceEq, hg]) | (refine K_condA (fun hc => ?_) (fun hc => ?_) <;> try (exact absurd hc (by decide))))
  refine K_all (.alt 0 (.alt 1 (.alt 2 (.alt 3 .leaf .nil) .nil) (.alt 2 (.alt 1 (.alt 3 .leaf .nil) .nil) .nil)) (.alt 2 (.alt 0 (.alt 1 (.alt 3 .leaf .nil) .nil) .nil) .nil)) mixed (by rw [hE]; rfl) rfl rfl (by simp only [List.length_cons, List.length_nil, Nat.reduceAdd]; rfl) (by simp only [List.map_cons, List.map_nil]; rfl) fun K Kp hK hKp => ?_
  repeat' (first | refine goTr_one rfl ?_ | refine goTr_alt rfl ?_ ?_ | simp only [go_sem, ↓reduceIte, reduceCtorEq, reduceAdd, reduceMul, reduceEqDiff, reduceLT, reduceLeDiff, reduceSub, reduceDiv, Nat.reduceBEq, Int.reduceBEq, reduceBNe, Int.reduceLT, reduceLE, reduceEq])
  all_goals (refine hK _ (Kq_norm_nil ?_); exact (hQ _ ⟨by simp only [go_sem, ↓reduceIte, reduceCtorEq, reduceAdd, reduceMul, reduceEqDiff, reduceLT, reduceLeDiff, reduceSub, reduceDiv, Nat.reduceBEq, Int.reduceBEq, reduceBNe, Int.reduceLT, reduceLE, reduceEq], by simp only [go_sem, ↓reduceIte, reduceCtorEq, reduceAdd, reduceMul, reduceEqDiff, reduceLT, reduceLeDiff, reduceSub, reduceDiv, Nat.reduceBEq, Int.reduceBEq, reduceBNe, Int.reduceLT, reduceLE, reduceEq]⟩).2)
end Go.Proofs.Ytdheeecpkkjfiaa


/- Chapter 10: the blocks of a lowering, frozen, in the cell of a result. -/
set_option linter.unusedVariables false
set_option linter.unusedSimpArgs false
namespace Go.Low
open Go Go.Am
variable {P : Program} {E : En} {σ : St} {Q : AEx → St → Prop}

theorem K_low4 {c : Code} {fr : List (Nat × AV)} {loc : List (Nat × AObj)} {md : Hs} {bl : List Blk} {cur : Int} (base : Nat) (q : Nat → Nat) (hN : E.np = 4) (hb : OkB bl) (hlen : bl.length ≤ 500000) (hm : OkM md) (hbase : 2 ≤ base) (hl : LowIn σ.hp md base bl cur)
    (h1 : ∀ p, p ∈ fr → σ.fr p.1 = some (p.2.ren (lowM q base)) ∧ p.2.ids (· < 1000000))
    (h2 : ∀ p, p ∈ loc → 2 ≤ p.1 ∧ p.1 < 10 ∧ σ.hp (q p.1) = some (p.2.ren (lowM q base)) ∧ p.2.ids (· < 1000000) ∧ lowHp md base bl cur (q p.1) = none) (h3 : loc.Pairwise fun a b => q a.1 ≠ q b.1)
    (h : AW P E c Q ⟨mkFr fr, hpOn loc (lowHp md 10 bl cur), 1000000⟩) (q2 : q 2 = 2 := by rfl) (q3 : q 3 = 3 := by rfl) : AW P E c Q σ := by
  have he := ent_low q hb hlen hm hbase hl h1 h2 h3
  refine AW.ent (lowM q base) ⟨he.1, he.2.1, he.2.2.1, fun id hid => ?_⟩ h
  rw [hN] at hid
  have h4 : id = 0 ∨ id = 1 ∨ id = 2 ∨ id = 3 := by omega
  rcases h4 with rfl | rfl | rfl | rfl
  · exact ⟨rfl, by show 0 < 1000000; decide⟩
  · exact ⟨rfl, by show 1 < 1000000; decide⟩
  · exact ⟨q2, by show 2 < 1000000; decide⟩
  · exact ⟨q3, by show 3 < 1000000; decide⟩

theorem ent_low4 {fr : List (Nat × AV)} {loc : List (Nat × AObj)} {md : Hs} {bl : List Blk} {cur : Int} {base : Nat} (q : Nat → Nat) (hb : OkB bl) (hlen : bl.length ≤ 500000) (hm : OkM md) (hbase : 2 ≤ base) (hl : LowIn σ.hp md base bl cur)
    (h1 : ∀ p, p ∈ fr → σ.fr p.1 = some (p.2.ren (lowM q base)) ∧ p.2.ids (· < 1000000))
    (h2 : ∀ p, p ∈ loc → 2 ≤ p.1 ∧ p.1 < 10 ∧ σ.hp (q p.1) = some (p.2.ren (lowM q base)) ∧ p.2.ids (· < 1000000) ∧ lowHp md base bl cur (q p.1) = none) (h3 : loc.Pairwise fun a b => q a.1 ≠ q b.1) (q2 : q 2 = 2 := by rfl) (q3 : q 3 = 3 := by rfl) :
    Ent 4 (lowM q base) σ (lowSt fr loc md bl cur) := by
  have he := ent_low q hb hlen hm hbase hl h1 h2 h3
  refine ⟨he.1, he.2.1, he.2.2.1, fun id hid => ?_⟩
  have h4 : id = 0 ∨ id = 1 ∨ id = 2 ∨ id = 3 := by omega
  rcases h4 with rfl | rfl | rfl | rfl
  · exact ⟨rfl, by show 0 < 1000000; decide⟩
  · exact ⟨rfl, by show 1 < 1000000; decide⟩
  · exact ⟨q2, by show 2 < 1000000; decide⟩
  · exact ⟨q3, by show 3 < 1000000; decide⟩

theorem AW_frzCell {c : Code} {md : Hs} {bl : List Blk} {cur : Int} {b : AV} (fr : List (Nat × AV)) (base : Nat) (hb2 : 3 < base) (hl : LowIn σ.hp md base bl cur) (hb : OkB bl)
    (h2 : σ.hp 2 = some (.cells [.rw base])) (h3 : σ.hp 3 = some (.cells [b])) (hfr : ∀ p, p ∈ fr → σ.fr p.1 = some p.2)
    (h : AW P E c Q ⟨mkFr fr, mkHp [(2, .cells [.sl (bl.map frzB)]), (3, .cells [b])], σ.nx⟩) : AW P E c Q σ := by
  have hrow : lowHp md base bl cur base = some (.row 4 (blksAV (base + 1) bl)) := by
    unfold lowHp
    rw [if_neg (by omega), if_neg (by omega), if_pos rfl]
  have hfr' : ∀ t x, mkFr fr t = some x → σ.fr t = some x := fun t x hx => hfr _ (mkFr_mem hx)
  refine AW.frz (σ' := ⟨mkFr fr, fun i => if i = base then some (.row 4 (bl.map frzB)) else if i = 2 then some (.cells [.rw base]) else if i = 3 then some (.cells [b]) else none, σ.nx⟩) (fun i => if base < i then lowHp md base bl cur i else none) (fun i o h' => ?_) (fun t' x' h' => ⟨x', hfr' _ _ h', .inl rfl⟩) (fun i o' h' => ?_) rfl ?_
  · split at h'
    · exact hl _ _ h'
    · cases h'
  · simp only at h'
    split at h'
    · rename_i e
      subst e
      cases h'
      refine ⟨if_neg (Nat.lt_irrefl _), _, hl _ _ hrow, rfl, by simp [blksAV_len], fun k hk => ?_⟩
      rw [blksAV_len] at hk
      have e1 : (blksAV (i + 1) bl).getD k default = blkAV (i + 1 + k) bl[k] := by
        rw [List.getD_eq_getElem?_getD, blksAV_get?]; simp [hk]
      have e2 : (bl.map frzB).getD k default = frzB bl[k] := by
        rw [List.getD_eq_getElem?_getD]; simp [hk]
      rw [e1, e2]
      generalize hbk : bl[k] = b
      have hbm : b ∈ bl := hbk ▸ List.getElem_mem hk
      have hk? : bl[k]? = some b := by rw [← hbk]; simp [hk]
      exact .inr (blk_snap (by omega) (by omega) hk? (hb b hbm))
    · split at h'
      · rename_i e; subst e; cases h'
        exact ⟨if_neg (by omega), _, h2, SnpO.refl _⟩
      · split at h'
        · rename_i e; subst e; cases h'
          exact ⟨if_neg (by omega), _, h3, SnpO.refl _⟩
        · cases h'
  · refine AW.frz (σ' := ⟨mkFr fr, mkHp [(2, .cells [.sl (bl.map frzB)]), (3, .cells [b])], σ.nx⟩) (fun i => if i = base then some (.row 4 (bl.map frzB)) else none) (fun i o h' => ?_) (fun t' x' h' => ⟨x', h', .inl rfl⟩) (fun i o' h' => ?_) rfl h
    · split at h'
      · rename_i e; subst e; simp only [if_true]; exact h'
      · cases h'
    · simp only [mkHp, updo] at h'
      split at h'
      · rename_i e; subst e; cases h'
        refine ⟨if_neg (by omega), .cells [.rw base], (by simp only; rw [if_neg (by omega)]; rfl), rfl, fun k hk => ?_⟩
        obtain rfl : k = 0 := by simpa using hk
        refine .inr ⟨?_, ?_⟩
        · simp only [List.getD_cons_zero, AV.snapOk, if_true]
          intro x hx' y hy
          obtain ⟨b, _, rfl⟩ := List.mem_map.1 hx'
          simp only [frzB, AV.cells, List.mem_cons, List.not_mem_nil, or_false] at hy
          rcases hy with rfl | rfl | rfl | rfl <;> rfl
        · simp only [List.getD_cons_zero, AV.snap, if_true]
      · split at h'
        · rename_i e; subst e; cases h'
          exact ⟨if_neg (by omega), .cells [b], (by simp only; rw [if_neg (by omega)]; rfl), SnpO.refl _⟩
        · cases h'

theorem loc_one {hp : Nat → Option AObj} {md : Hs} {base : Nat} {bl : List Blk} {cur : Int} {m : Nat → Nat} {i : Nat} {cs : List AV} (h2 : 2 ≤ i) (h10 : i < 10) (hc : AV.cloL cs = true) (hh : hp i = some (.cells cs)) (hn : lowHp md base bl cur i = none) :
    2 ≤ i ∧ i < 10 ∧ hp i = some ((AObj.cells cs).ren m) ∧ (AObj.cells cs).ids (· < 1000000) ∧ lowHp md base bl cur i = none :=
  ⟨h2, h10, by rw [hh]; simp only [AObj.ren, cloL_renL hc], cloL_idsL hc, hn⟩

theorem Kq_nil : Kq P E [] Q = Q := by rw [Kq]
end Go.Low

/- Chapter 10: plain laws of the lowering. -/
set_option linter.unusedVariables false
set_option linter.unusedSimpArgs false
namespace Go.Low
open Go Go.Am

-- formed nodes have kinds from 1 to 6
mutual
theorem formedN_kd : ∀ (n : Nd) (d : Int), formedN n d = true → kdN n
  | .mk k a x t e arms, d, h => by
    simp only [formedN, Bool.and_eq_true, Bool.not_eq_true', Bool.or_eq_false_iff, decide_eq_false_iff_not] at h
    obtain ⟨⟨⟨⟨⟨⟨h0, h1⟩, h2⟩, _⟩, h3⟩, h4⟩, h5⟩ := h
    rw [kdN]
    exact ⟨by omega, by omega, formedL_kd t _ h3, formedL_kd e _ h4, formedP_kd arms _ h5⟩
theorem formedL_kd : ∀ (l : List Nd) (d : Int), formedL l d = true → kdL l
  | [], _, _ => by rw [kdL]; trivial
  | n :: l, d, h => by
    simp only [formedL, Bool.and_eq_true] at h
    rw [kdL]
    exact ⟨formedN_kd n d h.1, formedL_kd l d h.2⟩
theorem formedP_kd : ∀ (l : List (List Nd)) (d : Int), formedP l d = true → kdP l
  | [], _, _ => by rw [kdP]; trivial
  | n :: l, d, h => by
    simp only [formedP, Bool.and_eq_true] at h
    rw [kdP]
    exact ⟨formedL_kd n d h.1, formedP_kd l d h.2⟩
end

-- what is counted
mutual
theorem sizeN_szN : ∀ (n : Nd) (left : Int), 0 < sizeN n left → (szN n : Int) ≤ left - sizeN n left
  | .mk k a x t e arms, left, h => by
    rw [sizeN] at h ⊢
    rw [szN]
    have h3 := sizeP_szP arms _ h
    have g3 := sizeP_ge arms (sizeL e (sizeL t (left - 1 - x.args.length - arms.length)))
    have h2 := sizeL_szL e (sizeL t (left - 1 - x.args.length - arms.length)) (by omega)
    have g2 := sizeL_ge e (sizeL t (left - 1 - x.args.length - arms.length))
    have h1 := sizeL_szL t (left - 1 - x.args.length - arms.length) (by omega)
    omega
theorem sizeL_szL : ∀ (l : List Nd) (left : Int), 0 < sizeL l left → (szL l : Int) ≤ left - sizeL l left
  | [], left, h => by rw [sizeL, szL]; omega
  | n :: l, left, h => by
    rw [sizeL] at h ⊢
    rw [szL]
    have g1 := sizeN_ge n left
    by_cases hp : 0 < left
    · rw [if_pos hp] at h ⊢
      have h2 := sizeL_szL l _ h
      have g2 := sizeL_ge l (sizeN n left)
      have h1 := sizeN_szN n left (by omega)
      omega
    · rw [if_neg hp] at h; omega
theorem sizeP_szP : ∀ (ps : List (List Nd)) (left : Int), 0 < sizeP ps left → (szP ps : Int) - ps.length ≤ left - sizeP ps left
  | [], left, h => by rw [sizeP, szP]; simp
  | p :: ps, left, h => by
    rw [sizeP] at h ⊢
    rw [szP]
    by_cases hp : 0 < left
    · rw [if_pos hp] at h ⊢
      have h2 := sizeP_szP ps _ h
      have g2 := sizeP_ge ps (sizeL p left)
      have h1 := sizeL_szL p left (by omega)
      simp only [List.length_cons]
      omega
    · rw [if_neg hp] at h; omega
end

-- left is ways
theorem isEmpty_app {α : Type} (l m : List α) : (l ++ m).isEmpty = (l.isEmpty && m.isEmpty) := by cases l <;> simp
theorem joinL_fst (es : List Nat) (s : LS) : (joinL es s).1 = !es.isEmpty := by
  unfold joinL
  cases es <;> simp

mutual
theorem lowN_ways : ∀ (n : Nd), kdN n → ∀ s, (lowN n s).1 = waysN n
  | .mk k a x t e arms, h, s => by
    rw [kdN] at h
    rw [lowN, waysN]
    have hk : k = 1 ∨ k = 2 ∨ k = 3 ∨ k = 4 ∨ k = 5 ∨ k = 6 := by omega
    rcases hk with rfl | rfl | rfl | rfl | rfl | rfl
    · simp
    · simp only [Int.reduceEq, if_false, if_true, joinL_fst, isEmpty_app, lowL_ways t h.2.2.1, lowL_ways e h.2.2.2.1]
      cases waysL t <;> cases waysL e <;> simp
    · simp
    · simp only [Int.reduceEq, if_false, if_true, joinL_fst, lowP_ways arms h.2.2.2.2]
      simp
    · simp
    · simp
theorem lowL_ways : ∀ (l : List Nd), kdL l → ∀ s, (lowL l s).1 = waysL l
  | [], _, s => by rw [lowL, waysL]
  | n :: l, h, s => by
    rw [kdL] at h
    rw [lowL, waysL]
    simp only [lowN_ways n h.1]
    cases waysN n
    · simp
    · simp [lowL_ways l h.2]
theorem lowP_ways : ∀ (ps : List (List Nd)), kdP ps → ∀ f s, (lowP ps f s).1.isEmpty = !waysP ps
  | [], _, f, s => by rw [lowP, waysP]; rfl
  | p :: ps, h, f, s => by
    rw [kdP] at h
    rw [lowP, waysP]
    simp only [isEmpty_app, lowP_ways ps h.2, lowL_ways p h.1]
    cases waysL p <;> simp [lowP_ways ps h.2]
end

-- how many blocks
theorem joinFold_le (j : Int) : ∀ (exits : List Nat) (s : LS), (exits.foldl (fun t b => (t.at b).end 1 0 [j]) s).bl.length = s.bl.length
  | [], s => rfl
  | b :: l, s => by rw [List.foldl_cons, joinFold_le j l, end_len]; rfl
theorem joinL_le (es : List Nat) (s : LS) : (joinL es s).2.bl.length ≤ s.bl.length + 1 := by
  unfold joinL
  split
  · simp only; omega
  · simp only [at_bl, joinFold_le, add_len]; omega

mutual
theorem lowN_le : ∀ (n : Nd) (s : LS), (lowN n s).2.bl.length ≤ s.bl.length + 3 * szN n
  | .mk k a x t e arms, s => by
    rw [lowN, szN]
    split
    · simp only [LS.ins, List.length_modify]; omega
    · split
      · refine Nat.le_trans (joinL_le _ _) ?_
        refine Nat.le_trans (Nat.succ_le_succ (lowL_le e _)) ?_
        rw [at_bl]
        have := lowL_le t (((s.add 2).end 2 a [(s.bl.length : Int), s.bl.length + 1]).at s.bl.length)
        rw [at_bl, end_len, add_len] at this
        omega
      · split
        · simp only [at_bl]
          have := lowL_le t (((((s.add 3).end 1 0 [(s.bl.length : Int)]).at s.bl.length).end 2 a [(s.bl.length : Int) + 1, s.bl.length + 2]).at (s.bl.length + 1))
          rw [at_bl, end_len, at_bl, end_len, add_len] at this
          split
          · rw [end_len]; omega
          · omega
        · split
          · refine Nat.le_trans (joinL_le _ _) ?_
            have := lowP_le arms s.bl.length ((s.add arms.length).end 3 a ((List.range arms.length).map fun (i : Nat) => (s.bl.length : Int) + (i : Int)))
            rw [end_len, add_len] at this
            have := szP_len arms
            omega
          · split
            · simp only [end_len]; omega
            · simp only [end_len]; omega
theorem lowL_le : ∀ (l : List Nd) (s : LS), (lowL l s).2.bl.length ≤ s.bl.length + 3 * szL l
  | [], s => by rw [lowL]; simp only; omega
  | n :: l, s => by
    rw [lowL, szL]
    have h1 := lowN_le n s
    split
    · have h2 := lowL_le l (lowN n s).2
      omega
    · simp only; omega
theorem lowP_le : ∀ (ps : List (List Nd)) (f : Nat) (s : LS), (lowP ps f s).2.bl.length + 3 * ps.length ≤ s.bl.length + 3 * szP ps
  | [], f, s => by rw [lowP]; simp
  | p :: ps, f, s => by
    rw [lowP, szP]
    have h1 := lowL_le p (s.at f)
    have h2 := lowP_le ps (f + 1) (lowL p (s.at f)).2
    rw [at_bl] at h1
    simp only [List.length_cons]
    omega
end
end Go.Low

/- Chapter 10: Lower. -/
set_option linter.unusedSimpArgs false
set_option linter.unusedVariables false
set_option maxHeartbeats 4000000
set_option maxRecDepth 100000
namespace Go.Proofs.Ytdheeecpkkjfiaa
open Nat (reduceAdd reduceMul reduceEqDiff reduceLT reduceLeDiff reduceSub reduceDiv)
open Int (reduceBNe reduceLE reduceEq)
open Go.Am Go.Proofs Go.Low
attribute [local irreducible] AW CallP CallB

/-- Where a lowering begins. -/
def lowS0 : LS := ⟨[Blk.nil], 0⟩
/-- What Lower returns: blocks and a number of an error. -/
def lowRes (l : List Nd) : List Blk × Int :=
  if formedL l 60 = false then ([], 1)
  else if (lowL l lowS0).1 = true then ([], 5)
  else if 200 < (lowL l lowS0).2.bl.length ∨ (∃ b, b ∈ (lowL l lowS0).2.bl ∧ 400 < b.code.length) then ([], 2)
  else ((lowL l lowS0).2.bl, 0)

/-- The end of Lower, with the captured cells as the objects 2 and 3. -/
theorem fin_none {a b : AV} {σ : St} {r : AV} (ha : a.clo = true) (hb : b.clo = true) (hta : a.isTup = false) (hs : (AV.tup [a, b]).snapOk (fun _ => none)) (hr : (AV.tup [a, b]).snap (fun _ => none) = r)
    (h2 : σ.fr 2 = some (.ptr 2 0)) (h3 : σ.fr 3 = some (.ptr 3 0)) (g2 : σ.hp 2 = some (.cells [a])) (g3 : σ.hp 3 = some (.cells [b])) :
    ∃ σ3, Ent 0 (fun i => if i = 0 then 2 else 3) σ σ3 ∧ (∀ i, i < 2 → i < σ3.nx) ∧ DFin Try.prog Try.f11 27 2 r none σ3 := by
  refine ⟨mkSt [(2, .ptr 0 0), (3, .ptr 1 0)] [(0, .cells [a]), (1, .cells [b])] 2, ent_mk ?_ ?_ (by simp) (fun id h => absurd h (Nat.not_lt_zero _)), fun i hi => hi, rfl, fun y h => (by cases h), ?_, ?_, _, rec_none a b hta, ?_⟩
  · intro p hp
    simp only [List.mem_cons, List.not_mem_nil, or_false] at hp
    rcases hp with rfl | rfl
    · exact ⟨h2, show 0 < 2 by decide⟩
    · exact ⟨h3, show 1 < 2 by decide⟩
  · intro p hp
    simp only [List.mem_cons, List.not_mem_nil, or_false] at hp
    rcases hp with rfl | rfl
    · exact ⟨by simp only [AObj.ren, AV.renL, clo_ren ha, if_true]; exact g2, (show 0 < 2 by decide), ⟨clo_ids ha, trivial⟩⟩
    · exact ⟨by simp only [AObj.ren, AV.renL, clo_ren hb]; exact g3, (show 1 < 2 by decide), ⟨clo_ids hb, trivial⟩⟩
  · intro t y hy
    have := mkFr_mem hy
    simp only [List.mem_cons, List.not_mem_nil, or_false, Prod.mk.injEq] at this
    rcases this with ⟨_, rfl⟩ | ⟨_, rfl⟩
    · exact ⟨0, by decide, rfl⟩
    · exact ⟨1, by decide, rfl⟩
  · intro id o ho
    simp only [mkSt, mkHp, updo] at ho
    split at ho
    · rename_i e; cases ho; exact ⟨by omega, ⟨clo_ids ha, trivial⟩⟩
    · split at ho
      · rename_i e; cases ho; exact ⟨by omega, ⟨clo_ids hb, trivial⟩⟩
      · cases ho
  · rintro hp' ⟨k0, k1⟩
    refine ⟨.tup [a, b], ?_, by simp only [AV.clo, AV.cloL, ha, hb, Bool.and_true], hs, hr⟩
    simp [resA, rvA, Try.f11, go_sem, k0, k1]
    rfl

theorem fin_some {σ : St} {e : Int}
    (h2 : σ.fr 2 = some (.ptr 2 0)) (h3 : σ.fr 3 = some (.ptr 3 0)) (g2 : σ.hp 2 = some (.cells [.nilsl])) (g3 : σ.hp 3 = some (.cells [.i 0])) :
    ∃ σ3, Ent 0 (fun i => if i = 0 then 2 else 3) σ σ3 ∧ (∀ i, i < 2 → i < σ3.nx) ∧ DFin Try.prog Try.f11 27 2 (resAV ([], e)) (some (failAV e)) σ3 := by
  refine ⟨mkSt [(2, .ptr 0 0), (3, .ptr 1 0)] [(0, .cells [.nilsl]), (1, .cells [.i 0])] 2, ent_mk ?_ ?_ (by simp) (fun id h => absurd h (Nat.not_lt_zero _)), fun i hi => hi, rfl, fun y h => (by cases h; rfl), ?_, ?_, _, rec_some .nilsl (.i 0) e rfl rfl, ?_⟩
  · intro p hp
    simp only [List.mem_cons, List.not_mem_nil, or_false] at hp
    rcases hp with rfl | rfl
    · exact ⟨h2, show 0 < 2 by decide⟩
    · exact ⟨h3, show 1 < 2 by decide⟩
  · intro p hp
    simp only [List.mem_cons, List.not_mem_nil, or_false] at hp
    rcases hp with rfl | rfl
    · exact ⟨g2, by decide, ⟨trivial, trivial⟩⟩
    · exact ⟨g3, by decide, ⟨trivial, trivial⟩⟩
  · intro t y hy
    have := mkFr_mem hy
    simp only [List.mem_cons, List.not_mem_nil, or_false, Prod.mk.injEq] at this
    rcases this with ⟨_, rfl⟩ | ⟨_, rfl⟩
    · exact ⟨0, by decide, rfl⟩
    · exact ⟨1, by decide, rfl⟩
  · intro id o ho
    simp only [mkSt, mkHp, updo] at ho
    split at ho
    · rename_i e; cases ho; exact ⟨by omega, ⟨trivial, trivial⟩⟩
    · split at ho
      · rename_i e; cases ho; exact ⟨by omega, ⟨trivial, trivial⟩⟩
      · cases ho
  · rintro hp' ⟨k0, k1⟩
    refine ⟨.tup [.nilsl, .i e], ?_, rfl, ⟨trivial, trivial, trivial⟩, rfl⟩
    simp [resA, rvA, Try.f11, go_sem, k0, k1]
    rfl

theorem of_use {σ : St} {k : Nat} {d : Option Nat} {K : St → Prop} {Kp : AV → St → Prop} (base : Nat) (hbase : σ.nx + 1048576 * k = base)
    (hK : ∀ σ', σ'.nx = σ.nx → σ'.fr = (σ.put d (.ptr base 0)).fr → σ'.hp base = some (.cells [.rw (base + 2), .i 0, .mp (base + 1)]) → σ'.hp (base + 1) = some (.map mdL) → σ'.hp (base + 2) = some (.row 4 (blksAV 0 [Blk.nil])) →
      (∀ id o, σ.hp id = some o → σ'.hp id = some o) → K σ') : CallB Try.prog 28 [] σ k d K Kp := by
  refine CallB.of_A of_call (fun i => i) rfl trivial (fun id o h => by cases h) (fun id id' o o' h => by cases h) (fun id h => absurd h (Nat.not_lt_zero _)) ?_ ?_ ?_ ?_
  · rintro r hp' ⟨rfl, rfl⟩
    refine ⟨show 0 < 1048576 by decide, fun id o ho => ?_⟩
    have g := lowHp_lt (Nat.le_refl 2) (by simp [OkB]) mdL_ok ho
    simp only [List.length_cons, List.length_nil] at g
    exact ⟨by omega, objids_mono _ (fun i hi => by omega) g.2⟩
  · rintro r hp' h; exact h.elim
  · rintro r hp' σ' ⟨rfl, rfl⟩ hB
    have hb : ∀ j, backM (fun i => i) 0 (σ.nx + 1048576 * k) j = base + j := fun j => by unfold backM; rw [if_neg (by omega), hbase]; omega
    have h0 := hB.obj 0 _ rfl
    have h1 := hB.obj 1 _ rfl
    have h2 := hB.obj 2 _ rfl
    rw [hb] at h0 h1 h2
    refine hK σ' hB.nx (by rw [hB.fr]; simp only [AV.ren, hb, Nat.add_zero]) ?_ ?_ ?_ (fun id o ho => hB.old id o ho (fun j hj => absurd rfl hj))
    · rw [Nat.add_zero] at h0
      rw [h0]
      simp only [AObj.ren, AV.renL, AV.ren, hsL, hb]
    · rw [h1]
      have := (mdL_ok.ob (.map mdL) rfl).2.1 (backM (fun i => i) 0 (σ.nx + 1048576 * k))
      rw [this]
    · rw [h2]
      simp only [AObj.ren]
      rw [cloL_renL (blks_clo _ _ (by simp))]
      rw [blks_any _ (2 + 1) 0 (by simp)]
  · rintro r hp' σ' h; exact h.elim

theorem lower_call (ts : List Ty) (l : List Nd) (h : Nd.szL l ≤ 2 ^ 30) (hz : 4 * szL l ≤ 399999) : PCall Try.prog 11 [.agg [.sl (Ty.avL ts), .sl (Nd.avL l)]] (resAV (lowRes l)) := by
  refine PCall.of_defer (k := 2) Try.func11 isf11 rfl (by simp [Try.f11]) (by simp [Try.f11]) (by rfl) (mkSt [(1, .ptr 2 0), (2, .ptr 0 0), (3, .ptr 1 0)] [(0, .cells [.nilsl]), (1, .cells [.i 0]), (2, .cells [.sl (Ty.avL ts), .sl (Nd.avL l)])] 3) ?_ rfl ?_ ?_
  · intro i hi
    have : i = 0 ∨ i = 1 := by omega
    rcases this with rfl | rfl <;> exact ⟨_, rfl⟩
  · intro E Q hE hN hQ
    refine K_start ?_
    repeat' (first | apply w1 | apply w2 | apply w3 | apply w4 | apply w5 | apply w6 | apply w7 | refine Kq_exit_ne (by decide) ?_ | apply w8 | apply w9 | apply w0 | rw [wrap64 (by omega) (by omega)] | ((first | refine hK _ ?_ | refine hKp _ _ ?_); clear hK hKp K Kp; try clear hanc anc) | ((with_reducible refine And.intro ?_ ?_); (focus (first | trivial | omega | (simp only [Fits]; omega) | assumption | (rw [hanc]; rfl)))) | ((first | refine K_regA hE fun K Kp hK hKp => ?_ | refine K_drwA true mixed hE fun K Kp hK hKp anc hanc => ?_ | refine K_drwA false mixed hE fun K Kp hK hKp anc hanc => ?_); simp only [go_sem, ↓reduceIte, reduceCtorEq, reduceAdd, reduceMul, reduceEqDiff, reduceLT, reduceLeDiff, reduceSub, reduceDiv, Nat.reduceBEq, Int.reduceBEq, reduceBNe, Int.reduceLT, reduceLE, reduceEq]) | ((first | refine onG_split_t (fun hg => ?_) (fun hg => ?_) | refine onG_split_f (fun hg => ?_) (fun hg => ?_)) <;> simp only [go_sem, ↓reduceIte, reduceCtorEq, reduceAdd, reduceMul, reduceEqDiff, reduceLT, reduceLeDiff, reduceSub, reduceDiv, Nat.reduceBEq, Int.reduceBEq, reduceBNe, Int.reduceLT, reduceLE, reduceEq, hg]) | (refine K_condA (fun hc => ?_) (fun hc => ?_) <;> try (exact absurd hc (by decide))))
    refine Kq_norm_nil ?_
    refine hQ _ (fun i => if i = 0 then 1048576 else if i = 1 then 2097152 else 0) ?_
    refine ent_mk (by simp [go_sem]) (by simp [go_sem]) (by simp) (by simp [hN])
  · intro E Q hE hN hQ hQp
    refine K_start ?_
    have ep : ptrs 2 = [.ptr 0 0, .ptr 1 0] := rfl
    simp only [go_sem, ↓reduceIte, reduceCtorEq, reduceAdd, reduceMul, reduceEqDiff, reduceLT, reduceLeDiff, reduceSub, reduceDiv, Nat.reduceBEq, Int.reduceBEq, reduceBNe, Int.reduceLT, reduceLE, reduceEq]
    repeat' (first | apply w1 | apply w2 | apply w3 | apply w4 | apply w5 | apply w6 | apply w7 | refine Kq_exit_ne (by decide) ?_ | apply w8 | apply w9 | apply w0 | rw [wrap64 (by omega) (by omega)] | ((first | refine hK _ ?_ | refine hKp _ _ ?_); clear hK hKp K Kp; try clear hanc anc) | ((with_reducible refine And.intro ?_ ?_); (focus (first | trivial | omega | (simp only [Fits]; omega) | assumption | (rw [hanc]; rfl)))) | ((first | refine K_regA hE fun K Kp hK hKp => ?_ | refine K_drwA true mixed hE fun K Kp hK hKp anc hanc => ?_ | refine K_drwA false mixed hE fun K Kp hK hKp anc hanc => ?_); simp only [go_sem, ↓reduceIte, reduceCtorEq, reduceAdd, reduceMul, reduceEqDiff, reduceLT, reduceLeDiff, reduceSub, reduceDiv, Nat.reduceBEq, Int.reduceBEq, reduceBNe, Int.reduceLT, reduceLE, reduceEq]) | ((first | refine onG_split_t (fun hg => ?_) (fun hg => ?_) | refine onG_split_f (fun hg => ?_) (fun hg => ?_)) <;> simp only [go_sem, ↓reduceIte, reduceCtorEq, reduceAdd, reduceMul, reduceEqDiff, reduceLT, reduceLeDiff, reduceSub, reduceDiv, Nat.reduceBEq, Int.reduceBEq, reduceBNe, Int.reduceLT, reduceLE, reduceEq, hg]) | (refine K_condA (fun hc => ?_) (fun hc => ?_) <;> try (exact absurd hc (by decide))))
    refine Hold.mk (of_use 3 rfl ?_)
    rintro ⟨fr', hp', nx'⟩ hnx hfr g0 g1 g2 hold
    simp only at hnx hfr g0 g1 g2 hold
    subst hnx hfr
    simp only [go_sem, ↓reduceIte, reduceCtorEq, reduceAdd, reduceMul, reduceEqDiff, reduceLT, reduceLeDiff, reduceSub, reduceDiv, Nat.reduceBEq, Int.reduceBEq, reduceBNe, Int.reduceLT, reduceLE, reduceEq]
    refine hK _ ?_; clear hK hKp K Kp; try clear hanc anc
    repeat (first | refine Kq_norm_code ?_ | refine Kq_norm_blk ?_ | refine Kq_norm_lp ?_)
    have hm := mdL_ok
    refine AW.repin 4 (topM 3 4 5 (fun i => if i = 2 then 0 else if i = 3 then 1 else 2)) (fun i => if i = 0 then 2 else 3) (ent_top (fr := [(1, .ptr 4 0), (2, .ptr 2 0), (3, .ptr 3 0), (4, .ptr 0 0)]) (loc := [(2, .cells [.nilsl]), (3, .cells [.i 0]), (4, .cells [.sl (Ty.avL ts), .sl (Nd.avL l)])]) (bl := [Blk.nil]) (cur := 0) (md := hsL mdL) 3 4 5 (fun i => if i = 2 then 0 else if i = 3 then 1 else 2) hm (by simp) (by decide) (by decide) (by decide) (by simp [go_sem, g0, topM]) (fun ob ho => by cases ho; exact g1) g2 ?_ ?_ ?_) ?_ ?_ ?_
    · simp [go_sem, topM]
    · intro p hp
      simp only [List.mem_cons, List.not_mem_nil, or_false] at hp
      rcases hp with rfl | rfl | rfl
      · exact ⟨by decide, by decide, hold _ _ (by simp [go_sem]), ⟨trivial, trivial⟩, by decide, by decide, by decide⟩
      · exact ⟨by decide, by decide, hold _ _ (by simp [go_sem]), ⟨trivial, trivial⟩, by decide, by decide, by decide⟩
      · exact ⟨(show 2 ≤ 4 by decide), (show 4 < 10 by decide), hold _ _ (by simp [go_sem]), ⟨trivial, trivial, trivial⟩, (show 2 ≠ 3 by decide), (show 2 ≠ 4 by decide), (show 2 ≠ 5 by decide)⟩
    · intro p p' hp hp' he
      simp only [List.mem_cons, List.not_mem_nil, or_false] at hp hp'
      rcases hp with rfl | rfl | rfl <;> rcases hp' with rfl | rfl | rfl <;> simp at he ⊢
    · intro j hj
      have : j = 0 ∨ j = 1 ∨ j = 2 ∨ j = 3 := by omega
      rcases this with rfl | rfl | rfl | rfl
      all_goals (simp [go_sem])
    · intro i hi
      rw [hN] at hi
      have : i = 0 ∨ i = 1 := by omega
      rcases this with rfl | rfl
      · exact ⟨by decide, by decide⟩
      · exact ⟨by decide, by decide⟩
    clear hold g0 g1 g2 hp'
    intro E2 hE2 hN2
    rw [hE] at hE2
    rw [hN]
    generalize hQ2 : repQ 2 _ (Kq Try.prog E [] Q) = Q2
    have hret : ∀ (σ : St) (a b : AV), a.clo = true → b.clo = true → a.isTup = false → (AV.tup [a, b]).snapOk (fun _ => none) → (AV.tup [a, b]).snap (fun _ => none) = resAV (lowRes l) → σ.fr 2 = some (.ptr 2 0) → σ.fr 3 = some (.ptr 3 0) → σ.hp 2 = some (.cells [a]) → σ.hp 3 = some (.cells [b]) → Q2 .ret σ := by
      intro σ a b k1 k2 k3 k4 k5 k6 k7 k8 k9
      obtain ⟨σ3, f1, f2, f3⟩ := fin_none k1 k2 k3 k4 k5 k6 k7 k8 k9
      rw [← hQ2, Kq_nil]
      exact ⟨σ3, .ret, f1, f2, trivial, (hQ _ f3).1⟩
    have hpan : ∀ (σ : St) (e : Int), lowRes l = ([], e) → σ.fr 2 = some (.ptr 2 0) → σ.fr 3 = some (.ptr 3 0) → σ.hp 2 = some (.cells [.nilsl]) → σ.hp 3 = some (.cells [.i 0]) → Q2 (.pan (failAV e)) σ := by
      intro σ e k5 k6 k7 k8 k9
      obtain ⟨σ3, f1, f2, f3⟩ := fin_some (e := e) k6 k7 k8 k9
      rw [← k5] at f3
      rw [← hQ2, Kq_nil]
      exact ⟨σ3, .pan (failAV e), f1, f2, ⟨rfl, trivial, trivial⟩, hQp _ _ f3⟩
    clear hQ2 hQ hQp hE hN
    have hE := hE2
    have hN := hN2
    clear hE2 hN2
    generalize E2 = E at *
    generalize Q2 = Q at *
    refine K_start ?_
    have hb : OkB [Blk.nil] := by simp [OkB]
    repeat' (first | apply w1 | apply w2 | apply w3 | apply w4 | apply w5 | apply w6 | apply w7 | refine Kq_exit_ne (by decide) ?_ | apply w8 | apply w9 | apply w0 | rw [wrap64 (by omega) (by omega)] | ((first | refine hK _ ?_ | refine hKp _ _ ?_); clear hK hKp K Kp; try clear hanc anc) | ((with_reducible refine And.intro ?_ ?_); (focus (first | trivial | omega | (simp only [Fits]; omega) | assumption | (rw [hanc]; rfl)))) | ((first | refine K_regA hE fun K Kp hK hKp => ?_ | refine K_drwA true mixed hE fun K Kp hK hKp anc hanc => ?_ | refine K_drwA false mixed hE fun K Kp hK hKp anc hanc => ?_); simp only [go_sem, ↓reduceIte, reduceCtorEq, reduceAdd, reduceMul, reduceEqDiff, reduceLT, reduceLeDiff, reduceSub, reduceDiv, Nat.reduceBEq, Int.reduceBEq, reduceBNe, Int.reduceLT, reduceLE, reduceEq]) | ((first | refine onG_split_t (fun hg => ?_) (fun hg => ?_) | refine onG_split_f (fun hg => ?_) (fun hg => ?_)) <;> simp only [go_sem, ↓reduceIte, reduceCtorEq, reduceAdd, reduceMul, reduceEqDiff, reduceLT, reduceLeDiff, reduceSub, reduceDiv, Nat.reduceBEq, Int.reduceBEq, reduceBNe, Int.reduceLT, reduceLE, reduceEq, hg]) | (refine K_condA (fun hc => ?_) (fun hc => ?_) <;> try (exact absurd hc (by decide))))
    refine Hold.mk ( LCall.use (examC (Nd.szL l + 1) (by omega) l (by omega) 60 (by omega) (by omega) [Blk.nil] 0 hb (by simp)) rfl hm hb (o := 10) (by omega) ((by (repeat (first | exact (fun _ _ h => h) | refine LowIn.curL ?_ | exact LowB.base | refine LowIn.upd ?_ (lowHp_none (by omega) (by omega)) | refine LowB.upd ?_ (lowHp_none (by omega) (by omega)))))) (Nat.le_of_ble_eq_true rfl) ?_ (fun x bl' cur' σ' ⟨hf1, h1, h2, h3⟩ _ hb' hlen' hnx hfr hin hold => hKp _ _ (by rw [h1]; exact hpan σ' 1 (by simp [lowRes, hf1]) (by rw [hfr]; simp [go_sem]) (by rw [hfr]; simp [go_sem]) (hold _ _ (by simp [go_sem]) (lowHp_none (by omega) (by omega))) (hold _ _ (by simp [go_sem]) (lowHp_none (by omega) (by omega))))))
    rintro r bl' cur' ⟨fr', hp', nx'⟩ ⟨hf1, rfl, rfl, rfl⟩ _ hb' hlen' hnx hfr hin hold
    simp only at hnx hfr hin hold
    subst hnx hfr
    simp only [go_sem, ↓reduceIte, reduceCtorEq, reduceAdd, reduceMul, reduceEqDiff, reduceLT, reduceLeDiff, reduceSub, reduceDiv, Nat.reduceBEq, Int.reduceBEq, reduceBNe, Int.reduceLT, reduceLE, reduceEq]
    refine hK _ ?_; clear hK hKp K Kp; try clear hanc anc
    repeat (first | refine Kq_norm_code ?_ | refine Kq_norm_blk ?_ | refine Kq_norm_lp ?_)
    refine K_low4 (fr := [(1, .ptr 4 0), (2, .ptr 2 0), (3, .ptr 3 0), (4, .ptr 0 0)]) (loc := [(2, .cells [.nilsl]), (3, .cells [.i 0]), (4, .cells [.sl (Ty.avL ts), .sl (Nd.avL l)])]) _ (fun i => i) hN hb' hlen' hm (by omega) hin (by simp [go_sem, lowM]) (by intro p hp; simp only [List.mem_cons, List.not_mem_nil, or_false] at hp; rcases hp with rfl | rfl | rfl <;> exact loc_one (Nat.le_of_ble_eq_true rfl) (Nat.le_of_ble_eq_true rfl) rfl (hold _ _ (by simp [go_sem]) (lowHp_none (by omega) (by omega))) (lowHp_none (by omega) (by omega))) (by simp) ?_
    clear hin hold; clear hb; have hb := hb'; clear hb'
    have hk := formedL_kd l 60 hf1
    have hpre : Pre lowS0 (4 * szL l) := ⟨by simp [lowS0], hb, by simp only [lowS0, List.length_cons, List.length_nil]; omega, fun b hb => by simp only [lowS0, List.mem_singleton] at hb; subst hb; simp only [List.length_nil]; omega⟩
    have hcall : LCall Try.prog 31 [.sl (Nd.avL l)] (hsL mdL) [Blk.nil] 0 (fun r' bl' cur' => r' = .bool (lowL l lowS0).1 ∧ bl' = (lowL l lowS0).2.bl ∧ cur' = (lowL l lowS0).2.cur) (fun _ _ _ => False) := listC (szL l + 1) l (by omega) hk lowS0 hpre
    have hR : lowRes l = if (lowL l lowS0).1 = true then ([], 5) else if 200 < (lowL l lowS0).2.bl.length ∨ (∃ b, b ∈ (lowL l lowS0).2.bl ∧ 400 < b.code.length) then ([], 2) else ((lowL l lowS0).2.bl, 0) := by
      unfold lowRes; rw [if_neg (by simp [hf1])]
    generalize lowL l lowS0 = y at *
    rw [hR] at hret hpan
    repeat' (first | apply w1 | apply w2 | apply w3 | apply w4 | apply w5 | apply w6 | apply w7 | refine Kq_exit_ne (by decide) ?_ | apply w8 | apply w9 | apply w0 | rw [wrap64 (by omega) (by omega)] | ((first | refine hK _ ?_ | refine hKp _ _ ?_); clear hK hKp K Kp; try clear hanc anc) | ((with_reducible refine And.intro ?_ ?_); (focus (first | trivial | omega | (simp only [Fits]; omega) | assumption | (rw [hanc]; rfl)))) | ((first | refine K_regA hE fun K Kp hK hKp => ?_ | refine K_drwA true mixed hE fun K Kp hK hKp anc hanc => ?_ | refine K_drwA false mixed hE fun K Kp hK hKp anc hanc => ?_); simp only [go_sem, ↓reduceIte, reduceCtorEq, reduceAdd, reduceMul, reduceEqDiff, reduceLT, reduceLeDiff, reduceSub, reduceDiv, Nat.reduceBEq, Int.reduceBEq, reduceBNe, Int.reduceLT, reduceLE, reduceEq]) | ((first | refine onG_split_t (fun hg => ?_) (fun hg => ?_) | refine onG_split_f (fun hg => ?_) (fun hg => ?_)) <;> simp only [go_sem, ↓reduceIte, reduceCtorEq, reduceAdd, reduceMul, reduceEqDiff, reduceLT, reduceLeDiff, reduceSub, reduceDiv, Nat.reduceBEq, Int.reduceBEq, reduceBNe, Int.reduceLT, reduceLE, reduceEq, hg]) | (refine K_condA (fun hc => ?_) (fun hc => ?_) <;> try (exact absurd hc (by decide))))
    refine Hold.mk (LCall.use hcall rfl hm hb (o := 10) (by omega) (by (repeat (first | exact (fun _ _ h => h) | refine LowIn.upd ?_ (lowHp_none (by omega) (by omega))))) (Nat.le_of_ble_eq_true rfl) ?_ (fun _ _ _ _ h => h.elim))
    rintro r bl' cur' ⟨fr', hp', nx'⟩ ⟨rfl, rfl, rfl⟩ _ hb' hlen' hnx hfr hin hold
    simp only at hnx hfr hin hold
    subst hnx hfr
    simp only [go_sem, ↓reduceIte, reduceCtorEq, reduceAdd, reduceMul, reduceEqDiff, reduceLT, reduceLeDiff, reduceSub, reduceDiv, Nat.reduceBEq, Int.reduceBEq, reduceBNe, Int.reduceLT, reduceLE, reduceEq]
    refine Hold.mk (CallB.of_A0 (check_call _ _) rfl (fun r hr => ?_) (fun x hx => ?_))
    rotate_left
    · obtain ⟨hy1, rfl⟩ := hx
      refine hKp _ _ (hpan _ 5 ?_ (by simp only [go_sem, ↓reduceIte, reduceCtorEq, reduceAdd, reduceMul, reduceEqDiff, reduceLT, reduceLeDiff, reduceSub, reduceDiv, Nat.reduceBEq, Int.reduceBEq, reduceBNe, Int.reduceLT, reduceLE, reduceEq]) (by simp only [go_sem, ↓reduceIte, reduceCtorEq, reduceAdd, reduceMul, reduceEqDiff, reduceLT, reduceLeDiff, reduceSub, reduceDiv, Nat.reduceBEq, Int.reduceBEq, reduceBNe, Int.reduceLT, reduceLE, reduceEq]) (hold _ _ (by simp only [go_sem, ↓reduceIte, reduceCtorEq, reduceAdd, reduceMul, reduceEqDiff, reduceLT, reduceLeDiff, reduceSub, reduceDiv, Nat.reduceBEq, Int.reduceBEq, reduceBNe, Int.reduceLT, reduceLE, reduceEq]) (lowHp_none (by omega) (by omega))) (hold _ _ (by simp only [go_sem, ↓reduceIte, reduceCtorEq, reduceAdd, reduceMul, reduceEqDiff, reduceLT, reduceLeDiff, reduceSub, reduceDiv, Nat.reduceBEq, Int.reduceBEq, reduceBNe, Int.reduceLT, reduceLE, reduceEq]) (lowHp_none (by omega) (by omega))))
      rw [if_pos (by simpa using hy1)]
    obtain ⟨hy1, rfl⟩ := hr
    have hy0 : y.1 = false := by simpa using hy1
    rw [hy0] at hret hpan
    simp only [Bool.false_eq_true, if_false] at hret hpan
    simp only [go_sem, ↓reduceIte, reduceCtorEq, reduceAdd, reduceMul, reduceEqDiff, reduceLT, reduceLeDiff, reduceSub, reduceDiv, Nat.reduceBEq, Int.reduceBEq, reduceBNe, Int.reduceLT, reduceLE, reduceEq]
    refine hK _ ?_; clear hK hKp K Kp; try clear hanc anc
    repeat (first | refine Kq_norm_code ?_ | refine Kq_norm_blk ?_ | refine Kq_norm_lp ?_)
    refine K_low4 (fr := [(2, .ptr 2 0), (3, .ptr 3 0), (4, .ptr 0 0)]) (loc := [(2, .cells [.nilsl]), (3, .cells [.i 0])]) _ (fun i => i) hN hb' hlen' hm (by omega) hin (by simp [go_sem, lowM]) (by intro p hp; simp only [List.mem_cons, List.not_mem_nil, or_false] at hp; rcases hp with rfl | rfl <;> exact loc_one (Nat.le_of_ble_eq_true rfl) (Nat.le_of_ble_eq_true rfl) rfl (hold _ _ (by simp [go_sem]) (lowHp_none (by omega) (by omega))) (lowHp_none (by omega) (by omega))) (by simp) ?_
    clear hin hold hb
    have hb := hb'
    clear hb'
    repeat' (first | apply w1 | apply w2 | apply w3 | apply w4 | apply w5 | apply w6 | apply w7 | refine Kq_exit_ne (by decide) ?_ | apply w8 | apply w9 | apply w0 | rw [wrap64 (by omega) (by omega)] | ((first | refine hK _ ?_ | refine hKp _ _ ?_); clear hK hKp K Kp; try clear hanc anc) | ((with_reducible refine And.intro ?_ ?_); (focus (first | trivial | omega | (simp only [Fits]; omega) | assumption | (rw [hanc]; rfl)))) | ((first | refine K_regA hE fun K Kp hK hKp => ?_ | refine K_drwA true mixed hE fun K Kp hK hKp anc hanc => ?_ | refine K_drwA false mixed hE fun K Kp hK hKp anc hanc => ?_); simp only [go_sem, ↓reduceIte, reduceCtorEq, reduceAdd, reduceMul, reduceEqDiff, reduceLT, reduceLeDiff, reduceSub, reduceDiv, Nat.reduceBEq, Int.reduceBEq, reduceBNe, Int.reduceLT, reduceLE, reduceEq, blksAV_len]) | ((first | refine onG_split_t (fun hg => ?_) (fun hg => ?_) | refine onG_split_f (fun hg => ?_) (fun hg => ?_)) <;> simp only [go_sem, ↓reduceIte, reduceCtorEq, reduceAdd, reduceMul, reduceEqDiff, reduceLT, reduceLeDiff, reduceSub, reduceDiv, Nat.reduceBEq, Int.reduceBEq, reduceBNe, Int.reduceLT, reduceLE, reduceEq, blksAV_len, hg]) | (refine K_condA (fun hc => ?_) (fun hc => ?_) <;> try (exact absurd hc (by decide))))
    refine Hold.mk (CallB.of_A0 (check_call _ _) rfl (fun r hr => ?_) (fun x hx => ?_))
    rotate_left
    · obtain ⟨hy1, rfl⟩ := hx
      refine hKp _ _ (hpan _ 2 ?_ (by simp only [go_sem, ↓reduceIte, reduceCtorEq, reduceAdd, reduceMul, reduceEqDiff, reduceLT, reduceLeDiff, reduceSub, reduceDiv, Nat.reduceBEq, Int.reduceBEq, reduceBNe, Int.reduceLT, reduceLE, reduceEq]) (by simp only [go_sem, ↓reduceIte, reduceCtorEq, reduceAdd, reduceMul, reduceEqDiff, reduceLT, reduceLeDiff, reduceSub, reduceDiv, Nat.reduceBEq, Int.reduceBEq, reduceBNe, Int.reduceLT, reduceLE, reduceEq]) (by simp only [go_sem, ↓reduceIte, reduceCtorEq, reduceAdd, reduceMul, reduceEqDiff, reduceLT, reduceLeDiff, reduceSub, reduceDiv, Nat.reduceBEq, Int.reduceBEq, reduceBNe, Int.reduceLT, reduceLE, reduceEq]) (by simp only [go_sem, ↓reduceIte, reduceCtorEq, reduceAdd, reduceMul, reduceEqDiff, reduceLT, reduceLeDiff, reduceSub, reduceDiv, Nat.reduceBEq, Int.reduceBEq, reduceBNe, Int.reduceLT, reduceLE, reduceEq]))
      rw [if_pos (.inl (by have := of_decide_eq_false hy1; omega))]
    obtain ⟨hle1, rfl⟩ := hr
    have hle : y.2.bl.length ≤ 200 := by have := of_decide_eq_true hle1; omega
    clear hle1
    obtain ⟨yb, s⟩ := y
    simp only at hy0 hret hpan hle hb hlen' hK ⊢
    obtain ⟨bl, cur⟩ := s
    simp only at hy0 hret hpan hle hb hlen' hK ⊢
    simp only [go_sem, ↓reduceIte, reduceCtorEq, reduceAdd, reduceMul, reduceEqDiff, reduceLT, reduceLeDiff, reduceSub, reduceDiv, Nat.reduceBEq, Int.reduceBEq, reduceBNe, Int.reduceLT, reduceLE, reduceEq]
    refine hK _ ?_; clear hK hKp K Kp; try clear hanc anc
    repeat (first | refine Kq_norm_code ?_ | refine Kq_norm_blk ?_ | refine Kq_norm_lp ?_)
    repeat' (first | apply w1 | apply w2 | apply w3 | apply w4 | apply w5 | apply w6 | apply w7 | refine Kq_exit_ne (by decide) ?_ | apply w8 | apply w9 | apply w0 | rw [wrap64 (by omega) (by omega)] | ((first | refine hK _ ?_ | refine hKp _ _ ?_); clear hK hKp K Kp; try clear hanc anc) | ((with_reducible refine And.intro ?_ ?_); (focus (first | trivial | omega | (simp only [Fits]; omega) | assumption | (rw [hanc]; rfl)))) | ((first | refine K_regA hE fun K Kp hK hKp => ?_ | refine K_drwA true mixed hE fun K Kp hK hKp anc hanc => ?_ | refine K_drwA false mixed hE fun K Kp hK hKp anc hanc => ?_); simp only [go_sem, ↓reduceIte, reduceCtorEq, reduceAdd, reduceMul, reduceEqDiff, reduceLT, reduceLeDiff, reduceSub, reduceDiv, Nat.reduceBEq, Int.reduceBEq, reduceBNe, Int.reduceLT, reduceLE, reduceEq, blksAV_len]) | ((first | refine onG_split_t (fun hg => ?_) (fun hg => ?_) | refine onG_split_f (fun hg => ?_) (fun hg => ?_)) <;> simp only [go_sem, ↓reduceIte, reduceCtorEq, reduceAdd, reduceMul, reduceEqDiff, reduceLT, reduceLeDiff, reduceSub, reduceDiv, Nat.reduceBEq, Int.reduceBEq, reduceBNe, Int.reduceLT, reduceLE, reduceEq, blksAV_len, hg]) | (refine K_condA (fun hc => ?_) (fun hc => ?_) <;> try (exact absurd hc (by decide))))
    refine K_loop (X := Nat) (fun x => x ≤ bl.length ∧ ∀ j b, j < x → bl[j]? = some b → b.code.length ≤ 400) (fun x => lowSt [(2, .ptr 2 0), (3, .ptr 3 0), (4, .ptr 0 0), (29, .rw 10), (30, .i bl.length), (31, .i x)] [(2, .cells [.nilsl]), (3, .cells [.i 0])] (hsL mdL) bl cur) (fun x => bl.length - x) 0 ⟨Nat.zero_le _, fun j b hj => absurd hj (Nat.not_lt_zero _)⟩ (lowM (fun i => i) 10) ?_ ?_
    · rw [hN]
      exact ent_low4 (fr := [(2, .ptr 2 0), (3, .ptr 3 0), (4, .ptr 0 0), (29, .rw 10), (30, .i bl.length), (31, .i (0 : Nat))]) (loc := [(2, .cells [.nilsl]), (3, .cells [.i 0])]) (base := 10) (fun i => i) hb (by omega) hm (by omega) (by (repeat (first | exact (fun _ _ h => h) | refine LowIn.upd ?_ (lowHp_none (by omega) (by omega))))) (by simp [go_sem, lowM]) (by intro p hp; simp only [List.mem_cons, List.not_mem_nil, or_false] at hp; rcases hp with rfl | rfl <;> exact loc_one (Nat.le_of_ble_eq_true rfl) (Nat.le_of_ble_eq_true rfl) rfl (by simp [go_sem]) (lowHp_none (by omega) (by omega))) (by simp)
    rintro i ⟨hi, hcode⟩
    by_cases hlt : i < bl.length
    · obtain ⟨b, hbi⟩ := get?_of' hlt
      by_cases hne : b.code = []
      · have hcv : cAV (11 + i) b = .nilsl := if_pos hne
        repeat' (first | apply w1 | apply w2 | apply w3 | apply w4 | apply w5 | apply w6 | apply w7 | refine Kq_exit_ne (by decide) ?_ | apply w8 | apply w9 | apply w0 | rw [wrap64 (by omega) (by omega)] | ((first | refine hK _ ?_ | refine hKp _ _ ?_); clear hK hKp K Kp; try clear hanc anc) | ((with_reducible refine And.intro ?_ ?_); (focus (first | trivial | omega | (simp only [Fits]; omega) | assumption | (rw [hanc]; rfl)))) | ((first | refine K_regA hE fun K Kp hK hKp => ?_ | refine K_drwA true mixed hE fun K Kp hK hKp anc hanc => ?_ | refine K_drwA false mixed hE fun K Kp hK hKp anc hanc => ?_); simp only [go_sem, ↓reduceIte, reduceCtorEq, reduceAdd, reduceMul, reduceEqDiff, reduceLT, reduceLeDiff, reduceSub, reduceDiv, Nat.reduceBEq, Int.reduceBEq, reduceBNe, Int.reduceLT, reduceLE, reduceEq, lt_dec' hlt, blksAV_len, blksAV_get?, hbi, blkAV, hcv]) | ((first | refine onG_split_t (fun hg => ?_) (fun hg => ?_) | refine onG_split_f (fun hg => ?_) (fun hg => ?_)) <;> simp only [go_sem, ↓reduceIte, reduceCtorEq, reduceAdd, reduceMul, reduceEqDiff, reduceLT, reduceLeDiff, reduceSub, reduceDiv, Nat.reduceBEq, Int.reduceBEq, reduceBNe, Int.reduceLT, reduceLE, reduceEq, lt_dec' hlt, blksAV_len, blksAV_get?, hbi, blkAV, hcv, hg]) | (refine K_condA (fun hc => ?_) (fun hc => ?_) <;> try (exact absurd hc (by decide))))
        refine Hold.mk (CallB.of_A0 (check_call _ _) rfl (fun r hr => ?_) (fun x hx => ?_))
        rotate_left
        · exact absurd hx.1 (by decide)
        obtain ⟨hl4, rfl⟩ := hr
        simp only [go_sem, ↓reduceIte, reduceCtorEq, reduceAdd, reduceMul, reduceEqDiff, reduceLT, reduceLeDiff, reduceSub, reduceDiv, Nat.reduceBEq, Int.reduceBEq, reduceBNe, Int.reduceLT, reduceLE, reduceEq]
        repeat' (first | apply w1 | apply w2 | apply w3 | apply w4 | apply w5 | apply w6 | apply w7 | refine Kq_exit_ne (by decide) ?_ | apply w8 | apply w9 | apply w0 | rw [wrap64 (by omega) (by omega)] | ((first | refine hK _ ?_ | refine hKp _ _ ?_); clear hK hKp K Kp; try clear hanc anc) | ((with_reducible refine And.intro ?_ ?_); (focus (first | trivial | omega | (simp only [Fits]; omega) | assumption | (rw [hanc]; rfl)))) | ((first | refine K_regA hE fun K Kp hK hKp => ?_ | refine K_drwA true mixed hE fun K Kp hK hKp anc hanc => ?_ | refine K_drwA false mixed hE fun K Kp hK hKp anc hanc => ?_); simp only [go_sem, ↓reduceIte, reduceCtorEq, reduceAdd, reduceMul, reduceEqDiff, reduceLT, reduceLeDiff, reduceSub, reduceDiv, Nat.reduceBEq, Int.reduceBEq, reduceBNe, Int.reduceLT, reduceLE, reduceEq]) | ((first | refine onG_split_t (fun hg => ?_) (fun hg => ?_) | refine onG_split_f (fun hg => ?_) (fun hg => ?_)) <;> simp only [go_sem, ↓reduceIte, reduceCtorEq, reduceAdd, reduceMul, reduceEqDiff, reduceLT, reduceLeDiff, reduceSub, reduceDiv, Nat.reduceBEq, Int.reduceBEq, reduceBNe, Int.reduceLT, reduceLE, reduceEq, hg]) | (refine K_condA (fun hc => ?_) (fun hc => ?_) <;> try (exact absurd hc (by decide))))
        refine ⟨i + 1, ⟨by omega, fun j b' hj hb' => ?_⟩, by omega, lowM (fun i => i) 10, ?_⟩
        · by_cases e : j = i
          · subst e
            rw [hbi] at hb'
            cases hb'
            rw [hne]; simp
          · exact hcode j b' (by omega) hb'
        · rw [hN]
          exact ent_low4 (fr := [(2, .ptr 2 0), (3, .ptr 3 0), (4, .ptr 0 0), (29, .rw 10), (30, .i bl.length), (31, .i (i + 1 : Nat))]) (loc := [(2, .cells [.nilsl]), (3, .cells [.i 0])]) (base := 10) (fun i => i) hb (by omega) hm (by omega) (by (repeat (first | exact (fun _ _ h => h) | refine LowIn.upd ?_ (lowHp_none (by omega) (by omega))))) (by simp [go_sem, lowM]) (by intro p hp; simp only [List.mem_cons, List.not_mem_nil, or_false] at hp; rcases hp with rfl | rfl <;> exact loc_one (Nat.le_of_ble_eq_true rfl) (Nat.le_of_ble_eq_true rfl) rfl (by simp [go_sem]) (lowHp_none (by omega) (by omega))) (by simp)
      · have hcv : cAV (11 + i) b = .rw (11 + i) := if_neg hne
        have hl : lowHp (hsL mdL) 10 bl cur (11 + i) = some (.row 7 b.code) := lowHp_code (by omega) hbi hne
        have f1 : (11 + i = 4145728) = False := eq_false (by omega)
        have f2 : (11 + i = 2) = False := eq_false (by omega)
        have f3 : (11 + i = 3) = False := eq_false (by omega)
        repeat' (first | apply w1 | apply w2 | apply w3 | apply w4 | apply w5 | apply w6 | apply w7 | refine Kq_exit_ne (by decide) ?_ | apply w8 | apply w9 | apply w0 | rw [wrap64 (by omega) (by omega)] | ((first | refine hK _ ?_ | refine hKp _ _ ?_); clear hK hKp K Kp; try clear hanc anc) | ((with_reducible refine And.intro ?_ ?_); (focus (first | trivial | omega | (simp only [Fits]; omega) | assumption | (rw [hanc]; rfl)))) | ((first | refine K_regA hE fun K Kp hK hKp => ?_ | refine K_drwA true mixed hE fun K Kp hK hKp anc hanc => ?_ | refine K_drwA false mixed hE fun K Kp hK hKp anc hanc => ?_); simp only [go_sem, ↓reduceIte, reduceCtorEq, reduceAdd, reduceMul, reduceEqDiff, reduceLT, reduceLeDiff, reduceSub, reduceDiv, Nat.reduceBEq, Int.reduceBEq, reduceBNe, Int.reduceLT, reduceLE, reduceEq, lt_dec' hlt, blksAV_len, blksAV_get?, hbi, blkAV, hcv, hl, f1, f2, f3]) | ((first | refine onG_split_t (fun hg => ?_) (fun hg => ?_) | refine onG_split_f (fun hg => ?_) (fun hg => ?_)) <;> simp only [go_sem, ↓reduceIte, reduceCtorEq, reduceAdd, reduceMul, reduceEqDiff, reduceLT, reduceLeDiff, reduceSub, reduceDiv, Nat.reduceBEq, Int.reduceBEq, reduceBNe, Int.reduceLT, reduceLE, reduceEq, lt_dec' hlt, blksAV_len, blksAV_get?, hbi, blkAV, hcv, hl, f1, f2, f3, hg]) | (refine K_condA (fun hc => ?_) (fun hc => ?_) <;> try (exact absurd hc (by decide))))
        refine Hold.mk (CallB.of_A0 (check_call _ _) rfl (fun r hr => ?_) (fun x hx => ?_))
        rotate_left
        · obtain ⟨hl4, rfl⟩ := hx
          refine hKp _ _ (hpan _ 2 ?_ (by simp only [go_sem, ↓reduceIte, reduceCtorEq, reduceAdd, reduceMul, reduceEqDiff, reduceLT, reduceLeDiff, reduceSub, reduceDiv, Nat.reduceBEq, Int.reduceBEq, reduceBNe, Int.reduceLT, reduceLE, reduceEq]) (by simp only [go_sem, ↓reduceIte, reduceCtorEq, reduceAdd, reduceMul, reduceEqDiff, reduceLT, reduceLeDiff, reduceSub, reduceDiv, Nat.reduceBEq, Int.reduceBEq, reduceBNe, Int.reduceLT, reduceLE, reduceEq]) (by simp only [go_sem, ↓reduceIte, reduceCtorEq, reduceAdd, reduceMul, reduceEqDiff, reduceLT, reduceLeDiff, reduceSub, reduceDiv, Nat.reduceBEq, Int.reduceBEq, reduceBNe, Int.reduceLT, reduceLE, reduceEq]) (by simp only [go_sem, ↓reduceIte, reduceCtorEq, reduceAdd, reduceMul, reduceEqDiff, reduceLT, reduceLeDiff, reduceSub, reduceDiv, Nat.reduceBEq, Int.reduceBEq, reduceBNe, Int.reduceLT, reduceLE, reduceEq]))
          rw [if_pos (.inr ⟨b, List.mem_of_getElem? hbi, by have := of_decide_eq_false hl4; omega⟩)]
        obtain ⟨hl4, rfl⟩ := hr
        simp only [go_sem, ↓reduceIte, reduceCtorEq, reduceAdd, reduceMul, reduceEqDiff, reduceLT, reduceLeDiff, reduceSub, reduceDiv, Nat.reduceBEq, Int.reduceBEq, reduceBNe, Int.reduceLT, reduceLE, reduceEq]
        repeat' (first | apply w1 | apply w2 | apply w3 | apply w4 | apply w5 | apply w6 | apply w7 | refine Kq_exit_ne (by decide) ?_ | apply w8 | apply w9 | apply w0 | rw [wrap64 (by omega) (by omega)] | ((first | refine hK _ ?_ | refine hKp _ _ ?_); clear hK hKp K Kp; try clear hanc anc) | ((with_reducible refine And.intro ?_ ?_); (focus (first | trivial | omega | (simp only [Fits]; omega) | assumption | (rw [hanc]; rfl)))) | ((first | refine K_regA hE fun K Kp hK hKp => ?_ | refine K_drwA true mixed hE fun K Kp hK hKp anc hanc => ?_ | refine K_drwA false mixed hE fun K Kp hK hKp anc hanc => ?_); simp only [go_sem, ↓reduceIte, reduceCtorEq, reduceAdd, reduceMul, reduceEqDiff, reduceLT, reduceLeDiff, reduceSub, reduceDiv, Nat.reduceBEq, Int.reduceBEq, reduceBNe, Int.reduceLT, reduceLE, reduceEq]) | ((first | refine onG_split_t (fun hg => ?_) (fun hg => ?_) | refine onG_split_f (fun hg => ?_) (fun hg => ?_)) <;> simp only [go_sem, ↓reduceIte, reduceCtorEq, reduceAdd, reduceMul, reduceEqDiff, reduceLT, reduceLeDiff, reduceSub, reduceDiv, Nat.reduceBEq, Int.reduceBEq, reduceBNe, Int.reduceLT, reduceLE, reduceEq, hg]) | (refine K_condA (fun hc => ?_) (fun hc => ?_) <;> try (exact absurd hc (by decide))))
        refine ⟨i + 1, ⟨by omega, fun j b' hj hb' => ?_⟩, by omega, lowM (fun i => i) 10, ?_⟩
        · by_cases e : j = i
          · subst e
            rw [hbi] at hb'
            cases hb'
            have := of_decide_eq_true hl4; omega
          · exact hcode j b' (by omega) hb'
        · rw [hN]
          exact ent_low4 (fr := [(2, .ptr 2 0), (3, .ptr 3 0), (4, .ptr 0 0), (29, .rw 10), (30, .i bl.length), (31, .i (i + 1 : Nat))]) (loc := [(2, .cells [.nilsl]), (3, .cells [.i 0])]) (base := 10) (fun i => i) hb (by omega) hm (by omega) (by (repeat (first | exact (fun _ _ h => h) | refine LowIn.upd ?_ (lowHp_none (by omega) (by omega))))) (by simp [go_sem, lowM]) (by intro p hp; simp only [List.mem_cons, List.not_mem_nil, or_false] at hp; rcases hp with rfl | rfl <;> exact loc_one (Nat.le_of_ble_eq_true rfl) (Nat.le_of_ble_eq_true rfl) rfl (by simp [go_sem]) (lowHp_none (by omega) (by omega))) (by simp)
    · obtain rfl : i = bl.length := by omega
      repeat' (first | apply w1 | apply w2 | apply w3 | apply w4 | apply w5 | apply w6 | apply w7 | refine Kq_exit_ne (by decide) ?_ | apply w8 | apply w9 | apply w0 | rw [wrap64 (by omega) (by omega)] | ((first | refine hK _ ?_ | refine hKp _ _ ?_); clear hK hKp K Kp; try clear hanc anc) | ((with_reducible refine And.intro ?_ ?_); (focus (first | trivial | omega | (simp only [Fits]; omega) | assumption | (rw [hanc]; rfl)))) | ((first | refine K_regA hE fun K Kp hK hKp => ?_ | refine K_drwA true mixed hE fun K Kp hK hKp anc hanc => ?_ | refine K_drwA false mixed hE fun K Kp hK hKp anc hanc => ?_); simp only [go_sem, ↓reduceIte, reduceCtorEq, reduceAdd, reduceMul, reduceEqDiff, reduceLT, reduceLeDiff, reduceSub, reduceDiv, Nat.reduceBEq, Int.reduceBEq, reduceBNe, Int.reduceLT, reduceLE, reduceEq, ge_dec']) | ((first | refine onG_split_t (fun hg => ?_) (fun hg => ?_) | refine onG_split_f (fun hg => ?_) (fun hg => ?_)) <;> simp only [go_sem, ↓reduceIte, reduceCtorEq, reduceAdd, reduceMul, reduceEqDiff, reduceLT, reduceLeDiff, reduceSub, reduceDiv, Nat.reduceBEq, Int.reduceBEq, reduceBNe, Int.reduceLT, reduceLE, reduceEq, ge_dec', hg]) | (refine K_condA (fun hc => ?_) (fun hc => ?_) <;> try (exact absurd hc (by decide))))
      refine AW_frzCell (md := hsL mdL) (bl := bl) (cur := cur) (b := .i 0) [(2, .ptr 2 0), (3, .ptr 3 0)] 10 (by omega) (by (repeat (first | exact (fun _ _ h => h) | refine LowIn.upd ?_ (lowHp_none (by omega) (by omega))))) hb (by simp only [go_sem, ↓reduceIte, reduceCtorEq, reduceAdd, reduceMul, reduceEqDiff, reduceLT, reduceLeDiff, reduceSub, reduceDiv, Nat.reduceBEq, Int.reduceBEq, reduceBNe, Int.reduceLT, reduceLE, reduceEq]) (by simp only [go_sem, ↓reduceIte, reduceCtorEq, reduceAdd, reduceMul, reduceEqDiff, reduceLT, reduceLeDiff, reduceSub, reduceDiv, Nat.reduceBEq, Int.reduceBEq, reduceBNe, Int.reduceLT, reduceLE, reduceEq]) (by simp [go_sem]) ?_
      refine K_ret ?_
      have hno : ¬ (200 < bl.length ∨ ∃ b, b ∈ bl ∧ 400 < b.code.length) := by
        rintro (h | ⟨b, hb1, hb2⟩)
        · omega
        · obtain ⟨j, hj, rfl⟩ := List.getElem_of_mem hb1
          have := hcode j bl[j] hj (by simp [hj])
          omega
      rw [if_neg hno] at hret
      exact hret _ (.sl (bl.map frzB)) (.i 0) rfl rfl rfl ⟨trivial, trivial, trivial⟩ rfl (by simp only [go_sem, ↓reduceIte, reduceCtorEq, reduceAdd, reduceMul, reduceEqDiff, reduceLT, reduceLeDiff, reduceSub, reduceDiv, Nat.reduceBEq, Int.reduceBEq, reduceBNe, Int.reduceLT, reduceLE, reduceEq]) (by simp only [go_sem, ↓reduceIte, reduceCtorEq, reduceAdd, reduceMul, reduceEqDiff, reduceLT, reduceLeDiff, reduceSub, reduceDiv, Nat.reduceBEq, Int.reduceBEq, reduceBNe, Int.reduceLT, reduceLE, reduceEq]) (by simp only [go_sem, ↓reduceIte, reduceCtorEq, reduceAdd, reduceMul, reduceEqDiff, reduceLT, reduceLeDiff, reduceSub, reduceDiv, Nat.reduceBEq, Int.reduceBEq, reduceBNe, Int.reduceLT, reduceLE, reduceEq]) (by simp only [go_sem, ↓reduceIte, reduceCtorEq, reduceAdd, reduceMul, reduceEqDiff, reduceLT, reduceLeDiff, reduceSub, reduceDiv, Nat.reduceBEq, Int.reduceBEq, reduceBNe, Int.reduceLT, reduceLE, reduceEq])
end Go.Proofs.Ytdheeecpkkjfiaa

