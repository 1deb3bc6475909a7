/- A part of the proof: an abstract machine for the walks, and what the walked functions compute. -/
import Derived.Test.YtakpabiefjlmaaaCb
set_option linter.unusedVariables false
set_option linter.unusedSimpArgs false
/- Chapter 22: Stale. -/
set_option linter.unusedSimpArgs false
set_option linter.unusedVariables false
set_option maxHeartbeats 4000000
set_option maxRecDepth 100000
namespace Go.Proofs.Ytakpabiefjlmaaa
open Nat (reduceAdd reduceMul reduceEqDiff reduceLT reduceLeDiff reduceSub reduceDiv)
open Int (reduceBNe reduceLE reduceEq)
open Go.Am Go.Proofs
attribute [local irreducible] AW CallP CallB

def uHp (es : List (AV × AV)) (f : List Bool) : Nat → Option AObj := mkHp [(0, .cells [.mp 1]), (1, .map es), (2, .cells [.sl (bl f)])]
theorem uHp_wf {es : List (AV × AV)} (h : EsClo es) (f : List Bool) : WF (uHp es f) 3 := wf3 (by simp [AObj.ids, AV.idsL, AV.ids]) (fun q hq => ⟨clo_ids (h q hq).1, clo_ids (h q hq).2⟩) (by simp [AObj.ids, AV.idsL, AV.ids])

def hit (st : List Int) (f : List Bool) (x : Int) : Bool := decide (x ∈ st) && f.getD x.toNat false
theorem hit_hc (st : List Int) (es : List (AV × AV)) (f : List Bool) (x : Int) (hm : MapIs es (tk st)) (hec : EsClo es) (h0 : 0 ≤ x) (h1 : x < f.length) : HCall 31 [.i x, .ptr 0 0, .ptr 2 0] (uHp es f) 3 (.bool (hit st f x)) := by
  have hw := uHp_wf hec f
  have hx := hm x
  have e0 : uHp es f 0 = some (.cells [.mp 1]) := rfl
  have e1 : uHp es f 1 = some (.map es) := rfl
  have e2 : uHp es f 2 = some (.cells [.sl (bl f)]) := rfl
  obtain ⟨k, rfl⟩ := Int.eq_ofNat_of_zero_le h0
  obtain ⟨b, hb⟩ := get?_of (show k < f.length by omega)
  have hgd : f.getD (k : Int).toNat false = b := by simp [List.getD_eq_getElem?_getD, hb]
  refine HCall.intro hw rfl Try.func31 rfl isf31 (by simp [Try.f31]) fun E Q hE hN hQ => K_start ?_
  by_cases hin : (k : Int) ∈ st
  · rw [tk, if_pos hin] at hx
    have hh : hit st f k = b := by simp [hit, hin, List.getD_eq_getElem?_getD, hb]
    rw [hh] at hQ
    repeat' (first | apply w1 | apply w2 | apply w3 | apply w4 | apply w5 | apply w6 | apply w7 | refine Kq_exit_ne (by decide) ?_ | apply w8 | apply w9 | apply w0 | rw [wrap64 (by omega) (by omega)] | ((first | refine hK _ ?_ | refine hKp _ _ ?_); clear hK hKp K Kp; try clear hanc anc) | ((with_reducible refine And.intro ?_ ?_); (focus (first | trivial | omega | (simp only [Fits]; omega) | assumption | (rw [hanc]; rfl)))) | ((first | refine K_regA hE fun K Kp hK hKp => ?_ | refine K_drwA true mixed hE fun K Kp hK hKp anc hanc => ?_ | refine K_drwA false mixed hE fun K Kp hK hKp anc hanc => ?_); simp only [go_sem, ↓reduceIte, reduceCtorEq, reduceAdd, reduceMul, reduceEqDiff, reduceLT, reduceLeDiff, reduceSub, reduceDiv, Nat.reduceBEq, Int.reduceBEq, reduceBNe, Int.reduceLT, reduceLE, reduceEq, e0, e1, e2, hx, hb]) | ((first | refine onG_split_t (fun hg => ?_) (fun hg => ?_) | refine onG_split_f (fun hg => ?_) (fun hg => ?_)) <;> simp only [go_sem, ↓reduceIte, reduceCtorEq, reduceAdd, reduceMul, reduceEqDiff, reduceLT, reduceLeDiff, reduceSub, reduceDiv, Nat.reduceBEq, Int.reduceBEq, reduceBNe, Int.reduceLT, reduceLE, reduceEq, e0, e1, e2, hx, hb, hg]) | (refine K_condA (fun hc => ?_) (fun hc => ?_) <;> try (exact absurd hc (by decide))))
    exact K_ret (hQ _ (by simp only [go_sem, ↓reduceIte, reduceCtorEq, reduceAdd, reduceMul, reduceEqDiff, reduceLT, reduceLeDiff, reduceSub, reduceDiv, Nat.reduceBEq, Int.reduceBEq, reduceBNe, Int.reduceLT, reduceLE, reduceEq]; rfl) (fun id ob h => h)).1
  · rw [tk, if_neg hin] at hx
    have hh : hit st f k = false := by simp [hit, hin]
    rw [hh] at hQ
    repeat' (first | apply w1 | apply w2 | apply w3 | apply w4 | apply w5 | apply w6 | apply w7 | refine Kq_exit_ne (by decide) ?_ | apply w8 | apply w9 | apply w0 | rw [wrap64 (by omega) (by omega)] | ((first | refine hK _ ?_ | refine hKp _ _ ?_); clear hK hKp K Kp; try clear hanc anc) | ((with_reducible refine And.intro ?_ ?_); (focus (first | trivial | omega | (simp only [Fits]; omega) | assumption | (rw [hanc]; rfl)))) | ((first | refine K_regA hE fun K Kp hK hKp => ?_ | refine K_drwA true mixed hE fun K Kp hK hKp anc hanc => ?_ | refine K_drwA false mixed hE fun K Kp hK hKp anc hanc => ?_); simp only [go_sem, ↓reduceIte, reduceCtorEq, reduceAdd, reduceMul, reduceEqDiff, reduceLT, reduceLeDiff, reduceSub, reduceDiv, Nat.reduceBEq, Int.reduceBEq, reduceBNe, Int.reduceLT, reduceLE, reduceEq, e0, e1, e2, hx, hb]) | ((first | refine onG_split_t (fun hg => ?_) (fun hg => ?_) | refine onG_split_f (fun hg => ?_) (fun hg => ?_)) <;> simp only [go_sem, ↓reduceIte, reduceCtorEq, reduceAdd, reduceMul, reduceEqDiff, reduceLT, reduceLeDiff, reduceSub, reduceDiv, Nat.reduceBEq, Int.reduceBEq, reduceBNe, Int.reduceLT, reduceLE, reduceEq, e0, e1, e2, hx, hb, hg]) | (refine K_condA (fun hc => ?_) (fun hc => ?_) <;> try (exact absurd hc (by decide))))
    exact K_ret (hQ _ (by simp only [go_sem, ↓reduceIte, reduceCtorEq, reduceAdd, reduceMul, reduceEqDiff, reduceLT, reduceLeDiff, reduceSub, reduceDiv, Nat.reduceBEq, Int.reduceBEq, reduceBNe, Int.reduceLT, reduceLE, reduceEq]; rfl) (fun id ob h => h)).1

/-- The modules that have to be checked again, in the order. -/
def stGo (u : List (List Int)) (t f : List Bool) : List Int → List Int → List Int
  | [], st => st
  | m :: r, st => stGo u t f r (if t.getD m.toNat false || (u.getD m.toNat []).any (hit st f) then st ++ [m] else st)
def stale (u : List (List Int)) (t f : List Bool) : List Int := if (order u).2 = 0 ∧ t.length = u.length ∧ f.length = u.length then srt (stGo u t f (order u).1 []) else []

theorem ordGo_mem {u : List (List Int)} : ∀ {k : Nat} {out o : List Int}, ordGo u k out = some o → (∀ x, x ∈ out → 0 ≤ x ∧ x < u.length) → ∀ x, x ∈ o → 0 ≤ x ∧ x < u.length
  | 0, out, o, h, ho => by cases h; exact ho
  | k + 1, out, o, h, ho => by
    rw [ordGo] at h
    cases hn : nxt out u 0 with
    | none => simp [hn] at h
    | some m =>
      simp only [hn] at h
      have := nxt_lt hn
      refine ordGo_mem h fun x hx => ?_
      rcases List.mem_append.1 hx with hx | hx
      · exact ho x hx
      · rw [List.mem_singleton.1 hx]; omega
theorem ordGo_len {u : List (List Int)} : ∀ {k : Nat} {out o : List Int}, ordGo u k out = some o → o.length = out.length + k
  | 0, out, o, h => by cases h; rfl
  | k + 1, out, o, h => by
    rw [ordGo] at h
    cases hn : nxt out u 0 with
    | none => simp [hn] at h
    | some m =>
      simp only [hn] at h
      have := ordGo_len h
      simp only [List.length_append, List.length_singleton] at this
      omega
theorem order_mem (u : List (List Int)) : ∀ x, x ∈ (order u).1 → 0 ≤ x ∧ x < u.length := by
  unfold order
  split
  · split
    · intro x hx; cases hx
    · rename_i o ho
      exact ordGo_mem ho fun x hx => by cases hx
  · intro x hx; cases hx
theorem order_len (u : List (List Int)) : (order u).1.length ≤ u.length := by
  unfold order
  split
  · split
    · simp
    · rename_i o ho
      have := ordGo_len ho
      simp at this
      simp [this]
  · simp
theorem order_valid {u : List (List Int)} (h : (order u).2 = 0) : valid u = true := by
  unfold order at h
  split at h
  · assumption
  · cases h
theorem valid_mem {u : List (List Int)} (h : valid u = true) : ∀ l, l ∈ u → ∀ x, x ∈ l → 0 ≤ x ∧ x < u.length := by
  intro l hl x hx
  unfold valid at h
  simp only [Bool.and_eq_true, Bool.not_eq_true', List.any_eq_false] at h
  have h1 := h.2 l hl
  simp only [Bool.not_eq_true, List.any_eq_false] at h1
  have h2 := h1 x hx
  unfold outs at h2
  simp at h2
  omega
end Go.Proofs.Ytakpabiefjlmaaa


/- Chapter 22: Stale, its walk. -/
set_option linter.unusedSimpArgs false
set_option linter.unusedVariables false
set_option maxHeartbeats 4000000
set_option maxRecDepth 100000
namespace Go.Proofs.Ytakpabiefjlmaaa
open Nat (reduceAdd reduceMul reduceEqDiff reduceLT reduceLeDiff reduceSub reduceDiv)
open Int (reduceBNe reduceLE reduceEq)
open Go.Am Go.Proofs
attribute [local irreducible] AW CallP CallB

theorem stGo_len {u : List (List Int)} {t f : List Bool} : ∀ (r st : List Int), (stGo u t f r st).length ≤ st.length + r.length
  | [], st => Nat.le_refl _
  | m :: r, st => by
    rw [stGo]
    refine Nat.le_trans (stGo_len r _) ?_
    split <;> simp <;> omega

theorem stale_call (u : List (List Int)) (t f : List Bool) (hu : u.length ≤ 2 ^ 40) (hl : ∀ l, l ∈ u → l.length ≤ 2 ^ 40) (ht : t.length ≤ 2 ^ 40) (hf : f.length ≤ 2 ^ 40) : PCall Try.prog 18 [.sl (ill u), .sl (bl t), .sl (bl f)] (.sl (il (stale u t f))) := by
  have ho := order_call u hu hl
  have hom := order_mem u
  have hol := order_len u
  by_cases h : (order u).2 = 0 ∧ t.length = u.length ∧ f.length = u.length
  · obtain ⟨h1, h2, h3⟩ := h
    have hvm := valid_mem (order_valid h1)
    have hst : stale u t f = srt (stGo u t f (order u).1 []) := if_pos ⟨h1, h2, h3⟩
    rw [hst]
    clear hst
    rw [h1] at ho
    generalize (order u).1 = o at *
    have q2 : ((t.length : Int) != (u.length : Int)) = false := by simp [h2]
    have q3 : ((f.length : Int) != (u.length : Int)) = false := by simp [h3]
    refine PCall.intro Try.func18 rfl isf18 (by simp [Try.f18]) (by simp [AV.cloL, AV.clo]) fun E Q hE hN hQ => K_start ?_
    repeat' (first | apply w1 | apply w2 | apply w3 | apply w4 | apply w5 | apply w6 | apply w7 | refine Kq_exit_ne (by decide) ?_ | apply w8 | apply w9 | apply w0 | rw [wrap64 (by omega) (by omega)] | ((first | refine hK _ ?_ | refine hKp _ _ ?_); clear hK hKp K Kp; try clear hanc anc) | ((with_reducible refine And.intro ?_ ?_); (focus (first | trivial | omega | (simp only [Fits]; omega) | assumption | (rw [hanc]; rfl)))) | ((first | refine K_regA hE fun K Kp hK hKp => ?_ | refine K_drwA true mixed hE fun K Kp hK hKp anc hanc => ?_ | refine K_drwA false mixed hE fun K Kp hK hKp anc hanc => ?_ | ((first | apply CallP_mk | apply CallB_mk); (focus (simp only [go_sem]; rfl)); (focus (exact ho)); (focus (simp [go_sem])); (focus (first | exact .inl rfl | (right; simp [go_sem]))))); simp only [go_sem, ↓reduceIte, reduceCtorEq, reduceAdd, reduceMul, reduceEqDiff, reduceLT, reduceLeDiff, reduceSub, reduceDiv, Nat.reduceBEq, Int.reduceBEq, reduceBNe, Int.reduceLT, reduceLE, reduceEq, q2, q3]) | ((first | refine onG_split_t (fun hg => ?_) (fun hg => ?_) | refine onG_split_f (fun hg => ?_) (fun hg => ?_)) <;> simp only [go_sem, ↓reduceIte, reduceCtorEq, reduceAdd, reduceMul, reduceEqDiff, reduceLT, reduceLeDiff, reduceSub, reduceDiv, Nat.reduceBEq, Int.reduceBEq, reduceBNe, Int.reduceLT, reduceLE, reduceEq, q2, q3, hg]) | (refine K_condA (fun hc => ?_) (fun hc => ?_) <;> try (exact absurd hc (by decide))))
    refine AW_nil 10 1 (by rw [hE]; decide) (by simp only [go_sem, ↓reduceIte, reduceCtorEq, reduceAdd, reduceMul, reduceEqDiff, reduceLT, reduceLeDiff, reduceSub, reduceDiv, Nat.reduceBEq, Int.reduceBEq, reduceBNe, Int.reduceLT, reduceLE, reduceEq]) ?_
    refine K_loop (X := Nat × List Int × List (AV × AV)) (fun x => x.1 ≤ o.length ∧ MapIs x.2.2 (tk x.2.1) ∧ EsClo x.2.2 ∧ x.2.1.length ≤ x.1 ∧ stGo u t f (o.drop x.1) x.2.1 = stGo u t f o []) (fun x => mkSt [(0, .sl (ill u)), (1, .sl (bl t)), (5, .ptr 2 0), (9, .ptr 0 0), (10, .rw 3), (35, .sl (il o)), (36, AV.i o.length), (37, AV.i x.1)] [(0, .cells [.mp 1]), (1, .map x.2.2), (2, .cells [.sl (bl f)]), (3, .row 1 (il x.2.1))] 4) (fun x => o.length - x.1) (0, [], []) ⟨Nat.zero_le _, MapIs.nil, EsClo.nil, Nat.zero_le _, rfl⟩ (fun i => if i = 0 then 27262976 else if i = 1 then 26214400 else if i = 2 then 0 else 33554432) (by refine ent_mk (by simp [go_sem]) (by simp [go_sem]) (by simp) (by simp [hN])) ?_
    rintro ⟨i, st, es⟩ ⟨hi, hm, hec, hsl, hgo⟩
    simp only at hi hm hec hsl hgo
    have hmi : ∀ (a b : AV), (a, b) ∈ es → AV.ids (fun x => x < 4) a ∧ AV.ids (fun x => x < 4) b := fun a b h => ⟨clo_ids (hec _ h).1, clo_ids (hec _ h).2⟩
    by_cases hlt : i < o.length
    · obtain ⟨x, hx⟩ := get?_of hlt
      obtain ⟨x0, x1⟩ := hom x (List.mem_of_getElem? hx)
      rw [drop_of hx, stGo] at hgo
      obtain ⟨k, rfl⟩ := Int.eq_ofNat_of_zero_le x0
      obtain ⟨bt, hbt⟩ := get?_of (show k < t.length by omega)
      obtain ⟨l, hul⟩ := get?_of (show k < u.length by omega)
      have hlu := List.mem_of_getElem? hul
      have hmx := hm k
      have hcond : (t.getD (k : Int).toNat false || (u.getD (k : Int).toNat []).any (hit st f)) = (bt || l.any (hit st f)) := by
        simp [List.getD_eq_getElem?_getD, hbt, hul]
      rw [hcond] at hgo
      have hm' := hm.put k (.bool true)
      have hc' := hec.put (k : Int) (x := .bool true) rfl (tk st k)
      have htk : (fun m => if m = (k : Int) then some (AV.bool true) else tk st m) = tk (st ++ [(k : Int)]) := by
        funext m
        simp only [tk, List.mem_append, List.mem_singleton]
        by_cases h1 : m = (k : Int) <;> by_cases h2 : m ∈ st <;> simp [h1, h2]
      rw [htk] at hm'
      have hmi' : ∀ (a b : AV), (a, b) ∈ putE .i64 (k : Int) (.bool true) es (tk st k) → AV.ids (fun x => x < 4) a ∧ AV.ids (fun x => x < 4) b := fun a b h => ⟨clo_ids (hc' _ h).1, clo_ids (hc' _ h).2⟩
      have hlen : (st ++ [(k : Int)]).length = st.length + 1 := by simp
      have hsz := szok_il [(k : Int)]
      cases bt
      · rw [Bool.false_or] at hgo
        repeat' (first | apply w1 | apply w2 | apply w3 | apply w4 | apply w5 | apply w6 | apply w7 | refine Kq_exit_ne (by decide) ?_ | apply w8 | apply w9 | apply w0 | rw [wrap64 (by omega) (by omega)] | ((first | refine hK _ ?_ | refine hKp _ _ ?_); clear hK hKp K Kp; try clear hanc anc) | ((with_reducible refine And.intro ?_ ?_); (focus (first | trivial | omega | (simp only [Fits]; omega) | assumption | (rw [hanc]; rfl)))) | ((first | refine K_regA hE fun K Kp hK hKp => ?_ | refine K_drwA true mixed hE fun K Kp hK hKp anc hanc => ?_ | refine K_drwA false mixed hE fun K Kp hK hKp anc hanc => ?_); simp only [go_sem, ↓reduceIte, reduceCtorEq, reduceAdd, reduceMul, reduceEqDiff, reduceLT, reduceLeDiff, reduceSub, reduceDiv, Nat.reduceBEq, Int.reduceBEq, reduceBNe, Int.reduceLT, reduceLE, reduceEq, lt_dec hlt, hx, hbt, hul]) | ((first | refine onG_split_t (fun hg => ?_) (fun hg => ?_) | refine onG_split_f (fun hg => ?_) (fun hg => ?_)) <;> simp only [go_sem, ↓reduceIte, reduceCtorEq, reduceAdd, reduceMul, reduceEqDiff, reduceLT, reduceLeDiff, reduceSub, reduceDiv, Nat.reduceBEq, Int.reduceBEq, reduceBNe, Int.reduceLT, reduceLE, reduceEq, lt_dec hlt, hx, hbt, hul, hg]) | (refine K_condA (fun hc => ?_) (fun hc => ?_) <;> try (exact absurd hc (by decide))))
        refine Hold.mk (HCall.use (contains_hc l 31 [.ptr 0 0, .ptr 2 0] (uHp es f) 3 (hit st f) (by simp [AV.idsL, AV.ids]) (uHp_wf hec f) (hl l hlu) (fun y hy => hit_hc st es f y hm hec (hvm l hlu y hy).1 (by have := (hvm l hlu y hy).2; omega))) (fun i => i) (by rw [renL_id]) (by simp [AV.idsL, AV.ids]) (mkHp_all (by simp [go_sem, hec.ren])) (fun _ _ _ _ e => e) ?_)
        rintro ⟨fr', hp', nx'⟩ hnx hfr hold
        simp only at hnx hfr hold
        subst hnx hfr
        simp only [go_sem, ↓reduceIte, reduceCtorEq, reduceAdd, reduceMul, reduceEqDiff, reduceLT, reduceLeDiff, reduceSub, reduceDiv, Nat.reduceBEq, Int.reduceBEq, reduceBNe, Int.reduceLT, reduceLE, reduceEq]
        refine hK _ ?_; clear hK hKp K Kp; try clear hanc anc
        repeat (first | refine Kq_norm_code ?_ | refine Kq_norm_blk ?_ | refine Kq_norm_lp ?_)
        have e0 := hold 0 (.cells [.mp 1]) (by simp [go_sem])
        have e1 := hold 1 (.map es) (by simp [go_sem])
        have e2 := hold 2 (.cells [.sl (bl f)]) (by simp [go_sem])
        have e3 := hold 3 (.row 1 (il st)) (by simp [go_sem])
        refine AW.ent (fun i => i) (σ' := mkSt [(0, .sl (ill u)), (1, .sl (bl t)), (5, .ptr 2 0), (9, .ptr 0 0), (10, .rw 3), (12, AV.i k), (35, .sl (il o)), (36, AV.i o.length), (37, AV.i i), (52, .bool (l.any (hit st f)))] [(0, .cells [.mp 1]), (1, .map es), (2, .cells [.sl (bl f)]), (3, .row 1 (il st))] 4) (ent_mk (by simp [go_sem]) (by simp [e0, e1, e2, e3, hec.ren, go_sem]; exact hmi) (by simp) (by simp [hN])) ?_
        clear hold e0 e1 e2 e3
        cases hany : l.any (hit st f)
        · rw [hany] at hgo
          repeat' (first | apply w1 | apply w2 | apply w3 | apply w4 | apply w5 | apply w6 | apply w7 | refine Kq_exit_ne (by decide) ?_ | apply w8 | apply w9 | apply w0 | rw [wrap64 (by omega) (by omega)] | ((first | refine hK _ ?_ | refine hKp _ _ ?_); clear hK hKp K Kp; try clear hanc anc) | ((with_reducible refine And.intro ?_ ?_); (focus (first | trivial | omega | (simp only [Fits]; omega) | assumption | (rw [hanc]; rfl)))) | ((first | refine K_regA hE fun K Kp hK hKp => ?_ | refine K_drwA true mixed hE fun K Kp hK hKp anc hanc => ?_ | refine K_drwA false mixed hE fun K Kp hK hKp anc hanc => ?_); simp only [go_sem, ↓reduceIte, reduceCtorEq, reduceAdd, reduceMul, reduceEqDiff, reduceLT, reduceLeDiff, reduceSub, reduceDiv, Nat.reduceBEq, Int.reduceBEq, reduceBNe, Int.reduceLT, reduceLE, reduceEq]) | ((first | refine onG_split_t (fun hg => ?_) (fun hg => ?_) | refine onG_split_f (fun hg => ?_) (fun hg => ?_)) <;> simp only [go_sem, ↓reduceIte, reduceCtorEq, reduceAdd, reduceMul, reduceEqDiff, reduceLT, reduceLeDiff, reduceSub, reduceDiv, Nat.reduceBEq, Int.reduceBEq, reduceBNe, Int.reduceLT, reduceLE, reduceEq, hg]) | (refine K_condA (fun hc => ?_) (fun hc => ?_) <;> try (exact absurd hc (by decide))))
          exact ⟨(i + 1, st, es), ⟨by simp only; omega, hm, hec, by simp only; omega, by simpa using hgo⟩, by simp only; omega, fun i => i, ent_mk (by simp [go_sem]) (by simp [hec.ren, go_sem]; exact hmi) (by simp) (by simp [hN])⟩
        · rw [hany, if_pos rfl] at hgo
          repeat' (first | apply w1 | apply w2 | apply w3 | apply w4 | apply w5 | apply w6 | apply w7 | refine Kq_exit_ne (by decide) ?_ | apply w8 | apply w9 | apply w0 | rw [wrap64 (by omega) (by omega)] | ((first | refine hK _ ?_ | refine hKp _ _ ?_); clear hK hKp K Kp; try clear hanc anc) | ((with_reducible refine And.intro ?_ ?_); (focus (first | trivial | omega | (simp only [Fits]; omega) | assumption | (rw [hanc]; rfl)))) | ((first | refine K_regA hE fun K Kp hK hKp => ?_ | refine K_drwA true mixed hE fun K Kp hK hKp anc hanc => ?_ | refine K_drwA false mixed hE fun K Kp hK hKp anc hanc => ?_); simp only [go_sem, ↓reduceIte, reduceCtorEq, reduceAdd, reduceMul, reduceEqDiff, reduceLT, reduceLeDiff, reduceSub, reduceDiv, Nat.reduceBEq, Int.reduceBEq, reduceBNe, Int.reduceLT, reduceLE, reduceEq, hmx]) | ((first | refine onG_split_t (fun hg => ?_) (fun hg => ?_) | refine onG_split_f (fun hg => ?_) (fun hg => ?_)) <;> simp only [go_sem, ↓reduceIte, reduceCtorEq, reduceAdd, reduceMul, reduceEqDiff, reduceLT, reduceLeDiff, reduceSub, reduceDiv, Nat.reduceBEq, Int.reduceBEq, reduceBNe, Int.reduceLT, reduceLE, reduceEq, hmx, hg]) | (refine K_condA (fun hc => ?_) (fun hc => ?_) <;> try (exact absurd hc (by decide))))
          exact ⟨(i + 1, st ++ [(k : Int)], putE .i64 (k : Int) (.bool true) es (tk st k)), ⟨by simp only; omega, hm', hc', by simp only [hlen]; omega, hgo⟩, by simp only; omega, fun j => if j = 3 then 6291460 else j, ent_mk (by simp [go_sem]) (by simp [hc'.ren, go_sem]; exact hmi') (by simp) (by simp [hN])⟩
      · rw [Bool.true_or, if_pos rfl] at hgo
        repeat' (first | apply w1 | apply w2 | apply w3 | apply w4 | apply w5 | apply w6 | apply w7 | refine Kq_exit_ne (by decide) ?_ | apply w8 | apply w9 | apply w0 | rw [wrap64 (by omega) (by omega)] | ((first | refine hK _ ?_ | refine hKp _ _ ?_); clear hK hKp K Kp; try clear hanc anc) | ((with_reducible refine And.intro ?_ ?_); (focus (first | trivial | omega | (simp only [Fits]; omega) | assumption | (rw [hanc]; rfl)))) | ((first | refine K_regA hE fun K Kp hK hKp => ?_ | refine K_drwA true mixed hE fun K Kp hK hKp anc hanc => ?_ | refine K_drwA false mixed hE fun K Kp hK hKp anc hanc => ?_); simp only [go_sem, ↓reduceIte, reduceCtorEq, reduceAdd, reduceMul, reduceEqDiff, reduceLT, reduceLeDiff, reduceSub, reduceDiv, Nat.reduceBEq, Int.reduceBEq, reduceBNe, Int.reduceLT, reduceLE, reduceEq, lt_dec hlt, hx, hbt, hul, hmx]) | ((first | refine onG_split_t (fun hg => ?_) (fun hg => ?_) | refine onG_split_f (fun hg => ?_) (fun hg => ?_)) <;> simp only [go_sem, ↓reduceIte, reduceCtorEq, reduceAdd, reduceMul, reduceEqDiff, reduceLT, reduceLeDiff, reduceSub, reduceDiv, Nat.reduceBEq, Int.reduceBEq, reduceBNe, Int.reduceLT, reduceLE, reduceEq, lt_dec hlt, hx, hbt, hul, hmx, hg]) | (refine K_condA (fun hc => ?_) (fun hc => ?_) <;> try (exact absurd hc (by decide))))
        exact ⟨(i + 1, st ++ [(k : Int)], putE .i64 (k : Int) (.bool true) es (tk st k)), ⟨by simp only; omega, hm', hc', by simp only [hlen]; omega, hgo⟩, by simp only; omega, fun j => if j = 3 then 23068676 else j, ent_mk (by simp [go_sem]) (by simp [hc'.ren, go_sem]; exact hmi') (by simp) (by simp [hN])⟩
    · obtain rfl : i = o.length := by omega
      rw [List.drop_length, stGo] at hgo
      subst hgo
      repeat' (first | apply w1 | apply w2 | apply w3 | apply w4 | apply w5 | apply w6 | apply w7 | refine Kq_exit_ne (by decide) ?_ | apply w8 | apply w9 | apply w0 | rw [wrap64 (by omega) (by omega)] | ((first | refine hK _ ?_ | refine hKp _ _ ?_); clear hK hKp K Kp; try clear hanc anc) | ((with_reducible refine And.intro ?_ ?_); (focus (first | trivial | omega | (simp only [Fits]; omega) | assumption | (rw [hanc]; rfl)))) | ((first | refine K_regA hE fun K Kp hK hKp => ?_ | refine K_drwA true mixed hE fun K Kp hK hKp anc hanc => ?_ | refine K_drwA false mixed hE fun K Kp hK hKp anc hanc => ?_); simp only [go_sem, ↓reduceIte, reduceCtorEq, reduceAdd, reduceMul, reduceEqDiff, reduceLT, reduceLeDiff, reduceSub, reduceDiv, Nat.reduceBEq, Int.reduceBEq, reduceBNe, Int.reduceLT, reduceLE, reduceEq, ge_dec]) | ((first | refine onG_split_t (fun hg => ?_) (fun hg => ?_) | refine onG_split_f (fun hg => ?_) (fun hg => ?_)) <;> simp only [go_sem, ↓reduceIte, reduceCtorEq, reduceAdd, reduceMul, reduceEqDiff, reduceLT, reduceLeDiff, reduceSub, reduceDiv, Nat.reduceBEq, Int.reduceBEq, reduceBNe, Int.reduceLT, reduceLE, reduceEq, ge_dec, hg]) | (refine K_condA (fun hc => ?_) (fun hc => ?_) <;> try (exact absurd hc (by decide))))
      refine Hold.mk (sort_use (l := stGo u t f o []) (by omega) (by simp [go_sem]) ?_)
      rintro ⟨fr', hp', nx'⟩ hnx hfr hp3 hold
      simp only at hnx hfr hp3 hold
      subst hnx hfr
      simp only [go_sem, ↓reduceIte, reduceCtorEq, reduceAdd, reduceMul, reduceEqDiff, reduceLT, reduceLeDiff, reduceSub, reduceDiv, Nat.reduceBEq, Int.reduceBEq, reduceBNe, Int.reduceLT, reduceLE, reduceEq]
      refine hK _ ?_; clear hK hKp K Kp; try clear hanc anc
      repeat (first | refine Kq_norm_code ?_ | refine Kq_norm_blk ?_ | refine Kq_norm_lp ?_)
      repeat' (first | apply w1 | apply w2 | apply w3 | apply w4 | apply w5 | apply w6 | apply w7 | refine Kq_exit_ne (by decide) ?_ | apply w8 | apply w9 | apply w0 | rw [wrap64 (by omega) (by omega)] | ((first | refine hK _ ?_ | refine hKp _ _ ?_); clear hK hKp K Kp; try clear hanc anc) | ((with_reducible refine And.intro ?_ ?_); (focus (first | trivial | omega | (simp only [Fits]; omega) | assumption | (rw [hanc]; rfl)))) | ((first | refine K_regA hE fun K Kp hK hKp => ?_ | refine K_drwA true mixed hE fun K Kp hK hKp anc hanc => ?_ | refine K_drwA false mixed hE fun K Kp hK hKp anc hanc => ?_); simp only [go_sem, ↓reduceIte, reduceCtorEq, reduceAdd, reduceMul, reduceEqDiff, reduceLT, reduceLeDiff, reduceSub, reduceDiv, Nat.reduceBEq, Int.reduceBEq, reduceBNe, Int.reduceLT, reduceLE, reduceEq]) | ((first | refine onG_split_t (fun hg => ?_) (fun hg => ?_) | refine onG_split_f (fun hg => ?_) (fun hg => ?_)) <;> simp only [go_sem, ↓reduceIte, reduceCtorEq, reduceAdd, reduceMul, reduceEqDiff, reduceLT, reduceLeDiff, reduceSub, reduceDiv, Nat.reduceBEq, Int.reduceBEq, reduceBNe, Int.reduceLT, reduceLE, reduceEq, hg]) | (refine K_condA (fun hc => ?_) (fun hc => ?_) <;> try (exact absurd hc (by decide))))
      refine K_ret (hQ _ ⟨.rw 3, by simp only [go_sem, ↓reduceIte, reduceCtorEq, reduceAdd, reduceMul, reduceEqDiff, reduceLT, reduceLeDiff, reduceSub, reduceDiv, Nat.reduceBEq, Int.reduceBEq, reduceBNe, Int.reduceLT, reduceLE, reduceEq]; rfl, ?_, ?_, rfl⟩).1
      · simp [go_sem, hp3]
      · simp [go_sem, AV.snap, hp3]
  · have hst : stale u t f = [] := if_neg h
    rw [hst]
    generalize (order u).1 = o at *
    generalize (order u).2 = e at *
    by_cases h1 : e = 0
    · subst h1
      by_cases h2 : t.length = u.length
      · have h3 : f.length ≠ u.length := fun h3 => h ⟨rfl, h2, h3⟩
        have q2 : ((t.length : Int) != (u.length : Int)) = false := by simp [h2]
        have q3 : ((f.length : Int) != (u.length : Int)) = true := by simp; omega
        refine PCall.intro Try.func18 rfl isf18 (by simp [Try.f18]) (by simp [AV.cloL, AV.clo]) fun E Q hE hN hQ => K_start ?_
        repeat' (first | apply w1 | apply w2 | apply w3 | apply w4 | apply w5 | apply w6 | apply w7 | refine Kq_exit_ne (by decide) ?_ | apply w8 | apply w9 | apply w0 | rw [wrap64 (by omega) (by omega)] | ((first | refine hK _ ?_ | refine hKp _ _ ?_); clear hK hKp K Kp; try clear hanc anc) | ((with_reducible refine And.intro ?_ ?_); (focus (first | trivial | omega | (simp only [Fits]; omega) | assumption | (rw [hanc]; rfl)))) | ((first | refine K_regA hE fun K Kp hK hKp => ?_ | refine K_drwA false mixed hE fun K Kp hK hKp anc hanc => ?_ | ((first | apply CallP_mk | apply CallB_mk); (focus (simp only [go_sem]; rfl)); (focus (exact ho)); (focus (simp [go_sem])); (focus (first | exact .inl rfl | (right; simp [go_sem]))))); simp only [go_sem, ↓reduceIte, reduceCtorEq, reduceAdd, reduceMul, reduceEqDiff, reduceLT, reduceLeDiff, reduceSub, reduceDiv, Nat.reduceBEq, Int.reduceBEq, reduceBNe, Int.reduceLT, reduceLE, reduceEq, q2, q3]) | ((first | refine onG_split_t (fun hg => ?_) (fun hg => ?_) | refine onG_split_f (fun hg => ?_) (fun hg => ?_)) <;> simp only [go_sem, ↓reduceIte, reduceCtorEq, reduceAdd, reduceMul, reduceEqDiff, reduceLT, reduceLeDiff, reduceSub, reduceDiv, Nat.reduceBEq, Int.reduceBEq, reduceBNe, Int.reduceLT, reduceLE, reduceEq, q2, q3, hg]) | (refine K_condA (fun hc => ?_) (fun hc => ?_) <;> try (exact absurd hc (by decide))) | (refine K_ret ?_; refine (hQ _ ⟨_, by (try simp only [go_sem, ↓reduceIte, Nat.reduceEqDiff]); rfl, by simp [go_sem], ?_, by first | rfl | assumption⟩).1))
        simp [AV.snap, il]
      · have q2 : ((t.length : Int) != (u.length : Int)) = true := by simp; omega
        refine PCall.intro Try.func18 rfl isf18 (by simp [Try.f18]) (by simp [AV.cloL, AV.clo]) fun E Q hE hN hQ => K_start ?_
        repeat' (first | apply w1 | apply w2 | apply w3 | apply w4 | apply w5 | apply w6 | apply w7 | refine Kq_exit_ne (by decide) ?_ | apply w8 | apply w9 | apply w0 | rw [wrap64 (by omega) (by omega)] | ((first | refine hK _ ?_ | refine hKp _ _ ?_); clear hK hKp K Kp; try clear hanc anc) | ((with_reducible refine And.intro ?_ ?_); (focus (first | trivial | omega | (simp only [Fits]; omega) | assumption | (rw [hanc]; rfl)))) | ((first | refine K_regA hE fun K Kp hK hKp => ?_ | refine K_drwA false mixed hE fun K Kp hK hKp anc hanc => ?_ | ((first | apply CallP_mk | apply CallB_mk); (focus (simp only [go_sem]; rfl)); (focus (exact ho)); (focus (simp [go_sem])); (focus (first | exact .inl rfl | (right; simp [go_sem]))))); simp only [go_sem, ↓reduceIte, reduceCtorEq, reduceAdd, reduceMul, reduceEqDiff, reduceLT, reduceLeDiff, reduceSub, reduceDiv, Nat.reduceBEq, Int.reduceBEq, reduceBNe, Int.reduceLT, reduceLE, reduceEq, q2]) | ((first | refine onG_split_t (fun hg => ?_) (fun hg => ?_) | refine onG_split_f (fun hg => ?_) (fun hg => ?_)) <;> simp only [go_sem, ↓reduceIte, reduceCtorEq, reduceAdd, reduceMul, reduceEqDiff, reduceLT, reduceLeDiff, reduceSub, reduceDiv, Nat.reduceBEq, Int.reduceBEq, reduceBNe, Int.reduceLT, reduceLE, reduceEq, q2, hg]) | (refine K_condA (fun hc => ?_) (fun hc => ?_) <;> try (exact absurd hc (by decide))) | (refine K_ret ?_; refine (hQ _ ⟨_, by (try simp only [go_sem, ↓reduceIte, Nat.reduceEqDiff]); rfl, by simp [go_sem], ?_, by first | rfl | assumption⟩).1))
        simp [AV.snap, il]
    · have q1 : (e != 0) = true := by simpa using h1
      refine PCall.intro Try.func18 rfl isf18 (by simp [Try.f18]) (by simp [AV.cloL, AV.clo]) fun E Q hE hN hQ => K_start ?_
      repeat' (first | apply w1 | apply w2 | apply w3 | apply w4 | apply w5 | apply w6 | apply w7 | refine Kq_exit_ne (by decide) ?_ | apply w8 | apply w9 | apply w0 | rw [wrap64 (by omega) (by omega)] | ((first | refine hK _ ?_ | refine hKp _ _ ?_); clear hK hKp K Kp; try clear hanc anc) | ((with_reducible refine And.intro ?_ ?_); (focus (first | trivial | omega | (simp only [Fits]; omega) | assumption | (rw [hanc]; rfl)))) | ((first | refine K_regA hE fun K Kp hK hKp => ?_ | refine K_drwA false mixed hE fun K Kp hK hKp anc hanc => ?_ | ((first | apply CallP_mk | apply CallB_mk); (focus (simp only [go_sem]; rfl)); (focus (exact ho)); (focus (simp [go_sem])); (focus (first | exact .inl rfl | (right; simp [go_sem]))))); simp only [go_sem, ↓reduceIte, reduceCtorEq, reduceAdd, reduceMul, reduceEqDiff, reduceLT, reduceLeDiff, reduceSub, reduceDiv, Nat.reduceBEq, Int.reduceBEq, reduceBNe, Int.reduceLT, reduceLE, reduceEq, q1]) | ((first | refine onG_split_t (fun hg => ?_) (fun hg => ?_) | refine onG_split_f (fun hg => ?_) (fun hg => ?_)) <;> simp only [go_sem, ↓reduceIte, reduceCtorEq, reduceAdd, reduceMul, reduceEqDiff, reduceLT, reduceLeDiff, reduceSub, reduceDiv, Nat.reduceBEq, Int.reduceBEq, reduceBNe, Int.reduceLT, reduceLE, reduceEq, q1, hg]) | (refine K_condA (fun hc => ?_) (fun hc => ?_) <;> try (exact absurd hc (by decide))) | (refine K_ret ?_; refine (hQ _ ⟨_, by (try simp only [go_sem, ↓reduceIte, Nat.reduceEqDiff]); rfl, by simp [go_sem], ?_, by first | rfl | assumption⟩).1))
      simp [AV.snap, il]
end Go.Proofs.Ytakpabiefjlmaaa


/- Chapter 22: Clone in walks; freezing a row that lies in a row. -/
set_option linter.unusedVariables false
set_option linter.unusedSimpArgs false
namespace Go.Proofs.Ytakpabiefjlmaaa
open Go Go.Am Go.Proofs

theorem clone_use {σ : St} {l : List Int} (hl : l.length ≤ 2 ^ 40) {k : Nat} {d : Option Nat} {K : St → Prop} {Kp : AV → St → Prop}
    (hK : ∀ σ' id, id = σ.nx + 1048576 * k → σ'.nx = σ.nx → σ'.fr = (σ.put d (.rw id)).fr → σ'.hp id = some (.row 1 (il l)) → (∀ id ob, σ.hp id = some ob → σ'.hp id = some ob) → K σ') : CallB Try.prog 36 [.sl (il l)] σ k d K Kp := by
  refine CallB.of_A (clone_ac l hl) (fun i => i) (by rw [renL_id]) ⟨trivial, trivial⟩ ?_ ?_ ?_ ?_ ?_ ?_ ?_
  · intro id ob hid; cases hid
  · intro id id' o1 o2 ho1 ho2 he; cases ho1
  · intro id hid; exact absurd hid (Nat.not_lt_zero _)
  · rintro r hp' ⟨rfl, rfl⟩
    refine ⟨show 0 < 0 + 1048576 by omega, fun id ob hid => ?_⟩
    obtain ⟨rfl, rfl⟩ := sHp_cases hid
    exact ⟨by omega, by simp only [AObj.ids, il_ids]⟩
  · rintro r hp' hf
    exact hf.elim
  · rintro r hp' σ' ⟨rfl, rfl⟩ hB
    have e0 : backM (fun i => i) 0 (σ.nx + 1048576 * k) 0 = σ.nx + 1048576 * k := by simp [backM]
    have b0 := hB.obj 0 (.row 1 (il l)) rfl
    rw [e0] at b0
    simp only [AObj.ren, il_ren] at b0
    refine hK σ' _ rfl hB.nx (by rw [hB.fr]; simp only [AV.ren, e0]) b0 fun id ob hid => hB.old id ob hid fun j hj => ?_
    exact absurd rfl hj
  · rintro r hp' σ' hf
    exact hf.elim

/-- A row that lies at the end of a row becomes a slice that can only be read. -/
theorem AW_frzLast {P : Program} {E : En} {c : Code} {Q : AEx → St → Prop} {σ : St} (p X : Nat) {xs qs : List AV} (fr : List (Nat × AV)) (objs : List (Nat × AObj)) (hp : σ.hp p = some (.row 1 xs)) (hc : CloRow xs) (hX : σ.hp X = some (.row 1 (qs ++ [.rw p]))) (hne : X ≠ p)
    (hfr : ∀ q, q ∈ fr → σ.fr q.1 = some q.2) (hob : ∀ q, q ∈ objs → q.1 ≠ p ∧ q.1 ≠ X ∧ σ.hp q.1 = some q.2)
    (h : AW P E c Q ⟨mkFr fr, mkHp ((X, .row 1 (qs ++ [.sl xs])) :: objs), σ.nx⟩) : AW P E c Q σ := by
  have hmem : ∀ {fr : List (Nat × AV)} {t : Nat} {x : AV}, mkFr fr t = some x → (t, x) ∈ fr := by
    intro fr
    induction fr with
    | nil => intro t x h; cases h
    | cons p fr ih =>
      intro t x h
      obtain ⟨t', x'⟩ := p
      simp only [mkFr, upd] at h
      split at h
      · rename_i e; cases h; simp [e]
      · exact List.mem_cons_of_mem _ (ih h)
  refine AW.frz (σ' := ⟨mkFr fr, mkHp ((X, .row 1 (qs ++ [.sl xs])) :: objs), σ.nx⟩) (fun id => if id = p then some (.row 1 xs) else none) ?_ ?_ ?_ rfl h
  · intro id o ho
    split at ho
    · rename_i e; cases ho; rw [e]; exact hp
    · cases ho
  · intro t x' hx
    exact ⟨x', hfr _ (hmem hx), .inl rfl⟩
  · intro id o ho
    simp only [mkHp, updo] at ho
    split at ho
    · rename_i e
      cases ho
      refine ⟨if_neg (by rw [e]; exact hne), .row 1 (qs ++ [.rw p]), by rw [e]; exact hX, ?_⟩
      refine ⟨rfl, by simp, fun i hi => ?_⟩
      by_cases hi' : i < qs.length
      · left
        simp [List.getD_eq_getElem?_getD, List.getElem?_append_left hi']
      · right
        simp only [List.length_append, List.length_singleton] at hi
        obtain rfl : i = qs.length := by omega
        simp [List.getD_eq_getElem?_getD, AV.snapOk, AV.snap, hc]
    · have := mkHp_all (p := fun id ob => id ≠ p ∧ id ≠ X ∧ σ.hp id = some ob) hob id o ho
      exact ⟨if_neg this.1, o, this.2.2, SnpO.refl _⟩
end Go.Proofs.Ytakpabiefjlmaaa

/- Chapter 22: through. -/
set_option linter.unusedSimpArgs false
set_option linter.unusedVariables false
set_option maxHeartbeats 4000000
set_option maxRecDepth 100000
namespace Go.Proofs.Ytakpabiefjlmaaa
open Go.Am Go.Proofs
attribute [local irreducible] AW CallP CallB

def thrAdd (path : List Int) : List Int → List Int × List (List Int) → List Int × List (List Int)
  | [], s => s
  | n :: r, s => if n ∈ s.1 then thrAdd path r s else thrAdd path r (s.1 ++ [n], s.2 ++ [path ++ [n]])
def lst (path : List Int) : Int := path.getD (path.length - 1) 0
def thr (u : List (List Int)) (a : Int) : Nat → List Int → List (List Int) → List Int
  | 0, _, _ => []
  | _ + 1, _, [] => []
  | k + 1, us, path :: q => if a ∈ srt (u.getD (lst path).toNat []) then path else thr u a k (thrAdd path (srt (u.getD (lst path).toNat [])) (us, path :: q)).1 ((thrAdd path (srt (u.getD (lst path).toNat [])) (us, path :: q)).2.drop 1)
def through (u : List (List Int)) (a : Int) : List Int := thr u a (u.length + 2) [] [[a]]

/-- Those used, and the paths. -/
structure TOk (N : Nat) (us : List Int) (q : List (List Int)) : Prop where
  nd : us.Nodup
  rg : ∀ x, x ∈ us → 0 ≤ x ∧ x < N
  ql : q.length ≤ us.length + 1
  pt : ∀ p, p ∈ q → 0 < p.length ∧ p.length ≤ us.length + 1 ∧ 0 ≤ lst p ∧ lst p < N

theorem nodup_nat : ∀ (N : Nat) (l : List Nat), l.Nodup → (∀ x, x ∈ l → x < N) → l.length ≤ N
  | 0, l, _, hr => by
    cases l with
    | nil => simp
    | cons x l => exact absurd (hr x (by simp)) (Nat.not_lt_zero _)
  | N + 1, l, h, hr => by
    by_cases hN : N ∈ l
    · have h1 := nodup_nat N (l.erase N) (h.erase N) (fun x hx => by
        have h2 := (h.mem_erase_iff).1 hx
        have := hr x h2.2
        omega)
      rw [List.length_erase_of_mem hN] at h1
      omega
    · have := nodup_nat N l h fun x hx => by
        have := hr x hx
        rcases Nat.lt_or_ge x N with h3 | h3
        · exact h3
        · obtain rfl : x = N := by omega
          exact absurd hx hN
      omega
theorem nodup_le {N : Nat} {l : List Int} (h : l.Nodup) (hr : ∀ x, x ∈ l → 0 ≤ x ∧ x < N) : l.length ≤ N := by
  have h1 : (l.map Int.toNat).Nodup := by
    rw [List.Nodup, List.pairwise_map]
    refine List.Pairwise.imp_of_mem (fun {a b} ha hb hab => ?_) h
    have := hr a ha; have := hr b hb
    omega
  have := nodup_nat N _ h1 (fun x hx => by
    obtain ⟨y, hy, rfl⟩ := List.mem_map.1 hx
    have := hr y hy
    omega)
  simpa using this

theorem lst_snoc (p : List Int) (n : Int) : lst (p ++ [n]) = n := by
  simp [lst, List.getD_eq_getElem?_getD]

theorem TOk.add {N : Nat} {us : List Int} {q : List (List Int)} {path : List Int} (h : TOk N us q) (hp : path ∈ q) {n : Int} (hn : 0 ≤ n ∧ n < N) (hni : n ∉ us) : TOk N (us ++ [n]) (q ++ [path ++ [n]]) := by
  obtain ⟨h1, h2, h0, h3⟩ := h
  refine ⟨?_, fun x hx => ?_, by simp only [List.length_append, List.length_singleton]; omega, fun p hp' => ?_⟩
  · rw [List.nodup_append]
    exact ⟨h1, by simp, fun a ha b hb e => by rw [List.mem_singleton.1 hb] at e; exact hni (e ▸ ha)⟩
  · rcases List.mem_append.1 hx with hx | hx
    · exact h2 x hx
    · rw [List.mem_singleton.1 hx]; exact hn
  · rcases List.mem_append.1 hp' with hp' | hp'
    · have := h3 p hp'
      simp only [List.length_append, List.length_singleton]
      exact ⟨this.1, by omega, this.2.2⟩
    · have h4 := h3 path hp
      rw [List.mem_singleton.1 hp', lst_snoc]
      simp only [List.length_append, List.length_singleton]
      exact ⟨by omega, by omega, hn⟩

theorem srt_mem (l : List Int) (x : Int) : x ∈ srt l ↔ x ∈ l := (List.mergeSort_perm l _).mem_iff
end Go.Proofs.Ytakpabiefjlmaaa


/- Chapter 22: through, its walk. -/
set_option linter.unusedSimpArgs false
set_option linter.unusedVariables false
set_option maxHeartbeats 4000000
set_option maxRecDepth 100000
namespace Go.Proofs.Ytakpabiefjlmaaa
open Nat (reduceAdd reduceMul reduceEqDiff reduceLT reduceLeDiff reduceSub reduceDiv)
open Int (reduceBNe reduceLE reduceEq)
open Go.Am Go.Proofs
attribute [local irreducible] AW CallP CallB

theorem idA {id : Nat} (h : id = 7340034 + 1048576 * 9) : id ≠ 0 ∧ id ≠ 1 := by omega
theorem idB {id : Nat} (h : id = 11534339 + 1048576 * 2) : id ≠ 15728643 ∧ ¬ (1 = id) ∧ id ≠ 16777219 ∧ ¬ (16777219 = id) ∧ ¬ (0 = id) ∧ ¬ (2 = id) := by omega

theorem through_call (u : List (List Int)) (a : Int) (hu : u.length ≤ 2 ^ 30) (hl : ∀ l, l ∈ u → l.length ≤ 2 ^ 30) (hv : ∀ l, l ∈ u → ∀ x, x ∈ l → 0 ≤ x ∧ x < u.length) (ha : 0 ≤ a ∧ a < u.length) : PCall Try.prog 29 [.sl (ill u), .i a] (.sl (il (through u a))) := by
  have hsz := szok_il [a]
  refine PCall.intro Try.func29 rfl isf29 (by simp [Try.f29]) (by simp [AV.cloL, AV.clo]) fun E Q hE hN hQ => K_start ?_
  repeat' (first | apply w1 | apply w2 | apply w3 | apply w4 | apply w5 | apply w6 | apply w7 | refine Kq_exit_ne (by decide) ?_ | apply w8 | apply w9 | apply w0 | rw [wrap64 (by omega) (by omega)] | ((first | refine hK _ ?_ | refine hKp _ _ ?_); clear hK hKp K Kp; try clear hanc anc) | ((with_reducible refine And.intro ?_ ?_); (focus (first | trivial | omega | (simp only [Fits]; omega) | assumption | (rw [hanc]; rfl)))) | ((first | refine K_regA hE fun K Kp hK hKp => ?_ | refine K_drwA true mixed hE fun K Kp hK hKp anc hanc => ?_ | refine K_drwA false mixed hE fun K Kp hK hKp anc hanc => ?_); simp only [go_sem, ↓reduceIte, reduceCtorEq, reduceAdd, reduceMul, reduceEqDiff, reduceLT, reduceLeDiff, reduceSub, reduceDiv, Nat.reduceBEq, Int.reduceBEq, reduceBNe, Int.reduceLT, reduceLE, reduceEq]) | ((first | refine onG_split_t (fun hg => ?_) (fun hg => ?_) | refine onG_split_f (fun hg => ?_) (fun hg => ?_)) <;> simp only [go_sem, ↓reduceIte, reduceCtorEq, reduceAdd, reduceMul, reduceEqDiff, reduceLT, reduceLeDiff, reduceSub, reduceDiv, Nat.reduceBEq, Int.reduceBEq, reduceBNe, Int.reduceLT, reduceLE, reduceEq, hg]) | (refine K_condA (fun hc => ?_) (fun hc => ?_) <;> try (exact absurd hc (by decide))))
  refine AW_frzLast 4194304 5242880 (xs := [.i a]) (qs := []) [(0, .sl (ill u)), (1, .i a), (5, .mp 1048576), (6, .rw 5242880)] [(1048576, .map [])] (by simp [go_sem]) (clo_il [a]) (by simp [go_sem]) (by decide) (by simp [go_sem]) (by simp [go_sem]) ?_
  refine K_loop (X := Nat × List Int × List (List Int) × List (AV × AV)) (fun x => MapIs x.2.2.2 (tk x.2.1) ∧ EsClo x.2.2.2 ∧ TOk u.length x.2.1 x.2.2.1 ∧ x.1 = u.length - x.2.1.length + x.2.2.1.length + 1 ∧ thr u a x.1 x.2.1 x.2.2.1 = through u a) (fun x => mkSt [(0, .sl (ill u)), (1, .i a), (5, .mp 0), (6, .rw 1)] [(0, .map x.2.2.2), (1, .row 1 (ill x.2.2.1))] 2) (fun x => x.1) (u.length + 2, [], [[a]], []) ⟨MapIs.nil, EsClo.nil, ⟨List.nodup_nil, fun _ h => (by cases h), by simp, fun p hp => (by rw [List.mem_singleton.1 hp]; exact ⟨by simp, by simp, ha⟩)⟩, by simp, rfl⟩ (fun i => if i = 0 then 1048576 else 5242880) (ent_mk (by simp [go_sem]) (by simp [go_sem, ill, il]) (by simp) (by simp [hN])) ?_
  rintro ⟨k, us, q, es⟩ ⟨hm, hec, hok, hk, hth⟩
  simp only at hm hec hok hk hth
  have hus := nodup_le hok.nd hok.rg
  cases q with
  | nil =>
    have hr : through u a = [] := by rw [← hth, hk]; rfl
    rw [hr] at hQ
    have q0 : decide (((0 : Nat) : Int) > 0) = false := by decide
    repeat' (first | apply w1 | apply w2 | apply w3 | apply w4 | apply w5 | apply w6 | apply w7 | refine Kq_exit_ne (by decide) ?_ | apply w8 | apply w9 | apply w0 | rw [wrap64 (by omega) (by omega)] | ((first | refine hK _ ?_ | refine hKp _ _ ?_); clear hK hKp K Kp; try clear hanc anc) | ((with_reducible refine And.intro ?_ ?_); (focus (first | trivial | omega | (simp only [Fits]; omega) | assumption | (rw [hanc]; rfl)))) | ((first | refine K_regA hE fun K Kp hK hKp => ?_ | refine K_drwA false mixed hE fun K Kp hK hKp anc hanc => ?_); simp only [go_sem, ↓reduceIte, reduceCtorEq, reduceAdd, reduceMul, reduceEqDiff, reduceLT, reduceLeDiff, reduceSub, reduceDiv, Nat.reduceBEq, Int.reduceBEq, reduceBNe, Int.reduceLT, reduceLE, reduceEq, q0]) | ((first | refine onG_split_t (fun hg => ?_) (fun hg => ?_) | refine onG_split_f (fun hg => ?_) (fun hg => ?_)) <;> simp only [go_sem, ↓reduceIte, reduceCtorEq, reduceAdd, reduceMul, reduceEqDiff, reduceLT, reduceLeDiff, reduceSub, reduceDiv, Nat.reduceBEq, Int.reduceBEq, reduceBNe, Int.reduceLT, reduceLE, reduceEq, q0, hg]) | (refine K_condA (fun hc => ?_) (fun hc => ?_) <;> try (exact absurd hc (by decide))) | (refine K_ret ?_; refine (hQ _ ⟨_, by (try simp only [go_sem, ↓reduceIte, Nat.reduceEqDiff]); rfl, by simp [go_sem], ?_, by first | rfl | assumption⟩).1))
    simp [AV.snap, il]
  | cons path q =>
    rw [hk, thr] at hth
    have hp := hok.pt path (by simp)
    have hpl : path.length ≤ 2 ^ 31 := by omega
    have q0 : decide (((q.length + 1 : Nat) : Int) > 0) = true := by simp
    obtain ⟨j, hj⟩ := Int.eq_ofNat_of_zero_le hp.2.2.1
    obtain ⟨l, hul⟩ := get?_of (show j < u.length by have := hp.2.2.2; omega)
    have hlu := List.mem_of_getElem? hul
    have e1 : ((path.length : Int) - 1).toNat = path.length - 1 := by omega
    have e2 : path[path.length - 1]? = some ((j : Nat) : Int) := by
      rw [← hj, lst, List.getD_eq_getElem?_getD, List.getElem?_eq_getElem (by omega)]; rfl
    have e3 : u.getD (lst path).toNat [] = l := by rw [hj]; simp [List.getD_eq_getElem?_getD, hul]
    rw [e3] at hth
    have e4 : IntKind.i64.wrap ((path.length : Int) - 1) = (path.length : Int) - 1 := wrap64 (by omega) (by omega)
    repeat' (first | apply w1 | apply w2 | apply w3 | apply w4 | apply w5 | apply w6 | apply w7 | refine Kq_exit_ne (by decide) ?_ | apply w8 | apply w9 | apply w0 | rw [wrap64 (by omega) (by omega)] | ((first | refine hK _ ?_ | refine hKp _ _ ?_); clear hK hKp K Kp; try clear hanc anc) | ((with_reducible refine And.intro ?_ ?_); (focus (first | trivial | omega | (simp only [Fits]; omega) | assumption | (rw [hanc]; rfl)))) | ((first | refine K_regA hE fun K Kp hK hKp => ?_ | refine K_drwA true mixed hE fun K Kp hK hKp anc hanc => ?_ | refine K_drwA false mixed hE fun K Kp hK hKp anc hanc => ?_); simp only [go_sem, ↓reduceIte, reduceCtorEq, reduceAdd, reduceMul, reduceEqDiff, reduceLT, reduceLeDiff, reduceSub, reduceDiv, Nat.reduceBEq, Int.reduceBEq, reduceBNe, Int.reduceLT, reduceLE, reduceEq, q0, Int.toNat_zero, List.getElem?_cons_zero, Option.map_some, e4, e1, e2, hul]) | ((first | refine onG_split_t (fun hg => ?_) (fun hg => ?_) | refine onG_split_f (fun hg => ?_) (fun hg => ?_)) <;> simp only [go_sem, ↓reduceIte, reduceCtorEq, reduceAdd, reduceMul, reduceEqDiff, reduceLT, reduceLeDiff, reduceSub, reduceDiv, Nat.reduceBEq, Int.reduceBEq, reduceBNe, Int.reduceLT, reduceLE, reduceEq, q0, Int.toNat_zero, List.getElem?_cons_zero, Option.map_some, e4, e1, e2, hul, hg]) | (refine K_condA (fun hc => ?_) (fun hc => ?_) <;> try (exact absurd hc (by decide))))
    refine Hold.mk (clone_use (l := l) (by have := hl l hlu; omega) ?_)
    rintro ⟨fr', hp', nx'⟩ id hid hnx hfr hpn hold
    simp only at hid hnx hfr hpn hold
    obtain ⟨hid0, hid1⟩ := idA hid
    clear hid
    subst hnx hfr
    simp only [go_sem, ↓reduceIte, reduceCtorEq, reduceAdd, reduceMul, reduceEqDiff, reduceLT, reduceLeDiff, reduceSub, reduceDiv, Nat.reduceBEq, Int.reduceBEq, reduceBNe, Int.reduceLT, reduceLE, reduceEq]
    refine hK _ ?_; clear hK hKp K Kp; try clear hanc anc
    repeat (first | refine Kq_norm_code ?_ | refine Kq_norm_blk ?_ | refine Kq_norm_lp ?_)
    have e0 := hold 0 (.map es) (by simp [go_sem])
    have f1 := hold 1 (.row 1 (ill (path :: q))) (by simp [go_sem])
    have hmi : ∀ (a b : AV), (a, b) ∈ es → AV.ids (fun x => x < 3) a ∧ AV.ids (fun x => x < 3) b := fun a b h => ⟨clo_ids (hec _ h).1, clo_ids (hec _ h).2⟩
    refine AW.ent (fun i => if i = 2 then id else i) (σ' := mkSt [(0, .sl (ill u)), (1, .i a), (5, .mp 0), (6, .rw 1), (7, .sl (il path)), (8, .rw 2)] [(0, .map es), (1, .row 1 (ill (path :: q))), (2, .row 1 (il l))] 3) (ent_mk (by simp [go_sem]) (by simp [e0, f1, hpn, hec.ren, go_sem]; exact hmi) (by simp [hid0, hid1, Ne.symm hid0, Ne.symm hid1]) (by simp [hN])) ?_
    clear hold e0 f1 hpn
    repeat' (first | apply w1 | apply w2 | apply w3 | apply w4 | apply w5 | apply w6 | apply w7 | refine Kq_exit_ne (by decide) ?_ | apply w8 | apply w9 | apply w0 | rw [wrap64 (by omega) (by omega)] | ((first | refine hK _ ?_ | refine hKp _ _ ?_); clear hK hKp K Kp; try clear hanc anc) | ((with_reducible refine And.intro ?_ ?_); (focus (first | trivial | omega | (simp only [Fits]; omega) | assumption | (rw [hanc]; rfl)))) | ((first | refine K_regA hE fun K Kp hK hKp => ?_ | refine K_drwA true mixed hE fun K Kp hK hKp anc hanc => ?_ | refine K_drwA false mixed hE fun K Kp hK hKp anc hanc => ?_); simp only [go_sem, ↓reduceIte, reduceCtorEq, reduceAdd, reduceMul, reduceEqDiff, reduceLT, reduceLeDiff, reduceSub, reduceDiv, Nat.reduceBEq, Int.reduceBEq, reduceBNe, Int.reduceLT, reduceLE, reduceEq]) | ((first | refine onG_split_t (fun hg => ?_) (fun hg => ?_) | refine onG_split_f (fun hg => ?_) (fun hg => ?_)) <;> simp only [go_sem, ↓reduceIte, reduceCtorEq, reduceAdd, reduceMul, reduceEqDiff, reduceLT, reduceLeDiff, reduceSub, reduceDiv, Nat.reduceBEq, Int.reduceBEq, reduceBNe, Int.reduceLT, reduceLE, reduceEq, hg]) | (refine K_condA (fun hc => ?_) (fun hc => ?_) <;> try (exact absurd hc (by decide))))
    refine Hold.mk (sort_use (l := l) (by have := hl l hlu; omega) (by simp [go_sem]) ?_)
    rintro ⟨fr', hp', nx'⟩ hnx hfr hp2 hold
    simp only at hnx hfr hp2 hold
    subst hnx hfr
    simp only [go_sem, ↓reduceIte, reduceCtorEq, reduceAdd, reduceMul, reduceEqDiff, reduceLT, reduceLeDiff, reduceSub, reduceDiv, Nat.reduceBEq, Int.reduceBEq, reduceBNe, Int.reduceLT, reduceLE, reduceEq]
    refine hK _ ?_; clear hK hKp K Kp; try clear hanc anc
    repeat (first | refine Kq_norm_code ?_ | refine Kq_norm_blk ?_ | refine Kq_norm_lp ?_)
    have e0 := hold 0 (.map es) (by decide) (by simp [go_sem])
    have f1 := hold 1 (.row 1 (ill (path :: q))) (by decide) (by simp [go_sem])
    have hnl : (srt l).length ≤ 2 ^ 30 := by rw [srt_len]; exact hl l hlu
    have hnr : ∀ x, x ∈ srt l → 0 ≤ x ∧ x < u.length := fun x hx => hv l hlu x ((srt_mem l x).1 hx)
    generalize srt l = nx at *
    refine AW.ent (fun i => i) (σ' := mkSt [(0, .sl (ill u)), (1, .i a), (5, .mp 0), (6, .rw 1), (7, .sl (il path)), (8, .rw 2)] [(0, .map es), (1, .row 1 (ill (path :: q))), (2, .row 1 (il nx))] 3) (ent_mk (by simp [go_sem]) (by simp [e0, f1, hp2, hec.ren, go_sem]; exact hmi) (by simp) (by simp [hN])) ?_
    clear hold e0 f1 hp2
    have hcl := has_call nx a (by omega)
    by_cases hin : a ∈ nx
    · rw [decide_eq_true hin] at hcl
      rw [if_pos hin] at hth
      rw [← hth] at hQ
      repeat' (first | apply w1 | apply w2 | apply w3 | apply w4 | apply w5 | apply w6 | apply w7 | refine Kq_exit_ne (by decide) ?_ | apply w8 | apply w9 | apply w0 | rw [wrap64 (by omega) (by omega)] | ((first | refine hK _ ?_ | refine hKp _ _ ?_); clear hK hKp K Kp; try clear hanc anc) | ((with_reducible refine And.intro ?_ ?_); (focus (first | trivial | omega | (simp only [Fits]; omega) | assumption | (rw [hanc]; rfl)))) | ((first | refine K_regA hE fun K Kp hK hKp => ?_ | refine K_drwA false mixed hE fun K Kp hK hKp anc hanc => ?_ | ((first | apply CallP_mk | apply CallB_mk); (focus (simp only [go_sem]; rfl)); (focus (exact hcl)); (focus (simp [go_sem])); (focus (first | exact .inl rfl | (right; simp [go_sem]))))); simp only [go_sem, ↓reduceIte, reduceCtorEq, reduceAdd, reduceMul, reduceEqDiff, reduceLT, reduceLeDiff, reduceSub, reduceDiv, Nat.reduceBEq, Int.reduceBEq, reduceBNe, Int.reduceLT, reduceLE, reduceEq]) | ((first | refine onG_split_t (fun hg => ?_) (fun hg => ?_) | refine onG_split_f (fun hg => ?_) (fun hg => ?_)) <;> simp only [go_sem, ↓reduceIte, reduceCtorEq, reduceAdd, reduceMul, reduceEqDiff, reduceLT, reduceLeDiff, reduceSub, reduceDiv, Nat.reduceBEq, Int.reduceBEq, reduceBNe, Int.reduceLT, reduceLE, reduceEq, hg]) | (refine K_condA (fun hc => ?_) (fun hc => ?_) <;> try (exact absurd hc (by decide))) | (refine K_ret ?_; refine (hQ _ ⟨_, by (try simp only [go_sem, ↓reduceIte, Nat.reduceEqDiff]); rfl, by simp [go_sem], ?_, by first | rfl | assumption⟩).1))
      simp [AV.snap]
    · rw [decide_eq_false hin] at hcl
      rw [if_neg hin] at hth
      repeat' (first | apply w1 | apply w2 | apply w3 | apply w4 | apply w5 | apply w6 | apply w7 | refine Kq_exit_ne (by decide) ?_ | apply w8 | apply w9 | apply w0 | rw [wrap64 (by omega) (by omega)] | ((first | refine hK _ ?_ | refine hKp _ _ ?_); clear hK hKp K Kp; try clear hanc anc) | ((with_reducible refine And.intro ?_ ?_); (focus (first | trivial | omega | (simp only [Fits]; omega) | assumption | (rw [hanc]; rfl)))) | ((first | refine K_regA hE fun K Kp hK hKp => ?_ | refine K_drwA true mixed hE fun K Kp hK hKp anc hanc => ?_ | refine K_drwA false mixed hE fun K Kp hK hKp anc hanc => ?_ | ((first | apply CallP_mk | apply CallB_mk); (focus (simp only [go_sem]; rfl)); (focus (exact hcl)); (focus (simp [go_sem])); (focus (first | exact .inl rfl | (right; simp [go_sem]))))); simp only [go_sem, ↓reduceIte, reduceCtorEq, reduceAdd, reduceMul, reduceEqDiff, reduceLT, reduceLeDiff, reduceSub, reduceDiv, Nat.reduceBEq, Int.reduceBEq, reduceBNe, Int.reduceLT, reduceLE, reduceEq]) | ((first | refine onG_split_t (fun hg => ?_) (fun hg => ?_) | refine onG_split_f (fun hg => ?_) (fun hg => ?_)) <;> simp only [go_sem, ↓reduceIte, reduceCtorEq, reduceAdd, reduceMul, reduceEqDiff, reduceLT, reduceLeDiff, reduceSub, reduceDiv, Nat.reduceBEq, Int.reduceBEq, reduceBNe, Int.reduceLT, reduceLE, reduceEq, hg]) | (refine K_condA (fun hc => ?_) (fun hc => ?_) <;> try (exact absurd hc (by decide))))
      refine K_loop (X := Nat × List Int × List (List Int) × List (AV × AV)) (fun x => x.1 ≤ nx.length ∧ MapIs x.2.2.2 (tk x.2.1) ∧ EsClo x.2.2.2 ∧ TOk u.length x.2.1 x.2.2.1 ∧ thrAdd path (nx.drop x.1) (x.2.1, x.2.2.1) = thrAdd path nx (us, path :: q) ∧ u.length - x.2.1.length + x.2.2.1.length = u.length - us.length + (q.length + 1) ∧ path ∈ x.2.2.1 ∧ 0 < x.2.2.1.length) (fun x => mkSt [(0, .sl (ill u)), (1, .i a), (5, .mp 0), (6, .rw 1), (7, .sl (il path)), (39, .rw 2), (40, AV.i nx.length), (41, AV.i x.1)] [(0, .map x.2.2.2), (1, .row 1 (ill x.2.2.1)), (2, .row 1 (il nx))] 3) (fun x => nx.length - x.1) (0, us, path :: q, es) ⟨Nat.zero_le _, hm, hec, hok, rfl, rfl, by simp, by simp⟩ (fun i => i) (ent_mk (by simp [go_sem]) (by simp [hec.ren, go_sem]; exact hmi) (by simp) (by simp [hN])) ?_
      clear hm hec hok hmi hin hcl
      rintro ⟨i, us', q', es'⟩ ⟨hi, hm, hec, hok', hth', hcnt, hpq, hqpos⟩
      simp only at hi hm hec hok' hth' hcnt hpq hqpos
      have hmi : ∀ (a b : AV), (a, b) ∈ es' → AV.ids (fun x => x < 3) a ∧ AV.ids (fun x => x < 3) b := fun a b h => ⟨clo_ids (hec _ h).1, clo_ids (hec _ h).2⟩
      have hus' := nodup_le hok'.nd hok'.rg
      by_cases hlt : i < nx.length
      · obtain ⟨n, hn⟩ := get?_of hlt
        have hnr' := hnr n (List.mem_of_getElem? hn)
        rw [drop_of hn, thrAdd] at hth'
        have hmx := hm n
        by_cases hin' : n ∈ us'
        · rw [tk, if_pos hin'] at hmx
          rw [if_pos hin'] at hth'
          repeat' (first | apply w1 | apply w2 | apply w3 | apply w4 | apply w5 | apply w6 | apply w7 | refine Kq_exit_ne (by decide) ?_ | apply w8 | apply w9 | apply w0 | rw [wrap64 (by omega) (by omega)] | ((first | refine hK _ ?_ | refine hKp _ _ ?_); clear hK hKp K Kp; try clear hanc anc) | ((with_reducible refine And.intro ?_ ?_); (focus (first | trivial | omega | (simp only [Fits]; omega) | assumption | (rw [hanc]; rfl)))) | ((first | refine K_regA hE fun K Kp hK hKp => ?_ | refine K_drwA true mixed hE fun K Kp hK hKp anc hanc => ?_ | refine K_drwA false mixed hE fun K Kp hK hKp anc hanc => ?_); simp only [go_sem, ↓reduceIte, reduceCtorEq, reduceAdd, reduceMul, reduceEqDiff, reduceLT, reduceLeDiff, reduceSub, reduceDiv, Nat.reduceBEq, Int.reduceBEq, reduceBNe, Int.reduceLT, reduceLE, reduceEq, lt_dec hlt, hn, hmx]) | ((first | refine onG_split_t (fun hg => ?_) (fun hg => ?_) | refine onG_split_f (fun hg => ?_) (fun hg => ?_)) <;> simp only [go_sem, ↓reduceIte, reduceCtorEq, reduceAdd, reduceMul, reduceEqDiff, reduceLT, reduceLeDiff, reduceSub, reduceDiv, Nat.reduceBEq, Int.reduceBEq, reduceBNe, Int.reduceLT, reduceLE, reduceEq, lt_dec hlt, hn, hmx, hg]) | (refine K_condA (fun hc => ?_) (fun hc => ?_) <;> try (exact absurd hc (by decide))))
          exact ⟨(i + 1, us', q', es'), ⟨by simp only; omega, hm, hec, hok', hth', hcnt, hpq, hqpos⟩, by simp only; omega, fun i => i, ent_mk (by simp [go_sem]) (by simp [hec.ren, go_sem]; exact hmi) (by simp) (by simp [hN])⟩
        · rw [tk, if_neg hin'] at hmx
          rw [if_neg hin'] at hth'
          repeat' (first | apply w1 | apply w2 | apply w3 | apply w4 | apply w5 | apply w6 | apply w7 | refine Kq_exit_ne (by decide) ?_ | apply w8 | apply w9 | apply w0 | rw [wrap64 (by omega) (by omega)] | ((first | refine hK _ ?_ | refine hKp _ _ ?_); clear hK hKp K Kp; try clear hanc anc) | ((with_reducible refine And.intro ?_ ?_); (focus (first | trivial | omega | (simp only [Fits]; omega) | assumption | (rw [hanc]; rfl)))) | ((first | refine K_regA hE fun K Kp hK hKp => ?_ | refine K_drwA true mixed hE fun K Kp hK hKp anc hanc => ?_ | refine K_drwA false mixed hE fun K Kp hK hKp anc hanc => ?_); simp only [go_sem, ↓reduceIte, reduceCtorEq, reduceAdd, reduceMul, reduceEqDiff, reduceLT, reduceLeDiff, reduceSub, reduceDiv, Nat.reduceBEq, Int.reduceBEq, reduceBNe, Int.reduceLT, reduceLE, reduceEq, lt_dec hlt, hn, hmx]) | ((first | refine onG_split_t (fun hg => ?_) (fun hg => ?_) | refine onG_split_f (fun hg => ?_) (fun hg => ?_)) <;> simp only [go_sem, ↓reduceIte, reduceCtorEq, reduceAdd, reduceMul, reduceEqDiff, reduceLT, reduceLeDiff, reduceSub, reduceDiv, Nat.reduceBEq, Int.reduceBEq, reduceBNe, Int.reduceLT, reduceLE, reduceEq, lt_dec hlt, hn, hmx, hg]) | (refine K_condA (fun hc => ?_) (fun hc => ?_) <;> try (exact absurd hc (by decide))))
          refine Hold.mk (clone_use (l := path) (by omega) ?_)
          rintro ⟨fr', hp', nx'⟩ id hid hnx hfr hpn hold
          simp only at hid hnx hfr hpn hold
          subst hnx hfr
          obtain ⟨hid1, hid2, hid3, hid4, hid5, hid6⟩ := idB hid
          clear hid
          have f0 := hold 0 (.map (putE .i64 n (.bool true) es' none)) (by simp [go_sem])
          have f1 := hold 1 (.row 1 (ill q')) (by simp [go_sem])
          have f2 := hold 2 (.row 1 (il nx)) (by simp [go_sem])
          have hsn := szok_il [n]
          have hql := hok'.ql
          simp only [go_sem, ↓reduceIte, reduceCtorEq, reduceAdd, reduceMul, reduceEqDiff, reduceLT, reduceLeDiff, reduceSub, reduceDiv, Nat.reduceBEq, Int.reduceBEq, reduceBNe, Int.reduceLT, reduceLE, reduceEq, hid1, hid2, hid3, hid4, hpn, f1]
          refine ⟨by simp only [Fits]; omega, ?_⟩
          refine ⟨by simp only [Fits]; omega, ?_⟩
          refine hK _ ?_; clear hK hKp K Kp; try clear hanc anc
          repeat (first | refine Kq_norm_code ?_ | refine Kq_norm_blk ?_ | refine Kq_norm_lp ?_)
          refine AW_frzLast 16777219 18874371 (xs := il (path ++ [n])) (qs := ill q') [(0, .sl (ill u)), (1, .i a), (5, .mp 0), (6, .rw 18874371), (7, .sl (il path)), (39, .rw 2), (40, AV.i nx.length), (41, AV.i i)] [(0, .map (putE .i64 n (.bool true) es' none)), (2, .row 1 (il nx))] (by simp [go_sem]) (clo_il _) (by simp [go_sem]) (by decide) (by simp [go_sem]) (by simp [go_sem, f0, f2, hid5, hid6]) ?_
          clear hold f0 f1 f2 hpn
          have hm' := hm.put n (.bool true)
          rw [tk, if_neg hin'] at hm'
          have hc' := hec.put n (x := .bool true) rfl none
          have htk : (fun m => if m = n then some (AV.bool true) else tk us' m) = tk (us' ++ [n]) := by
            funext m
            simp only [tk, List.mem_append, List.mem_singleton]
            by_cases h1 : m = n <;> by_cases h2 : m ∈ us' <;> simp [h1, h2]
          rw [htk] at hm'
          have hmi' : ∀ (a b : AV), (a, b) ∈ putE .i64 n (.bool true) es' none → AV.ids (fun x => x < 3) a ∧ AV.ids (fun x => x < 3) b := fun a b h => ⟨clo_ids (hc' _ h).1, clo_ids (hc' _ h).2⟩
          have hok2 := hok'.add hpq hnr' hin'
          have hus2 := nodup_le hok2.nd hok2.rg
          have hl1 : (us' ++ [n]).length = us'.length + 1 := by simp
          have hl2 : (q' ++ [path ++ [n]]).length = q'.length + 1 := by simp
          have hill : ill q' ++ [.sl (il (path ++ [n]))] = ill (q' ++ [path ++ [n]]) := by simp [ill]
          rw [hill]
          refine AW.ent (fun j => if j = 1 then 18874371 else j) (σ' := mkSt [(0, .sl (ill u)), (1, .i a), (5, .mp 0), (6, .rw 1), (7, .sl (il path)), (39, .rw 2), (40, AV.i nx.length), (41, AV.i i)] [(0, .map (putE .i64 n (.bool true) es' none)), (1, .row 1 (ill (q' ++ [path ++ [n]]))), (2, .row 1 (il nx))] 3) (ent_mk (by simp [go_sem]) (by simp [hc'.ren, go_sem]; exact hmi') (by simp) (by simp [hN])) ?_
          repeat' (first | apply w1 | apply w2 | apply w3 | apply w4 | apply w5 | apply w6 | apply w7 | refine Kq_exit_ne (by decide) ?_ | apply w8 | apply w9 | apply w0 | rw [wrap64 (by omega) (by omega)] | ((first | refine hK _ ?_ | refine hKp _ _ ?_); clear hK hKp K Kp; try clear hanc anc) | ((with_reducible refine And.intro ?_ ?_); (focus (first | trivial | omega | (simp only [Fits]; omega) | assumption | (rw [hanc]; rfl)))) | ((first | refine K_regA hE fun K Kp hK hKp => ?_ | refine K_drwA true mixed hE fun K Kp hK hKp anc hanc => ?_ | refine K_drwA false mixed hE fun K Kp hK hKp anc hanc => ?_); simp only [go_sem, ↓reduceIte, reduceCtorEq, reduceAdd, reduceMul, reduceEqDiff, reduceLT, reduceLeDiff, reduceSub, reduceDiv, Nat.reduceBEq, Int.reduceBEq, reduceBNe, Int.reduceLT, reduceLE, reduceEq]) | ((first | refine onG_split_t (fun hg => ?_) (fun hg => ?_) | refine onG_split_f (fun hg => ?_) (fun hg => ?_)) <;> simp only [go_sem, ↓reduceIte, reduceCtorEq, reduceAdd, reduceMul, reduceEqDiff, reduceLT, reduceLeDiff, reduceSub, reduceDiv, Nat.reduceBEq, Int.reduceBEq, reduceBNe, Int.reduceLT, reduceLE, reduceEq, hg]) | (refine K_condA (fun hc => ?_) (fun hc => ?_) <;> try (exact absurd hc (by decide))))
          exact ⟨(i + 1, us' ++ [n], q' ++ [path ++ [n]], putE .i64 n (.bool true) es' none), ⟨by simp only; omega, hm', hc', hok2, hth', by simp only [hl1, hl2]; omega, List.mem_append_left _ hpq, by simp only [hl2]; omega⟩, by simp only; omega, fun j => j, ent_mk (by simp [go_sem]) (by simp [hc'.ren, go_sem]; exact hmi') (by simp) (by simp [hN])⟩
      · obtain rfl : i = nx.length := by omega
        rw [List.drop_length, thrAdd] at hth'
        have hdr : List.drop (Int.toNat 1) (ill q') = ill (q'.drop 1) := by simp [ill]
        have hok2 : TOk u.length us' (q'.drop 1) := ⟨hok'.nd, hok'.rg, by have := hok'.ql; simp only [List.length_drop]; omega, fun p hp => hok'.pt p (List.mem_of_mem_drop hp)⟩
        rw [← hth'] at hth
        simp only at hth
        repeat' (first | apply w1 | apply w2 | apply w3 | apply w4 | apply w5 | apply w6 | apply w7 | refine Kq_exit_ne (by decide) ?_ | apply w8 | apply w9 | apply w0 | rw [wrap64 (by omega) (by omega)] | ((first | refine hK _ ?_ | refine hKp _ _ ?_); clear hK hKp K Kp; try clear hanc anc) | ((with_reducible refine And.intro ?_ ?_); (focus (first | trivial | omega | (simp only [Fits]; omega) | assumption | (rw [hanc]; rfl)))) | ((first | refine K_regA hE fun K Kp hK hKp => ?_ | refine K_drwA true mixed hE fun K Kp hK hKp anc hanc => ?_ | refine K_drwA false mixed hE fun K Kp hK hKp anc hanc => ?_); simp only [go_sem, ↓reduceIte, reduceCtorEq, reduceAdd, reduceMul, reduceEqDiff, reduceLT, reduceLeDiff, reduceSub, reduceDiv, Nat.reduceBEq, Int.reduceBEq, reduceBNe, Int.reduceLT, reduceLE, reduceEq, ge_dec]) | ((first | refine onG_split_t (fun hg => ?_) (fun hg => ?_) | refine onG_split_f (fun hg => ?_) (fun hg => ?_)) <;> simp only [go_sem, ↓reduceIte, reduceCtorEq, reduceAdd, reduceMul, reduceEqDiff, reduceLT, reduceLeDiff, reduceSub, reduceDiv, Nat.reduceBEq, Int.reduceBEq, reduceBNe, Int.reduceLT, reduceLE, reduceEq, ge_dec, hg]) | (refine K_condA (fun hc => ?_) (fun hc => ?_) <;> try (exact absurd hc (by decide))))
        have hfin : u.length - us.length + (q.length + 1) = u.length - us'.length + (q'.drop 1).length + 1 := by
          simp only [List.length_drop]; omega
        have hfin2 : u.length - us.length + (q.length + 1) < k := by rw [hk]; simp only [List.length_cons]; omega
        refine ⟨(u.length - us.length + (q.length + 1), us', q'.drop 1, es'), ⟨hm, hec, hok2, hfin, hth⟩, hfin2, fun j => if j = 1 then 2097155 else j, ?_⟩
        have hmi2 : ∀ (a b : AV), (a, b) ∈ es' → AV.ids (fun x => x < 2) a ∧ AV.ids (fun x => x < 2) b := fun a b h => ⟨clo_ids (hec _ h).1, clo_ids (hec _ h).2⟩
        exact ent_mk (by simp [go_sem]) (by simp [hec.ren, hdr, go_sem]; exact ⟨hmi2, by simp [ill]⟩) (by simp) (by simp [hN])
end Go.Proofs.Ytakpabiefjlmaaa

