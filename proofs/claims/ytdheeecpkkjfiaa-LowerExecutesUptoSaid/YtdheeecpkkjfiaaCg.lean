/- A part of the proof: an abstract machine for the walks, and what the walked functions compute. -/
import Derived.Test.YtdheeecpkkjfiaaCf
set_option linter.unusedVariables false
set_option linter.unusedSimpArgs false
/- Chapter 10: the methods of the lowering that call each other. -/
set_option linter.unusedSimpArgs false
set_option linter.unusedVariables false
set_option maxHeartbeats 4000000
set_option maxRecDepth 100000
namespace Go.Proofs.Ytdheeecpkkjfiaa
open Nat (reduceAdd reduceMul reduceEqDiff reduceLT reduceLeDiff reduceSub reduceDiv)
open Int (reduceBNe reduceLE reduceEq)
open Go.Am Go.Proofs Go.Low
attribute [local irreducible] AW CallP CallB

theorem get?_of' {α : Type} {l : List α} {i : Nat} (h : i < l.length) : ∃ x, l[i]? = some x := ⟨l[i], by simp [h]⟩
theorem drop_of' {α : Type} {l : List α} {i : Nat} {x : α} (h : l[i]? = some x) : l.drop i = x :: l.drop (i + 1) := by
  obtain ⟨h1, h2⟩ := List.getElem?_eq_some_iff.1 h
  rw [List.drop_eq_getElem_cons h1, h2]
theorem lt_dec' {a b : Nat} (h : a < b) : decide ((a : Int) < (b : Int)) = true := by simpa using h
theorem ge_dec' (a : Nat) : decide ((a : Int) < (a : Int)) = false := by simp
theorem szL_len : ∀ l : List Nd, l.length ≤ szL l
  | [] => Nat.zero_le _
  | n :: l => by rw [szL]; have := szN_pos n; have := szL_len l; simp only [List.length_cons]; omega

/-- The methods, by the kinds of nodes. -/
def mdL : List (AV × AV) := [(.i 1, .fn (.func 40) [] []), (.i 2, .fn (.func 41) [] []), (.i 3, .fn (.func 42) [] []), (.i 4, .fn (.func 43) [] []), (.i 5, .fn (.func 44) [] []), (.i 6, .fn (.func 45) [] [])]
theorem mdL_ok : OkM (hsL mdL) := okL (by simp [mdL, AV.clo, AV.cloL])

/-- A method's contract, in terms of the model. -/
def LC (f : FuncId) (vs : List AV) (s : LS) (r : AV) (t : LS) : Prop :=
  LCall Try.prog f vs (hsL mdL) s.bl s.cur (fun r' bl' cur' => r' = r ∧ bl' = t.bl ∧ cur' = t.cur) (fun _ _ _ => False)

/-- There is room for so many more. -/
structure Pre (s : LS) (n : Nat) : Prop where
  cur : s.cur < s.bl.length
  ok : OkB s.bl
  len : s.bl.length + n ≤ 400000
  code : ∀ b, b ∈ s.bl → b.code.length + n ≤ 900000

theorem Pre.grow {s t : LS} {n m k : Nat} (h : Pre s n) (g : Grow s t k) (hk : k + m ≤ n) : Pre t m :=
  ⟨g.cur, g.ok h.ok, by have := g.ge; have := h.len; omega, fun b hb => by
    have := g.code (900000 - n) (fun b hb => by have := h.code b hb; omega) b hb
    have h3 : n ≤ 900000 := by have := h.len; omega
    omega⟩
theorem Pre.mono {s : LS} {n m : Nat} (h : Pre s n) (hm : m ≤ n) : Pre s m :=
  ⟨h.cur, h.ok, by have := h.len; omega, fun b hb => by have := h.code b hb; omega⟩
theorem Pre.at {s : LS} {n k : Nat} (h : Pre s n) (hk : k < s.bl.length) : Pre (s.at k) n := ⟨hk, h.ok, h.len, h.code⟩
theorem Pre.get {s : LS} {n : Nat} (h : Pre s n) : ∃ b, s.bl[s.cur]? = some b := ⟨s.bl[s.cur]'h.cur, by simp [h.cur]⟩
theorem Pre.len5 {s : LS} {n : Nat} (h : Pre s n) : s.bl.length ≤ 500000 := by have := h.len; omega

theorem add_lc {s : LS} {n : Nat} (h : Pre s n) (k : Nat) (hk : k ≤ n) : LC 47 [.i k] s (.i s.bl.length) (s.add k) :=
  add_call mdL_ok h.ok k (by have := h.len; omega)
theorem end_lc {s : LS} {n : Nat} (h : Pre s n) (kind a : Int) (ts : List Int) : LC 48 [.i kind, .i a, .sl (ts.map AV.i)] s (.tup []) (s.end kind a ts) := by
  obtain ⟨b, hb⟩ := h.get
  unfold LC
  rw [end_set hb]
  exact end_call mdL_ok h.ok h.len5 hb kind a ts

/-- The contract of the lists of so many nodes. -/
def ListC (N : Nat) : Prop := ∀ l : List Nd, szL l < N → kdL l → ∀ s, Pre s (4 * szL l) → LC 31 [.sl (Nd.avL l)] s (.bool (lowL l s).1) (lowL l s).2
def PartsC (N : Nat) : Prop := ∀ ps : List (List Nd), (∀ p, p ∈ ps → szL p < N) → kdP ps → ∀ (f : Nat) s, Pre s (4 * szP ps - 4 * ps.length + 1) → f + ps.length ≤ s.bl.length →
  LC 49 [.i f, .sl (Nd.avLL ps)] s (.bool (joinL (lowP ps f s).1 (lowP ps f s).2).1) (joinL (lowP ps f s).1 (lowP ps f s).2).2

theorem branch_lc {N : Nat} (hP : PartsC N) (n : Nd) (hk : n.kind = 2) (hn : szN n ≤ N) (ho : kdN n) (s : LS) (h : Pre s (4 * szN n)) : LC 41 [n.av] s (.bool (lowN n s).1) (lowN n s).2 := by
  have hm := mdL_ok
  have hb := h.ok
  have hlen := h.len5
  have hcur := h.cur
  have hl4 := h.len
  rw [szN_eq] at hn h hl4
  rw [kdN_eq] at ho
  have e1 : IntKind.i64.wrap ((s.bl.length : Int) + 1) = (s.bl.length : Int) + 1 := wrap64 (by omega) (by omega)
  have g1 := grow_add h.cur 2
  have h1 : Pre (s.add 2) (4 * (szL n.thn + szL n.els) + 1) := h.grow g1 (by omega)
  have h2 : Pre ((s.add 2).end 2 n.a [(s.bl.length : Int), s.bl.length + 1]) (4 * (szL n.thn + szL n.els) + 1) := h1.grow (grow_end h1.cur _ _ _) (by omega)
  have l2 : ((s.add 2).end 2 n.a [(s.bl.length : Int), s.bl.length + 1]).bl.length = s.bl.length + 2 := by rw [end_len, add_len]
  have hlt2 : ∀ p, p ∈ [n.thn, n.els] → szL p < N := by
    intro p hp
    simp only [List.mem_cons, List.not_mem_nil, or_false] at hp
    rcases hp with rfl | rfl <;> omega
  have hp := hP [n.thn, n.els] hlt2 (by simp only [kdP]; exact ⟨ho.2.2.1, ho.2.2.2.1, trivial⟩) s.bl.length _ (h2.mono (by simp only [szP, List.length_cons, List.length_nil]; omega)) (by simp only [List.length_cons, List.length_nil]; omega)
  have hR : joinL (lowP [n.thn, n.els] s.bl.length ((s.add 2).end 2 n.a [(s.bl.length : Int), s.bl.length + 1])).1 (lowP [n.thn, n.els] s.bl.length ((s.add 2).end 2 n.a [(s.bl.length : Int), s.bl.length + 1])).2 = lowN n s := by
    rw [lowN_eq, if_neg (by omega), if_pos hk]
    simp only [lowP, List.append_nil]
  rw [hR] at hp
  unfold LC
  refine LCall.intro Try.func41 rfl isf41 (by simp [Try.f41]) hm fun E Q hE hN hQ hQp => K_start ?_
  refine K_low (fr := [(0, .ptr 0 0), (1, n.av)]) (loc := []) (base := 2) (fun i => i) hN hb (by omega) hm (Nat.le_refl 2) (fun _ _ h => h) (by simp [go_sem, lowM, ren_clo _ _ n.av_clo, ids_clo _ _ n.av_clo]) (by simp) (by simp) ?_
  rw [Nd.av_eq]
  repeat' (first | apply w1 | apply w2 | apply w3 | apply w4 | apply w5 | apply w6 | apply w7 | refine Kq_exit_ne (by decide) ?_ | apply w8 | apply w9 | apply w0 | rw [wrap64 (by omega) (by omega)] | ((first | refine hK _ ?_ | refine hKp _ _ ?_); clear hK hKp K Kp; try clear hanc anc) | ((with_reducible refine And.intro ?_ ?_); (focus (first | trivial | omega | (simp only [Fits]; omega) | assumption | (rw [hanc]; rfl)))) | ((first | refine K_regA hE fun K Kp hK hKp => ?_ | refine K_drwA true mixed hE fun K Kp hK hKp anc hanc => ?_ | refine K_drwA false mixed hE fun K Kp hK hKp anc hanc => ?_); simp only [go_sem, ↓reduceIte, reduceCtorEq, reduceAdd, reduceMul, reduceEqDiff, reduceLT, reduceLeDiff, reduceSub, reduceDiv, Nat.reduceBEq, Int.reduceBEq, reduceBNe, Int.reduceLT, reduceLE, reduceEq]) | ((first | refine onG_split_t (fun hg => ?_) (fun hg => ?_) | refine onG_split_f (fun hg => ?_) (fun hg => ?_)) <;> simp only [go_sem, ↓reduceIte, reduceCtorEq, reduceAdd, reduceMul, reduceEqDiff, reduceLT, reduceLeDiff, reduceSub, reduceDiv, Nat.reduceBEq, Int.reduceBEq, reduceBNe, Int.reduceLT, reduceLE, reduceEq, hg]) | (refine K_condA (fun hc => ?_) (fun hc => ?_) <;> try (exact absurd hc (by decide))))
  refine Hold.mk ( LCall.use (add_lc h 2 (by omega)) rfl hm hb (o := 10) (by omega) ((by (repeat (first | exact (fun _ _ h => h) | refine LowIn.curL ?_ | exact LowB.base | refine LowIn.upd ?_ (lowHp_none (by omega) (by omega)) | refine LowB.upd ?_ (lowHp_none (by omega) (by omega)))))) (Nat.le_of_ble_eq_true rfl) ?_ (fun _ _ _ _ h => h.elim))
  rintro r bl' cur' ⟨fr', hp', nx'⟩ ⟨rfl, rfl, rfl⟩ _ hb' hlen' hnx hfr hin hold
  simp only at hnx hfr hin hold
  subst hnx hfr
  simp only [go_sem, ↓reduceIte, reduceCtorEq, reduceAdd, reduceMul, reduceEqDiff, reduceLT, reduceLeDiff, reduceSub, reduceDiv, Nat.reduceBEq, Int.reduceBEq, reduceBNe, Int.reduceLT, reduceLE, reduceEq]
  refine hK _ ?_; clear hK hKp K Kp; try clear hanc anc
  repeat (first | refine Kq_norm_code ?_ | refine Kq_norm_blk ?_ | refine Kq_norm_lp ?_)
  refine K_low (fr := [(0, .ptr 0 0), (3, .ptr 2 0), (5, .i s.bl.length)]) (loc := [(2, .cells n.cs)]) _ (fun _ => 1000000) hN hb' hlen' hm (by omega) hin (by simp [go_sem, lowM]) (by intro p hp; obtain rfl := List.mem_singleton.1 hp; exact ⟨Nat.le_refl 2, (by show 2 < 10; decide), (by rw [Nd.cs_ren]; exact hold _ _ (by simp [go_sem, Nd.cs]) (lowHp_none (by omega) (by omega))), Nd.cs_ids _ _, lowHp_none (by omega) (.inl (by omega))⟩) (by simp) ?_
  clear hin hold; clear hb; have hb := hb'; clear hb'
  repeat' (first | apply w1 | apply w2 | apply w3 | apply w4 | apply w5 | apply w6 | apply w7 | refine Kq_exit_ne (by decide) ?_ | apply w8 | apply w9 | apply w0 | rw [wrap64 (by omega) (by omega)] | ((first | refine hK _ ?_ | refine hKp _ _ ?_); clear hK hKp K Kp; try clear hanc anc) | ((with_reducible refine And.intro ?_ ?_); (focus (first | trivial | omega | (simp only [Fits]; omega) | assumption | (rw [hanc]; rfl)))) | ((first | refine K_regA hE fun K Kp hK hKp => ?_ | refine K_drwA true mixed hE fun K Kp hK hKp anc hanc => ?_ | refine K_drwA false mixed hE fun K Kp hK hKp anc hanc => ?_); simp only [go_sem, ↓reduceIte, reduceCtorEq, reduceAdd, reduceMul, reduceEqDiff, reduceLT, reduceLeDiff, reduceSub, reduceDiv, Nat.reduceBEq, Int.reduceBEq, reduceBNe, Int.reduceLT, reduceLE, reduceEq, e1, Nd.cs]) | ((first | refine onG_split_t (fun hg => ?_) (fun hg => ?_) | refine onG_split_f (fun hg => ?_) (fun hg => ?_)) <;> simp only [go_sem, ↓reduceIte, reduceCtorEq, reduceAdd, reduceMul, reduceEqDiff, reduceLT, reduceLeDiff, reduceSub, reduceDiv, Nat.reduceBEq, Int.reduceBEq, reduceBNe, Int.reduceLT, reduceLE, reduceEq, e1, Nd.cs, hg]) | (refine K_condA (fun hc => ?_) (fun hc => ?_) <;> try (exact absurd hc (by decide))))
  refine Hold.mk (CallB.frz4 (by simp only [go_sem, ↓reduceIte, reduceCtorEq, reduceAdd, reduceMul, reduceEqDiff, reduceLT, reduceLeDiff, reduceSub, reduceDiv, Nat.reduceBEq, Int.reduceBEq, reduceBNe, Int.reduceLT, reduceLE, reduceEq]; rfl) (by first | exact clo_LL _ | exact CloRow.all (by simp [go_sem])) <| LCall.use (end_lc h1 2 n.a [(s.bl.length : Int), s.bl.length + 1]) rfl hm hb (o := 10) (by omega) ((by (repeat (first | exact (fun _ _ h => h) | refine LowIn.curL ?_ | exact LowB.base | refine LowIn.upd ?_ (lowHp_none (by omega) (by omega)) | refine LowB.upd ?_ (lowHp_none (by omega) (by omega)))))) (Nat.le_of_ble_eq_true rfl) ?_ (fun _ _ _ _ h => h.elim))
  rintro r bl' cur' ⟨fr', hp', nx'⟩ ⟨rfl, rfl, rfl⟩ _ hb' hlen' hnx hfr hin hold
  simp only at hnx hfr hin hold
  subst hnx hfr
  simp only [go_sem, ↓reduceIte, reduceCtorEq, reduceAdd, reduceMul, reduceEqDiff, reduceLT, reduceLeDiff, reduceSub, reduceDiv, Nat.reduceBEq, Int.reduceBEq, reduceBNe, Int.reduceLT, reduceLE, reduceEq]
  refine hK _ ?_; clear hK hKp K Kp; try clear hanc anc
  repeat (first | refine Kq_norm_code ?_ | refine Kq_norm_blk ?_ | refine Kq_norm_lp ?_)
  refine K_low (fr := [(0, .ptr 0 0), (3, .ptr 2 0), (5, .i s.bl.length)]) (loc := [(2, .cells n.cs)]) _ (fun i => i) hN hb' hlen' hm (by omega) hin (by simp [go_sem, lowM]) (by intro p hp; obtain rfl := List.mem_singleton.1 hp; exact ⟨Nat.le_refl 2, (by show 2 < 10; decide), (by rw [Nd.cs_ren]; exact hold _ _ (by simp [go_sem, Nd.cs]) (lowHp_none (by omega) (by omega))), Nd.cs_ids _ _, lowHp_none (by omega) (.inl (by omega))⟩) (by simp) ?_
  clear hin hold; clear hb; have hb := hb'; clear hb'
  repeat' (first | apply w1 | apply w2 | apply w3 | apply w4 | apply w5 | apply w6 | apply w7 | refine Kq_exit_ne (by decide) ?_ | apply w8 | apply w9 | apply w0 | rw [wrap64 (by omega) (by omega)] | ((first | refine hK _ ?_ | refine hKp _ _ ?_); clear hK hKp K Kp; try clear hanc anc) | ((with_reducible refine And.intro ?_ ?_); (focus (first | trivial | omega | (simp only [Fits]; omega) | assumption | (rw [hanc]; rfl)))) | ((first | refine K_regA hE fun K Kp hK hKp => ?_ | refine K_drwA true mixed hE fun K Kp hK hKp anc hanc => ?_ | refine K_drwA false mixed hE fun K Kp hK hKp anc hanc => ?_); simp only [go_sem, ↓reduceIte, reduceCtorEq, reduceAdd, reduceMul, reduceEqDiff, reduceLT, reduceLeDiff, reduceSub, reduceDiv, Nat.reduceBEq, Int.reduceBEq, reduceBNe, Int.reduceLT, reduceLE, reduceEq, e1, Nd.cs]) | ((first | refine onG_split_t (fun hg => ?_) (fun hg => ?_) | refine onG_split_f (fun hg => ?_) (fun hg => ?_)) <;> simp only [go_sem, ↓reduceIte, reduceCtorEq, reduceAdd, reduceMul, reduceEqDiff, reduceLT, reduceLeDiff, reduceSub, reduceDiv, Nat.reduceBEq, Int.reduceBEq, reduceBNe, Int.reduceLT, reduceLE, reduceEq, e1, Nd.cs, hg]) | (refine K_condA (fun hc => ?_) (fun hc => ?_) <;> try (exact absurd hc (by decide))))
  refine Hold.mk (CallB.frz3 (by simp only [go_sem, ↓reduceIte, reduceCtorEq, reduceAdd, reduceMul, reduceEqDiff, reduceLT, reduceLeDiff, reduceSub, reduceDiv, Nat.reduceBEq, Int.reduceBEq, reduceBNe, Int.reduceLT, reduceLE, reduceEq]; rfl) (by first | exact clo_LL _ | exact CloRow.all (by simp [go_sem])) <| LCall.use (hp) rfl hm hb (o := 10) (by omega) ((by (repeat (first | exact (fun _ _ h => h) | refine LowIn.curL ?_ | exact LowB.base | refine LowIn.upd ?_ (lowHp_none (by omega) (by omega)) | refine LowB.upd ?_ (lowHp_none (by omega) (by omega)))))) (Nat.le_of_ble_eq_true rfl) ?_ (fun _ _ _ _ h => h.elim))
  rintro r bl' cur' ⟨fr', hp', nx'⟩ ⟨rfl, rfl, rfl⟩ _ hb' hlen' hnx hfr hin hold
  simp only at hnx hfr hin hold
  subst hnx hfr
  simp only [go_sem, ↓reduceIte, reduceCtorEq, reduceAdd, reduceMul, reduceEqDiff, reduceLT, reduceLeDiff, reduceSub, reduceDiv, Nat.reduceBEq, Int.reduceBEq, reduceBNe, Int.reduceLT, reduceLE, reduceEq]
  refine hK _ ?_; clear hK hKp K Kp; try clear hanc anc
  repeat (first | refine Kq_norm_code ?_ | refine Kq_norm_blk ?_ | refine Kq_norm_lp ?_)
  refine K_low (fr := [(4, .bool (lowN n s).1)]) (loc := []) _ (fun i => i) hN hb' hlen' hm (by omega) hin (by simp [go_sem, lowM]) (by simp [hold]) (by simp) ?_
  clear hin hold; clear hb; have hb := hb'; clear hb'
  repeat' (first | apply w1 | apply w2 | apply w3 | apply w4 | apply w5 | apply w6 | apply w7 | refine Kq_exit_ne (by decide) ?_ | apply w8 | apply w9 | apply w0 | rw [wrap64 (by omega) (by omega)] | ((first | refine hK _ ?_ | refine hKp _ _ ?_); clear hK hKp K Kp; try clear hanc anc) | ((with_reducible refine And.intro ?_ ?_); (focus (first | trivial | omega | (simp only [Fits]; omega) | assumption | (rw [hanc]; rfl)))) | ((first | refine K_regA hE fun K Kp hK hKp => ?_ | refine K_drwA true mixed hE fun K Kp hK hKp anc hanc => ?_ | refine K_drwA false mixed hE fun K Kp hK hKp anc hanc => ?_); simp only [go_sem, ↓reduceIte, reduceCtorEq, reduceAdd, reduceMul, reduceEqDiff, reduceLT, reduceLeDiff, reduceSub, reduceDiv, Nat.reduceBEq, Int.reduceBEq, reduceBNe, Int.reduceLT, reduceLE, reduceEq]) | ((first | refine onG_split_t (fun hg => ?_) (fun hg => ?_) | refine onG_split_f (fun hg => ?_) (fun hg => ?_)) <;> simp only [go_sem, ↓reduceIte, reduceCtorEq, reduceAdd, reduceMul, reduceEqDiff, reduceLT, reduceLeDiff, reduceSub, reduceDiv, Nat.reduceBEq, Int.reduceBEq, reduceBNe, Int.reduceLT, reduceLE, reduceEq, hg]) | (refine K_condA (fun hc => ?_) (fun hc => ?_) <;> try (exact absurd hc (by decide))))
  refine K_ret ?_
  exact (hQ _ _ _ _ (resA_tmp (by simp only [go_sem, ↓reduceIte, reduceCtorEq, reduceAdd, reduceMul, reduceEqDiff, reduceLT, reduceLeDiff, reduceSub, reduceDiv, Nat.reduceBEq, Int.reduceBEq, reduceBNe, Int.reduceLT, reduceLE, reduceEq])) ⟨rfl, rfl, rfl⟩ rfl (Out.of_in (base := 10) hb hm (by omega) (fun _ _ h => h) hlen')).1

def NodeC (N : Nat) : Prop := ∀ n : Nd, szN n ≤ N → kdN n → ∀ s, Pre s (4 * szN n) → ∀ k : Nat, n.kind = k → LC (39 + k) [n.av] s (.bool (lowN n s).1) (lowN n s).2

theorem szL_drop {l : List Nd} {i : Nat} {n : Nd} (h : l[i]? = some n) : szL (l.drop i) = szN n + szL (l.drop (i + 1)) := by rw [drop_of' h, szL]

theorem list_lc {N : Nat} (hP : NodeC N) : ListC (N + 1) := by
  intro l hn ho s h
  have hm := mdL_ok
  have hb := h.ok
  have hlen := h.len5
  have hcur := h.cur
  have hl4 := h.len
  have hll := szL_len l
  unfold LC
  refine LCall.intro Try.func31 rfl isf31 (by simp [Try.f31]) hm fun E Q hE hN hQ hQp => K_start ?_
  refine K_low (fr := [(0, .ptr 0 0), (1, .sl (Nd.avL l))]) (loc := []) (base := 2) (fun i => i) hN hb (by omega) hm (Nat.le_refl 2) (fun _ _ h => h) (by simp [go_sem, lowM]) (by simp) (by simp) ?_
  repeat' (first | apply w1 | apply w2 | apply w3 | apply w4 | apply w5 | apply w6 | apply w7 | refine Kq_exit_ne (by decide) ?_ | apply w8 | apply w9 | apply w0 | rw [wrap64 (by omega) (by omega)] | ((first | refine hK _ ?_ | refine hKp _ _ ?_); clear hK hKp K Kp; try clear hanc anc) | ((with_reducible refine And.intro ?_ ?_); (focus (first | trivial | omega | (simp only [Fits]; omega) | assumption | (rw [hanc]; rfl)))) | ((first | refine K_regA hE fun K Kp hK hKp => ?_ | refine K_drwA true mixed hE fun K Kp hK hKp anc hanc => ?_ | refine K_drwA false mixed hE fun K Kp hK hKp anc hanc => ?_); simp only [go_sem, ↓reduceIte, reduceCtorEq, reduceAdd, reduceMul, reduceEqDiff, reduceLT, reduceLeDiff, reduceSub, reduceDiv, Nat.reduceBEq, Int.reduceBEq, reduceBNe, Int.reduceLT, reduceLE, reduceEq]) | ((first | refine onG_split_t (fun hg => ?_) (fun hg => ?_) | refine onG_split_f (fun hg => ?_) (fun hg => ?_)) <;> simp only [go_sem, ↓reduceIte, reduceCtorEq, reduceAdd, reduceMul, reduceEqDiff, reduceLT, reduceLeDiff, reduceSub, reduceDiv, Nat.reduceBEq, Int.reduceBEq, reduceBNe, Int.reduceLT, reduceLE, reduceEq, hg]) | (refine K_condA (fun hc => ?_) (fun hc => ?_) <;> try (exact absurd hc (by decide))))
  refine K_loop (X := Nat × LS) (fun x => x.1 ≤ l.length ∧ lowL l s = lowL (l.drop x.1) x.2 ∧ Pre x.2 (4 * szL (l.drop x.1))) (fun x => lowSt [(0, .ptr 0 0), (7, .sl (Nd.avL l)), (8, .i l.length), (9, .i x.1)] [] (hsL mdL) x.2.bl x.2.cur) (fun x => l.length - x.1) (0, s) ⟨Nat.zero_le _, rfl, h⟩ (lowM (fun i => i) 10) ?_ ?_
  · try dsimp only
    rw [hN]; exact ent_low (fr := [(0, .ptr 0 0), (7, .sl (Nd.avL l)), (8, .i l.length), (9, .i (0 : Nat))]) (loc := []) (base := 10) (fun i => i) hb (by omega) hm (by omega) (by (repeat (first | exact (fun _ _ h => h) | refine LowIn.curL ?_ | exact LowB.base | refine LowIn.upd ?_ (lowHp_none (by omega) (by omega)) | refine LowB.upd ?_ (lowHp_none (by omega) (by omega))))) (by simp [go_sem, lowM]) (by simp) (by simp)
  rintro ⟨i, t⟩ ⟨hi, ht, hpre⟩
  simp only at hi ht hpre
  have hbO := hb
  clear hb
  have hb := hpre.ok
  have hlent := hpre.len5
  by_cases hlt : i < l.length
  · obtain ⟨n, hx⟩ := get?_of' hlt
    rw [drop_of' hx, lowL] at ht
    have hnm := szN_mem (List.mem_of_getElem? hx)
    have hon := kdL_mem ho (List.mem_of_getElem? hx)
    rw [szL_drop hx] at hpre
    have hnext : Pre (lowN n t).2 (4 * szL (l.drop (i + 1))) := hpre.grow (lowN_grow n t hpre.cur) (by omega)
    have hc := hP n (by omega) hon t (hpre.mono (by omega))
    rw [Nd.av_cs] at hc
    rw [kdN_eq] at hon
    have hk6 : n.kind = (1 : Nat) ∨ n.kind = (2 : Nat) ∨ n.kind = (3 : Nat) ∨ n.kind = (4 : Nat) ∨ n.kind = (5 : Nat) ∨ n.kind = (6 : Nat) := by omega
    rcases hk6 with hk | hk | hk | hk | hk | hk
    · have hcc := hc 1 hk
      have hkk : n.kind = 1 := hk
      simp only [Nd.cs, hkk, Nat.reduceAdd] at hcc
      repeat' (first | apply w1 | apply w2 | apply w3 | apply w4 | apply w5 | apply w6 | apply w7 | refine Kq_exit_ne (by decide) ?_ | apply w8 | apply w9 | apply w0 | rw [wrap64 (by omega) (by omega)] | ((first | refine hK _ ?_ | refine hKp _ _ ?_); clear hK hKp K Kp; try clear hanc anc) | ((with_reducible refine And.intro ?_ ?_); (focus (first | trivial | omega | (simp only [Fits]; omega) | assumption | (rw [hanc]; rfl)))) | ((first | refine K_regA hE fun K Kp hK hKp => ?_ | refine K_drwA true mixed hE fun K Kp hK hKp anc hanc => ?_ | refine K_drwA false mixed hE fun K Kp hK hKp anc hanc => ?_); simp only [go_sem, ↓reduceIte, reduceCtorEq, reduceAdd, reduceMul, reduceEqDiff, reduceLT, reduceLeDiff, reduceSub, reduceDiv, Nat.reduceBEq, Int.reduceBEq, reduceBNe, Int.reduceLT, reduceLE, reduceEq, lt_dec' hlt, hx, Nd.av_eq, hkk, mdL]) | ((first | refine onG_split_t (fun hg => ?_) (fun hg => ?_) | refine onG_split_f (fun hg => ?_) (fun hg => ?_)) <;> simp only [go_sem, ↓reduceIte, reduceCtorEq, reduceAdd, reduceMul, reduceEqDiff, reduceLT, reduceLeDiff, reduceSub, reduceDiv, Nat.reduceBEq, Int.reduceBEq, reduceBNe, Int.reduceLT, reduceLE, reduceEq, lt_dec' hlt, hx, Nd.av_eq, hkk, mdL, hg]) | (refine K_condA (fun hc => ?_) (fun hc => ?_) <;> try (exact absurd hc (by decide))))
      refine Hold.mk ( LCall.use (hcc) rfl hm hb (o := 10) (by omega) ((by (repeat (first | exact (fun _ _ h => h) | refine LowIn.curL ?_ | exact LowB.base | refine LowIn.upd ?_ (lowHp_none (by omega) (by omega)) | refine LowB.upd ?_ (lowHp_none (by omega) (by omega)))))) (Nat.le_of_ble_eq_true rfl) ?_ (fun _ _ _ _ h => h.elim))
      rintro r bl' cur' ⟨fr', hp', nx'⟩ ⟨rfl, rfl, rfl⟩ _ hb' hlen' hnx hfr hin hold
      simp only at hnx hfr hin hold
      subst hnx hfr
      simp only [go_sem, ↓reduceIte, reduceCtorEq, reduceAdd, reduceMul, reduceEqDiff, reduceLT, reduceLeDiff, reduceSub, reduceDiv, Nat.reduceBEq, Int.reduceBEq, reduceBNe, Int.reduceLT, reduceLE, reduceEq]
      refine hK _ ?_; clear hK hKp K Kp; try clear hanc anc
      repeat (first | refine Kq_norm_code ?_ | refine Kq_norm_blk ?_ | refine Kq_norm_lp ?_)
      refine K_low (fr := [(0, .ptr 0 0), (7, .sl (Nd.avL l)), (8, .i l.length), (9, .i i), (23, .bool (!(lowN n t).1))]) (loc := []) _ (fun i => i) hN hb' hlen' hm (by omega) hin (by simp [go_sem, lowM]) (by simp [hold]) (by simp) ?_
      clear hin hold; clear hb; have hb := hb'; clear hb'
      repeat' (first | apply w1 | apply w2 | apply w3 | apply w4 | apply w5 | apply w6 | apply w7 | refine Kq_exit_ne (by decide) ?_ | apply w8 | apply w9 | apply w0 | rw [wrap64 (by omega) (by omega)] | ((first | refine hK _ ?_ | refine hKp _ _ ?_); clear hK hKp K Kp; try clear hanc anc) | ((with_reducible refine And.intro ?_ ?_); (focus (first | trivial | omega | (simp only [Fits]; omega) | assumption | (rw [hanc]; rfl)))) | ((first | refine K_regA hE fun K Kp hK hKp => ?_ | refine K_drwA true mixed hE fun K Kp hK hKp anc hanc => ?_ | refine K_drwA false mixed hE fun K Kp hK hKp anc hanc => ?_); simp only [go_sem, ↓reduceIte, reduceCtorEq, reduceAdd, reduceMul, reduceEqDiff, reduceLT, reduceLeDiff, reduceSub, reduceDiv, Nat.reduceBEq, Int.reduceBEq, reduceBNe, Int.reduceLT, reduceLE, reduceEq]) | ((first | refine onG_split_t (fun hg => ?_) (fun hg => ?_) | refine onG_split_f (fun hg => ?_) (fun hg => ?_)) <;> simp only [go_sem, ↓reduceIte, reduceCtorEq, reduceAdd, reduceMul, reduceEqDiff, reduceLT, reduceLeDiff, reduceSub, reduceDiv, Nat.reduceBEq, Int.reduceBEq, reduceBNe, Int.reduceLT, reduceLE, reduceEq, hg]) | (refine K_condA (fun hc => ?_) (fun hc => ?_) <;> try (exact absurd hc (by decide))))
      · have h1 : (lowN n t).1 = false := by simpa using hc
        have e : lowL l s = (false, (lowN n t).2) := by rw [ht]; simp [h1]
        refine K_ret ?_
        exact (hQ _ (.bool false) _ _ (resA_tmp (by simp only [go_sem, ↓reduceIte, reduceCtorEq, reduceAdd, reduceMul, reduceEqDiff, reduceLT, reduceLeDiff, reduceSub, reduceDiv, Nat.reduceBEq, Int.reduceBEq, reduceBNe, Int.reduceLT, reduceLE, reduceEq])) (by rw [e]; exact ⟨rfl, rfl, rfl⟩) rfl (Out.of_in (base := 10) hb hm (by omega) (fun _ _ h => h) hlen')).1
      · have h1 : (lowN n t).1 = true := by simpa using hc
        refine ⟨(i + 1, (lowN n t).2), ⟨by simp only; omega, by simp only; rw [ht]; simp [h1], hnext⟩, by simp only; omega, lowM (fun i => i) 10, ?_⟩
        try dsimp only
        rw [hN]; exact ent_low (fr := [(0, .ptr 0 0), (7, .sl (Nd.avL l)), (8, .i l.length), (9, .i (i + 1 : Nat))]) (loc := []) (base := 10) (fun i => i) hb (by omega) hm (by omega) (by (repeat (first | exact (fun _ _ h => h) | refine LowIn.curL ?_ | exact LowB.base | refine LowIn.upd ?_ (lowHp_none (by omega) (by omega)) | refine LowB.upd ?_ (lowHp_none (by omega) (by omega))))) (by simp [go_sem, lowM]) (by simp) (by simp)
    · have hcc := hc 2 hk
      have hkk : n.kind = 2 := hk
      simp only [Nd.cs, hkk, Nat.reduceAdd] at hcc
      repeat' (first | apply w1 | apply w2 | apply w3 | apply w4 | apply w5 | apply w6 | apply w7 | refine Kq_exit_ne (by decide) ?_ | apply w8 | apply w9 | apply w0 | rw [wrap64 (by omega) (by omega)] | ((first | refine hK _ ?_ | refine hKp _ _ ?_); clear hK hKp K Kp; try clear hanc anc) | ((with_reducible refine And.intro ?_ ?_); (focus (first | trivial | omega | (simp only [Fits]; omega) | assumption | (rw [hanc]; rfl)))) | ((first | refine K_regA hE fun K Kp hK hKp => ?_ | refine K_drwA true mixed hE fun K Kp hK hKp anc hanc => ?_ | refine K_drwA false mixed hE fun K Kp hK hKp anc hanc => ?_); simp only [go_sem, ↓reduceIte, reduceCtorEq, reduceAdd, reduceMul, reduceEqDiff, reduceLT, reduceLeDiff, reduceSub, reduceDiv, Nat.reduceBEq, Int.reduceBEq, reduceBNe, Int.reduceLT, reduceLE, reduceEq, lt_dec' hlt, hx, Nd.av_eq, hkk, mdL]) | ((first | refine onG_split_t (fun hg => ?_) (fun hg => ?_) | refine onG_split_f (fun hg => ?_) (fun hg => ?_)) <;> simp only [go_sem, ↓reduceIte, reduceCtorEq, reduceAdd, reduceMul, reduceEqDiff, reduceLT, reduceLeDiff, reduceSub, reduceDiv, Nat.reduceBEq, Int.reduceBEq, reduceBNe, Int.reduceLT, reduceLE, reduceEq, lt_dec' hlt, hx, Nd.av_eq, hkk, mdL, hg]) | (refine K_condA (fun hc => ?_) (fun hc => ?_) <;> try (exact absurd hc (by decide))))
      refine Hold.mk ( LCall.use (hcc) rfl hm hb (o := 10) (by omega) ((by (repeat (first | exact (fun _ _ h => h) | refine LowIn.curL ?_ | exact LowB.base | refine LowIn.upd ?_ (lowHp_none (by omega) (by omega)) | refine LowB.upd ?_ (lowHp_none (by omega) (by omega)))))) (Nat.le_of_ble_eq_true rfl) ?_ (fun _ _ _ _ h => h.elim))
      rintro r bl' cur' ⟨fr', hp', nx'⟩ ⟨rfl, rfl, rfl⟩ _ hb' hlen' hnx hfr hin hold
      simp only at hnx hfr hin hold
      subst hnx hfr
      simp only [go_sem, ↓reduceIte, reduceCtorEq, reduceAdd, reduceMul, reduceEqDiff, reduceLT, reduceLeDiff, reduceSub, reduceDiv, Nat.reduceBEq, Int.reduceBEq, reduceBNe, Int.reduceLT, reduceLE, reduceEq]
      refine hK _ ?_; clear hK hKp K Kp; try clear hanc anc
      repeat (first | refine Kq_norm_code ?_ | refine Kq_norm_blk ?_ | refine Kq_norm_lp ?_)
      refine K_low (fr := [(0, .ptr 0 0), (7, .sl (Nd.avL l)), (8, .i l.length), (9, .i i), (23, .bool (!(lowN n t).1))]) (loc := []) _ (fun i => i) hN hb' hlen' hm (by omega) hin (by simp [go_sem, lowM]) (by simp [hold]) (by simp) ?_
      clear hin hold; clear hb; have hb := hb'; clear hb'
      repeat' (first | apply w1 | apply w2 | apply w3 | apply w4 | apply w5 | apply w6 | apply w7 | refine Kq_exit_ne (by decide) ?_ | apply w8 | apply w9 | apply w0 | rw [wrap64 (by omega) (by omega)] | ((first | refine hK _ ?_ | refine hKp _ _ ?_); clear hK hKp K Kp; try clear hanc anc) | ((with_reducible refine And.intro ?_ ?_); (focus (first | trivial | omega | (simp only [Fits]; omega) | assumption | (rw [hanc]; rfl)))) | ((first | refine K_regA hE fun K Kp hK hKp => ?_ | refine K_drwA true mixed hE fun K Kp hK hKp anc hanc => ?_ | refine K_drwA false mixed hE fun K Kp hK hKp anc hanc => ?_); simp only [go_sem, ↓reduceIte, reduceCtorEq, reduceAdd, reduceMul, reduceEqDiff, reduceLT, reduceLeDiff, reduceSub, reduceDiv, Nat.reduceBEq, Int.reduceBEq, reduceBNe, Int.reduceLT, reduceLE, reduceEq]) | ((first | refine onG_split_t (fun hg => ?_) (fun hg => ?_) | refine onG_split_f (fun hg => ?_) (fun hg => ?_)) <;> simp only [go_sem, ↓reduceIte, reduceCtorEq, reduceAdd, reduceMul, reduceEqDiff, reduceLT, reduceLeDiff, reduceSub, reduceDiv, Nat.reduceBEq, Int.reduceBEq, reduceBNe, Int.reduceLT, reduceLE, reduceEq, hg]) | (refine K_condA (fun hc => ?_) (fun hc => ?_) <;> try (exact absurd hc (by decide))))
      · have h1 : (lowN n t).1 = false := by simpa using hc
        have e : lowL l s = (false, (lowN n t).2) := by rw [ht]; simp [h1]
        refine K_ret ?_
        exact (hQ _ (.bool false) _ _ (resA_tmp (by simp only [go_sem, ↓reduceIte, reduceCtorEq, reduceAdd, reduceMul, reduceEqDiff, reduceLT, reduceLeDiff, reduceSub, reduceDiv, Nat.reduceBEq, Int.reduceBEq, reduceBNe, Int.reduceLT, reduceLE, reduceEq])) (by rw [e]; exact ⟨rfl, rfl, rfl⟩) rfl (Out.of_in (base := 10) hb hm (by omega) (fun _ _ h => h) hlen')).1
      · have h1 : (lowN n t).1 = true := by simpa using hc
        refine ⟨(i + 1, (lowN n t).2), ⟨by simp only; omega, by simp only; rw [ht]; simp [h1], hnext⟩, by simp only; omega, lowM (fun i => i) 10, ?_⟩
        try dsimp only
        rw [hN]; exact ent_low (fr := [(0, .ptr 0 0), (7, .sl (Nd.avL l)), (8, .i l.length), (9, .i (i + 1 : Nat))]) (loc := []) (base := 10) (fun i => i) hb (by omega) hm (by omega) (by (repeat (first | exact (fun _ _ h => h) | refine LowIn.curL ?_ | exact LowB.base | refine LowIn.upd ?_ (lowHp_none (by omega) (by omega)) | refine LowB.upd ?_ (lowHp_none (by omega) (by omega))))) (by simp [go_sem, lowM]) (by simp) (by simp)
    · have hcc := hc 3 hk
      have hkk : n.kind = 3 := hk
      simp only [Nd.cs, hkk, Nat.reduceAdd] at hcc
      repeat' (first | apply w1 | apply w2 | apply w3 | apply w4 | apply w5 | apply w6 | apply w7 | refine Kq_exit_ne (by decide) ?_ | apply w8 | apply w9 | apply w0 | rw [wrap64 (by omega) (by omega)] | ((first | refine hK _ ?_ | refine hKp _ _ ?_); clear hK hKp K Kp; try clear hanc anc) | ((with_reducible refine And.intro ?_ ?_); (focus (first | trivial | omega | (simp only [Fits]; omega) | assumption | (rw [hanc]; rfl)))) | ((first | refine K_regA hE fun K Kp hK hKp => ?_ | refine K_drwA true mixed hE fun K Kp hK hKp anc hanc => ?_ | refine K_drwA false mixed hE fun K Kp hK hKp anc hanc => ?_); simp only [go_sem, ↓reduceIte, reduceCtorEq, reduceAdd, reduceMul, reduceEqDiff, reduceLT, reduceLeDiff, reduceSub, reduceDiv, Nat.reduceBEq, Int.reduceBEq, reduceBNe, Int.reduceLT, reduceLE, reduceEq, lt_dec' hlt, hx, Nd.av_eq, hkk, mdL]) | ((first | refine onG_split_t (fun hg => ?_) (fun hg => ?_) | refine onG_split_f (fun hg => ?_) (fun hg => ?_)) <;> simp only [go_sem, ↓reduceIte, reduceCtorEq, reduceAdd, reduceMul, reduceEqDiff, reduceLT, reduceLeDiff, reduceSub, reduceDiv, Nat.reduceBEq, Int.reduceBEq, reduceBNe, Int.reduceLT, reduceLE, reduceEq, lt_dec' hlt, hx, Nd.av_eq, hkk, mdL, hg]) | (refine K_condA (fun hc => ?_) (fun hc => ?_) <;> try (exact absurd hc (by decide))))
      refine Hold.mk ( LCall.use (hcc) rfl hm hb (o := 10) (by omega) ((by (repeat (first | exact (fun _ _ h => h) | refine LowIn.curL ?_ | exact LowB.base | refine LowIn.upd ?_ (lowHp_none (by omega) (by omega)) | refine LowB.upd ?_ (lowHp_none (by omega) (by omega)))))) (Nat.le_of_ble_eq_true rfl) ?_ (fun _ _ _ _ h => h.elim))
      rintro r bl' cur' ⟨fr', hp', nx'⟩ ⟨rfl, rfl, rfl⟩ _ hb' hlen' hnx hfr hin hold
      simp only at hnx hfr hin hold
      subst hnx hfr
      simp only [go_sem, ↓reduceIte, reduceCtorEq, reduceAdd, reduceMul, reduceEqDiff, reduceLT, reduceLeDiff, reduceSub, reduceDiv, Nat.reduceBEq, Int.reduceBEq, reduceBNe, Int.reduceLT, reduceLE, reduceEq]
      refine hK _ ?_; clear hK hKp K Kp; try clear hanc anc
      repeat (first | refine Kq_norm_code ?_ | refine Kq_norm_blk ?_ | refine Kq_norm_lp ?_)
      refine K_low (fr := [(0, .ptr 0 0), (7, .sl (Nd.avL l)), (8, .i l.length), (9, .i i), (23, .bool (!(lowN n t).1))]) (loc := []) _ (fun i => i) hN hb' hlen' hm (by omega) hin (by simp [go_sem, lowM]) (by simp [hold]) (by simp) ?_
      clear hin hold; clear hb; have hb := hb'; clear hb'
      repeat' (first | apply w1 | apply w2 | apply w3 | apply w4 | apply w5 | apply w6 | apply w7 | refine Kq_exit_ne (by decide) ?_ | apply w8 | apply w9 | apply w0 | rw [wrap64 (by omega) (by omega)] | ((first | refine hK _ ?_ | refine hKp _ _ ?_); clear hK hKp K Kp; try clear hanc anc) | ((with_reducible refine And.intro ?_ ?_); (focus (first | trivial | omega | (simp only [Fits]; omega) | assumption | (rw [hanc]; rfl)))) | ((first | refine K_regA hE fun K Kp hK hKp => ?_ | refine K_drwA true mixed hE fun K Kp hK hKp anc hanc => ?_ | refine K_drwA false mixed hE fun K Kp hK hKp anc hanc => ?_); simp only [go_sem, ↓reduceIte, reduceCtorEq, reduceAdd, reduceMul, reduceEqDiff, reduceLT, reduceLeDiff, reduceSub, reduceDiv, Nat.reduceBEq, Int.reduceBEq, reduceBNe, Int.reduceLT, reduceLE, reduceEq]) | ((first | refine onG_split_t (fun hg => ?_) (fun hg => ?_) | refine onG_split_f (fun hg => ?_) (fun hg => ?_)) <;> simp only [go_sem, ↓reduceIte, reduceCtorEq, reduceAdd, reduceMul, reduceEqDiff, reduceLT, reduceLeDiff, reduceSub, reduceDiv, Nat.reduceBEq, Int.reduceBEq, reduceBNe, Int.reduceLT, reduceLE, reduceEq, hg]) | (refine K_condA (fun hc => ?_) (fun hc => ?_) <;> try (exact absurd hc (by decide))))
      · have h1 : (lowN n t).1 = false := by simpa using hc
        have e : lowL l s = (false, (lowN n t).2) := by rw [ht]; simp [h1]
        refine K_ret ?_
        exact (hQ _ (.bool false) _ _ (resA_tmp (by simp only [go_sem, ↓reduceIte, reduceCtorEq, reduceAdd, reduceMul, reduceEqDiff, reduceLT, reduceLeDiff, reduceSub, reduceDiv, Nat.reduceBEq, Int.reduceBEq, reduceBNe, Int.reduceLT, reduceLE, reduceEq])) (by rw [e]; exact ⟨rfl, rfl, rfl⟩) rfl (Out.of_in (base := 10) hb hm (by omega) (fun _ _ h => h) hlen')).1
      · have h1 : (lowN n t).1 = true := by simpa using hc
        refine ⟨(i + 1, (lowN n t).2), ⟨by simp only; omega, by simp only; rw [ht]; simp [h1], hnext⟩, by simp only; omega, lowM (fun i => i) 10, ?_⟩
        try dsimp only
        rw [hN]; exact ent_low (fr := [(0, .ptr 0 0), (7, .sl (Nd.avL l)), (8, .i l.length), (9, .i (i + 1 : Nat))]) (loc := []) (base := 10) (fun i => i) hb (by omega) hm (by omega) (by (repeat (first | exact (fun _ _ h => h) | refine LowIn.curL ?_ | exact LowB.base | refine LowIn.upd ?_ (lowHp_none (by omega) (by omega)) | refine LowB.upd ?_ (lowHp_none (by omega) (by omega))))) (by simp [go_sem, lowM]) (by simp) (by simp)
    · have hcc := hc 4 hk
      have hkk : n.kind = 4 := hk
      simp only [Nd.cs, hkk, Nat.reduceAdd] at hcc
      repeat' (first | apply w1 | apply w2 | apply w3 | apply w4 | apply w5 | apply w6 | apply w7 | refine Kq_exit_ne (by decide) ?_ | apply w8 | apply w9 | apply w0 | rw [wrap64 (by omega) (by omega)] | ((first | refine hK _ ?_ | refine hKp _ _ ?_); clear hK hKp K Kp; try clear hanc anc) | ((with_reducible refine And.intro ?_ ?_); (focus (first | trivial | omega | (simp only [Fits]; omega) | assumption | (rw [hanc]; rfl)))) | ((first | refine K_regA hE fun K Kp hK hKp => ?_ | refine K_drwA true mixed hE fun K Kp hK hKp anc hanc => ?_ | refine K_drwA false mixed hE fun K Kp hK hKp anc hanc => ?_); simp only [go_sem, ↓reduceIte, reduceCtorEq, reduceAdd, reduceMul, reduceEqDiff, reduceLT, reduceLeDiff, reduceSub, reduceDiv, Nat.reduceBEq, Int.reduceBEq, reduceBNe, Int.reduceLT, reduceLE, reduceEq, lt_dec' hlt, hx, Nd.av_eq, hkk, mdL]) | ((first | refine onG_split_t (fun hg => ?_) (fun hg => ?_) | refine onG_split_f (fun hg => ?_) (fun hg => ?_)) <;> simp only [go_sem, ↓reduceIte, reduceCtorEq, reduceAdd, reduceMul, reduceEqDiff, reduceLT, reduceLeDiff, reduceSub, reduceDiv, Nat.reduceBEq, Int.reduceBEq, reduceBNe, Int.reduceLT, reduceLE, reduceEq, lt_dec' hlt, hx, Nd.av_eq, hkk, mdL, hg]) | (refine K_condA (fun hc => ?_) (fun hc => ?_) <;> try (exact absurd hc (by decide))))
      refine Hold.mk ( LCall.use (hcc) rfl hm hb (o := 10) (by omega) ((by (repeat (first | exact (fun _ _ h => h) | refine LowIn.curL ?_ | exact LowB.base | refine LowIn.upd ?_ (lowHp_none (by omega) (by omega)) | refine LowB.upd ?_ (lowHp_none (by omega) (by omega)))))) (Nat.le_of_ble_eq_true rfl) ?_ (fun _ _ _ _ h => h.elim))
      rintro r bl' cur' ⟨fr', hp', nx'⟩ ⟨rfl, rfl, rfl⟩ _ hb' hlen' hnx hfr hin hold
      simp only at hnx hfr hin hold
      subst hnx hfr
      simp only [go_sem, ↓reduceIte, reduceCtorEq, reduceAdd, reduceMul, reduceEqDiff, reduceLT, reduceLeDiff, reduceSub, reduceDiv, Nat.reduceBEq, Int.reduceBEq, reduceBNe, Int.reduceLT, reduceLE, reduceEq]
      refine hK _ ?_; clear hK hKp K Kp; try clear hanc anc
      repeat (first | refine Kq_norm_code ?_ | refine Kq_norm_blk ?_ | refine Kq_norm_lp ?_)
      refine K_low (fr := [(0, .ptr 0 0), (7, .sl (Nd.avL l)), (8, .i l.length), (9, .i i), (23, .bool (!(lowN n t).1))]) (loc := []) _ (fun i => i) hN hb' hlen' hm (by omega) hin (by simp [go_sem, lowM]) (by simp [hold]) (by simp) ?_
      clear hin hold; clear hb; have hb := hb'; clear hb'
      repeat' (first | apply w1 | apply w2 | apply w3 | apply w4 | apply w5 | apply w6 | apply w7 | refine Kq_exit_ne (by decide) ?_ | apply w8 | apply w9 | apply w0 | rw [wrap64 (by omega) (by omega)] | ((first | refine hK _ ?_ | refine hKp _ _ ?_); clear hK hKp K Kp; try clear hanc anc) | ((with_reducible refine And.intro ?_ ?_); (focus (first | trivial | omega | (simp only [Fits]; omega) | assumption | (rw [hanc]; rfl)))) | ((first | refine K_regA hE fun K Kp hK hKp => ?_ | refine K_drwA true mixed hE fun K Kp hK hKp anc hanc => ?_ | refine K_drwA false mixed hE fun K Kp hK hKp anc hanc => ?_); simp only [go_sem, ↓reduceIte, reduceCtorEq, reduceAdd, reduceMul, reduceEqDiff, reduceLT, reduceLeDiff, reduceSub, reduceDiv, Nat.reduceBEq, Int.reduceBEq, reduceBNe, Int.reduceLT, reduceLE, reduceEq]) | ((first | refine onG_split_t (fun hg => ?_) (fun hg => ?_) | refine onG_split_f (fun hg => ?_) (fun hg => ?_)) <;> simp only [go_sem, ↓reduceIte, reduceCtorEq, reduceAdd, reduceMul, reduceEqDiff, reduceLT, reduceLeDiff, reduceSub, reduceDiv, Nat.reduceBEq, Int.reduceBEq, reduceBNe, Int.reduceLT, reduceLE, reduceEq, hg]) | (refine K_condA (fun hc => ?_) (fun hc => ?_) <;> try (exact absurd hc (by decide))))
      · have h1 : (lowN n t).1 = false := by simpa using hc
        have e : lowL l s = (false, (lowN n t).2) := by rw [ht]; simp [h1]
        refine K_ret ?_
        exact (hQ _ (.bool false) _ _ (resA_tmp (by simp only [go_sem, ↓reduceIte, reduceCtorEq, reduceAdd, reduceMul, reduceEqDiff, reduceLT, reduceLeDiff, reduceSub, reduceDiv, Nat.reduceBEq, Int.reduceBEq, reduceBNe, Int.reduceLT, reduceLE, reduceEq])) (by rw [e]; exact ⟨rfl, rfl, rfl⟩) rfl (Out.of_in (base := 10) hb hm (by omega) (fun _ _ h => h) hlen')).1
      · have h1 : (lowN n t).1 = true := by simpa using hc
        refine ⟨(i + 1, (lowN n t).2), ⟨by simp only; omega, by simp only; rw [ht]; simp [h1], hnext⟩, by simp only; omega, lowM (fun i => i) 10, ?_⟩
        try dsimp only
        rw [hN]; exact ent_low (fr := [(0, .ptr 0 0), (7, .sl (Nd.avL l)), (8, .i l.length), (9, .i (i + 1 : Nat))]) (loc := []) (base := 10) (fun i => i) hb (by omega) hm (by omega) (by (repeat (first | exact (fun _ _ h => h) | refine LowIn.curL ?_ | exact LowB.base | refine LowIn.upd ?_ (lowHp_none (by omega) (by omega)) | refine LowB.upd ?_ (lowHp_none (by omega) (by omega))))) (by simp [go_sem, lowM]) (by simp) (by simp)
    · have hcc := hc 5 hk
      have hkk : n.kind = 5 := hk
      simp only [Nd.cs, hkk, Nat.reduceAdd] at hcc
      repeat' (first | apply w1 | apply w2 | apply w3 | apply w4 | apply w5 | apply w6 | apply w7 | refine Kq_exit_ne (by decide) ?_ | apply w8 | apply w9 | apply w0 | rw [wrap64 (by omega) (by omega)] | ((first | refine hK _ ?_ | refine hKp _ _ ?_); clear hK hKp K Kp; try clear hanc anc) | ((with_reducible refine And.intro ?_ ?_); (focus (first | trivial | omega | (simp only [Fits]; omega) | assumption | (rw [hanc]; rfl)))) | ((first | refine K_regA hE fun K Kp hK hKp => ?_ | refine K_drwA true mixed hE fun K Kp hK hKp anc hanc => ?_ | refine K_drwA false mixed hE fun K Kp hK hKp anc hanc => ?_); simp only [go_sem, ↓reduceIte, reduceCtorEq, reduceAdd, reduceMul, reduceEqDiff, reduceLT, reduceLeDiff, reduceSub, reduceDiv, Nat.reduceBEq, Int.reduceBEq, reduceBNe, Int.reduceLT, reduceLE, reduceEq, lt_dec' hlt, hx, Nd.av_eq, hkk, mdL]) | ((first | refine onG_split_t (fun hg => ?_) (fun hg => ?_) | refine onG_split_f (fun hg => ?_) (fun hg => ?_)) <;> simp only [go_sem, ↓reduceIte, reduceCtorEq, reduceAdd, reduceMul, reduceEqDiff, reduceLT, reduceLeDiff, reduceSub, reduceDiv, Nat.reduceBEq, Int.reduceBEq, reduceBNe, Int.reduceLT, reduceLE, reduceEq, lt_dec' hlt, hx, Nd.av_eq, hkk, mdL, hg]) | (refine K_condA (fun hc => ?_) (fun hc => ?_) <;> try (exact absurd hc (by decide))))
      refine Hold.mk ( LCall.use (hcc) rfl hm hb (o := 10) (by omega) ((by (repeat (first | exact (fun _ _ h => h) | refine LowIn.curL ?_ | exact LowB.base | refine LowIn.upd ?_ (lowHp_none (by omega) (by omega)) | refine LowB.upd ?_ (lowHp_none (by omega) (by omega)))))) (Nat.le_of_ble_eq_true rfl) ?_ (fun _ _ _ _ h => h.elim))
      rintro r bl' cur' ⟨fr', hp', nx'⟩ ⟨rfl, rfl, rfl⟩ _ hb' hlen' hnx hfr hin hold
      simp only at hnx hfr hin hold
      subst hnx hfr
      simp only [go_sem, ↓reduceIte, reduceCtorEq, reduceAdd, reduceMul, reduceEqDiff, reduceLT, reduceLeDiff, reduceSub, reduceDiv, Nat.reduceBEq, Int.reduceBEq, reduceBNe, Int.reduceLT, reduceLE, reduceEq]
      refine hK _ ?_; clear hK hKp K Kp; try clear hanc anc
      repeat (first | refine Kq_norm_code ?_ | refine Kq_norm_blk ?_ | refine Kq_norm_lp ?_)
      refine K_low (fr := [(0, .ptr 0 0), (7, .sl (Nd.avL l)), (8, .i l.length), (9, .i i), (23, .bool (!(lowN n t).1))]) (loc := []) _ (fun i => i) hN hb' hlen' hm (by omega) hin (by simp [go_sem, lowM]) (by simp [hold]) (by simp) ?_
      clear hin hold; clear hb; have hb := hb'; clear hb'
      repeat' (first | apply w1 | apply w2 | apply w3 | apply w4 | apply w5 | apply w6 | apply w7 | refine Kq_exit_ne (by decide) ?_ | apply w8 | apply w9 | apply w0 | rw [wrap64 (by omega) (by omega)] | ((first | refine hK _ ?_ | refine hKp _ _ ?_); clear hK hKp K Kp; try clear hanc anc) | ((with_reducible refine And.intro ?_ ?_); (focus (first | trivial | omega | (simp only [Fits]; omega) | assumption | (rw [hanc]; rfl)))) | ((first | refine K_regA hE fun K Kp hK hKp => ?_ | refine K_drwA true mixed hE fun K Kp hK hKp anc hanc => ?_ | refine K_drwA false mixed hE fun K Kp hK hKp anc hanc => ?_); simp only [go_sem, ↓reduceIte, reduceCtorEq, reduceAdd, reduceMul, reduceEqDiff, reduceLT, reduceLeDiff, reduceSub, reduceDiv, Nat.reduceBEq, Int.reduceBEq, reduceBNe, Int.reduceLT, reduceLE, reduceEq]) | ((first | refine onG_split_t (fun hg => ?_) (fun hg => ?_) | refine onG_split_f (fun hg => ?_) (fun hg => ?_)) <;> simp only [go_sem, ↓reduceIte, reduceCtorEq, reduceAdd, reduceMul, reduceEqDiff, reduceLT, reduceLeDiff, reduceSub, reduceDiv, Nat.reduceBEq, Int.reduceBEq, reduceBNe, Int.reduceLT, reduceLE, reduceEq, hg]) | (refine K_condA (fun hc => ?_) (fun hc => ?_) <;> try (exact absurd hc (by decide))))
      · have h1 : (lowN n t).1 = false := by simpa using hc
        have e : lowL l s = (false, (lowN n t).2) := by rw [ht]; simp [h1]
        refine K_ret ?_
        exact (hQ _ (.bool false) _ _ (resA_tmp (by simp only [go_sem, ↓reduceIte, reduceCtorEq, reduceAdd, reduceMul, reduceEqDiff, reduceLT, reduceLeDiff, reduceSub, reduceDiv, Nat.reduceBEq, Int.reduceBEq, reduceBNe, Int.reduceLT, reduceLE, reduceEq])) (by rw [e]; exact ⟨rfl, rfl, rfl⟩) rfl (Out.of_in (base := 10) hb hm (by omega) (fun _ _ h => h) hlen')).1
      · have h1 : (lowN n t).1 = true := by simpa using hc
        refine ⟨(i + 1, (lowN n t).2), ⟨by simp only; omega, by simp only; rw [ht]; simp [h1], hnext⟩, by simp only; omega, lowM (fun i => i) 10, ?_⟩
        try dsimp only
        rw [hN]; exact ent_low (fr := [(0, .ptr 0 0), (7, .sl (Nd.avL l)), (8, .i l.length), (9, .i (i + 1 : Nat))]) (loc := []) (base := 10) (fun i => i) hb (by omega) hm (by omega) (by (repeat (first | exact (fun _ _ h => h) | refine LowIn.curL ?_ | exact LowB.base | refine LowIn.upd ?_ (lowHp_none (by omega) (by omega)) | refine LowB.upd ?_ (lowHp_none (by omega) (by omega))))) (by simp [go_sem, lowM]) (by simp) (by simp)
    · have hcc := hc 6 hk
      have hkk : n.kind = 6 := hk
      simp only [Nd.cs, hkk, Nat.reduceAdd] at hcc
      repeat' (first | apply w1 | apply w2 | apply w3 | apply w4 | apply w5 | apply w6 | apply w7 | refine Kq_exit_ne (by decide) ?_ | apply w8 | apply w9 | apply w0 | rw [wrap64 (by omega) (by omega)] | ((first | refine hK _ ?_ | refine hKp _ _ ?_); clear hK hKp K Kp; try clear hanc anc) | ((with_reducible refine And.intro ?_ ?_); (focus (first | trivial | omega | (simp only [Fits]; omega) | assumption | (rw [hanc]; rfl)))) | ((first | refine K_regA hE fun K Kp hK hKp => ?_ | refine K_drwA true mixed hE fun K Kp hK hKp anc hanc => ?_ | refine K_drwA false mixed hE fun K Kp hK hKp anc hanc => ?_); simp only [go_sem, ↓reduceIte, reduceCtorEq, reduceAdd, reduceMul, reduceEqDiff, reduceLT, reduceLeDiff, reduceSub, reduceDiv, Nat.reduceBEq, Int.reduceBEq, reduceBNe, Int.reduceLT, reduceLE, reduceEq, lt_dec' hlt, hx, Nd.av_eq, hkk, mdL]) | ((first | refine onG_split_t (fun hg => ?_) (fun hg => ?_) | refine onG_split_f (fun hg => ?_) (fun hg => ?_)) <;> simp only [go_sem, ↓reduceIte, reduceCtorEq, reduceAdd, reduceMul, reduceEqDiff, reduceLT, reduceLeDiff, reduceSub, reduceDiv, Nat.reduceBEq, Int.reduceBEq, reduceBNe, Int.reduceLT, reduceLE, reduceEq, lt_dec' hlt, hx, Nd.av_eq, hkk, mdL, hg]) | (refine K_condA (fun hc => ?_) (fun hc => ?_) <;> try (exact absurd hc (by decide))))
      refine Hold.mk ( LCall.use (hcc) rfl hm hb (o := 10) (by omega) ((by (repeat (first | exact (fun _ _ h => h) | refine LowIn.curL ?_ | exact LowB.base | refine LowIn.upd ?_ (lowHp_none (by omega) (by omega)) | refine LowB.upd ?_ (lowHp_none (by omega) (by omega)))))) (Nat.le_of_ble_eq_true rfl) ?_ (fun _ _ _ _ h => h.elim))
      rintro r bl' cur' ⟨fr', hp', nx'⟩ ⟨rfl, rfl, rfl⟩ _ hb' hlen' hnx hfr hin hold
      simp only at hnx hfr hin hold
      subst hnx hfr
      simp only [go_sem, ↓reduceIte, reduceCtorEq, reduceAdd, reduceMul, reduceEqDiff, reduceLT, reduceLeDiff, reduceSub, reduceDiv, Nat.reduceBEq, Int.reduceBEq, reduceBNe, Int.reduceLT, reduceLE, reduceEq]
      refine hK _ ?_; clear hK hKp K Kp; try clear hanc anc
      repeat (first | refine Kq_norm_code ?_ | refine Kq_norm_blk ?_ | refine Kq_norm_lp ?_)
      refine K_low (fr := [(0, .ptr 0 0), (7, .sl (Nd.avL l)), (8, .i l.length), (9, .i i), (23, .bool (!(lowN n t).1))]) (loc := []) _ (fun i => i) hN hb' hlen' hm (by omega) hin (by simp [go_sem, lowM]) (by simp [hold]) (by simp) ?_
      clear hin hold; clear hb; have hb := hb'; clear hb'
      repeat' (first | apply w1 | apply w2 | apply w3 | apply w4 | apply w5 | apply w6 | apply w7 | refine Kq_exit_ne (by decide) ?_ | apply w8 | apply w9 | apply w0 | rw [wrap64 (by omega) (by omega)] | ((first | refine hK _ ?_ | refine hKp _ _ ?_); clear hK hKp K Kp; try clear hanc anc) | ((with_reducible refine And.intro ?_ ?_); (focus (first | trivial | omega | (simp only [Fits]; omega) | assumption | (rw [hanc]; rfl)))) | ((first | refine K_regA hE fun K Kp hK hKp => ?_ | refine K_drwA true mixed hE fun K Kp hK hKp anc hanc => ?_ | refine K_drwA false mixed hE fun K Kp hK hKp anc hanc => ?_); simp only [go_sem, ↓reduceIte, reduceCtorEq, reduceAdd, reduceMul, reduceEqDiff, reduceLT, reduceLeDiff, reduceSub, reduceDiv, Nat.reduceBEq, Int.reduceBEq, reduceBNe, Int.reduceLT, reduceLE, reduceEq]) | ((first | refine onG_split_t (fun hg => ?_) (fun hg => ?_) | refine onG_split_f (fun hg => ?_) (fun hg => ?_)) <;> simp only [go_sem, ↓reduceIte, reduceCtorEq, reduceAdd, reduceMul, reduceEqDiff, reduceLT, reduceLeDiff, reduceSub, reduceDiv, Nat.reduceBEq, Int.reduceBEq, reduceBNe, Int.reduceLT, reduceLE, reduceEq, hg]) | (refine K_condA (fun hc => ?_) (fun hc => ?_) <;> try (exact absurd hc (by decide))))
      · have h1 : (lowN n t).1 = false := by simpa using hc
        have e : lowL l s = (false, (lowN n t).2) := by rw [ht]; simp [h1]
        refine K_ret ?_
        exact (hQ _ (.bool false) _ _ (resA_tmp (by simp only [go_sem, ↓reduceIte, reduceCtorEq, reduceAdd, reduceMul, reduceEqDiff, reduceLT, reduceLeDiff, reduceSub, reduceDiv, Nat.reduceBEq, Int.reduceBEq, reduceBNe, Int.reduceLT, reduceLE, reduceEq])) (by rw [e]; exact ⟨rfl, rfl, rfl⟩) rfl (Out.of_in (base := 10) hb hm (by omega) (fun _ _ h => h) hlen')).1
      · have h1 : (lowN n t).1 = true := by simpa using hc
        refine ⟨(i + 1, (lowN n t).2), ⟨by simp only; omega, by simp only; rw [ht]; simp [h1], hnext⟩, by simp only; omega, lowM (fun i => i) 10, ?_⟩
        try dsimp only
        rw [hN]; exact ent_low (fr := [(0, .ptr 0 0), (7, .sl (Nd.avL l)), (8, .i l.length), (9, .i (i + 1 : Nat))]) (loc := []) (base := 10) (fun i => i) hb (by omega) hm (by omega) (by (repeat (first | exact (fun _ _ h => h) | refine LowIn.curL ?_ | exact LowB.base | refine LowIn.upd ?_ (lowHp_none (by omega) (by omega)) | refine LowB.upd ?_ (lowHp_none (by omega) (by omega))))) (by simp [go_sem, lowM]) (by simp) (by simp)
  · obtain rfl : i = l.length := by omega
    rw [List.drop_length, lowL] at ht
    repeat' (first | apply w1 | apply w2 | apply w3 | apply w4 | apply w5 | apply w6 | apply w7 | refine Kq_exit_ne (by decide) ?_ | apply w8 | apply w9 | apply w0 | rw [wrap64 (by omega) (by omega)] | ((first | refine hK _ ?_ | refine hKp _ _ ?_); clear hK hKp K Kp; try clear hanc anc) | ((with_reducible refine And.intro ?_ ?_); (focus (first | trivial | omega | (simp only [Fits]; omega) | assumption | (rw [hanc]; rfl)))) | ((first | refine K_regA hE fun K Kp hK hKp => ?_ | refine K_drwA true mixed hE fun K Kp hK hKp anc hanc => ?_ | refine K_drwA false mixed hE fun K Kp hK hKp anc hanc => ?_); simp only [go_sem, ↓reduceIte, reduceCtorEq, reduceAdd, reduceMul, reduceEqDiff, reduceLT, reduceLeDiff, reduceSub, reduceDiv, Nat.reduceBEq, Int.reduceBEq, reduceBNe, Int.reduceLT, reduceLE, reduceEq, ge_dec']) | ((first | refine onG_split_t (fun hg => ?_) (fun hg => ?_) | refine onG_split_f (fun hg => ?_) (fun hg => ?_)) <;> simp only [go_sem, ↓reduceIte, reduceCtorEq, reduceAdd, reduceMul, reduceEqDiff, reduceLT, reduceLeDiff, reduceSub, reduceDiv, Nat.reduceBEq, Int.reduceBEq, reduceBNe, Int.reduceLT, reduceLE, reduceEq, ge_dec', hg]) | (refine K_condA (fun hc => ?_) (fun hc => ?_) <;> try (exact absurd hc (by decide))))
    refine K_ret ?_
    exact (hQ _ (.bool true) _ _ (resA_tmp (by simp only [go_sem, ↓reduceIte, reduceCtorEq, reduceAdd, reduceMul, reduceEqDiff, reduceLT, reduceLeDiff, reduceSub, reduceDiv, Nat.reduceBEq, Int.reduceBEq, reduceBNe, Int.reduceLT, reduceLE, reduceEq])) (by rw [ht]; exact ⟨rfl, rfl, rfl⟩) rfl (Out.of_in (base := 10) hb hm (by omega) (fun _ _ h => h) hlent)).1

theorem lowP_drop {ps : List (List Nd)} {i : Nat} {p : List Nd} (h : ps[i]? = some p) (f : Nat) (s : LS) : lowP (ps.drop i) f s = ((if (lowL p (s.at f)).1 then [(lowL p (s.at f)).2.cur] else []) ++ (lowP (ps.drop (i + 1)) (f + 1) (lowL p (s.at f)).2).1, (lowP (ps.drop (i + 1)) (f + 1) (lowL p (s.at f)).2).2) := by
  rw [drop_of' h, lowP]

theorem szP_drop {ps : List (List Nd)} {i : Nat} {p : List Nd} (h : ps[i]? = some p) : szP (ps.drop i) = 1 + szL p + szP (ps.drop (i + 1)) := by rw [drop_of' h, szP]

theorem joinL_eq (exits : List Nat) (s : LS) : joinL exits s = if exits = [] then (false, s) else (true, (exits.foldl (fun t b => (t.at b).end 1 0 [((s.bl.length : Nat) : Int)]) (s.add 1)).at s.bl.length) := rfl

theorem parts_lc {N : Nat} (hL : ListC N) : PartsC N := by
  intro ps hn ho f s h hf
  have hm := mdL_ok
  have hb := h.ok
  have hlen := h.len5
  have hcur := h.cur
  have hl4 := h.len
  have hpl := szP_len ps
  unfold LC
  refine LCall.intro Try.func49 rfl isf49 (by simp [Try.f49]) hm fun E Q hE hN hQ hQp => K_start ?_
  refine K_low (fr := [(0, .ptr 0 0), (1, .i f), (2, .sl (Nd.avLL ps))]) (loc := []) (base := 2) (fun i => i) hN hb (by omega) hm (Nat.le_refl 2) (fun _ _ h => h) (by simp [go_sem, lowM]) (by simp) (by simp) ?_
  repeat' (first | apply w1 | apply w2 | apply w3 | apply w4 | apply w5 | apply w6 | apply w7 | refine Kq_exit_ne (by decide) ?_ | apply w8 | apply w9 | apply w0 | rw [wrap64 (by omega) (by omega)] | ((first | refine hK _ ?_ | refine hKp _ _ ?_); clear hK hKp K Kp; try clear hanc anc) | ((with_reducible refine And.intro ?_ ?_); (focus (first | trivial | omega | (simp only [Fits]; omega) | assumption | (rw [hanc]; rfl)))) | ((first | refine K_regA hE fun K Kp hK hKp => ?_ | refine K_drwA true mixed hE fun K Kp hK hKp anc hanc => ?_ | refine K_drwA false mixed hE fun K Kp hK hKp anc hanc => ?_); simp only [go_sem, ↓reduceIte, reduceCtorEq, reduceAdd, reduceMul, reduceEqDiff, reduceLT, reduceLeDiff, reduceSub, reduceDiv, Nat.reduceBEq, Int.reduceBEq, reduceBNe, Int.reduceLT, reduceLE, reduceEq]) | ((first | refine onG_split_t (fun hg => ?_) (fun hg => ?_) | refine onG_split_f (fun hg => ?_) (fun hg => ?_)) <;> simp only [go_sem, ↓reduceIte, reduceCtorEq, reduceAdd, reduceMul, reduceEqDiff, reduceLT, reduceLeDiff, reduceSub, reduceDiv, Nat.reduceBEq, Int.reduceBEq, reduceBNe, Int.reduceLT, reduceLE, reduceEq, hg]) | (refine K_condA (fun hc => ?_) (fun hc => ?_) <;> try (exact absurd hc (by decide))))
  refine AW_nil 7 1 (by rw [hE]; decide) (by simp only [go_sem, ↓reduceIte, reduceCtorEq, reduceAdd, reduceMul, reduceEqDiff, reduceLT, reduceLeDiff, reduceSub, reduceDiv, Nat.reduceBEq, Int.reduceBEq, reduceBNe, Int.reduceLT, reduceLE, reduceEq]) ?_
  dsimp only
  refine K_loop (X := Nat × LS × List Int) (fun x => x.1 ≤ ps.length ∧ (lowP ps f s).2 = (lowP (ps.drop x.1) (f + x.1) x.2.1).2 ∧ (lowP ps f s).1.map (fun (b : Nat) => (b : Int)) = x.2.2 ++ (lowP (ps.drop x.1) (f + x.1) x.2.1).1.map (fun (b : Nat) => (b : Int)) ∧ x.2.2.length ≤ x.1 ∧ Pre x.2.1 (4 * szP (ps.drop x.1) - 4 * (ps.length - x.1) + 1) ∧ f + ps.length ≤ x.2.1.bl.length)
    (fun x => lowSt [(0, .ptr 0 0), (1, .i f), (7, .rw 2), (13, .sl (Nd.avLL ps)), (14, .i ps.length), (15, .i x.1)] [(2, .row 1 (x.2.2.map AV.i))] (hsL mdL) x.2.1.bl x.2.1.cur) (fun x => ps.length - x.1) (0, s, []) ⟨Nat.zero_le _, rfl, rfl, Nat.le_refl _, by simpa using h, hf⟩ (lowM (fun _ => 6242880) 10) ?_ ?_
  · try dsimp only
    rw [hN]; exact ent_low (fr := [(0, .ptr 0 0), (1, .i f), (7, .rw 2), (13, .sl (Nd.avLL ps)), (14, .i ps.length), (15, .i (0 : Nat))]) (loc := [(2, .row 1 ((([] : List Int)).map AV.i))]) (base := 10) (fun _ => 6242880) hb (by omega) hm (by omega) (by (repeat (first | exact (fun _ _ h => h) | refine LowIn.curL ?_ | exact LowB.base | refine LowIn.upd ?_ (lowHp_none (by omega) (by omega)) | refine LowB.upd ?_ (lowHp_none (by omega) (by omega))))) (by simp [go_sem, lowM]) (by intro p hp; obtain rfl := List.mem_singleton.1 hp; exact ⟨Nat.le_refl 2, (by show 2 < 10; decide), (by rw [rowi_ren]; simp [go_sem]), rowi_ids _ _, lowHp_none (by omega) (by omega)⟩) (by simp)
  rintro ⟨i, t, ex⟩ ⟨hi, ht, hex, hxl, hpre, hft⟩
  simp only at hi ht hex hxl hpre hft
  clear hb
  have hb := hpre.ok
  have hlent := hpre.len5
  have hl5 := hpre.len
  by_cases hlt : i < ps.length
  · obtain ⟨p, hx⟩ := get?_of' hlt
    rw [lowP_drop hx] at ht hex
    have hnp := hn p (List.mem_of_getElem? hx)
    have hop := kdP_mem ho (List.mem_of_getElem? hx)
    rw [szP_drop hx] at hpre hl5
    have hpl2 := szP_len (ps.drop (i + 1))
    rw [List.length_drop] at hpl2
    have e1 : IntKind.i64.wrap ((f : Int) + i) = ((f + i : Nat) : Int) := by rw [wrap64 (by omega) (by omega)]; rfl
    have hpa : Pre (t.at (f + i)) (4 * szL p + (4 * szP (ps.drop (i + 1)) - 4 * (ps.length - (i + 1)) + 1)) := (hpre.at (k := f + i) (by omega)).mono (by omega)
    have gr := lowL_grow p (t.at (f + i)) hpa.cur
    have hnext : Pre (lowL p (t.at (f + i))).2 (4 * szP (ps.drop (i + 1)) - 4 * (ps.length - (i + 1)) + 1) := hpa.grow gr (by omega)
    have hcl := hL p hnp hop (t.at (f + i)) (hpa.mono (by omega))
    have hbl : t.bl.length ≤ (lowL p (t.at (f + i))).2.bl.length := gr.le
    repeat' (first | apply w1 | apply w2 | apply w3 | apply w4 | apply w5 | apply w6 | apply w7 | refine Kq_exit_ne (by decide) ?_ | apply w8 | apply w9 | apply w0 | rw [wrap64 (by omega) (by omega)] | ((first | refine hK _ ?_ | refine hKp _ _ ?_); clear hK hKp K Kp; try clear hanc anc) | ((with_reducible refine And.intro ?_ ?_); (focus (first | trivial | omega | (simp only [Fits]; omega) | assumption | (rw [hanc]; rfl)))) | ((first | refine K_regA hE fun K Kp hK hKp => ?_ | refine K_drwA true mixed hE fun K Kp hK hKp anc hanc => ?_ | refine K_drwA false mixed hE fun K Kp hK hKp anc hanc => ?_); simp only [go_sem, ↓reduceIte, reduceCtorEq, reduceAdd, reduceMul, reduceEqDiff, reduceLT, reduceLeDiff, reduceSub, reduceDiv, Nat.reduceBEq, Int.reduceBEq, reduceBNe, Int.reduceLT, reduceLE, reduceEq, lt_dec' hlt, hx, e1]) | ((first | refine onG_split_t (fun hg => ?_) (fun hg => ?_) | refine onG_split_f (fun hg => ?_) (fun hg => ?_)) <;> simp only [go_sem, ↓reduceIte, reduceCtorEq, reduceAdd, reduceMul, reduceEqDiff, reduceLT, reduceLeDiff, reduceSub, reduceDiv, Nat.reduceBEq, Int.reduceBEq, reduceBNe, Int.reduceLT, reduceLE, reduceEq, lt_dec' hlt, hx, e1, hg]) | (refine K_condA (fun hc => ?_) (fun hc => ?_) <;> try (exact absurd hc (by decide))))
    refine Hold.mk ( LCall.use (hcl) rfl hm hb (o := 10) (by omega) ((by (repeat (first | exact (fun _ _ h => h) | refine LowIn.curL ?_ | exact LowB.base | refine LowIn.upd ?_ (lowHp_none (by omega) (by omega)) | refine LowB.upd ?_ (lowHp_none (by omega) (by omega)))))) (Nat.le_of_ble_eq_true rfl) ?_ (fun _ _ _ _ h => h.elim))
    rintro r bl' cur' ⟨fr', hp', nx'⟩ ⟨rfl, rfl, rfl⟩ _ hb' hlen' hnx hfr hin hold
    simp only at hnx hfr hin hold
    subst hnx hfr
    simp only [go_sem, ↓reduceIte, reduceCtorEq, reduceAdd, reduceMul, reduceEqDiff, reduceLT, reduceLeDiff, reduceSub, reduceDiv, Nat.reduceBEq, Int.reduceBEq, reduceBNe, Int.reduceLT, reduceLE, reduceEq]
    refine hK _ ?_; clear hK hKp K Kp; try clear hanc anc
    repeat (first | refine Kq_norm_code ?_ | refine Kq_norm_blk ?_ | refine Kq_norm_lp ?_)
    refine K_low (fr := [(0, .ptr 0 0), (1, .i f), (7, .rw 2), (13, .sl (Nd.avLL ps)), (14, .i ps.length), (15, .i i), (28, .bool (lowL p (t.at (f + i))).1)]) (loc := [(2, .row 1 ((ex).map AV.i))]) _ (fun i => i) hN hb' hlen' hm (by omega) hin (by simp [go_sem, lowM]) (by intro p hp; obtain rfl := List.mem_singleton.1 hp; exact ⟨Nat.le_refl 2, (by show 2 < 10; decide), (by rw [rowi_ren]; exact hold _ _ (by simp [go_sem]) (lowHp_none (by omega) (by omega))), rowi_ids _ _, lowHp_none (by omega) (.inl (by omega))⟩) (by simp) ?_
    clear hin hold; clear hb; have hb := hb'; clear hb'
    cases hleft : (lowL p (t.at (f + i))).1
    · repeat' (first | apply w1 | apply w2 | apply w3 | apply w4 | apply w5 | apply w6 | apply w7 | refine Kq_exit_ne (by decide) ?_ | apply w8 | apply w9 | apply w0 | rw [wrap64 (by omega) (by omega)] | ((first | refine hK _ ?_ | refine hKp _ _ ?_); clear hK hKp K Kp; try clear hanc anc) | ((with_reducible refine And.intro ?_ ?_); (focus (first | trivial | omega | (simp only [Fits]; omega) | assumption | (rw [hanc]; rfl)))) | ((first | refine K_regA hE fun K Kp hK hKp => ?_ | refine K_drwA true mixed hE fun K Kp hK hKp anc hanc => ?_ | refine K_drwA false mixed hE fun K Kp hK hKp anc hanc => ?_); simp only [go_sem, ↓reduceIte, reduceCtorEq, reduceAdd, reduceMul, reduceEqDiff, reduceLT, reduceLeDiff, reduceSub, reduceDiv, Nat.reduceBEq, Int.reduceBEq, reduceBNe, Int.reduceLT, reduceLE, reduceEq]) | ((first | refine onG_split_t (fun hg => ?_) (fun hg => ?_) | refine onG_split_f (fun hg => ?_) (fun hg => ?_)) <;> simp only [go_sem, ↓reduceIte, reduceCtorEq, reduceAdd, reduceMul, reduceEqDiff, reduceLT, reduceLeDiff, reduceSub, reduceDiv, Nat.reduceBEq, Int.reduceBEq, reduceBNe, Int.reduceLT, reduceLE, reduceEq, hg]) | (refine K_condA (fun hc => ?_) (fun hc => ?_) <;> try (exact absurd hc (by decide))))
      rw [hleft] at hex
      simp only [Bool.false_eq_true, if_false, List.nil_append] at hex
      refine ⟨(i + 1, (lowL p (t.at (f + i))).2, ex), ⟨by simp only; omega, ht, hex, by simp only; omega, hnext, by simp only; omega⟩, by simp only; omega, lowM (fun i => i) 10, ?_⟩
      try dsimp only
      rw [hN]; exact ent_low (fr := [(0, .ptr 0 0), (1, .i f), (7, .rw 2), (13, .sl (Nd.avLL ps)), (14, .i ps.length), (15, .i (i + 1 : Nat))]) (loc := [(2, .row 1 ((ex).map AV.i))]) (base := 10) (fun i => i) hb (by omega) hm (by omega) (by (repeat (first | exact (fun _ _ h => h) | refine LowIn.curL ?_ | exact LowB.base | refine LowIn.upd ?_ (lowHp_none (by omega) (by omega)) | refine LowB.upd ?_ (lowHp_none (by omega) (by omega))))) (by simp [go_sem, lowM]) (by intro p hp; obtain rfl := List.mem_singleton.1 hp; exact ⟨Nat.le_refl 2, (by show 2 < 10; decide), (by rw [rowi_ren]; simp [go_sem]), rowi_ids _ _, lowHp_none (by omega) (by omega)⟩) (by simp)
    · repeat' (first | apply w1 | apply w2 | apply w3 | apply w4 | apply w5 | apply w6 | apply w7 | refine Kq_exit_ne (by decide) ?_ | apply w8 | apply w9 | apply w0 | rw [wrap64 (by omega) (by omega)] | ((first | refine hK _ ?_ | refine hKp _ _ ?_); clear hK hKp K Kp; try clear hanc anc) | ((with_reducible refine And.intro ?_ ?_); (focus (first | trivial | omega | (simp only [Fits]; omega) | assumption | (rw [hanc]; rfl)))) | ((first | refine K_regA hE fun K Kp hK hKp => ?_ | refine K_drwA true mixed hE fun K Kp hK hKp anc hanc => ?_ | refine K_drwA false mixed hE fun K Kp hK hKp anc hanc => ?_); simp only [go_sem, ↓reduceIte, reduceCtorEq, reduceAdd, reduceMul, reduceEqDiff, reduceLT, reduceLeDiff, reduceSub, reduceDiv, Nat.reduceBEq, Int.reduceBEq, reduceBNe, Int.reduceLT, reduceLE, reduceEq]) | ((first | refine onG_split_t (fun hg => ?_) (fun hg => ?_) | refine onG_split_f (fun hg => ?_) (fun hg => ?_)) <;> simp only [go_sem, ↓reduceIte, reduceCtorEq, reduceAdd, reduceMul, reduceEqDiff, reduceLT, reduceLeDiff, reduceSub, reduceDiv, Nat.reduceBEq, Int.reduceBEq, reduceBNe, Int.reduceLT, reduceLE, reduceEq, hg]) | (refine K_condA (fun hc => ?_) (fun hc => ?_) <;> try (exact absurd hc (by decide))))
      rw [hleft] at hex
      simp only [if_true, List.map_append, List.map_cons, List.map_nil, ← List.append_assoc] at hex
      refine ⟨(i + 1, (lowL p (t.at (f + i))).2, ex ++ [((lowL p (t.at (f + i))).2.cur : Int)]), ⟨by simp only; omega, ht, hex, by simp only [List.length_append, List.length_cons, List.length_nil]; omega, hnext, by simp only; omega⟩, by simp only; omega, lowM (fun _ => 7291456) 10, ?_⟩
      try dsimp only
      rw [hN]; exact ent_low (fr := [(0, .ptr 0 0), (1, .i f), (7, .rw 2), (13, .sl (Nd.avLL ps)), (14, .i ps.length), (15, .i (i + 1 : Nat))]) (loc := [(2, .row 1 ((ex ++ [((lowL p (t.at (f + i))).2.cur : Int)]).map AV.i))]) (base := 10) (fun _ => 7291456) hb (by omega) hm (by omega) (by (repeat (first | exact (fun _ _ h => h) | refine LowIn.curL ?_ | exact LowB.base | refine LowIn.upd ?_ (lowHp_none (by omega) (by omega)) | refine LowB.upd ?_ (lowHp_none (by omega) (by omega))))) (by simp [go_sem, lowM, List.map_append, List.map_cons, List.map_nil]) (by intro p hp; obtain rfl := List.mem_singleton.1 hp; exact ⟨Nat.le_refl 2, (by show 2 < 10; decide), (by rw [rowi_ren]; simp [go_sem, List.map_append, List.map_cons, List.map_nil]), rowi_ids _ _, lowHp_none (by omega) (by omega)⟩) (by simp)
  · obtain rfl : i = ps.length := by omega
    rw [List.drop_length, lowP] at ht hex
    simp only [List.map_nil, List.append_nil] at hex
    subst ht
    subst hex
    have hjl := joinL_eq (lowP ps f s).1 (lowP ps f s).2
    have hgP := lowP_grow ps f s h.cur hf
    have hu : Pre (lowP ps f s).2 1 := hpre.mono (by omega)
    clear hpre hft
    generalize lowP ps f s = P at *
    obtain ⟨es, u⟩ := P
    simp only [List.length_map] at *
    by_cases h0 : es = []
    · subst h0
      rw [if_pos rfl] at hjl
      repeat' (first | apply w1 | apply w2 | apply w3 | apply w4 | apply w5 | apply w6 | apply w7 | refine Kq_exit_ne (by decide) ?_ | apply w8 | apply w9 | apply w0 | rw [wrap64 (by omega) (by omega)] | ((first | refine hK _ ?_ | refine hKp _ _ ?_); clear hK hKp K Kp; try clear hanc anc) | ((with_reducible refine And.intro ?_ ?_); (focus (first | trivial | omega | (simp only [Fits]; omega) | assumption | (rw [hanc]; rfl)))) | ((first | refine K_regA hE fun K Kp hK hKp => ?_ | refine K_drwA true mixed hE fun K Kp hK hKp anc hanc => ?_ | refine K_drwA false mixed hE fun K Kp hK hKp anc hanc => ?_); simp only [go_sem, ↓reduceIte, reduceCtorEq, reduceAdd, reduceMul, reduceEqDiff, reduceLT, reduceLeDiff, reduceSub, reduceDiv, Nat.reduceBEq, Int.reduceBEq, reduceBNe, Int.reduceLT, reduceLE, reduceEq, ge_dec']) | ((first | refine onG_split_t (fun hg => ?_) (fun hg => ?_) | refine onG_split_f (fun hg => ?_) (fun hg => ?_)) <;> simp only [go_sem, ↓reduceIte, reduceCtorEq, reduceAdd, reduceMul, reduceEqDiff, reduceLT, reduceLeDiff, reduceSub, reduceDiv, Nat.reduceBEq, Int.reduceBEq, reduceBNe, Int.reduceLT, reduceLE, reduceEq, ge_dec', hg]) | (refine K_condA (fun hc => ?_) (fun hc => ?_) <;> try (exact absurd hc (by decide))))
      refine K_ret ?_
      exact (hQ _ (.bool false) _ _ (resA_tmp (by simp only [go_sem, ↓reduceIte, reduceCtorEq, reduceAdd, reduceMul, reduceEqDiff, reduceLT, reduceLeDiff, reduceSub, reduceDiv, Nat.reduceBEq, Int.reduceBEq, reduceBNe, Int.reduceLT, reduceLE, reduceEq])) (by rw [hjl]; exact ⟨rfl, rfl, rfl⟩) rfl (Out.of_in (base := 10) hb hm (by omega) (by (repeat (first | exact (fun _ _ h => h) | refine LowIn.upd ?_ (lowHp_none (by omega) (by omega))))) hlent)).1
    · have hl0 : es.length ≠ 0 := fun e => h0 (List.length_eq_zero_iff.1 e)
      have hx1 : (((es.length : Nat) : Int) == 0) = false := by simp [h0]
      rw [if_neg h0] at hjl
      have hA : Pre (u.add 1) 0 := hu.grow (grow_add hu.cur 1) (by omega)
      repeat' (first | apply w1 | apply w2 | apply w3 | apply w4 | apply w5 | apply w6 | apply w7 | refine Kq_exit_ne (by decide) ?_ | apply w8 | apply w9 | apply w0 | rw [wrap64 (by omega) (by omega)] | ((first | refine hK _ ?_ | refine hKp _ _ ?_); clear hK hKp K Kp; try clear hanc anc) | ((with_reducible refine And.intro ?_ ?_); (focus (first | trivial | omega | (simp only [Fits]; omega) | assumption | (rw [hanc]; rfl)))) | ((first | refine K_regA hE fun K Kp hK hKp => ?_ | refine K_drwA true mixed hE fun K Kp hK hKp anc hanc => ?_ | refine K_drwA false mixed hE fun K Kp hK hKp anc hanc => ?_); simp only [go_sem, ↓reduceIte, reduceCtorEq, reduceAdd, reduceMul, reduceEqDiff, reduceLT, reduceLeDiff, reduceSub, reduceDiv, Nat.reduceBEq, Int.reduceBEq, reduceBNe, Int.reduceLT, reduceLE, reduceEq, ge_dec', hx1]) | ((first | refine onG_split_t (fun hg => ?_) (fun hg => ?_) | refine onG_split_f (fun hg => ?_) (fun hg => ?_)) <;> simp only [go_sem, ↓reduceIte, reduceCtorEq, reduceAdd, reduceMul, reduceEqDiff, reduceLT, reduceLeDiff, reduceSub, reduceDiv, Nat.reduceBEq, Int.reduceBEq, reduceBNe, Int.reduceLT, reduceLE, reduceEq, ge_dec', hx1, hg]) | (refine K_condA (fun hc => ?_) (fun hc => ?_) <;> try (exact absurd hc (by decide))))
      refine Hold.mk ( LCall.use (add_lc hu 1 (by omega)) rfl hm hb (o := 10) (by omega) ((by (repeat (first | exact (fun _ _ h => h) | refine LowIn.curL ?_ | exact LowB.base | refine LowIn.upd ?_ (lowHp_none (by omega) (by omega)) | refine LowB.upd ?_ (lowHp_none (by omega) (by omega)))))) (Nat.le_of_ble_eq_true rfl) ?_ (fun _ _ _ _ h => h.elim))
      rintro r bl' cur' ⟨fr', hp', nx'⟩ ⟨rfl, rfl, rfl⟩ _ hb' hlen' hnx hfr hin hold
      simp only at hnx hfr hin hold
      subst hnx hfr
      simp only [go_sem, ↓reduceIte, reduceCtorEq, reduceAdd, reduceMul, reduceEqDiff, reduceLT, reduceLeDiff, reduceSub, reduceDiv, Nat.reduceBEq, Int.reduceBEq, reduceBNe, Int.reduceLT, reduceLE, reduceEq]
      refine hK _ ?_; clear hK hKp K Kp; try clear hanc anc
      repeat (first | refine Kq_norm_code ?_ | refine Kq_norm_blk ?_ | refine Kq_norm_lp ?_)
      refine K_low (fr := [(0, .ptr 0 0), (7, .rw 2), (10, .i u.bl.length)]) (loc := [(2, .row 1 ((es.map (fun (b : Nat) => (b : Int))).map AV.i))]) _ (fun i => i) hN hb' hlen' hm (by omega) hin (by simp [go_sem, lowM]) (by intro p hp; obtain rfl := List.mem_singleton.1 hp; exact ⟨Nat.le_refl 2, (by show 2 < 10; decide), (by rw [rowi_ren]; exact hold _ _ (by simp [go_sem]) (lowHp_none (by omega) (by omega))), rowi_ids _ _, lowHp_none (by omega) (.inl (by omega))⟩) (by simp) ?_
      clear hin hold; clear hb; have hb := hb'; clear hb'
      have hlenA : (u.add 1).bl.length = u.bl.length + 1 := add_len u 1
      repeat' (first | apply w1 | apply w2 | apply w3 | apply w4 | apply w5 | apply w6 | apply w7 | refine Kq_exit_ne (by decide) ?_ | apply w8 | apply w9 | apply w0 | rw [wrap64 (by omega) (by omega)] | ((first | refine hK _ ?_ | refine hKp _ _ ?_); clear hK hKp K Kp; try clear hanc anc) | ((with_reducible refine And.intro ?_ ?_); (focus (first | trivial | omega | (simp only [Fits]; omega) | assumption | (rw [hanc]; rfl)))) | ((first | refine K_regA hE fun K Kp hK hKp => ?_ | refine K_drwA true mixed hE fun K Kp hK hKp anc hanc => ?_ | refine K_drwA false mixed hE fun K Kp hK hKp anc hanc => ?_); simp only [go_sem, ↓reduceIte, reduceCtorEq, reduceAdd, reduceMul, reduceEqDiff, reduceLT, reduceLeDiff, reduceSub, reduceDiv, Nat.reduceBEq, Int.reduceBEq, reduceBNe, Int.reduceLT, reduceLE, reduceEq]) | ((first | refine onG_split_t (fun hg => ?_) (fun hg => ?_) | refine onG_split_f (fun hg => ?_) (fun hg => ?_)) <;> simp only [go_sem, ↓reduceIte, reduceCtorEq, reduceAdd, reduceMul, reduceEqDiff, reduceLT, reduceLeDiff, reduceSub, reduceDiv, Nat.reduceBEq, Int.reduceBEq, reduceBNe, Int.reduceLT, reduceLE, reduceEq, hg]) | (refine K_condA (fun hc => ?_) (fun hc => ?_) <;> try (exact absurd hc (by decide))))
      refine K_loop (X := Nat × LS) (fun x => x.1 ≤ es.length ∧ (es.drop x.1).foldl (fun t b => (t.at b).end 1 0 [((u.bl.length : Nat) : Int)]) x.2 = es.foldl (fun t b => (t.at b).end 1 0 [((u.bl.length : Nat) : Int)]) (u.add 1) ∧ Pre x.2 0 ∧ x.2.bl.length = u.bl.length + 1)
        (fun x => lowSt [(0, .ptr 0 0), (10, .i u.bl.length), (42, .rw 2), (43, .i es.length), (44, .i x.1)] [(2, .row 1 ((es.map (fun (b : Nat) => (b : Int))).map AV.i))] (hsL mdL) x.2.bl x.2.cur) (fun x => es.length - x.1) (0, u.add 1) ⟨Nat.zero_le _, rfl, hA, hlenA⟩ (lowM (fun i => i) 10) ?_ ?_
      · try dsimp only
        rw [hN]; exact ent_low (fr := [(0, .ptr 0 0), (10, .i u.bl.length), (42, .rw 2), (43, .i es.length), (44, .i (0 : Nat))]) (loc := [(2, .row 1 ((es.map (fun (b : Nat) => (b : Int))).map AV.i))]) (base := 10) (fun i => i) hb (by omega) hm (by omega) (by (repeat (first | exact (fun _ _ h => h) | refine LowIn.curL ?_ | exact LowB.base | refine LowIn.upd ?_ (lowHp_none (by omega) (by omega)) | refine LowB.upd ?_ (lowHp_none (by omega) (by omega))))) (by simp [go_sem, lowM]) (by intro p hp; obtain rfl := List.mem_singleton.1 hp; exact ⟨Nat.le_refl 2, (by show 2 < 10; decide), (by rw [rowi_ren]; simp [go_sem]), rowi_ids _ _, lowHp_none (by omega) (by omega)⟩) (by simp)
      rintro ⟨k, v⟩ ⟨ki, kt, kpre, kl⟩
      simp only at ki kt kpre kl
      clear hb
      have hb := kpre.ok
      have hlenv := kpre.len5
      by_cases klt : k < es.length
      · obtain ⟨b, hx⟩ := get?_of' klt
        rw [drop_of' hx, List.foldl_cons] at kt
        have hbu := hgP.2 b (List.mem_of_getElem? hx)
        have hva : Pre (v.at b) 0 := kpre.at (by omega)
        have hlva := hva.len5
        have hvb : Pre ((v.at b).end 1 0 [((u.bl.length : Nat) : Int)]) 0 := hva.grow (grow_end hva.cur _ _ _) (by omega)
        repeat' (first | apply w1 | apply w2 | apply w3 | apply w4 | apply w5 | apply w6 | apply w7 | refine Kq_exit_ne (by decide) ?_ | apply w8 | apply w9 | apply w0 | rw [wrap64 (by omega) (by omega)] | ((first | refine hK _ ?_ | refine hKp _ _ ?_); clear hK hKp K Kp; try clear hanc anc) | ((with_reducible refine And.intro ?_ ?_); (focus (first | trivial | omega | (simp only [Fits]; omega) | assumption | (rw [hanc]; rfl)))) | ((first | refine K_regA hE fun K Kp hK hKp => ?_ | refine K_drwA true mixed hE fun K Kp hK hKp anc hanc => ?_ | refine K_drwA false mixed hE fun K Kp hK hKp anc hanc => ?_); simp only [go_sem, ↓reduceIte, reduceCtorEq, reduceAdd, reduceMul, reduceEqDiff, reduceLT, reduceLeDiff, reduceSub, reduceDiv, Nat.reduceBEq, Int.reduceBEq, reduceBNe, Int.reduceLT, reduceLE, reduceEq, lt_dec' klt, hx]) | ((first | refine onG_split_t (fun hg => ?_) (fun hg => ?_) | refine onG_split_f (fun hg => ?_) (fun hg => ?_)) <;> simp only [go_sem, ↓reduceIte, reduceCtorEq, reduceAdd, reduceMul, reduceEqDiff, reduceLT, reduceLeDiff, reduceSub, reduceDiv, Nat.reduceBEq, Int.reduceBEq, reduceBNe, Int.reduceLT, reduceLE, reduceEq, lt_dec' klt, hx, hg]) | (refine K_condA (fun hc => ?_) (fun hc => ?_) <;> try (exact absurd hc (by decide))))
        refine Hold.mk (CallB.frz4 (by simp only [go_sem, ↓reduceIte, reduceCtorEq, reduceAdd, reduceMul, reduceEqDiff, reduceLT, reduceLeDiff, reduceSub, reduceDiv, Nat.reduceBEq, Int.reduceBEq, reduceBNe, Int.reduceLT, reduceLE, reduceEq]; rfl) (by first | exact clo_LL _ | exact CloRow.all (by simp [go_sem])) <| LCall.use (end_lc hva 1 0 [((u.bl.length : Nat) : Int)]) rfl hm hb (o := 10) (by omega) ((by (repeat (first | exact (fun _ _ h => h) | refine LowIn.curL ?_ | exact LowB.base | refine LowIn.upd ?_ (lowHp_none (by omega) (by omega)) | refine LowB.upd ?_ (lowHp_none (by omega) (by omega)))))) (Nat.le_of_ble_eq_true rfl) ?_ (fun _ _ _ _ h => h.elim))
        rintro r bl' cur' ⟨fr', hp', nx'⟩ ⟨rfl, rfl, rfl⟩ _ hb' hlen' hnx hfr hin hold
        simp only at hnx hfr hin hold
        subst hnx hfr
        simp only [go_sem, ↓reduceIte, reduceCtorEq, reduceAdd, reduceMul, reduceEqDiff, reduceLT, reduceLeDiff, reduceSub, reduceDiv, Nat.reduceBEq, Int.reduceBEq, reduceBNe, Int.reduceLT, reduceLE, reduceEq]
        refine hK _ ?_; clear hK hKp K Kp; try clear hanc anc
        repeat (first | refine Kq_norm_code ?_ | refine Kq_norm_blk ?_ | refine Kq_norm_lp ?_)
        refine K_low (fr := [(0, .ptr 0 0), (10, .i u.bl.length), (42, .rw 2), (43, .i es.length), (44, .i k)]) (loc := [(2, .row 1 ((es.map (fun (b : Nat) => (b : Int))).map AV.i))]) _ (fun i => i) hN hb' hlen' hm (by omega) hin (by simp [go_sem, lowM]) (by intro p hp; obtain rfl := List.mem_singleton.1 hp; exact ⟨Nat.le_refl 2, (by show 2 < 10; decide), (by rw [rowi_ren]; exact hold _ _ (by simp [go_sem]) (lowHp_none (by omega) (by omega))), rowi_ids _ _, lowHp_none (by omega) (.inl (by omega))⟩) (by simp) ?_
        clear hin hold; clear hb; have hb := hb'; clear hb'
        repeat' (first | apply w1 | apply w2 | apply w3 | apply w4 | apply w5 | apply w6 | apply w7 | refine Kq_exit_ne (by decide) ?_ | apply w8 | apply w9 | apply w0 | rw [wrap64 (by omega) (by omega)] | ((first | refine hK _ ?_ | refine hKp _ _ ?_); clear hK hKp K Kp; try clear hanc anc) | ((with_reducible refine And.intro ?_ ?_); (focus (first | trivial | omega | (simp only [Fits]; omega) | assumption | (rw [hanc]; rfl)))) | ((first | refine K_regA hE fun K Kp hK hKp => ?_ | refine K_drwA true mixed hE fun K Kp hK hKp anc hanc => ?_ | refine K_drwA false mixed hE fun K Kp hK hKp anc hanc => ?_); simp only [go_sem, ↓reduceIte, reduceCtorEq, reduceAdd, reduceMul, reduceEqDiff, reduceLT, reduceLeDiff, reduceSub, reduceDiv, Nat.reduceBEq, Int.reduceBEq, reduceBNe, Int.reduceLT, reduceLE, reduceEq]) | ((first | refine onG_split_t (fun hg => ?_) (fun hg => ?_) | refine onG_split_f (fun hg => ?_) (fun hg => ?_)) <;> simp only [go_sem, ↓reduceIte, reduceCtorEq, reduceAdd, reduceMul, reduceEqDiff, reduceLT, reduceLeDiff, reduceSub, reduceDiv, Nat.reduceBEq, Int.reduceBEq, reduceBNe, Int.reduceLT, reduceLE, reduceEq, hg]) | (refine K_condA (fun hc => ?_) (fun hc => ?_) <;> try (exact absurd hc (by decide))))
        refine ⟨(k + 1, (v.at b).end 1 0 [((u.bl.length : Nat) : Int)]), ⟨by simp only; omega, kt, hvb, by simp only; rw [end_len]; exact kl⟩, by simp only; omega, lowM (fun i => i) 10, ?_⟩
        try dsimp only
        rw [hN]; exact ent_low (fr := [(0, .ptr 0 0), (10, .i u.bl.length), (42, .rw 2), (43, .i es.length), (44, .i (k + 1 : Nat))]) (loc := [(2, .row 1 ((es.map (fun (b : Nat) => (b : Int))).map AV.i))]) (base := 10) (fun i => i) hb (by omega) hm (by omega) (by (repeat (first | exact (fun _ _ h => h) | refine LowIn.curL ?_ | exact LowB.base | refine LowIn.upd ?_ (lowHp_none (by omega) (by omega)) | refine LowB.upd ?_ (lowHp_none (by omega) (by omega))))) (by simp [go_sem, lowM]) (by intro p hp; obtain rfl := List.mem_singleton.1 hp; exact ⟨Nat.le_refl 2, (by show 2 < 10; decide), (by rw [rowi_ren]; simp [go_sem]), rowi_ids _ _, lowHp_none (by omega) (by omega)⟩) (by simp)
      · obtain rfl : k = es.length := by omega
        rw [List.drop_length, List.foldl_nil] at kt
        rw [← kt] at hjl
        repeat' (first | apply w1 | apply w2 | apply w3 | apply w4 | apply w5 | apply w6 | apply w7 | refine Kq_exit_ne (by decide) ?_ | apply w8 | apply w9 | apply w0 | rw [wrap64 (by omega) (by omega)] | ((first | refine hK _ ?_ | refine hKp _ _ ?_); clear hK hKp K Kp; try clear hanc anc) | ((with_reducible refine And.intro ?_ ?_); (focus (first | trivial | omega | (simp only [Fits]; omega) | assumption | (rw [hanc]; rfl)))) | ((first | refine K_regA hE fun K Kp hK hKp => ?_ | refine K_drwA true mixed hE fun K Kp hK hKp anc hanc => ?_ | refine K_drwA false mixed hE fun K Kp hK hKp anc hanc => ?_); simp only [go_sem, ↓reduceIte, reduceCtorEq, reduceAdd, reduceMul, reduceEqDiff, reduceLT, reduceLeDiff, reduceSub, reduceDiv, Nat.reduceBEq, Int.reduceBEq, reduceBNe, Int.reduceLT, reduceLE, reduceEq, ge_dec']) | ((first | refine onG_split_t (fun hg => ?_) (fun hg => ?_) | refine onG_split_f (fun hg => ?_) (fun hg => ?_)) <;> simp only [go_sem, ↓reduceIte, reduceCtorEq, reduceAdd, reduceMul, reduceEqDiff, reduceLT, reduceLeDiff, reduceSub, reduceDiv, Nat.reduceBEq, Int.reduceBEq, reduceBNe, Int.reduceLT, reduceLE, reduceEq, ge_dec', hg]) | (refine K_condA (fun hc => ?_) (fun hc => ?_) <;> try (exact absurd hc (by decide))))
        refine K_ret ?_
        exact (hQ _ (.bool true) v.bl u.bl.length (resA_tmp (by simp only [go_sem, ↓reduceIte, reduceCtorEq, reduceAdd, reduceMul, reduceEqDiff, reduceLT, reduceLeDiff, reduceSub, reduceDiv, Nat.reduceBEq, Int.reduceBEq, reduceBNe, Int.reduceLT, reduceLE, reduceEq])) (by rw [hjl]; exact ⟨rfl, rfl, rfl⟩) rfl (Out.of_in (base := 10) hb hm (by omega) (by (repeat (first | exact (fun _ _ h => h) | refine LowIn.curL ?_ | exact LowB.base | refine LowB.upd ?_ (lowHp_none (by omega) (by omega))))) hlenv)).1
end Go.Proofs.Ytdheeecpkkjfiaa


/- Chapter 10: the methods of the lowering that call each other (2). -/
set_option linter.unusedSimpArgs false
set_option linter.unusedVariables false
set_option maxHeartbeats 4000000
set_option maxRecDepth 100000
namespace Go.Proofs.Ytdheeecpkkjfiaa
open Nat (reduceAdd reduceMul reduceEqDiff reduceLT reduceLeDiff reduceSub reduceDiv)
open Int (reduceBNe reduceLE reduceEq)
open Go.Am Go.Proofs Go.Low
attribute [local irreducible] AW CallP CallB

theorem loop_lc {N : Nat} (hL : ListC N) (n : Nd) (hk : n.kind = 3) (hn : szN n ≤ N) (ho : kdN n) (s : LS) (h : Pre s (4 * szN n)) : LC 42 [n.av] s (.bool (lowN n s).1) (lowN n s).2 := by
  have hm := mdL_ok
  have hb := h.ok
  have hlen := h.len5
  have hcur := h.cur
  have hl4 := h.len
  rw [szN_eq] at hn h hl4
  rw [kdN_eq] at ho
  have e1 : IntKind.i64.wrap ((s.bl.length : Int) + 1) = (s.bl.length : Int) + 1 := wrap64 (by omega) (by omega)
  have e2 : IntKind.i64.wrap ((s.bl.length : Int) + 2) = (s.bl.length : Int) + 2 := wrap64 (by omega) (by omega)
  have h1 : Pre (s.add 3) (4 * szL n.thn) := h.grow (grow_add h.cur 3) (by omega)
  have h2 : Pre ((s.add 3).end 1 0 [(s.bl.length : Int)]) (4 * szL n.thn) := h1.grow (grow_end h1.cur _ _ _) (by omega)
  have l1 : (s.add 3).bl.length = s.bl.length + 3 := add_len s 3
  have l2 : ((s.add 3).end 1 0 [(s.bl.length : Int)]).bl.length = s.bl.length + 3 := by rw [end_len, l1]
  have h3 : Pre (((s.add 3).end 1 0 [(s.bl.length : Int)]).at s.bl.length) (4 * szL n.thn) := h2.at (by omega)
  have h4 : Pre ((((s.add 3).end 1 0 [(s.bl.length : Int)]).at s.bl.length).end 2 n.a [(s.bl.length : Int) + 1, s.bl.length + 2]) (4 * szL n.thn) := h3.grow (grow_end h3.cur _ _ _) (by omega)
  have l4 : ((((s.add 3).end 1 0 [(s.bl.length : Int)]).at s.bl.length).end 2 n.a [(s.bl.length : Int) + 1, s.bl.length + 2]).bl.length = s.bl.length + 3 := by rw [end_len]; exact l2
  have h5 := h4.at (k := s.bl.length + 1) (by omega)
  have hc1 := hL n.thn (by omega) ho.2.2.1 _ h5
  have h6 : Pre (lowL n.thn (((((s.add 3).end 1 0 [(s.bl.length : Int)]).at s.bl.length).end 2 n.a [(s.bl.length : Int) + 1, s.bl.length + 2]).at (s.bl.length + 1))).2 0 := h5.grow (lowL_grow _ _ h5.cur) (by omega)
  have hR : lowN n s = (true, (if (lowL n.thn (((((s.add 3).end 1 0 [(s.bl.length : Int)]).at s.bl.length).end 2 n.a [(s.bl.length : Int) + 1, s.bl.length + 2]).at (s.bl.length + 1))).1 then (lowL n.thn (((((s.add 3).end 1 0 [(s.bl.length : Int)]).at s.bl.length).end 2 n.a [(s.bl.length : Int) + 1, s.bl.length + 2]).at (s.bl.length + 1))).2.end 1 0 [(s.bl.length : Int)] else (lowL n.thn (((((s.add 3).end 1 0 [(s.bl.length : Int)]).at s.bl.length).end 2 n.a [(s.bl.length : Int) + 1, s.bl.length + 2]).at (s.bl.length + 1))).2).at (s.bl.length + 2)) := by
    rw [lowN_eq, if_neg (by omega), if_neg (by omega), if_pos hk]
  have hl3a : (((s.add 3).end 1 0 [(s.bl.length : Int)]).at s.bl.length).bl.length ≤ 500000 := h3.len5
  have hl5a := h5.len5
  unfold LC
  refine LCall.intro Try.func42 rfl isf42 (by simp [Try.f42]) hm fun E Q hE hN hQ hQp => K_start ?_
  refine K_low (fr := [(0, .ptr 0 0), (1, n.av)]) (loc := []) (base := 2) (fun i => i) hN hb (by omega) hm (Nat.le_refl 2) (fun _ _ h => h) (by simp [go_sem, lowM, ren_clo _ _ n.av_clo, ids_clo _ _ n.av_clo]) (by simp) (by simp) ?_
  rw [Nd.av_eq]
  repeat' (first | apply w1 | apply w2 | apply w3 | apply w4 | apply w5 | apply w6 | apply w7 | refine Kq_exit_ne (by decide) ?_ | apply w8 | apply w9 | apply w0 | rw [wrap64 (by omega) (by omega)] | ((first | refine hK _ ?_ | refine hKp _ _ ?_); clear hK hKp K Kp; try clear hanc anc) | ((with_reducible refine And.intro ?_ ?_); (focus (first | trivial | omega | (simp only [Fits]; omega) | assumption | (rw [hanc]; rfl)))) | ((first | refine K_regA hE fun K Kp hK hKp => ?_ | refine K_drwA true mixed hE fun K Kp hK hKp anc hanc => ?_ | refine K_drwA false mixed hE fun K Kp hK hKp anc hanc => ?_); simp only [go_sem, ↓reduceIte, reduceCtorEq, reduceAdd, reduceMul, reduceEqDiff, reduceLT, reduceLeDiff, reduceSub, reduceDiv, Nat.reduceBEq, Int.reduceBEq, reduceBNe, Int.reduceLT, reduceLE, reduceEq]) | ((first | refine onG_split_t (fun hg => ?_) (fun hg => ?_) | refine onG_split_f (fun hg => ?_) (fun hg => ?_)) <;> simp only [go_sem, ↓reduceIte, reduceCtorEq, reduceAdd, reduceMul, reduceEqDiff, reduceLT, reduceLeDiff, reduceSub, reduceDiv, Nat.reduceBEq, Int.reduceBEq, reduceBNe, Int.reduceLT, reduceLE, reduceEq, hg]) | (refine K_condA (fun hc => ?_) (fun hc => ?_) <;> try (exact absurd hc (by decide))))
  refine Hold.mk ( LCall.use (add_lc h 3 (by omega)) rfl hm hb (o := 10) (by omega) ((by (repeat (first | exact (fun _ _ h => h) | refine LowIn.curL ?_ | exact LowB.base | refine LowIn.upd ?_ (lowHp_none (by omega) (by omega)) | refine LowB.upd ?_ (lowHp_none (by omega) (by omega)))))) (Nat.le_of_ble_eq_true rfl) ?_ (fun _ _ _ _ h => h.elim))
  rintro r bl' cur' ⟨fr', hp', nx'⟩ ⟨rfl, rfl, rfl⟩ _ hb' hlen' hnx hfr hin hold
  simp only at hnx hfr hin hold
  subst hnx hfr
  simp only [go_sem, ↓reduceIte, reduceCtorEq, reduceAdd, reduceMul, reduceEqDiff, reduceLT, reduceLeDiff, reduceSub, reduceDiv, Nat.reduceBEq, Int.reduceBEq, reduceBNe, Int.reduceLT, reduceLE, reduceEq]
  refine hK _ ?_; clear hK hKp K Kp; try clear hanc anc
  repeat (first | refine Kq_norm_code ?_ | refine Kq_norm_blk ?_ | refine Kq_norm_lp ?_)
  refine K_low (fr := [(0, .ptr 0 0), (3, .ptr 2 0), (5, .i s.bl.length)]) (loc := [(2, .cells n.cs)]) _ (fun _ => 1000000) hN hb' hlen' hm (by omega) hin (by simp [go_sem, lowM]) (by intro p hp; obtain rfl := List.mem_singleton.1 hp; exact ⟨Nat.le_refl 2, (by show 2 < 10; decide), (by rw [Nd.cs_ren]; exact hold _ _ (by simp [go_sem, Nd.cs]) (lowHp_none (by omega) (by omega))), Nd.cs_ids _ _, lowHp_none (by omega) (.inl (by omega))⟩) (by simp) ?_
  clear hin hold; clear hb; have hb := hb'; clear hb'
  repeat' (first | apply w1 | apply w2 | apply w3 | apply w4 | apply w5 | apply w6 | apply w7 | refine Kq_exit_ne (by decide) ?_ | apply w8 | apply w9 | apply w0 | rw [wrap64 (by omega) (by omega)] | ((first | refine hK _ ?_ | refine hKp _ _ ?_); clear hK hKp K Kp; try clear hanc anc) | ((with_reducible refine And.intro ?_ ?_); (focus (first | trivial | omega | (simp only [Fits]; omega) | assumption | (rw [hanc]; rfl)))) | ((first | refine K_regA hE fun K Kp hK hKp => ?_ | refine K_drwA true mixed hE fun K Kp hK hKp anc hanc => ?_ | refine K_drwA false mixed hE fun K Kp hK hKp anc hanc => ?_); simp only [go_sem, ↓reduceIte, reduceCtorEq, reduceAdd, reduceMul, reduceEqDiff, reduceLT, reduceLeDiff, reduceSub, reduceDiv, Nat.reduceBEq, Int.reduceBEq, reduceBNe, Int.reduceLT, reduceLE, reduceEq, Nd.cs]) | ((first | refine onG_split_t (fun hg => ?_) (fun hg => ?_) | refine onG_split_f (fun hg => ?_) (fun hg => ?_)) <;> simp only [go_sem, ↓reduceIte, reduceCtorEq, reduceAdd, reduceMul, reduceEqDiff, reduceLT, reduceLeDiff, reduceSub, reduceDiv, Nat.reduceBEq, Int.reduceBEq, reduceBNe, Int.reduceLT, reduceLE, reduceEq, Nd.cs, hg]) | (refine K_condA (fun hc => ?_) (fun hc => ?_) <;> try (exact absurd hc (by decide))))
  refine Hold.mk (CallB.frz4 (by simp only [go_sem, ↓reduceIte, reduceCtorEq, reduceAdd, reduceMul, reduceEqDiff, reduceLT, reduceLeDiff, reduceSub, reduceDiv, Nat.reduceBEq, Int.reduceBEq, reduceBNe, Int.reduceLT, reduceLE, reduceEq]; rfl) (by first | exact clo_LL _ | exact CloRow.all (by simp [go_sem])) <| LCall.use (end_lc h1 1 0 [(s.bl.length : Int)]) rfl hm hb (o := 10) (by omega) ((by (repeat (first | exact (fun _ _ h => h) | refine LowIn.curL ?_ | exact LowB.base | refine LowIn.upd ?_ (lowHp_none (by omega) (by omega)) | refine LowB.upd ?_ (lowHp_none (by omega) (by omega)))))) (Nat.le_of_ble_eq_true rfl) ?_ (fun _ _ _ _ h => h.elim))
  rintro r bl' cur' ⟨fr', hp', nx'⟩ ⟨rfl, rfl, rfl⟩ _ hb' hlen' hnx hfr hin hold
  simp only at hnx hfr hin hold
  subst hnx hfr
  simp only [go_sem, ↓reduceIte, reduceCtorEq, reduceAdd, reduceMul, reduceEqDiff, reduceLT, reduceLeDiff, reduceSub, reduceDiv, Nat.reduceBEq, Int.reduceBEq, reduceBNe, Int.reduceLT, reduceLE, reduceEq]
  refine hK _ ?_; clear hK hKp K Kp; try clear hanc anc
  repeat (first | refine Kq_norm_code ?_ | refine Kq_norm_blk ?_ | refine Kq_norm_lp ?_)
  refine K_low (fr := [(0, .ptr 0 0), (3, .ptr 2 0), (5, .i s.bl.length)]) (loc := [(2, .cells n.cs)]) _ (fun i => i) hN hb' hlen' hm (by omega) hin (by simp [go_sem, lowM]) (by intro p hp; obtain rfl := List.mem_singleton.1 hp; exact ⟨Nat.le_refl 2, (by show 2 < 10; decide), (by rw [Nd.cs_ren]; exact hold _ _ (by simp [go_sem, Nd.cs]) (lowHp_none (by omega) (by omega))), Nd.cs_ids _ _, lowHp_none (by omega) (.inl (by omega))⟩) (by simp) ?_
  clear hin hold; clear hb; have hb := hb'; clear hb'
  repeat' (first | apply w1 | apply w2 | apply w3 | apply w4 | apply w5 | apply w6 | apply w7 | refine Kq_exit_ne (by decide) ?_ | apply w8 | apply w9 | apply w0 | rw [wrap64 (by omega) (by omega)] | ((first | refine hK _ ?_ | refine hKp _ _ ?_); clear hK hKp K Kp; try clear hanc anc) | ((with_reducible refine And.intro ?_ ?_); (focus (first | trivial | omega | (simp only [Fits]; omega) | assumption | (rw [hanc]; rfl)))) | ((first | refine K_regA hE fun K Kp hK hKp => ?_ | refine K_drwA true mixed hE fun K Kp hK hKp anc hanc => ?_ | refine K_drwA false mixed hE fun K Kp hK hKp anc hanc => ?_); simp only [go_sem, ↓reduceIte, reduceCtorEq, reduceAdd, reduceMul, reduceEqDiff, reduceLT, reduceLeDiff, reduceSub, reduceDiv, Nat.reduceBEq, Int.reduceBEq, reduceBNe, Int.reduceLT, reduceLE, reduceEq, Nd.cs, e1, e2]) | ((first | refine onG_split_t (fun hg => ?_) (fun hg => ?_) | refine onG_split_f (fun hg => ?_) (fun hg => ?_)) <;> simp only [go_sem, ↓reduceIte, reduceCtorEq, reduceAdd, reduceMul, reduceEqDiff, reduceLT, reduceLeDiff, reduceSub, reduceDiv, Nat.reduceBEq, Int.reduceBEq, reduceBNe, Int.reduceLT, reduceLE, reduceEq, Nd.cs, e1, e2, hg]) | (refine K_condA (fun hc => ?_) (fun hc => ?_) <;> try (exact absurd hc (by decide))))
  refine Hold.mk (CallB.frz4 (by simp only [go_sem, ↓reduceIte, reduceCtorEq, reduceAdd, reduceMul, reduceEqDiff, reduceLT, reduceLeDiff, reduceSub, reduceDiv, Nat.reduceBEq, Int.reduceBEq, reduceBNe, Int.reduceLT, reduceLE, reduceEq]; rfl) (by first | exact clo_LL _ | exact CloRow.all (by simp [go_sem])) <| LCall.use (end_lc h3 2 n.a [(s.bl.length : Int) + 1, s.bl.length + 2]) rfl hm hb (o := 10) (by omega) ((by (repeat (first | exact (fun _ _ h => h) | refine LowIn.curL ?_ | exact LowB.base | refine LowIn.upd ?_ (lowHp_none (by omega) (by omega)) | refine LowB.upd ?_ (lowHp_none (by omega) (by omega)))))) (Nat.le_of_ble_eq_true rfl) ?_ (fun _ _ _ _ h => h.elim))
  rintro r bl' cur' ⟨fr', hp', nx'⟩ ⟨rfl, rfl, rfl⟩ _ hb' hlen' hnx hfr hin hold
  simp only at hnx hfr hin hold
  subst hnx hfr
  simp only [go_sem, ↓reduceIte, reduceCtorEq, reduceAdd, reduceMul, reduceEqDiff, reduceLT, reduceLeDiff, reduceSub, reduceDiv, Nat.reduceBEq, Int.reduceBEq, reduceBNe, Int.reduceLT, reduceLE, reduceEq]
  refine hK _ ?_; clear hK hKp K Kp; try clear hanc anc
  repeat (first | refine Kq_norm_code ?_ | refine Kq_norm_blk ?_ | refine Kq_norm_lp ?_)
  refine K_low (fr := [(0, .ptr 0 0), (3, .ptr 2 0), (5, .i s.bl.length)]) (loc := [(2, .cells n.cs)]) _ (fun i => i) hN hb' hlen' hm (by omega) hin (by simp [go_sem, lowM]) (by intro p hp; obtain rfl := List.mem_singleton.1 hp; exact ⟨Nat.le_refl 2, (by show 2 < 10; decide), (by rw [Nd.cs_ren]; exact hold _ _ (by simp [go_sem, Nd.cs]) (lowHp_none (by omega) (by omega))), Nd.cs_ids _ _, lowHp_none (by omega) (.inl (by omega))⟩) (by simp) ?_
  clear hin hold; clear hb; have hb := hb'; clear hb'
  repeat' (first | apply w1 | apply w2 | apply w3 | apply w4 | apply w5 | apply w6 | apply w7 | refine Kq_exit_ne (by decide) ?_ | apply w8 | apply w9 | apply w0 | rw [wrap64 (by omega) (by omega)] | ((first | refine hK _ ?_ | refine hKp _ _ ?_); clear hK hKp K Kp; try clear hanc anc) | ((with_reducible refine And.intro ?_ ?_); (focus (first | trivial | omega | (simp only [Fits]; omega) | assumption | (rw [hanc]; rfl)))) | ((first | refine K_regA hE fun K Kp hK hKp => ?_ | refine K_drwA true mixed hE fun K Kp hK hKp anc hanc => ?_ | refine K_drwA false mixed hE fun K Kp hK hKp anc hanc => ?_); simp only [go_sem, ↓reduceIte, reduceCtorEq, reduceAdd, reduceMul, reduceEqDiff, reduceLT, reduceLeDiff, reduceSub, reduceDiv, Nat.reduceBEq, Int.reduceBEq, reduceBNe, Int.reduceLT, reduceLE, reduceEq, Nd.cs, e1, e2]) | ((first | refine onG_split_t (fun hg => ?_) (fun hg => ?_) | refine onG_split_f (fun hg => ?_) (fun hg => ?_)) <;> simp only [go_sem, ↓reduceIte, reduceCtorEq, reduceAdd, reduceMul, reduceEqDiff, reduceLT, reduceLeDiff, reduceSub, reduceDiv, Nat.reduceBEq, Int.reduceBEq, reduceBNe, Int.reduceLT, reduceLE, reduceEq, Nd.cs, e1, e2, hg]) | (refine K_condA (fun hc => ?_) (fun hc => ?_) <;> try (exact absurd hc (by decide))))
  generalize hy : (lowL n.thn (((((s.add 3).end 1 0 [(s.bl.length : Int)]).at s.bl.length).end 2 n.a [(s.bl.length : Int) + 1, s.bl.length + 2]).at (s.bl.length + 1))) = y at *
  refine Hold.mk ( LCall.use (hc1) rfl hm hb (o := 10) (by omega) ((by (repeat (first | exact (fun _ _ h => h) | refine LowIn.curL ?_ | exact LowB.base | refine LowIn.upd ?_ (lowHp_none (by omega) (by omega)) | refine LowB.upd ?_ (lowHp_none (by omega) (by omega)))))) (Nat.le_of_ble_eq_true rfl) ?_ (fun _ _ _ _ h => h.elim))
  rintro r bl' cur' ⟨fr', hp', nx'⟩ ⟨rfl, rfl, rfl⟩ _ hb' hlen' hnx hfr hin hold
  simp only at hnx hfr hin hold
  subst hnx hfr
  simp only [go_sem, ↓reduceIte, reduceCtorEq, reduceAdd, reduceMul, reduceEqDiff, reduceLT, reduceLeDiff, reduceSub, reduceDiv, Nat.reduceBEq, Int.reduceBEq, reduceBNe, Int.reduceLT, reduceLE, reduceEq]
  refine hK _ ?_; clear hK hKp K Kp; try clear hanc anc
  repeat (first | refine Kq_norm_code ?_ | refine Kq_norm_blk ?_ | refine Kq_norm_lp ?_)
  refine K_low (fr := [(0, .ptr 0 0), (5, .i s.bl.length), (33, .bool y.1)]) (loc := []) _ (fun i => i) hN hb' hlen' hm (by omega) hin (by simp [go_sem, lowM]) (by simp [hold]) (by simp) ?_
  clear hin hold; clear hb; have hb := hb'; clear hb'
  cases hy1 : y.1
  · repeat' (first | apply w1 | apply w2 | apply w3 | apply w4 | apply w5 | apply w6 | apply w7 | refine Kq_exit_ne (by decide) ?_ | apply w8 | apply w9 | apply w0 | rw [wrap64 (by omega) (by omega)] | ((first | refine hK _ ?_ | refine hKp _ _ ?_); clear hK hKp K Kp; try clear hanc anc) | ((with_reducible refine And.intro ?_ ?_); (focus (first | trivial | omega | (simp only [Fits]; omega) | assumption | (rw [hanc]; rfl)))) | ((first | refine K_regA hE fun K Kp hK hKp => ?_ | refine K_drwA true mixed hE fun K Kp hK hKp anc hanc => ?_ | refine K_drwA false mixed hE fun K Kp hK hKp anc hanc => ?_); simp only [go_sem, ↓reduceIte, reduceCtorEq, reduceAdd, reduceMul, reduceEqDiff, reduceLT, reduceLeDiff, reduceSub, reduceDiv, Nat.reduceBEq, Int.reduceBEq, reduceBNe, Int.reduceLT, reduceLE, reduceEq, e2]) | ((first | refine onG_split_t (fun hg => ?_) (fun hg => ?_) | refine onG_split_f (fun hg => ?_) (fun hg => ?_)) <;> simp only [go_sem, ↓reduceIte, reduceCtorEq, reduceAdd, reduceMul, reduceEqDiff, reduceLT, reduceLeDiff, reduceSub, reduceDiv, Nat.reduceBEq, Int.reduceBEq, reduceBNe, Int.reduceLT, reduceLE, reduceEq, e2, hg]) | (refine K_condA (fun hc => ?_) (fun hc => ?_) <;> try (exact absurd hc (by decide))))
    rw [hy1] at hR
    refine K_ret ?_
    exact (hQ _ (.bool true) _ (s.bl.length + 2 : Nat) (resA_tmp (by simp only [go_sem, ↓reduceIte, reduceCtorEq, reduceAdd, reduceMul, reduceEqDiff, reduceLT, reduceLeDiff, reduceSub, reduceDiv, Nat.reduceBEq, Int.reduceBEq, reduceBNe, Int.reduceLT, reduceLE, reduceEq])) (by rw [hR]; exact ⟨rfl, rfl, rfl⟩) rfl (Out.of_in (base := 10) hb hm (by omega) (by (repeat (first | exact (fun _ _ h => h) | refine LowIn.curL ?_ | exact LowB.base | refine LowB.upd ?_ (lowHp_none (by omega) (by omega))))) hlen')).1
  · repeat' (first | apply w1 | apply w2 | apply w3 | apply w4 | apply w5 | apply w6 | apply w7 | refine Kq_exit_ne (by decide) ?_ | apply w8 | apply w9 | apply w0 | rw [wrap64 (by omega) (by omega)] | ((first | refine hK _ ?_ | refine hKp _ _ ?_); clear hK hKp K Kp; try clear hanc anc) | ((with_reducible refine And.intro ?_ ?_); (focus (first | trivial | omega | (simp only [Fits]; omega) | assumption | (rw [hanc]; rfl)))) | ((first | refine K_regA hE fun K Kp hK hKp => ?_ | refine K_drwA true mixed hE fun K Kp hK hKp anc hanc => ?_ | refine K_drwA false mixed hE fun K Kp hK hKp anc hanc => ?_); simp only [go_sem, ↓reduceIte, reduceCtorEq, reduceAdd, reduceMul, reduceEqDiff, reduceLT, reduceLeDiff, reduceSub, reduceDiv, Nat.reduceBEq, Int.reduceBEq, reduceBNe, Int.reduceLT, reduceLE, reduceEq, e2]) | ((first | refine onG_split_t (fun hg => ?_) (fun hg => ?_) | refine onG_split_f (fun hg => ?_) (fun hg => ?_)) <;> simp only [go_sem, ↓reduceIte, reduceCtorEq, reduceAdd, reduceMul, reduceEqDiff, reduceLT, reduceLeDiff, reduceSub, reduceDiv, Nat.reduceBEq, Int.reduceBEq, reduceBNe, Int.reduceLT, reduceLE, reduceEq, e2, hg]) | (refine K_condA (fun hc => ?_) (fun hc => ?_) <;> try (exact absurd hc (by decide))))
    refine Hold.mk (CallB.frz4 (by simp only [go_sem, ↓reduceIte, reduceCtorEq, reduceAdd, reduceMul, reduceEqDiff, reduceLT, reduceLeDiff, reduceSub, reduceDiv, Nat.reduceBEq, Int.reduceBEq, reduceBNe, Int.reduceLT, reduceLE, reduceEq]; rfl) (by first | exact clo_LL _ | exact CloRow.all (by simp [go_sem])) <| LCall.use (end_lc h6 1 0 [(s.bl.length : Int)]) rfl hm hb (o := 10) (by omega) ((by (repeat (first | exact (fun _ _ h => h) | refine LowIn.curL ?_ | exact LowB.base | refine LowIn.upd ?_ (lowHp_none (by omega) (by omega)) | refine LowB.upd ?_ (lowHp_none (by omega) (by omega)))))) (Nat.le_of_ble_eq_true rfl) ?_ (fun _ _ _ _ h => h.elim))
    rintro r bl' cur' ⟨fr', hp', nx'⟩ ⟨rfl, rfl, rfl⟩ _ hb' hlen' hnx hfr hin hold
    simp only at hnx hfr hin hold
    subst hnx hfr
    simp only [go_sem, ↓reduceIte, reduceCtorEq, reduceAdd, reduceMul, reduceEqDiff, reduceLT, reduceLeDiff, reduceSub, reduceDiv, Nat.reduceBEq, Int.reduceBEq, reduceBNe, Int.reduceLT, reduceLE, reduceEq]
    refine hK _ ?_; clear hK hKp K Kp; try clear hanc anc
    repeat (first | refine Kq_norm_code ?_ | refine Kq_norm_blk ?_ | refine Kq_norm_lp ?_)
    refine K_low (fr := [(0, .ptr 0 0), (5, .i s.bl.length)]) (loc := []) _ (fun i => i) hN hb' hlen' hm (by omega) hin (by simp [go_sem, lowM]) (by simp [hold]) (by simp) ?_
    clear hin hold; clear hb; have hb := hb'; clear hb'
    repeat' (first | apply w1 | apply w2 | apply w3 | apply w4 | apply w5 | apply w6 | apply w7 | refine Kq_exit_ne (by decide) ?_ | apply w8 | apply w9 | apply w0 | rw [wrap64 (by omega) (by omega)] | ((first | refine hK _ ?_ | refine hKp _ _ ?_); clear hK hKp K Kp; try clear hanc anc) | ((with_reducible refine And.intro ?_ ?_); (focus (first | trivial | omega | (simp only [Fits]; omega) | assumption | (rw [hanc]; rfl)))) | ((first | refine K_regA hE fun K Kp hK hKp => ?_ | refine K_drwA true mixed hE fun K Kp hK hKp anc hanc => ?_ | refine K_drwA false mixed hE fun K Kp hK hKp anc hanc => ?_); simp only [go_sem, ↓reduceIte, reduceCtorEq, reduceAdd, reduceMul, reduceEqDiff, reduceLT, reduceLeDiff, reduceSub, reduceDiv, Nat.reduceBEq, Int.reduceBEq, reduceBNe, Int.reduceLT, reduceLE, reduceEq, e2]) | ((first | refine onG_split_t (fun hg => ?_) (fun hg => ?_) | refine onG_split_f (fun hg => ?_) (fun hg => ?_)) <;> simp only [go_sem, ↓reduceIte, reduceCtorEq, reduceAdd, reduceMul, reduceEqDiff, reduceLT, reduceLeDiff, reduceSub, reduceDiv, Nat.reduceBEq, Int.reduceBEq, reduceBNe, Int.reduceLT, reduceLE, reduceEq, e2, hg]) | (refine K_condA (fun hc => ?_) (fun hc => ?_) <;> try (exact absurd hc (by decide))))
    rw [hy1] at hR
    refine K_ret ?_
    exact (hQ _ (.bool true) _ (s.bl.length + 2 : Nat) (resA_tmp (by simp only [go_sem, ↓reduceIte, reduceCtorEq, reduceAdd, reduceMul, reduceEqDiff, reduceLT, reduceLeDiff, reduceSub, reduceDiv, Nat.reduceBEq, Int.reduceBEq, reduceBNe, Int.reduceLT, reduceLE, reduceEq])) (by rw [hR]; exact ⟨rfl, rfl, rfl⟩) rfl (Out.of_in (base := 10) hb hm (by omega) (by (repeat (first | exact (fun _ _ h => h) | refine LowIn.curL ?_ | exact LowB.base | refine LowB.upd ?_ (lowHp_none (by omega) (by omega))))) hlen')).1

theorem match_lc {N : Nat} (hP : PartsC N) (n : Nd) (hk : n.kind = 4) (hn : szN n ≤ N) (ho : kdN n) (s : LS) (h : Pre s (4 * szN n)) : LC 43 [n.av] s (.bool (lowN n s).1) (lowN n s).2 := by
  have hm := mdL_ok
  have hb := h.ok
  have hlen := h.len5
  have hcur := h.cur
  have hl4 := h.len
  rw [szN_eq] at hn h hl4
  rw [kdN_eq] at ho
  have har := szP_len n.arms
  have h1 : Pre (s.add n.arms.length) (4 * szP n.arms - 4 * n.arms.length + 1) := h.grow (grow_add h.cur _) (by omega)
  have h2 : Pre ((s.add n.arms.length).end 3 n.a ((List.range n.arms.length).map fun (i : Nat) => (s.bl.length : Int) + (i : Int))) (4 * szP n.arms - 4 * n.arms.length + 1) := h1.grow (grow_end h1.cur _ _ _) (by omega)
  have l2 : ((s.add n.arms.length).end 3 n.a ((List.range n.arms.length).map fun (i : Nat) => (s.bl.length : Int) + (i : Int))).bl.length = s.bl.length + n.arms.length := by rw [end_len, add_len]
  have hp := hP n.arms (fun p hp => by have := szL_mem hp; omega) ho.2.2.2.2 s.bl.length _ h2 (by omega)
  have hR : joinL (lowP n.arms s.bl.length ((s.add n.arms.length).end 3 n.a ((List.range n.arms.length).map fun (i : Nat) => (s.bl.length : Int) + (i : Int)))).1 (lowP n.arms s.bl.length ((s.add n.arms.length).end 3 n.a ((List.range n.arms.length).map fun (i : Nat) => (s.bl.length : Int) + (i : Int)))).2 = lowN n s := by
    rw [lowN_eq, if_neg (by omega), if_neg (by omega), if_neg (by omega), if_pos hk]
  rw [hR] at hp
  unfold LC
  refine LCall.intro Try.func43 rfl isf43 (by simp [Try.f43]) hm fun E Q hE hN hQ hQp => K_start ?_
  refine K_low (fr := [(0, .ptr 0 0), (1, n.av)]) (loc := []) (base := 2) (fun i => i) hN hb (by omega) hm (Nat.le_refl 2) (fun _ _ h => h) (by simp [go_sem, lowM, ren_clo _ _ n.av_clo, ids_clo _ _ n.av_clo]) (by simp) (by simp) ?_
  rw [Nd.av_eq]
  repeat' (first | apply w1 | apply w2 | apply w3 | apply w4 | apply w5 | apply w6 | apply w7 | refine Kq_exit_ne (by decide) ?_ | apply w8 | apply w9 | apply w0 | rw [wrap64 (by omega) (by omega)] | ((first | refine hK _ ?_ | refine hKp _ _ ?_); clear hK hKp K Kp; try clear hanc anc) | ((with_reducible refine And.intro ?_ ?_); (focus (first | trivial | omega | (simp only [Fits]; omega) | assumption | (rw [hanc]; rfl)))) | ((first | refine K_regA hE fun K Kp hK hKp => ?_ | refine K_drwA true mixed hE fun K Kp hK hKp anc hanc => ?_ | refine K_drwA false mixed hE fun K Kp hK hKp anc hanc => ?_); simp only [go_sem, ↓reduceIte, reduceCtorEq, reduceAdd, reduceMul, reduceEqDiff, reduceLT, reduceLeDiff, reduceSub, reduceDiv, Nat.reduceBEq, Int.reduceBEq, reduceBNe, Int.reduceLT, reduceLE, reduceEq]) | ((first | refine onG_split_t (fun hg => ?_) (fun hg => ?_) | refine onG_split_f (fun hg => ?_) (fun hg => ?_)) <;> simp only [go_sem, ↓reduceIte, reduceCtorEq, reduceAdd, reduceMul, reduceEqDiff, reduceLT, reduceLeDiff, reduceSub, reduceDiv, Nat.reduceBEq, Int.reduceBEq, reduceBNe, Int.reduceLT, reduceLE, reduceEq, hg]) | (refine K_condA (fun hc => ?_) (fun hc => ?_) <;> try (exact absurd hc (by decide))))
  refine Hold.mk ( LCall.use (add_lc h n.arms.length (by omega)) rfl hm hb (o := 10) (by omega) ((by (repeat (first | exact (fun _ _ h => h) | refine LowIn.curL ?_ | exact LowB.base | refine LowIn.upd ?_ (lowHp_none (by omega) (by omega)) | refine LowB.upd ?_ (lowHp_none (by omega) (by omega)))))) (Nat.le_of_ble_eq_true rfl) ?_ (fun _ _ _ _ h => h.elim))
  rintro r bl' cur' ⟨fr', hp', nx'⟩ ⟨rfl, rfl, rfl⟩ _ hb' hlen' hnx hfr hin hold
  simp only at hnx hfr hin hold
  subst hnx hfr
  simp only [go_sem, ↓reduceIte, reduceCtorEq, reduceAdd, reduceMul, reduceEqDiff, reduceLT, reduceLeDiff, reduceSub, reduceDiv, Nat.reduceBEq, Int.reduceBEq, reduceBNe, Int.reduceLT, reduceLE, reduceEq]
  refine hK _ ?_; clear hK hKp K Kp; try clear hanc anc
  repeat (first | refine Kq_norm_code ?_ | refine Kq_norm_blk ?_ | refine Kq_norm_lp ?_)
  refine K_low (fr := [(0, .ptr 0 0), (3, .ptr 2 0), (5, .i s.bl.length)]) (loc := [(2, .cells n.cs)]) _ (fun _ => 1000000) hN hb' hlen' hm (by omega) hin (by simp [go_sem, lowM]) (by intro p hp; obtain rfl := List.mem_singleton.1 hp; exact ⟨Nat.le_refl 2, (by show 2 < 10; decide), (by rw [Nd.cs_ren]; exact hold _ _ (by simp [go_sem, Nd.cs]) (lowHp_none (by omega) (by omega))), Nd.cs_ids _ _, lowHp_none (by omega) (.inl (by omega))⟩) (by simp) ?_
  clear hin hold; clear hb; have hb := hb'; clear hb'
  repeat' (first | apply w1 | apply w2 | apply w3 | apply w4 | apply w5 | apply w6 | apply w7 | refine Kq_exit_ne (by decide) ?_ | apply w8 | apply w9 | apply w0 | rw [wrap64 (by omega) (by omega)] | ((first | refine hK _ ?_ | refine hKp _ _ ?_); clear hK hKp K Kp; try clear hanc anc) | ((with_reducible refine And.intro ?_ ?_); (focus (first | trivial | omega | (simp only [Fits]; omega) | assumption | (rw [hanc]; rfl)))) | ((first | refine K_regA hE fun K Kp hK hKp => ?_ | refine K_drwA true mixed hE fun K Kp hK hKp anc hanc => ?_ | refine K_drwA false mixed hE fun K Kp hK hKp anc hanc => ?_); simp only [go_sem, ↓reduceIte, reduceCtorEq, reduceAdd, reduceMul, reduceEqDiff, reduceLT, reduceLeDiff, reduceSub, reduceDiv, Nat.reduceBEq, Int.reduceBEq, reduceBNe, Int.reduceLT, reduceLE, reduceEq, Nd.cs]) | ((first | refine onG_split_t (fun hg => ?_) (fun hg => ?_) | refine onG_split_f (fun hg => ?_) (fun hg => ?_)) <;> simp only [go_sem, ↓reduceIte, reduceCtorEq, reduceAdd, reduceMul, reduceEqDiff, reduceLT, reduceLeDiff, reduceSub, reduceDiv, Nat.reduceBEq, Int.reduceBEq, reduceBNe, Int.reduceLT, reduceLE, reduceEq, Nd.cs, hg]) | (refine K_condA (fun hc => ?_) (fun hc => ?_) <;> try (exact absurd hc (by decide))))
  refine AW_nil 6 1 (by rw [hE]; decide) (by simp only [go_sem, ↓reduceIte, reduceCtorEq, reduceAdd, reduceMul, reduceEqDiff, reduceLT, reduceLeDiff, reduceSub, reduceDiv, Nat.reduceBEq, Int.reduceBEq, reduceBNe, Int.reduceLT, reduceLE, reduceEq]) ?_
  dsimp only
  refine K_loop (X := Nat) (fun x => x ≤ n.arms.length)
    (fun x => lowSt [(0, .ptr 0 0), (3, .ptr 2 0), (5, .i s.bl.length), (6, .rw 3), (15, .i n.arms.length), (16, .i x)] [(2, .cells n.cs), (3, .row 1 (((List.range x).map fun (i : Nat) => (s.bl.length : Int) + (i : Int)).map AV.i))] (hsL mdL) (s.add n.arms.length).bl (s.add n.arms.length).cur) (fun x => n.arms.length - x) 0 (Nat.zero_le _) (lowM (fun i => if i = 2 then 2 else 6242880) 10) ?_ ?_
  · try dsimp only
    rw [hN]; exact ent_low (fr := [(0, .ptr 0 0), (3, .ptr 2 0), (5, .i s.bl.length), (6, .rw 3), (15, .i n.arms.length), (16, .i (0 : Nat))]) (loc := [(2, .cells n.cs), (3, .row 1 (((List.range 0).map fun (i : Nat) => (s.bl.length : Int) + (i : Int)).map AV.i))]) (base := 10) (fun i => if i = 2 then 2 else 6242880) hb (by omega) hm (by omega) (by (repeat (first | exact (fun _ _ h => h) | refine LowIn.curL ?_ | exact LowB.base | refine LowIn.upd ?_ (lowHp_none (by omega) (by omega)) | refine LowB.upd ?_ (lowHp_none (by omega) (by omega))))) (by simp [go_sem, lowM]) (by intro p hp; simp only [List.mem_cons, List.not_mem_nil, or_false] at hp; rcases hp with rfl | rfl; exact ⟨Nat.le_refl 2, (by show 2 < 10; decide), (by rw [Nd.cs_ren]; simp [go_sem, Nd.cs]), Nd.cs_ids _ _, lowHp_none (by simp) (by first | (simp; done) | (simp; omega))⟩; exact ⟨(by show 2 ≤ 3; decide), (by show 3 < 10; decide), (by rw [rowi_ren]; simp [go_sem]), rowi_ids _ _, lowHp_none (by simp) (by simp; omega)⟩) (by simp)
  rintro i hi
  by_cases hlt : i < n.arms.length
  · have e1 : IntKind.i64.wrap ((s.bl.length : Int) + i) = (s.bl.length : Int) + i := wrap64 (by omega) (by omega)
    repeat' (first | apply w1 | apply w2 | apply w3 | apply w4 | apply w5 | apply w6 | apply w7 | refine Kq_exit_ne (by decide) ?_ | apply w8 | apply w9 | apply w0 | rw [wrap64 (by omega) (by omega)] | ((first | refine hK _ ?_ | refine hKp _ _ ?_); clear hK hKp K Kp; try clear hanc anc) | ((with_reducible refine And.intro ?_ ?_); (focus (first | trivial | omega | (simp only [Fits]; omega) | assumption | (rw [hanc]; rfl)))) | ((first | refine K_regA hE fun K Kp hK hKp => ?_ | refine K_drwA true mixed hE fun K Kp hK hKp anc hanc => ?_ | refine K_drwA false mixed hE fun K Kp hK hKp anc hanc => ?_); simp only [go_sem, ↓reduceIte, reduceCtorEq, reduceAdd, reduceMul, reduceEqDiff, reduceLT, reduceLeDiff, reduceSub, reduceDiv, Nat.reduceBEq, Int.reduceBEq, reduceBNe, Int.reduceLT, reduceLE, reduceEq, lt_dec' hlt, e1, List.length_range]) | ((first | refine onG_split_t (fun hg => ?_) (fun hg => ?_) | refine onG_split_f (fun hg => ?_) (fun hg => ?_)) <;> simp only [go_sem, ↓reduceIte, reduceCtorEq, reduceAdd, reduceMul, reduceEqDiff, reduceLT, reduceLeDiff, reduceSub, reduceDiv, Nat.reduceBEq, Int.reduceBEq, reduceBNe, Int.reduceLT, reduceLE, reduceEq, lt_dec' hlt, e1, List.length_range, hg]) | (refine K_condA (fun hc => ?_) (fun hc => ?_) <;> try (exact absurd hc (by decide))))
    refine ⟨i + 1, by omega, by omega, lowM (fun i => if i = 2 then 2 else 9388608) 10, ?_⟩
    try dsimp only
    rw [hN]; exact ent_low (fr := [(0, .ptr 0 0), (3, .ptr 2 0), (5, .i s.bl.length), (6, .rw 3), (15, .i n.arms.length), (16, .i (i + 1 : Nat))]) (loc := [(2, .cells n.cs), (3, .row 1 (((List.range (i + 1)).map fun (i : Nat) => (s.bl.length : Int) + (i : Int)).map AV.i))]) (base := 10) (fun i => if i = 2 then 2 else 9388608) hb (by omega) hm (by omega) (by (repeat (first | exact (fun _ _ h => h) | refine LowIn.curL ?_ | exact LowB.base | refine LowIn.upd ?_ (lowHp_none (by omega) (by omega)) | refine LowB.upd ?_ (lowHp_none (by omega) (by omega))))) (by simp [go_sem, lowM, List.range_succ, List.map_append, List.map_cons, List.map_nil]) (by intro p hp; simp only [List.mem_cons, List.not_mem_nil, or_false] at hp; rcases hp with rfl | rfl; exact ⟨Nat.le_refl 2, (by show 2 < 10; decide), (by rw [Nd.cs_ren]; simp [go_sem, Nd.cs, List.range_succ, List.map_append, List.map_cons, List.map_nil]), Nd.cs_ids _ _, lowHp_none (by simp) (by first | (simp; done) | (simp; omega))⟩; exact ⟨(by show 2 ≤ 3; decide), (by show 3 < 10; decide), (by rw [rowi_ren]; simp [go_sem, List.range_succ, List.map_append, List.map_cons, List.map_nil]), rowi_ids _ _, lowHp_none (by simp) (by simp; omega)⟩) (by simp)
  · obtain rfl : i = n.arms.length := by omega
    repeat' (first | apply w1 | apply w2 | apply w3 | apply w4 | apply w5 | apply w6 | apply w7 | refine Kq_exit_ne (by decide) ?_ | apply w8 | apply w9 | apply w0 | rw [wrap64 (by omega) (by omega)] | ((first | refine hK _ ?_ | refine hKp _ _ ?_); clear hK hKp K Kp; try clear hanc anc) | ((with_reducible refine And.intro ?_ ?_); (focus (first | trivial | omega | (simp only [Fits]; omega) | assumption | (rw [hanc]; rfl)))) | ((first | refine K_regA hE fun K Kp hK hKp => ?_ | refine K_drwA true mixed hE fun K Kp hK hKp anc hanc => ?_ | refine K_drwA false mixed hE fun K Kp hK hKp anc hanc => ?_); simp only [go_sem, ↓reduceIte, reduceCtorEq, reduceAdd, reduceMul, reduceEqDiff, reduceLT, reduceLeDiff, reduceSub, reduceDiv, Nat.reduceBEq, Int.reduceBEq, reduceBNe, Int.reduceLT, reduceLE, reduceEq, ge_dec', Nd.cs]) | ((first | refine onG_split_t (fun hg => ?_) (fun hg => ?_) | refine onG_split_f (fun hg => ?_) (fun hg => ?_)) <;> simp only [go_sem, ↓reduceIte, reduceCtorEq, reduceAdd, reduceMul, reduceEqDiff, reduceLT, reduceLeDiff, reduceSub, reduceDiv, Nat.reduceBEq, Int.reduceBEq, reduceBNe, Int.reduceLT, reduceLE, reduceEq, ge_dec', Nd.cs, hg]) | (refine K_condA (fun hc => ?_) (fun hc => ?_) <;> try (exact absurd hc (by decide))))
    refine Hold.mk (CallB.frz4 (by simp only [go_sem, ↓reduceIte, reduceCtorEq, reduceAdd, reduceMul, reduceEqDiff, reduceLT, reduceLeDiff, reduceSub, reduceDiv, Nat.reduceBEq, Int.reduceBEq, reduceBNe, Int.reduceLT, reduceLE, reduceEq]; rfl) (by first | exact clo_LL _ | exact CloRow.all (by simp [go_sem])) <| LCall.use (end_lc h1 3 n.a ((List.range n.arms.length).map fun (i : Nat) => (s.bl.length : Int) + (i : Int))) rfl hm hb (o := 10) (by omega) ((by (repeat (first | exact (fun _ _ h => h) | refine LowIn.curL ?_ | exact LowB.base | refine LowIn.upd ?_ (lowHp_none (by omega) (by omega)) | refine LowB.upd ?_ (lowHp_none (by omega) (by omega)))))) (Nat.le_of_ble_eq_true rfl) ?_ (fun _ _ _ _ h => h.elim))
    rintro r bl' cur' ⟨fr', hp', nx'⟩ ⟨rfl, rfl, rfl⟩ _ hb' hlen' hnx hfr hin hold
    simp only at hnx hfr hin hold
    subst hnx hfr
    simp only [go_sem, ↓reduceIte, reduceCtorEq, reduceAdd, reduceMul, reduceEqDiff, reduceLT, reduceLeDiff, reduceSub, reduceDiv, Nat.reduceBEq, Int.reduceBEq, reduceBNe, Int.reduceLT, reduceLE, reduceEq]
    refine hK _ ?_; clear hK hKp K Kp; try clear hanc anc
    repeat (first | refine Kq_norm_code ?_ | refine Kq_norm_blk ?_ | refine Kq_norm_lp ?_)
    refine K_low (fr := [(0, .ptr 0 0), (3, .ptr 2 0), (5, .i s.bl.length)]) (loc := [(2, .cells n.cs)]) _ (fun i => i) hN hb' hlen' hm (by omega) hin (by simp [go_sem, lowM]) (by intro p hp; obtain rfl := List.mem_singleton.1 hp; exact ⟨Nat.le_refl 2, (by show 2 < 10; decide), (by rw [Nd.cs_ren]; exact hold _ _ (by simp [go_sem, Nd.cs]) (lowHp_none (by omega) (by omega))), Nd.cs_ids _ _, lowHp_none (by omega) (.inl (by omega))⟩) (by simp) ?_
    clear hin hold; clear hb; have hb := hb'; clear hb'
    repeat' (first | apply w1 | apply w2 | apply w3 | apply w4 | apply w5 | apply w6 | apply w7 | refine Kq_exit_ne (by decide) ?_ | apply w8 | apply w9 | apply w0 | rw [wrap64 (by omega) (by omega)] | ((first | refine hK _ ?_ | refine hKp _ _ ?_); clear hK hKp K Kp; try clear hanc anc) | ((with_reducible refine And.intro ?_ ?_); (focus (first | trivial | omega | (simp only [Fits]; omega) | assumption | (rw [hanc]; rfl)))) | ((first | refine K_regA hE fun K Kp hK hKp => ?_ | refine K_drwA true mixed hE fun K Kp hK hKp anc hanc => ?_ | refine K_drwA false mixed hE fun K Kp hK hKp anc hanc => ?_); simp only [go_sem, ↓reduceIte, reduceCtorEq, reduceAdd, reduceMul, reduceEqDiff, reduceLT, reduceLeDiff, reduceSub, reduceDiv, Nat.reduceBEq, Int.reduceBEq, reduceBNe, Int.reduceLT, reduceLE, reduceEq, Nd.cs]) | ((first | refine onG_split_t (fun hg => ?_) (fun hg => ?_) | refine onG_split_f (fun hg => ?_) (fun hg => ?_)) <;> simp only [go_sem, ↓reduceIte, reduceCtorEq, reduceAdd, reduceMul, reduceEqDiff, reduceLT, reduceLeDiff, reduceSub, reduceDiv, Nat.reduceBEq, Int.reduceBEq, reduceBNe, Int.reduceLT, reduceLE, reduceEq, Nd.cs, hg]) | (refine K_condA (fun hc => ?_) (fun hc => ?_) <;> try (exact absurd hc (by decide))))
    refine Hold.mk ( LCall.use (hp) rfl hm hb (o := 10) (by omega) ((by (repeat (first | exact (fun _ _ h => h) | refine LowIn.curL ?_ | exact LowB.base | refine LowIn.upd ?_ (lowHp_none (by omega) (by omega)) | refine LowB.upd ?_ (lowHp_none (by omega) (by omega)))))) (Nat.le_of_ble_eq_true rfl) ?_ (fun _ _ _ _ h => h.elim))
    rintro r bl' cur' ⟨fr', hp', nx'⟩ ⟨rfl, rfl, rfl⟩ _ hb' hlen' hnx hfr hin hold
    simp only at hnx hfr hin hold
    subst hnx hfr
    simp only [go_sem, ↓reduceIte, reduceCtorEq, reduceAdd, reduceMul, reduceEqDiff, reduceLT, reduceLeDiff, reduceSub, reduceDiv, Nat.reduceBEq, Int.reduceBEq, reduceBNe, Int.reduceLT, reduceLE, reduceEq]
    refine hK _ ?_; clear hK hKp K Kp; try clear hanc anc
    repeat (first | refine Kq_norm_code ?_ | refine Kq_norm_blk ?_ | refine Kq_norm_lp ?_)
    refine K_low (fr := [(4, .bool (lowN n s).1)]) (loc := []) _ (fun i => i) hN hb' hlen' hm (by omega) hin (by simp [go_sem, lowM]) (by simp [hold]) (by simp) ?_
    clear hin hold; clear hb; have hb := hb'; clear hb'
    repeat' (first | apply w1 | apply w2 | apply w3 | apply w4 | apply w5 | apply w6 | apply w7 | refine Kq_exit_ne (by decide) ?_ | apply w8 | apply w9 | apply w0 | rw [wrap64 (by omega) (by omega)] | ((first | refine hK _ ?_ | refine hKp _ _ ?_); clear hK hKp K Kp; try clear hanc anc) | ((with_reducible refine And.intro ?_ ?_); (focus (first | trivial | omega | (simp only [Fits]; omega) | assumption | (rw [hanc]; rfl)))) | ((first | refine K_regA hE fun K Kp hK hKp => ?_ | refine K_drwA true mixed hE fun K Kp hK hKp anc hanc => ?_ | refine K_drwA false mixed hE fun K Kp hK hKp anc hanc => ?_); simp only [go_sem, ↓reduceIte, reduceCtorEq, reduceAdd, reduceMul, reduceEqDiff, reduceLT, reduceLeDiff, reduceSub, reduceDiv, Nat.reduceBEq, Int.reduceBEq, reduceBNe, Int.reduceLT, reduceLE, reduceEq]) | ((first | refine onG_split_t (fun hg => ?_) (fun hg => ?_) | refine onG_split_f (fun hg => ?_) (fun hg => ?_)) <;> simp only [go_sem, ↓reduceIte, reduceCtorEq, reduceAdd, reduceMul, reduceEqDiff, reduceLT, reduceLeDiff, reduceSub, reduceDiv, Nat.reduceBEq, Int.reduceBEq, reduceBNe, Int.reduceLT, reduceLE, reduceEq, hg]) | (refine K_condA (fun hc => ?_) (fun hc => ?_) <;> try (exact absurd hc (by decide))))
    refine K_ret ?_
    exact (hQ _ _ _ _ (resA_tmp (by simp only [go_sem, ↓reduceIte, reduceCtorEq, reduceAdd, reduceMul, reduceEqDiff, reduceLT, reduceLeDiff, reduceSub, reduceDiv, Nat.reduceBEq, Int.reduceBEq, reduceBNe, Int.reduceLT, reduceLE, reduceEq])) ⟨rfl, rfl, rfl⟩ rfl (Out.of_in (base := 10) hb hm (by omega) (fun _ _ h => h) hlen')).1

theorem ins_lc (n : Nd) (s : LS) (h : Pre s 4) (hk : n.kind = 1) : LC 40 [n.av] s (.bool (lowN n s).1) (lowN n s).2 := by
  obtain ⟨b, hb⟩ := h.get
  have hc := h.code b (List.mem_of_getElem? hb)
  rw [lowN_eq, if_pos hk]
  unfold LC
  rw [ins_set hb]
  exact ins_call mdL_ok h.ok h.len5 hb (by omega) n
theorem ret_lc (n : Nd) (s : LS) {m : Nat} (h : Pre s m) (hk : n.kind = 5) : LC 44 [n.av] s (.bool (lowN n s).1) (lowN n s).2 := by
  obtain ⟨b, hb⟩ := h.get
  rw [lowN_eq, if_neg (by omega), if_neg (by omega), if_neg (by omega), if_neg (by omega), if_pos hk]
  unfold LC
  rw [end_set hb]
  exact ret_call mdL_ok h.ok h.len5 hb n
theorem panics_lc (n : Nd) (s : LS) {m : Nat} (h : Pre s m) (hk : n.kind = 6) : LC 45 [n.av] s (.bool (lowN n s).1) (lowN n s).2 := by
  obtain ⟨b, hb⟩ := h.get
  rw [lowN_eq, if_neg (by omega), if_neg (by omega), if_neg (by omega), if_neg (by omega), if_neg (by omega)]
  unfold LC
  rw [end_set hb]
  exact panics_call mdL_ok h.ok h.len5 hb n

theorem node_lc {N : Nat} (hL : ListC N) : NodeC N := by
  intro n hn ho s h k hk
  have hp := szN_pos n
  have ho' := ho
  rw [kdN_eq] at ho'
  have hk6 : k = 1 ∨ k = 2 ∨ k = 3 ∨ k = 4 ∨ k = 5 ∨ k = 6 := by omega
  rcases hk6 with rfl | rfl | rfl | rfl | rfl | rfl
  · exact ins_lc n s (h.mono (by omega)) hk
  · exact branch_lc (parts_lc hL) n hk hn ho s h
  · exact loop_lc hL n hk hn ho s h
  · exact match_lc (parts_lc hL) n hk hn ho s h
  · exact ret_lc n s h hk
  · exact panics_lc n s h hk

theorem listC : ∀ N, ListC N
  | 0 => fun l hl => absurd hl (Nat.not_lt_zero _)
  | N + 1 => list_lc (node_lc (listC N))
end Go.Proofs.Ytdheeecpkkjfiaa

