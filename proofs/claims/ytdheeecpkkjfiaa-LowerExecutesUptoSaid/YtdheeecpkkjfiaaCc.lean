/- A part of the proof: an abstract machine for the walks, and what the walked functions compute. -/
import Derived.Test.YtdheeecpkkjfiaaCa
import Derived.Test.YtdheeecpkkjfiaaMf
import Derived.Test.YtdheeecpkkjfiaaCb
set_option linter.unusedVariables false
set_option linter.unusedSimpArgs false
/- Chapter 10: the functions that only read. -/
namespace Go.Proofs.Ytdheeecpkkjfiaa
open Nat (reduceAdd reduceMul reduceEqDiff reduceLT reduceLeDiff reduceSub reduceDiv)
open Int (reduceBNe reduceLE reduceEq)
open Go.Am Go.Proofs Go.Low
set_option linter.unusedSimpArgs false
set_option linter.unusedVariables false
open Classical
set_option maxHeartbeats 4000000
set_option maxRecDepth 100000
attribute [local irreducible] AW CallP CallB

abbrev ints (l : List Int) : AV := .sl (l.map AV.i)

theorem get?_of {α : Type} {l : List α} {i : Nat} (h : i < l.length) : ∃ x, l[i]? = some x := ⟨l[i], by simp [h]⟩
theorem drop_of {α : Type} {l : List α} {i : Nat} {x : α} (h : l[i]? = some x) : l.drop i = x :: l.drop (i + 1) := by
  obtain ⟨h1, h2⟩ := List.getElem?_eq_some_iff.1 h
  rw [List.drop_eq_getElem_cons h1, h2]

theorem ints_call (a b : List Int) (ha : a.length ≤ 2^50) : PCall Try.prog 35 [ints a, ints b] (.bool (decide (a = b))) := by
  refine PCall.intro Try.func35 rfl isf35 (by simp [Try.f35]) (by simp [AV.cloL, AV.clo]) fun E Q hE hN hQ => K_start ?_
  repeat' (first | apply w1 | apply w2 | apply w3 | apply w4 | apply w5 | apply w6 | apply w7 | refine Kq_exit_ne (by decide) ?_ | apply w8 | apply w9 | apply w0 | rw [wrap64 (by omega) (by omega)] | ((first | refine hK _ ?_ | refine hKp _ _ ?_); clear hK hKp K Kp; try clear hanc anc) | ((with_reducible refine And.intro ?_ ?_); (focus (first | trivial | omega | (simp only [Fits]; omega) | assumption | (rw [hanc]; rfl)))) | ((first | refine K_regA hE fun K Kp hK hKp => ?_ | refine K_drwA false mixed hE fun K Kp hK hKp anc hanc => ?_); simp only [go_sem, ↓reduceIte, reduceCtorEq, reduceAdd, reduceMul, reduceEqDiff, reduceLT, reduceLeDiff, reduceSub, reduceDiv, Nat.reduceBEq, Int.reduceBEq, reduceBNe, Int.reduceLT, reduceLE, reduceEq, List.length_map]) | ((first | refine onG_split_t (fun hg => ?_) (fun hg => ?_) | refine onG_split_f (fun hg => ?_) (fun hg => ?_)) <;> simp only [go_sem, ↓reduceIte, reduceCtorEq, reduceAdd, reduceMul, reduceEqDiff, reduceLT, reduceLeDiff, reduceSub, reduceDiv, Nat.reduceBEq, Int.reduceBEq, reduceBNe, Int.reduceLT, reduceLE, reduceEq, List.length_map, hg]) | (refine K_condA (fun hc => ?_) (fun hc => ?_) <;> try (exact absurd hc (by decide))) | (refine K_ret ?_; refine (hQ _ ⟨_, by (try simp only [go_sem, ↓reduceIte, Nat.reduceEqDiff]); rfl, by simp [go_sem], ?_, by first | rfl | assumption⟩).1))
  · have : a ≠ b := by rintro rfl; simp at hc
    simp [AV.snap, this]
  have hl : a.length = b.length := by simpa [Int.natCast_inj] using hc
  refine K_loop (X := Nat) (fun i => i ≤ a.length ∧ decide (a = b) = decide (a.drop i = b.drop i)) (fun i => mkSt [(0, ints a), (1, ints b), (5, AV.i i)] [] 0) (fun i => a.length - i) 0 ⟨Nat.zero_le _, rfl⟩ (fun i => i) ?_ ?_
  · refine ent_mk (by simp [go_sem]) (by simp [go_sem]) (by simp) (by simp [hN])
  rintro i ⟨hi, ht⟩
  by_cases hlt : i < a.length
  · obtain ⟨x, hx⟩ := get?_of hlt
    obtain ⟨y, hy⟩ := get?_of (hl ▸ hlt)
    rw [drop_of hx, drop_of hy] at ht
    repeat' (first | apply w1 | apply w2 | apply w3 | apply w4 | apply w5 | apply w6 | apply w7 | refine Kq_exit_ne (by decide) ?_ | apply w8 | apply w9 | apply w0 | rw [wrap64 (by omega) (by omega)] | ((first | refine hK _ ?_ | refine hKp _ _ ?_); clear hK hKp K Kp; try clear hanc anc) | ((with_reducible refine And.intro ?_ ?_); (focus (first | trivial | omega | (simp only [Fits]; omega) | assumption | (rw [hanc]; rfl)))) | ((first | refine K_regA hE fun K Kp hK hKp => ?_ | refine K_drwA false mixed hE fun K Kp hK hKp anc hanc => ?_); simp only [go_sem, ↓reduceIte, reduceCtorEq, reduceAdd, reduceMul, reduceEqDiff, reduceLT, reduceLeDiff, reduceSub, reduceDiv, Nat.reduceBEq, Int.reduceBEq, reduceBNe, Int.reduceLT, reduceLE, reduceEq, List.length_map, hx, hy, List.getElem?_map, Option.map_some]) | ((first | refine onG_split_t (fun hg => ?_) (fun hg => ?_) | refine onG_split_f (fun hg => ?_) (fun hg => ?_)) <;> simp only [go_sem, ↓reduceIte, reduceCtorEq, reduceAdd, reduceMul, reduceEqDiff, reduceLT, reduceLeDiff, reduceSub, reduceDiv, Nat.reduceBEq, Int.reduceBEq, reduceBNe, Int.reduceLT, reduceLE, reduceEq, List.length_map, hx, hy, List.getElem?_map, Option.map_some, hg]) | (refine K_condA (fun hc => ?_) (fun hc => ?_) <;> try (exact absurd hc (by decide))) | (refine K_ret ?_; refine (hQ _ ⟨_, by (try simp only [go_sem, ↓reduceIte, Nat.reduceEqDiff]); rfl, by simp [go_sem], ?_, by first | rfl | assumption⟩).1))
    · simp [AV.snap, ht]; intro h; simp [h] at hc
    · refine ⟨i + 1, ⟨by omega, ?_⟩, by omega, fun i => i, ?_⟩
      · rw [ht]; simp at hc; simp [hc]
      · refine ent_mk (by simp [go_sem]) (by simp [go_sem]) (by simp) (by simp [hN])
    · simp at hc; omega
  · have hi' : i = a.length := by omega
    subst hi'
    rw [List.drop_length, hl, List.drop_length] at ht
    repeat' (first | apply w1 | apply w2 | apply w3 | apply w4 | apply w5 | apply w6 | apply w7 | refine Kq_exit_ne (by decide) ?_ | apply w8 | apply w9 | apply w0 | rw [wrap64 (by omega) (by omega)] | ((first | refine hK _ ?_ | refine hKp _ _ ?_); clear hK hKp K Kp; try clear hanc anc) | ((with_reducible refine And.intro ?_ ?_); (focus (first | trivial | omega | (simp only [Fits]; omega) | assumption | (rw [hanc]; rfl)))) | ((first | refine K_regA hE fun K Kp hK hKp => ?_ | refine K_drwA false mixed hE fun K Kp hK hKp anc hanc => ?_); simp only [go_sem, ↓reduceIte, reduceCtorEq, reduceAdd, reduceMul, reduceEqDiff, reduceLT, reduceLeDiff, reduceSub, reduceDiv, Nat.reduceBEq, Int.reduceBEq, reduceBNe, Int.reduceLT, reduceLE, reduceEq, List.length_map]) | ((first | refine onG_split_t (fun hg => ?_) (fun hg => ?_) | refine onG_split_f (fun hg => ?_) (fun hg => ?_)) <;> simp only [go_sem, ↓reduceIte, reduceCtorEq, reduceAdd, reduceMul, reduceEqDiff, reduceLT, reduceLeDiff, reduceSub, reduceDiv, Nat.reduceBEq, Int.reduceBEq, reduceBNe, Int.reduceLT, reduceLE, reduceEq, List.length_map, hg]) | (refine K_condA (fun hc => ?_) (fun hc => ?_) <;> try (exact absurd hc (by decide))) | (refine K_ret ?_; refine (hQ _ ⟨_, by (try simp only [go_sem, ↓reduceIte, Nat.reduceEqDiff]); rfl, by simp [go_sem], ?_, by first | rfl | assumption⟩).1))
    · simp at hc
    · simp [AV.snap, ht]

theorem sameTypes_call : ∀ (n : Nat) (a b : List Ty), Ty.szL a < n → n ≤ 2 ^ 40 → PCall Try.prog 39 [.sl (Ty.avL a), .sl (Ty.avL b)] (.bool (decide (a = b))) := by
  intro n
  induction n with
  | zero => intro a b h; omega
  | succ n ih =>
  intro a b hn hN2
  rw [Ty.avL_eq, Ty.avL_eq]
  have hal := Ty.len_le a
  refine PCall.intro Try.func39 rfl isf39 (by simp [Try.f39]) (by simp [AV.cloL, AV.clo]) fun E Q hE hN hQ => K_start ?_
  repeat' (first | apply w1 | apply w2 | apply w3 | apply w4 | apply w5 | apply w6 | apply w7 | refine Kq_exit_ne (by decide) ?_ | apply w8 | apply w9 | apply w0 | rw [wrap64 (by omega) (by omega)] | ((first | refine hK _ ?_ | refine hKp _ _ ?_); clear hK hKp K Kp; try clear hanc anc) | ((with_reducible refine And.intro ?_ ?_); (focus (first | trivial | omega | (simp only [Fits]; omega) | assumption | (rw [hanc]; rfl)))) | ((first | refine K_regA hE fun K Kp hK hKp => ?_ | refine K_drwA false mixed hE fun K Kp hK hKp anc hanc => ?_); simp only [go_sem, ↓reduceIte, reduceCtorEq, reduceAdd, reduceMul, reduceEqDiff, reduceLT, reduceLeDiff, reduceSub, reduceDiv, Nat.reduceBEq, Int.reduceBEq, reduceBNe, Int.reduceLT, reduceLE, reduceEq, List.length_map]) | ((first | refine onG_split_t (fun hg => ?_) (fun hg => ?_) | refine onG_split_f (fun hg => ?_) (fun hg => ?_)) <;> simp only [go_sem, ↓reduceIte, reduceCtorEq, reduceAdd, reduceMul, reduceEqDiff, reduceLT, reduceLeDiff, reduceSub, reduceDiv, Nat.reduceBEq, Int.reduceBEq, reduceBNe, Int.reduceLT, reduceLE, reduceEq, List.length_map, hg]) | (refine K_condA (fun hc => ?_) (fun hc => ?_) <;> try (exact absurd hc (by decide))) | (refine K_ret ?_; refine (hQ _ ⟨_, by (try simp only [go_sem, ↓reduceIte, Nat.reduceEqDiff]); rfl, by simp [go_sem], ?_, by first | rfl | assumption⟩).1))
  · have : a ≠ b := by rintro rfl; simp at hc
    simp [AV.snap, this]
  have hl : a.length = b.length := by simpa [Int.natCast_inj] using hc
  refine K_loop (X := Nat) (fun i => i ≤ a.length ∧ decide (a = b) = decide (a.drop i = b.drop i)) (fun i => mkSt [(0, .sl (a.map Ty.av)), (1, .sl (b.map Ty.av)), (5, AV.i i)] [] 0) (fun i => a.length - i) 0 ⟨Nat.zero_le _, rfl⟩ (fun i => i) ?_ ?_
  · refine ent_mk (by simp [go_sem]) (by simp [go_sem]) (by simp) (by simp [hN])
  rintro i ⟨hi, ht⟩
  by_cases hlt : i < a.length
  · obtain ⟨x, hx⟩ := get?_of hlt
    obtain ⟨y, hy⟩ := get?_of (hl ▸ hlt)
    have hxs := Ty.sz_mem (List.mem_of_getElem? hx)
    rw [Ty.sz_eq] at hxs
    rw [drop_of hx, drop_of hy] at ht
    repeat' (first | apply w1 | apply w2 | apply w3 | apply w4 | apply w5 | apply w6 | apply w7 | refine Kq_exit_ne (by decide) ?_ | apply w8 | apply w9 | apply w0 | rw [wrap64 (by omega) (by omega)] | ((first | refine hK _ ?_ | refine hKp _ _ ?_); clear hK hKp K Kp; try clear hanc anc) | ((with_reducible refine And.intro ?_ ?_); (focus (first | trivial | omega | (simp only [Fits]; omega) | assumption | (rw [hanc]; rfl)))) | ((first | refine K_regA hE fun K Kp hK hKp => ?_ | refine K_drwA false mixed hE fun K Kp hK hKp anc hanc => ?_ | ((first | apply CallP_mk | apply CallB_mk); (focus (simp only [go_sem]; rfl)); (focus (exact ih x.args y.args (by omega) (by omega))); (focus (simp [go_sem])); (focus (first | exact .inl rfl | (right; simp [go_sem]))))); simp only [go_sem, ↓reduceIte, reduceCtorEq, reduceAdd, reduceMul, reduceEqDiff, reduceLT, reduceLeDiff, reduceSub, reduceDiv, Nat.reduceBEq, Int.reduceBEq, reduceBNe, Int.reduceLT, reduceLE, reduceEq, List.length_map, hx, hy, List.getElem?_map, Option.map_some, Ty.av_eq]) | ((first | refine onG_split_t (fun hg => ?_) (fun hg => ?_) | refine onG_split_f (fun hg => ?_) (fun hg => ?_)) <;> simp only [go_sem, ↓reduceIte, reduceCtorEq, reduceAdd, reduceMul, reduceEqDiff, reduceLT, reduceLeDiff, reduceSub, reduceDiv, Nat.reduceBEq, Int.reduceBEq, reduceBNe, Int.reduceLT, reduceLE, reduceEq, List.length_map, hx, hy, List.getElem?_map, Option.map_some, Ty.av_eq, hg]) | (refine K_condA (fun hc => ?_) (fun hc => ?_) <;> try (exact absurd hc (by decide))) | (refine K_ret ?_; refine (hQ _ ⟨_, by (try simp only [go_sem, ↓reduceIte, Nat.reduceEqDiff]); rfl, by simp [go_sem], ?_, by first | rfl | assumption⟩).1))
    case _ => simp_all [AV.snap, Ty.ext_iff']
    case _ => simp_all [AV.snap, Ty.ext_iff']
    case _ => simp_all [AV.snap, Ty.ext_iff']
    case _ =>
      refine ⟨i + 1, ⟨by omega, ?_⟩, by omega, fun i => i, ?_⟩
      · rw [ht]; simp_all [Ty.ext_iff']
      · refine ent_mk (by simp [go_sem]) (by simp [go_sem]) (by simp) (by simp [hN])
    case _ => simp at hc; omega
  · have hi' : i = a.length := by omega
    subst hi'
    rw [List.drop_length, hl, List.drop_length] at ht
    repeat' (first | apply w1 | apply w2 | apply w3 | apply w4 | apply w5 | apply w6 | apply w7 | refine Kq_exit_ne (by decide) ?_ | apply w8 | apply w9 | apply w0 | rw [wrap64 (by omega) (by omega)] | ((first | refine hK _ ?_ | refine hKp _ _ ?_); clear hK hKp K Kp; try clear hanc anc) | ((with_reducible refine And.intro ?_ ?_); (focus (first | trivial | omega | (simp only [Fits]; omega) | assumption | (rw [hanc]; rfl)))) | ((first | refine K_regA hE fun K Kp hK hKp => ?_ | refine K_drwA false mixed hE fun K Kp hK hKp anc hanc => ?_); simp only [go_sem, ↓reduceIte, reduceCtorEq, reduceAdd, reduceMul, reduceEqDiff, reduceLT, reduceLeDiff, reduceSub, reduceDiv, Nat.reduceBEq, Int.reduceBEq, reduceBNe, Int.reduceLT, reduceLE, reduceEq, List.length_map]) | ((first | refine onG_split_t (fun hg => ?_) (fun hg => ?_) | refine onG_split_f (fun hg => ?_) (fun hg => ?_)) <;> simp only [go_sem, ↓reduceIte, reduceCtorEq, reduceAdd, reduceMul, reduceEqDiff, reduceLT, reduceLeDiff, reduceSub, reduceDiv, Nat.reduceBEq, Int.reduceBEq, reduceBNe, Int.reduceLT, reduceLE, reduceEq, List.length_map, hg]) | (refine K_condA (fun hc => ?_) (fun hc => ?_) <;> try (exact absurd hc (by decide))) | (refine K_ret ?_; refine (hQ _ ⟨_, by (try simp only [go_sem, ↓reduceIte, Nat.reduceEqDiff]); rfl, by simp [go_sem], ?_, by first | rfl | assumption⟩).1))
    · simp at hc
    · simp [AV.snap, ht]
end Go.Proofs.Ytdheeecpkkjfiaa


/- Chapter 10: what the small functions of the reference and of the laws compute, in plain Lean. -/
namespace Go.Low
open Go Go.Am

mutual
def sizeN (n : Nd) (left : Int) : Int :=
  match n with
  | .mk _ _ x t e arms => sizeP arms (sizeL e (sizeL t (left - 1 - x.args.length - arms.length)))
def sizeL (l : List Nd) (left : Int) : Int :=
  match l with
  | [] => left
  | n :: l => if 0 < left then sizeL l (sizeN n left) else left
def sizeP (ps : List (List Nd)) (left : Int) : Int :=
  match ps with
  | [] => left
  | p :: ps => if 0 < left then sizeP ps (sizeL p left) else left
end

mutual
def formedN (n : Nd) (d : Int) : Bool :=
  match n with
  | .mk k _ _ t e arms => !(decide (d < 1) || decide (k < 1) || decide (6 < k) || (k == 4 && decide (arms = []))) && formedL t (d - 1) && formedL e (d - 1) && formedP arms (d - 1)
def formedL (l : List Nd) (d : Int) : Bool :=
  match l with
  | [] => true
  | n :: l => formedN n d && formedL l d
def formedP (ps : List (List Nd)) (d : Int) : Bool :=
  match ps with
  | [] => true
  | p :: ps => formedL p d && formedP ps d
end

mutual
def leftN (n : Nd) : Bool :=
  match n with
  | .mk k _ _ t e arms => !(k == 5 || k == 6 || (k == 2 && !leftL t && !leftL e)) && (k != 4 || leftP arms)
def leftL (l : List Nd) : Bool :=
  match l with
  | [] => true
  | n :: l => leftN n && leftL l
def leftP (ps : List (List Nd)) : Bool :=
  match ps with
  | [] => false
  | p :: ps => leftL p || leftP ps
end

mutual
def waysN (n : Nd) : Bool :=
  match n with
  | .mk k _ _ t e arms => k == 1 || k == 3 || (k == 2 && (waysL t || waysL e)) || (k == 4 && waysP arms)
def waysL (l : List Nd) : Bool :=
  match l with
  | [] => true
  | n :: l => waysN n && waysL l
def waysP (ps : List (List Nd)) : Bool :=
  match ps with
  | [] => false
  | p :: ps => waysL p || waysP ps
end

mutual
def loopsN (n : Nd) : Nat :=
  match n with
  | .mk k _ _ t e arms => (if k = 3 then 1 else 0) + loopsL t + loopsL e + loopsP arms
def loopsL (l : List Nd) : Nat :=
  match l with
  | [] => 0
  | n :: l => loopsN n + loopsL l
def loopsP (ps : List (List Nd)) : Nat :=
  match ps with
  | [] => 0
  | p :: ps => loopsL p + loopsP ps
end

mutual
def flatN (n : Nd) : List Ins :=
  match n with
  | .mk k _ x t e arms => if k = 1 then [x] else if k = 2 then flatL t ++ flatL e else if k = 3 then flatL t else if k = 4 then flatP arms else []
def flatL (l : List Nd) : List Ins :=
  match l with
  | [] => []
  | n :: l => flatN n ++ if leftN n then flatL l else []
def flatP (ps : List (List Nd)) : List Ins :=
  match ps with
  | [] => []
  | p :: ps => flatL p ++ flatP ps
end

theorem sizeN_eq (n : Nd) (left : Int) : sizeN n left = sizeP n.arms (sizeL n.els (sizeL n.thn (left - 1 - n.ins.args.length - n.arms.length))) := by cases n; rw [sizeN]; rfl
theorem formedN_eq (n : Nd) (d : Int) : formedN n d = (!(decide (d < 1) || decide (n.kind < 1) || decide (6 < n.kind) || (n.kind == 4 && decide (n.arms = []))) && formedL n.thn (d - 1) && formedL n.els (d - 1) && formedP n.arms (d - 1)) := by cases n; rw [formedN]; rfl
theorem leftN_eq (n : Nd) : leftN n = (!(n.kind == 5 || n.kind == 6 || (n.kind == 2 && !leftL n.thn && !leftL n.els)) && (n.kind != 4 || leftP n.arms)) := by cases n; rw [leftN]; rfl
theorem waysN_eq (n : Nd) : waysN n = (n.kind == 1 || n.kind == 3 || (n.kind == 2 && (waysL n.thn || waysL n.els)) || (n.kind == 4 && waysP n.arms)) := by cases n; rw [waysN]; rfl
theorem loopsN_eq (n : Nd) : loopsN n = (if n.kind = 3 then 1 else 0) + loopsL n.thn + loopsL n.els + loopsP n.arms := by cases n; rw [loopsN]; rfl
theorem flatN_eq (n : Nd) : flatN n = (if n.kind = 1 then [n.ins] else if n.kind = 2 then flatL n.thn ++ flatL n.els else if n.kind = 3 then flatL n.thn else if n.kind = 4 then flatP n.arms else []) := by cases n; rw [flatN]; rfl

mutual
theorem sizeN_ge : ∀ (n : Nd) (left : Int), left - n.sz ≤ sizeN n left ∧ sizeN n left < left
  | .mk k a x t e arms, left => by
    rw [sizeN, Nd.sz]
    have h1 := sizeL_ge t (left - 1 - x.args.length - arms.length)
    have h2 := sizeL_ge e (sizeL t (left - 1 - x.args.length - arms.length))
    have h3 := sizeP_ge arms (sizeL e (sizeL t (left - 1 - x.args.length - arms.length)))
    have h4 : x.args.length + 1 ≤ x.sz := by unfold Ins.sz; omega
    omega
theorem sizeL_ge : ∀ (l : List Nd) (left : Int), left - Nd.szL l ≤ sizeL l left ∧ sizeL l left ≤ left
  | [], left => by rw [sizeL, Nd.szL]; omega
  | n :: l, left => by
    rw [sizeL, Nd.szL]
    have h1 := sizeN_ge n left
    have h2 := sizeL_ge l (sizeN n left)
    split <;> omega
theorem sizeP_ge : ∀ (l : List (List Nd)) (left : Int), left - (Nd.szLL l - l.length) ≤ sizeP l left ∧ sizeP l left ≤ left
  | [], left => by rw [sizeP, Nd.szLL]; simp
  | p :: l, left => by
    rw [sizeP, Nd.szLL]
    have h1 := sizeL_ge p left
    have h2 := sizeP_ge l (sizeL p left)
    have h3 := Nd.lenL_le l
    simp only [List.length_cons]
    split <;> omega
end

mutual
theorem loopsN_le : ∀ n : Nd, loopsN n ≤ n.sz
  | .mk k a x t e arms => by
    rw [loopsN, Nd.sz]
    have h1 := loopsL_le t
    have h2 := loopsL_le e
    have h3 := loopsP_le arms
    split <;> omega
theorem loopsL_le : ∀ l : List Nd, loopsL l ≤ Nd.szL l
  | [] => by rw [loopsL]; omega
  | n :: l => by
    rw [loopsL, Nd.szL]
    have h1 := loopsN_le n
    have h2 := loopsL_le l
    omega
theorem loopsP_le : ∀ l : List (List Nd), loopsP l ≤ Nd.szLL l
  | [] => by rw [loopsP]; omega
  | p :: l => by
    rw [loopsP, Nd.szLL]
    have h1 := loopsL_le p
    have h2 := loopsP_le l
    omega
end

end Go.Low

/- Chapter 10: the functions that only read (2). -/
namespace Go.Proofs.Ytdheeecpkkjfiaa
open Nat (reduceAdd reduceMul reduceEqDiff reduceLT reduceLeDiff reduceSub reduceDiv)
open Int (reduceBNe reduceLE reduceEq)
open Go.Am Go.Proofs Go.Low
set_option linter.unusedSimpArgs false
set_option linter.unusedVariables false
open Classical
set_option maxHeartbeats 4000000
set_option maxRecDepth 100000
attribute [local irreducible] AW CallP CallB

theorem size_call : ∀ (n : Nat) (l : List Nd) (left : Int), Nd.szL l < n → n ≤ 2 ^ 40 → -(2 ^ 41) ≤ left → left ≤ 2 ^ 42 → PCall Try.prog 22 [.sl (Nd.avL l), .i left] (.i (sizeL l left)) := by
  intro n
  induction n with
  | zero => intro l left h; omega
  | succ n ih =>
  intro l left hn hN2 hl1 hl2
  have hal := Nd.len_le l
  refine PCall.intro Try.func22 rfl isf22 (by simp [Try.f22]) (by simp [AV.cloL, AV.clo]) fun E Q hE hN hQ => K_start ?_
  repeat' (first | apply w1 | apply w2 | apply w3 | apply w4 | apply w5 | apply w6 | apply w7 | refine Kq_exit_ne (by decide) ?_ | apply w8 | apply w9 | apply w0 | rw [wrap64 (by omega) (by omega)] | ((first | refine hK _ ?_ | refine hKp _ _ ?_); clear hK hKp K Kp; try clear hanc anc) | ((with_reducible refine And.intro ?_ ?_); (focus (first | trivial | omega | (simp only [Fits]; omega) | assumption | (rw [hanc]; rfl)))) | ((first | refine K_regA hE fun K Kp hK hKp => ?_ | refine K_drwA false mixed hE fun K Kp hK hKp anc hanc => ?_); simp only [go_sem, ↓reduceIte, reduceCtorEq, reduceAdd, reduceMul, reduceEqDiff, reduceLT, reduceLeDiff, reduceSub, reduceDiv, Nat.reduceBEq, Int.reduceBEq, reduceBNe, Int.reduceLT, reduceLE, reduceEq]) | ((first | refine onG_split_t (fun hg => ?_) (fun hg => ?_) | refine onG_split_f (fun hg => ?_) (fun hg => ?_)) <;> simp only [go_sem, ↓reduceIte, reduceCtorEq, reduceAdd, reduceMul, reduceEqDiff, reduceLT, reduceLeDiff, reduceSub, reduceDiv, Nat.reduceBEq, Int.reduceBEq, reduceBNe, Int.reduceLT, reduceLE, reduceEq, hg]) | (refine K_condA (fun hc => ?_) (fun hc => ?_) <;> try (exact absurd hc (by decide))) | (refine K_ret ?_; refine (hQ _ ⟨_, by (try simp only [go_sem, ↓reduceIte, Nat.reduceEqDiff]); rfl, by simp [go_sem], ?_, by first | rfl | assumption⟩).1))
  refine K_loop (X := Nat × Int) (fun x => x.1 ≤ l.length ∧ sizeL l left = sizeL (l.drop x.1) x.2 ∧ -(2 ^ 41) ≤ x.2 ∧ x.2 ≤ left) (fun x => mkSt [(0, .sl (Nd.avL l)), (1, AV.i x.2), (5, AV.i x.1)] [] 0) (fun x => l.length - x.1) (0, left) ⟨Nat.zero_le _, rfl, hl1, Int.le_refl _⟩ (fun i => i) ?_ ?_
  · refine ent_mk (by simp [go_sem]) (by simp [go_sem]) (by simp) (by simp [hN])
  rintro ⟨i, lf⟩ ⟨hi, ht, hlo, hle⟩
  simp only at hi ht hlo hle
  by_cases hlt : i < l.length
  · obtain ⟨x, hx⟩ := get?_of hlt
    rw [drop_of hx, sizeL] at ht
    by_cases hpos : 0 < lf
    · have hxs := Nd.sz_mem (List.mem_of_getElem? hx)
      rw [Nd.sz_eq] at hxs
      have hia : x.ins.args.length + 1 ≤ x.ins.sz := by unfold Ins.sz; omega
      have har := Nd.lenL_le x.arms
      rw [if_pos hpos, sizeN_eq] at ht
      have e1 : IntKind.i64.wrap (lf - 1) = lf - 1 := wrap64 (by omega) (by omega)
      have e2 : IntKind.i64.wrap (lf - 1 - x.ins.args.length) = lf - 1 - x.ins.args.length := wrap64 (by omega) (by omega)
      have e3 : IntKind.i64.wrap (lf - 1 - x.ins.args.length - x.arms.length) = lf - 1 - x.ins.args.length - x.arms.length := wrap64 (by omega) (by omega)
      have b1 := sizeL_ge x.thn (lf - 1 - x.ins.args.length - x.arms.length)
      have b2 := sizeL_ge x.els (sizeL x.thn (lf - 1 - x.ins.args.length - x.arms.length))
      have hposb : decide (lf > 0) = true := by simpa using hpos
      repeat' (first | apply w1 | apply w2 | apply w3 | apply w4 | apply w5 | apply w6 | apply w7 | refine Kq_exit_ne (by decide) ?_ | apply w8 | apply w9 | apply w0 | rw [wrap64 (by omega) (by omega)] | ((first | refine hK _ ?_ | refine hKp _ _ ?_); clear hK hKp K Kp; try clear hanc anc) | ((with_reducible refine And.intro ?_ ?_); (focus (first | trivial | omega | (simp only [Fits]; omega) | assumption | (rw [hanc]; rfl)))) | ((first | refine K_regA hE fun K Kp hK hKp => ?_ | refine K_drwA false mixed hE fun K Kp hK hKp anc hanc => ?_ | ((first | apply CallP_mk | apply CallB_mk); (focus (simp only [go_sem]; rfl)); (focus (first | exact ih x.thn _ (by omega) (by omega) (by omega) (by omega) | exact ih x.els _ (by omega) (by omega) (by omega) (by omega))); (focus (simp [go_sem])); (focus (first | exact .inl rfl | (right; simp [go_sem]))))); simp only [go_sem, ↓reduceIte, reduceCtorEq, reduceAdd, reduceMul, reduceEqDiff, reduceLT, reduceLeDiff, reduceSub, reduceDiv, Nat.reduceBEq, Int.reduceBEq, reduceBNe, Int.reduceLT, reduceLE, reduceEq, hx, Nd.av_eq, e1, e2, e3, hposb]) | ((first | refine onG_split_t (fun hg => ?_) (fun hg => ?_) | refine onG_split_f (fun hg => ?_) (fun hg => ?_)) <;> simp only [go_sem, ↓reduceIte, reduceCtorEq, reduceAdd, reduceMul, reduceEqDiff, reduceLT, reduceLeDiff, reduceSub, reduceDiv, Nat.reduceBEq, Int.reduceBEq, reduceBNe, Int.reduceLT, reduceLE, reduceEq, hx, Nd.av_eq, e1, e2, e3, hposb, hg]) | (refine K_condA (fun hc => ?_) (fun hc => ?_) <;> try (exact absurd hc (by decide))) | (refine K_ret ?_; refine (hQ _ ⟨_, by (try simp only [go_sem, ↓reduceIte, Nat.reduceEqDiff]); rfl, by simp [go_sem], ?_, by first | rfl | assumption⟩).1))
      · refine K_loop (X := Nat × Int) (fun y => y.1 ≤ x.arms.length ∧ sizeL l left = sizeL (l.drop (i + 1)) (sizeP (x.arms.drop y.1) y.2) ∧ -(2 ^ 41) ≤ y.2 ∧ y.2 ≤ left) (fun y => mkSt [(0, .sl (Nd.avL l)), (1, AV.i y.2), (5, AV.i i), (6, AV.i y.1)] [] 0) (fun y => x.arms.length - y.1) (0, _) ⟨Nat.zero_le _, ht, by simp only; omega, by simp only; omega⟩ (fun i => i) ?_ ?_
        · refine ent_mk (by simp [go_sem]) (by simp [go_sem]) (by simp) (by simp [hN])
        rintro ⟨k, lg⟩ ⟨ki, kt, klo, kle⟩
        simp only at ki kt klo kle
        by_cases klt : k < x.arms.length
        · obtain ⟨p, hp⟩ := get?_of klt
          have hps := Nd.szL_mem (List.mem_of_getElem? hp)
          have b3 := sizeL_ge p lg
          rw [drop_of hp, sizeP] at kt
          repeat' (first | apply w1 | apply w2 | apply w3 | apply w4 | apply w5 | apply w6 | apply w7 | refine Kq_exit_ne (by decide) ?_ | apply w8 | apply w9 | apply w0 | rw [wrap64 (by omega) (by omega)] | ((first | refine hK _ ?_ | refine hKp _ _ ?_); clear hK hKp K Kp; try clear hanc anc) | ((with_reducible refine And.intro ?_ ?_); (focus (first | trivial | omega | (simp only [Fits]; omega) | assumption | (rw [hanc]; rfl)))) | ((first | refine K_regA hE fun K Kp hK hKp => ?_ | refine K_drwA false mixed hE fun K Kp hK hKp anc hanc => ?_ | ((first | apply CallP_mk | apply CallB_mk); (focus (simp only [go_sem]; rfl)); (focus (exact ih p _ (by omega) (by omega) (by omega) (by omega))); (focus (simp [go_sem])); (focus (first | exact .inl rfl | (right; simp [go_sem]))))); simp only [go_sem, ↓reduceIte, reduceCtorEq, reduceAdd, reduceMul, reduceEqDiff, reduceLT, reduceLeDiff, reduceSub, reduceDiv, Nat.reduceBEq, Int.reduceBEq, reduceBNe, Int.reduceLT, reduceLE, reduceEq, hx, hp, Nd.av_eq]) | ((first | refine onG_split_t (fun hg => ?_) (fun hg => ?_) | refine onG_split_f (fun hg => ?_) (fun hg => ?_)) <;> simp only [go_sem, ↓reduceIte, reduceCtorEq, reduceAdd, reduceMul, reduceEqDiff, reduceLT, reduceLeDiff, reduceSub, reduceDiv, Nat.reduceBEq, Int.reduceBEq, reduceBNe, Int.reduceLT, reduceLE, reduceEq, hx, hp, Nd.av_eq, hg]) | (refine K_condA (fun hc => ?_) (fun hc => ?_) <;> try (exact absurd hc (by decide))) | (refine K_ret ?_; refine (hQ _ ⟨_, by (try simp only [go_sem, ↓reduceIte, Nat.reduceEqDiff]); rfl, by simp [go_sem], ?_, by first | rfl | assumption⟩).1))
          case _ =>
            have : 0 < lg := by simpa using hc
            rw [if_pos this] at kt
            exact ⟨(k + 1, _), ⟨by simp only; omega, kt, by simp only; omega, by simp only; omega⟩, by simp only; omega, fun i => i, by refine ent_mk (by simp [go_sem]) (by simp [go_sem]) (by simp) (by simp [hN])⟩
          case _ =>
            have : ¬ 0 < lg := by simpa using hc
            rw [if_neg this] at kt
            exact ⟨(i + 1, _), ⟨by simp only; omega, kt, by simp only; omega, by simp only; omega⟩, by simp only; omega, fun i => i, by refine ent_mk (by simp [go_sem]) (by simp [go_sem]) (by simp) (by simp [hN])⟩
          case _ => simp at hg; omega
        · obtain rfl : k = x.arms.length := by omega
          rw [List.drop_length, sizeP] at kt
          repeat' (first | apply w1 | apply w2 | apply w3 | apply w4 | apply w5 | apply w6 | apply w7 | refine Kq_exit_ne (by decide) ?_ | apply w8 | apply w9 | apply w0 | rw [wrap64 (by omega) (by omega)] | ((first | refine hK _ ?_ | refine hKp _ _ ?_); clear hK hKp K Kp; try clear hanc anc) | ((with_reducible refine And.intro ?_ ?_); (focus (first | trivial | omega | (simp only [Fits]; omega) | assumption | (rw [hanc]; rfl)))) | ((first | refine K_regA hE fun K Kp hK hKp => ?_ | refine K_drwA false mixed hE fun K Kp hK hKp anc hanc => ?_); simp only [go_sem, ↓reduceIte, reduceCtorEq, reduceAdd, reduceMul, reduceEqDiff, reduceLT, reduceLeDiff, reduceSub, reduceDiv, Nat.reduceBEq, Int.reduceBEq, reduceBNe, Int.reduceLT, reduceLE, reduceEq, hx, Nd.av_eq]) | ((first | refine onG_split_t (fun hg => ?_) (fun hg => ?_) | refine onG_split_f (fun hg => ?_) (fun hg => ?_)) <;> simp only [go_sem, ↓reduceIte, reduceCtorEq, reduceAdd, reduceMul, reduceEqDiff, reduceLT, reduceLeDiff, reduceSub, reduceDiv, Nat.reduceBEq, Int.reduceBEq, reduceBNe, Int.reduceLT, reduceLE, reduceEq, hx, Nd.av_eq, hg]) | (refine K_condA (fun hc => ?_) (fun hc => ?_) <;> try (exact absurd hc (by decide))) | (refine K_ret ?_; refine (hQ _ ⟨_, by (try simp only [go_sem, ↓reduceIte, Nat.reduceEqDiff]); rfl, by simp [go_sem], ?_, by first | rfl | assumption⟩).1))
          case _ => simp at hg
          case _ => simp at hg
          case _ => exact ⟨(i + 1, _), ⟨by simp only; omega, kt, by simp only; omega, by simp only; omega⟩, by simp only; omega, fun i => i, by refine ent_mk (by simp [go_sem]) (by simp [go_sem]) (by simp) (by simp [hN])⟩
      · simp at hg; omega
    · rw [if_neg hpos] at ht
      have hposb : decide (lf > 0) = false := by simpa using hpos
      repeat' (first | apply w1 | apply w2 | apply w3 | apply w4 | apply w5 | apply w6 | apply w7 | refine Kq_exit_ne (by decide) ?_ | apply w8 | apply w9 | apply w0 | rw [wrap64 (by omega) (by omega)] | ((first | refine hK _ ?_ | refine hKp _ _ ?_); clear hK hKp K Kp; try clear hanc anc) | ((with_reducible refine And.intro ?_ ?_); (focus (first | trivial | omega | (simp only [Fits]; omega) | assumption | (rw [hanc]; rfl)))) | ((first | refine K_regA hE fun K Kp hK hKp => ?_ | refine K_drwA false mixed hE fun K Kp hK hKp anc hanc => ?_); simp only [go_sem, ↓reduceIte, reduceCtorEq, reduceAdd, reduceMul, reduceEqDiff, reduceLT, reduceLeDiff, reduceSub, reduceDiv, Nat.reduceBEq, Int.reduceBEq, reduceBNe, Int.reduceLT, reduceLE, reduceEq, hposb]) | ((first | refine onG_split_t (fun hg => ?_) (fun hg => ?_) | refine onG_split_f (fun hg => ?_) (fun hg => ?_)) <;> simp only [go_sem, ↓reduceIte, reduceCtorEq, reduceAdd, reduceMul, reduceEqDiff, reduceLT, reduceLeDiff, reduceSub, reduceDiv, Nat.reduceBEq, Int.reduceBEq, reduceBNe, Int.reduceLT, reduceLE, reduceEq, hposb, hg]) | (refine K_condA (fun hc => ?_) (fun hc => ?_) <;> try (exact absurd hc (by decide))) | (refine K_ret ?_; refine (hQ _ ⟨_, by (try simp only [go_sem, ↓reduceIte, Nat.reduceEqDiff]); rfl, by simp [go_sem], ?_, by first | rfl | assumption⟩).1))
      · simp [AV.snap, ht]
      · simp at hg; omega
  · obtain rfl : i = l.length := by omega
    rw [List.drop_length, sizeL] at ht
    repeat' (first | apply w1 | apply w2 | apply w3 | apply w4 | apply w5 | apply w6 | apply w7 | refine Kq_exit_ne (by decide) ?_ | apply w8 | apply w9 | apply w0 | rw [wrap64 (by omega) (by omega)] | ((first | refine hK _ ?_ | refine hKp _ _ ?_); clear hK hKp K Kp; try clear hanc anc) | ((with_reducible refine And.intro ?_ ?_); (focus (first | trivial | omega | (simp only [Fits]; omega) | assumption | (rw [hanc]; rfl)))) | ((first | refine K_regA hE fun K Kp hK hKp => ?_ | refine K_drwA false mixed hE fun K Kp hK hKp anc hanc => ?_); simp only [go_sem, ↓reduceIte, reduceCtorEq, reduceAdd, reduceMul, reduceEqDiff, reduceLT, reduceLeDiff, reduceSub, reduceDiv, Nat.reduceBEq, Int.reduceBEq, reduceBNe, Int.reduceLT, reduceLE, reduceEq]) | ((first | refine onG_split_t (fun hg => ?_) (fun hg => ?_) | refine onG_split_f (fun hg => ?_) (fun hg => ?_)) <;> simp only [go_sem, ↓reduceIte, reduceCtorEq, reduceAdd, reduceMul, reduceEqDiff, reduceLT, reduceLeDiff, reduceSub, reduceDiv, Nat.reduceBEq, Int.reduceBEq, reduceBNe, Int.reduceLT, reduceLE, reduceEq, hg]) | (refine K_condA (fun hc => ?_) (fun hc => ?_) <;> try (exact absurd hc (by decide))) | (refine K_ret ?_; refine (hQ _ ⟨_, by (try simp only [go_sem, ↓reduceIte, Nat.reduceEqDiff]); rfl, by simp [go_sem], ?_, by first | rfl | assumption⟩).1))
    · simp at hg
    · simp at hg
    · simp [AV.snap, ht]

theorem few_call (ts : List Ty) (l : List Nd) (h : Nd.szL l ≤ 2 ^ 30) : PCall Try.prog 10 [.agg [.sl (Ty.avL ts), .sl (Nd.avL l)]] (.bool (decide (sizeL l 1000 > 0))) := by
  refine PCall.intro Try.func10 rfl isf10 (by simp [Try.f10]) (by simp [AV.cloL, AV.clo]) fun E Q hE hN hQ => K_start ?_
  repeat' (first | apply w1 | apply w2 | apply w3 | apply w4 | apply w5 | apply w6 | apply w7 | refine Kq_exit_ne (by decide) ?_ | apply w8 | apply w9 | apply w0 | rw [wrap64 (by omega) (by omega)] | ((first | refine hK _ ?_ | refine hKp _ _ ?_); clear hK hKp K Kp; try clear hanc anc) | ((with_reducible refine And.intro ?_ ?_); (focus (first | trivial | omega | (simp only [Fits]; omega) | assumption | (rw [hanc]; rfl)))) | ((first | refine K_regA hE fun K Kp hK hKp => ?_ | refine K_drwA false mixed hE fun K Kp hK hKp anc hanc => ?_ | ((first | apply CallP_mk | apply CallB_mk); (focus (simp only [go_sem]; rfl)); (focus (exact size_call (2 ^ 31) l _ (by omega) (by omega) (by omega) (by omega))); (focus (simp [go_sem])); (focus (first | exact .inl rfl | (right; simp [go_sem]))))); simp only [go_sem, ↓reduceIte, reduceCtorEq, reduceAdd, reduceMul, reduceEqDiff, reduceLT, reduceLeDiff, reduceSub, reduceDiv, Nat.reduceBEq, Int.reduceBEq, reduceBNe, Int.reduceLT, reduceLE, reduceEq]) | ((first | refine onG_split_t (fun hg => ?_) (fun hg => ?_) | refine onG_split_f (fun hg => ?_) (fun hg => ?_)) <;> simp only [go_sem, ↓reduceIte, reduceCtorEq, reduceAdd, reduceMul, reduceEqDiff, reduceLT, reduceLeDiff, reduceSub, reduceDiv, Nat.reduceBEq, Int.reduceBEq, reduceBNe, Int.reduceLT, reduceLE, reduceEq, hg]) | (refine K_condA (fun hc => ?_) (fun hc => ?_) <;> try (exact absurd hc (by decide))) | (refine K_ret ?_; refine (hQ _ ⟨_, by (try simp only [go_sem, ↓reduceIte, Nat.reduceEqDiff]); rfl, by simp [go_sem], ?_, by first | rfl | assumption⟩).1))
  rfl

theorem sameIns_call (a b : Ins) (ha : a.args.length ≤ 2 ^ 30) (hb : Ty.szL a.types ≤ 2 ^ 30) : PCall Try.prog 16 [a.av, b.av] (.bool (decide (a = b))) := by
  have hx : a = b ↔ a.op = b.op ∧ a.dst = b.dst ∧ a.a = b.a ∧ a.b = b.b ∧ a.n = b.n ∧ a.args = b.args ∧ a.types = b.types := by
    cases a; cases b; simp
  unfold Ins.av
  refine PCall.intro Try.func16 rfl isf16 (by simp [Try.f16]) (by simp [AV.cloL, AV.clo]) fun E Q hE hN hQ => K_start ?_
  repeat' (first | apply w1 | apply w2 | apply w3 | apply w4 | apply w5 | apply w6 | apply w7 | refine Kq_exit_ne (by decide) ?_ | apply w8 | apply w9 | apply w0 | rw [wrap64 (by omega) (by omega)] | ((first | refine hK _ ?_ | refine hKp _ _ ?_); clear hK hKp K Kp; try clear hanc anc) | ((with_reducible refine And.intro ?_ ?_); (focus (first | trivial | omega | (simp only [Fits]; omega) | assumption | (rw [hanc]; rfl)))) | ((first | refine K_regA hE fun K Kp hK hKp => ?_ | refine K_drwA false mixed hE fun K Kp hK hKp anc hanc => ?_ | ((first | apply CallP_mk | apply CallB_mk); (focus (simp only [go_sem]; rfl)); (focus (first | exact ints_call a.args b.args (by omega) | exact sameTypes_call (2 ^ 31) a.types b.types (by omega) (by omega))); (focus (simp [go_sem])); (focus (first | exact .inl rfl | (right; simp [go_sem]))))); simp only [go_sem, ↓reduceIte, reduceCtorEq, reduceAdd, reduceMul, reduceEqDiff, reduceLT, reduceLeDiff, reduceSub, reduceDiv, Nat.reduceBEq, Int.reduceBEq, reduceBNe, Int.reduceLT, reduceLE, reduceEq]) | ((first | refine onG_split_t (fun hg => ?_) (fun hg => ?_) | refine onG_split_f (fun hg => ?_) (fun hg => ?_)) <;> simp only [go_sem, ↓reduceIte, reduceCtorEq, reduceAdd, reduceMul, reduceEqDiff, reduceLT, reduceLeDiff, reduceSub, reduceDiv, Nat.reduceBEq, Int.reduceBEq, reduceBNe, Int.reduceLT, reduceLE, reduceEq, hg]) | (refine K_condA (fun hc => ?_) (fun hc => ?_) <;> try (exact absurd hc (by decide))) | (refine K_ret ?_; refine (hQ _ ⟨_, by (try simp only [go_sem, ↓reduceIte, Nat.reduceEqDiff]); rfl, by simp [go_sem], ?_, by first | rfl | assumption⟩).1))
  all_goals (clear hQ; simp_all [AV.snap])

def okBlk (b : Blk) : Prop := True

theorem formed_call : ∀ (n : Nat) (l : List Nd) (d : Int), Nd.szL l < n → n ≤ 2 ^ 40 → 0 ≤ d → d ≤ 1000 → PCall Try.prog 20 [.sl (Nd.avL l), .i d] (.bool (formedL l d)) := by
  intro n
  induction n with
  | zero => intro l left h; omega
  | succ n ih =>
  intro l d hn hN2 hd1 hd2
  have hal := Nd.len_le l
  refine PCall.intro Try.func20 rfl isf20 (by simp [Try.f20]) (by simp [AV.cloL, AV.clo]) fun E Q hE hN hQ => K_start ?_
  repeat' (first | apply w1 | apply w2 | apply w3 | apply w4 | apply w5 | apply w6 | apply w7 | refine Kq_exit_ne (by decide) ?_ | apply w8 | apply w9 | apply w0 | rw [wrap64 (by omega) (by omega)] | ((first | refine hK _ ?_ | refine hKp _ _ ?_); clear hK hKp K Kp; try clear hanc anc) | ((with_reducible refine And.intro ?_ ?_); (focus (first | trivial | omega | (simp only [Fits]; omega) | assumption | (rw [hanc]; rfl)))) | ((first | refine K_regA hE fun K Kp hK hKp => ?_ | refine K_drwA false mixed hE fun K Kp hK hKp anc hanc => ?_); simp only [go_sem, ↓reduceIte, reduceCtorEq, reduceAdd, reduceMul, reduceEqDiff, reduceLT, reduceLeDiff, reduceSub, reduceDiv, Nat.reduceBEq, Int.reduceBEq, reduceBNe, Int.reduceLT, reduceLE, reduceEq]) | ((first | refine onG_split_t (fun hg => ?_) (fun hg => ?_) | refine onG_split_f (fun hg => ?_) (fun hg => ?_)) <;> simp only [go_sem, ↓reduceIte, reduceCtorEq, reduceAdd, reduceMul, reduceEqDiff, reduceLT, reduceLeDiff, reduceSub, reduceDiv, Nat.reduceBEq, Int.reduceBEq, reduceBNe, Int.reduceLT, reduceLE, reduceEq, hg]) | (refine K_condA (fun hc => ?_) (fun hc => ?_) <;> try (exact absurd hc (by decide))) | (refine K_ret ?_; refine (hQ _ ⟨_, by (try simp only [go_sem, ↓reduceIte, Nat.reduceEqDiff]); rfl, by simp [go_sem], ?_, by first | rfl | assumption⟩).1))
  refine K_loop (X := Nat) (fun x => x ≤ l.length ∧ formedL l d = formedL (l.drop x) d) (fun x => mkSt [(0, .sl (Nd.avL l)), (1, AV.i d), (5, AV.i x)] [] 0) (fun x => l.length - x) 0 ⟨Nat.zero_le _, rfl⟩ (fun i => i) ?_ ?_
  · refine ent_mk (by simp [go_sem]) (by simp [go_sem]) (by simp) (by simp [hN])
  rintro i ⟨hi, ht⟩
  by_cases hlt : i < l.length
  · obtain ⟨x, hx⟩ := get?_of hlt
    have hxs := Nd.sz_mem (List.mem_of_getElem? hx)
    rw [Nd.sz_eq] at hxs
    have har := Nd.lenL_le x.arms
    rw [drop_of hx, formedL, formedN_eq] at ht
    by_cases hd : d < 1
    · have hd' : decide (d < 1) = true := by simpa using hd
      repeat' (first | apply w1 | apply w2 | apply w3 | apply w4 | apply w5 | apply w6 | apply w7 | refine Kq_exit_ne (by decide) ?_ | apply w8 | apply w9 | apply w0 | rw [wrap64 (by omega) (by omega)] | ((first | refine hK _ ?_ | refine hKp _ _ ?_); clear hK hKp K Kp; try clear hanc anc) | ((with_reducible refine And.intro ?_ ?_); (focus (first | trivial | omega | (simp only [Fits]; omega) | assumption | (rw [hanc]; rfl)))) | ((first | refine K_regA hE fun K Kp hK hKp => ?_ | refine K_drwA false mixed hE fun K Kp hK hKp anc hanc => ?_); simp only [go_sem, ↓reduceIte, reduceCtorEq, reduceAdd, reduceMul, reduceEqDiff, reduceLT, reduceLeDiff, reduceSub, reduceDiv, Nat.reduceBEq, Int.reduceBEq, reduceBNe, Int.reduceLT, reduceLE, reduceEq, hx, Nd.av_eq, hd']) | ((first | refine onG_split_t (fun hg => ?_) (fun hg => ?_) | refine onG_split_f (fun hg => ?_) (fun hg => ?_)) <;> simp only [go_sem, ↓reduceIte, reduceCtorEq, reduceAdd, reduceMul, reduceEqDiff, reduceLT, reduceLeDiff, reduceSub, reduceDiv, Nat.reduceBEq, Int.reduceBEq, reduceBNe, Int.reduceLT, reduceLE, reduceEq, hx, Nd.av_eq, hd', hg]) | (refine K_condA (fun hc => ?_) (fun hc => ?_) <;> try (exact absurd hc (by decide))) | (refine K_ret ?_; refine (hQ _ ⟨_, by (try simp only [go_sem, ↓reduceIte, Nat.reduceEqDiff]); rfl, by simp [go_sem], ?_, by first | rfl | assumption⟩).1))
      · simp [AV.snap, ht, hd']
      · simp at hc; omega
    · have hd' : decide (d < 1) = false := by simpa using hd
      have e1 : IntKind.i64.wrap (d - 1) = d - 1 := wrap64 (by omega) (by omega)
      repeat' (first | apply w1 | apply w2 | apply w3 | apply w4 | apply w5 | apply w6 | apply w7 | refine Kq_exit_ne (by decide) ?_ | apply w8 | apply w9 | apply w0 | rw [wrap64 (by omega) (by omega)] | ((first | refine hK _ ?_ | refine hKp _ _ ?_); clear hK hKp K Kp; try clear hanc anc) | ((with_reducible refine And.intro ?_ ?_); (focus (first | trivial | omega | (simp only [Fits]; omega) | assumption | (rw [hanc]; rfl)))) | ((first | refine K_regA hE fun K Kp hK hKp => ?_ | refine K_drwA false mixed hE fun K Kp hK hKp anc hanc => ?_ | ((first | apply CallP_mk | apply CallB_mk); (focus (simp only [go_sem]; rfl)); (focus (first | exact ih x.thn _ (by omega) (by omega) (by omega) (by omega) | exact ih x.els _ (by omega) (by omega) (by omega) (by omega))); (focus (simp [go_sem])); (focus (first | exact .inl rfl | (right; simp [go_sem]))))); simp only [go_sem, ↓reduceIte, reduceCtorEq, reduceAdd, reduceMul, reduceEqDiff, reduceLT, reduceLeDiff, reduceSub, reduceDiv, Nat.reduceBEq, Int.reduceBEq, reduceBNe, Int.reduceLT, reduceLE, reduceEq, hx, Nd.av_eq, hd', e1]) | ((first | refine onG_split_t (fun hg => ?_) (fun hg => ?_) | refine onG_split_f (fun hg => ?_) (fun hg => ?_)) <;> simp only [go_sem, ↓reduceIte, reduceCtorEq, reduceAdd, reduceMul, reduceEqDiff, reduceLT, reduceLeDiff, reduceSub, reduceDiv, Nat.reduceBEq, Int.reduceBEq, reduceBNe, Int.reduceLT, reduceLE, reduceEq, hx, Nd.av_eq, hd', e1, hg]) | (refine K_condA (fun hc => ?_) (fun hc => ?_) <;> try (exact absurd hc (by decide))) | (refine K_ret ?_; refine (hQ _ ⟨_, by (try simp only [go_sem, ↓reduceIte, Nat.reduceEqDiff]); rfl, by simp [go_sem], ?_, by first | rfl | assumption⟩).1))
      all_goals first
        | (exfalso; simp at hc; omega)
        | (simp [AV.snap, ht]; clear hQ; simp_all [List.length_eq_zero_iff]; (try omega); done)
        | skip
      all_goals
        refine K_loop (X := Nat) (fun y => y ≤ x.arms.length ∧ formedL l d = (formedP (x.arms.drop y) (d - 1) && formedL (l.drop (i + 1)) d)) (fun y => mkSt [(0, .sl (Nd.avL l)), (1, AV.i d), (5, AV.i i), (6, .ptr 0 0), (7, AV.i y)] [(0, .cells (Nd.cs x))] 1) (fun y => x.arms.length - y) 0 ⟨Nat.zero_le _, ?_⟩ (fun _ => 8388608) ?_ ?_
        · rw [ht]; clear hQ ht hx; grind
        · refine ent_mk (by simp [go_sem, Nd.cs]) (by simp [go_sem, Nd.cs]) (by simp) (by simp [hN])
        rintro y ⟨yi, yt⟩
        by_cases ylt : y < x.arms.length
        · obtain ⟨p, hp⟩ := get?_of ylt
          have hps := Nd.szL_mem (List.mem_of_getElem? hp)
          rw [drop_of hp, formedP] at yt
          repeat' (first | apply w1 | apply w2 | apply w3 | apply w4 | apply w5 | apply w6 | apply w7 | refine Kq_exit_ne (by decide) ?_ | apply w8 | apply w9 | apply w0 | rw [wrap64 (by omega) (by omega)] | ((first | refine hK _ ?_ | refine hKp _ _ ?_); clear hK hKp K Kp; try clear hanc anc) | ((with_reducible refine And.intro ?_ ?_); (focus (first | trivial | omega | (simp only [Fits]; omega) | assumption | (rw [hanc]; rfl)))) | ((first | refine K_regA hE fun K Kp hK hKp => ?_ | refine K_drwA false mixed hE fun K Kp hK hKp anc hanc => ?_ | ((first | apply CallP_mk | apply CallB_mk); (focus (simp only [go_sem]; rfl)); (focus (exact ih p _ (by omega) (by omega) (by omega) (by omega))); (focus (simp [go_sem])); (focus (first | exact .inl rfl | (right; simp [go_sem]))))); simp only [go_sem, ↓reduceIte, reduceCtorEq, reduceAdd, reduceMul, reduceEqDiff, reduceLT, reduceLeDiff, reduceSub, reduceDiv, Nat.reduceBEq, Int.reduceBEq, reduceBNe, Int.reduceLT, reduceLE, reduceEq, hp, Nd.cs, e1]) | ((first | refine onG_split_t (fun hg => ?_) (fun hg => ?_) | refine onG_split_f (fun hg => ?_) (fun hg => ?_)) <;> simp only [go_sem, ↓reduceIte, reduceCtorEq, reduceAdd, reduceMul, reduceEqDiff, reduceLT, reduceLeDiff, reduceSub, reduceDiv, Nat.reduceBEq, Int.reduceBEq, reduceBNe, Int.reduceLT, reduceLE, reduceEq, hp, Nd.cs, e1, hg]) | (refine K_condA (fun hc => ?_) (fun hc => ?_) <;> try (exact absurd hc (by decide))) | (refine K_ret ?_; refine (hQ _ ⟨_, by (try simp only [go_sem, ↓reduceIte, Nat.reduceEqDiff]); rfl, by simp [go_sem], ?_, by first | rfl | assumption⟩).1))
          all_goals first
            | (exfalso; simp at hc; omega)
            | (simp [AV.snap, yt]; simp at hc; simp [hc]; done)
            | exact ⟨y + 1, ⟨by omega, by rw [yt]; simp at hc; simp [hc]⟩, by omega, fun i => i, by refine ent_mk (by simp [go_sem, Nd.cs]) (by simp [go_sem, Nd.cs]) (by simp) (by simp [hN])⟩
        · obtain rfl : y = x.arms.length := by omega
          rw [List.drop_length, formedP] at yt
          repeat' (first | apply w1 | apply w2 | apply w3 | apply w4 | apply w5 | apply w6 | apply w7 | refine Kq_exit_ne (by decide) ?_ | apply w8 | apply w9 | apply w0 | rw [wrap64 (by omega) (by omega)] | ((first | refine hK _ ?_ | refine hKp _ _ ?_); clear hK hKp K Kp; try clear hanc anc) | ((with_reducible refine And.intro ?_ ?_); (focus (first | trivial | omega | (simp only [Fits]; omega) | assumption | (rw [hanc]; rfl)))) | ((first | refine K_regA hE fun K Kp hK hKp => ?_ | refine K_drwA false mixed hE fun K Kp hK hKp anc hanc => ?_); simp only [go_sem, ↓reduceIte, reduceCtorEq, reduceAdd, reduceMul, reduceEqDiff, reduceLT, reduceLeDiff, reduceSub, reduceDiv, Nat.reduceBEq, Int.reduceBEq, reduceBNe, Int.reduceLT, reduceLE, reduceEq, Nd.cs]) | ((first | refine onG_split_t (fun hg => ?_) (fun hg => ?_) | refine onG_split_f (fun hg => ?_) (fun hg => ?_)) <;> simp only [go_sem, ↓reduceIte, reduceCtorEq, reduceAdd, reduceMul, reduceEqDiff, reduceLT, reduceLeDiff, reduceSub, reduceDiv, Nat.reduceBEq, Int.reduceBEq, reduceBNe, Int.reduceLT, reduceLE, reduceEq, Nd.cs, hg]) | (refine K_condA (fun hc => ?_) (fun hc => ?_) <;> try (exact absurd hc (by decide))) | (refine K_ret ?_; refine (hQ _ ⟨_, by (try simp only [go_sem, ↓reduceIte, Nat.reduceEqDiff]); rfl, by simp [go_sem], ?_, by first | rfl | assumption⟩).1))
          · simp at hc
          · exact ⟨i + 1, ⟨by omega, by simpa using yt⟩, by omega, fun i => i, by refine ent_mk (by simp [go_sem]) (by simp [go_sem]) (by simp) (by simp [hN])⟩
  · obtain rfl : i = l.length := by omega
    rw [List.drop_length, formedL] at ht
    repeat' (first | apply w1 | apply w2 | apply w3 | apply w4 | apply w5 | apply w6 | apply w7 | refine Kq_exit_ne (by decide) ?_ | apply w8 | apply w9 | apply w0 | rw [wrap64 (by omega) (by omega)] | ((first | refine hK _ ?_ | refine hKp _ _ ?_); clear hK hKp K Kp; try clear hanc anc) | ((with_reducible refine And.intro ?_ ?_); (focus (first | trivial | omega | (simp only [Fits]; omega) | assumption | (rw [hanc]; rfl)))) | ((first | refine K_regA hE fun K Kp hK hKp => ?_ | refine K_drwA false mixed hE fun K Kp hK hKp anc hanc => ?_); simp only [go_sem, ↓reduceIte, reduceCtorEq, reduceAdd, reduceMul, reduceEqDiff, reduceLT, reduceLeDiff, reduceSub, reduceDiv, Nat.reduceBEq, Int.reduceBEq, reduceBNe, Int.reduceLT, reduceLE, reduceEq]) | ((first | refine onG_split_t (fun hg => ?_) (fun hg => ?_) | refine onG_split_f (fun hg => ?_) (fun hg => ?_)) <;> simp only [go_sem, ↓reduceIte, reduceCtorEq, reduceAdd, reduceMul, reduceEqDiff, reduceLT, reduceLeDiff, reduceSub, reduceDiv, Nat.reduceBEq, Int.reduceBEq, reduceBNe, Int.reduceLT, reduceLE, reduceEq, hg]) | (refine K_condA (fun hc => ?_) (fun hc => ?_) <;> try (exact absurd hc (by decide))) | (refine K_ret ?_; refine (hQ _ ⟨_, by (try simp only [go_sem, ↓reduceIte, Nat.reduceEqDiff]); rfl, by simp [go_sem], ?_, by first | rfl | assumption⟩).1))
    · simp at hc
    · simp [AV.snap, ht]
end Go.Proofs.Ytdheeecpkkjfiaa

