/- A part of the proof: an abstract machine for the walks, and what the walked functions compute. -/
import Derived.Test.YtdheeecpkkjfiaaCb
import Derived.Test.YtdheeecpkkjfiaaCa
set_option linter.unusedVariables false
set_option linter.unusedSimpArgs false
/- Chapter 10: what a lowering computes, in plain Lean. -/
namespace Go.Low
open Go Go.Am

/-- The blocks and the number of the current one. -/
structure LS where
  bl : List Blk
  cur : Nat

def LS.add (s : LS) (n : Nat) : LS := ⟨s.bl ++ List.replicate n ⟨[], 0, 0, none⟩, s.cur⟩
def LS.end (s : LS) (kind a : Int) (ts : List Int) : LS := ⟨s.bl.modify s.cur fun b => ⟨b.code, kind, a, some ts⟩, s.cur⟩
def LS.at (s : LS) (n : Nat) : LS := ⟨s.bl, n⟩
def LS.ins (s : LS) (x : AV) : LS := ⟨s.bl.modify s.cur fun b => ⟨b.code ++ [x], b.kind, b.a, b.tg⟩, s.cur⟩

/-- Jumps from some blocks to a new one, if there are any. -/
def joinL (exits : List Nat) (s : LS) : Bool × LS :=
  if exits = [] then (false, s)
  else
    let j := s.bl.length
    (true, (exits.foldl (fun t b => (t.at b).end 1 0 [(j : Int)]) (s.add 1)).at j)

mutual
def lowN (n : Nd) (s : LS) : Bool × LS :=
  match n with
  | .mk k a x thn els arms =>
    if k = 1 then (true, s.ins x.av)
    else if k = 2 then
      let t := s.bl.length
      let s1 := (s.add 2).end 2 a [(t : Int), t + 1]
      let r1 := lowL thn (s1.at t)
      let r2 := lowL els (r1.2.at (t + 1))
      joinL ((if r1.1 then [r1.2.cur] else []) ++ (if r2.1 then [r2.2.cur] else [])) r2.2
    else if k = 3 then
      let h := s.bl.length
      let s1 := (((s.add 3).end 1 0 [(h : Int)]).at h).end 2 a [(h : Int) + 1, h + 2]
      let r := lowL thn (s1.at (h + 1))
      (true, (if r.1 then r.2.end 1 0 [(h : Int)] else r.2).at (h + 2))
    else if k = 4 then
      let f := s.bl.length
      let r := lowP arms f ((s.add arms.length).end 3 a ((List.range arms.length).map fun (i : Nat) => (f : Int) + (i : Int)))
      joinL r.1 r.2
    else if k = 5 then (false, s.end 4 a [])
    else (false, s.end 5 0 [])
def lowL (l : List Nd) (s : LS) : Bool × LS :=
  match l with
  | [] => (true, s)
  | n :: l =>
    let r := lowN n s
    if r.1 then lowL l r.2 else (false, r.2)
/-- Parts from the block f on: the blocks in which they are left. -/
def lowP (ps : List (List Nd)) (f : Nat) (s : LS) : List Nat × LS :=
  match ps with
  | [] => ([], s)
  | p :: ps =>
    let r := lowL p (s.at f)
    let r2 := lowP ps (f + 1) r.2
    ((if r.1 then [r.2.cur] else []) ++ r2.1, r2.2)
end

theorem lowN_eq (n : Nd) (s : LS) : lowN n s =
    if n.kind = 1 then (true, s.ins n.ins.av)
    else if n.kind = 2 then
      let t := s.bl.length
      let s1 := (s.add 2).end 2 n.a [(t : Int), t + 1]
      let r1 := lowL n.thn (s1.at t)
      let r2 := lowL n.els (r1.2.at (t + 1))
      joinL ((if r1.1 then [r1.2.cur] else []) ++ (if r2.1 then [r2.2.cur] else [])) r2.2
    else if n.kind = 3 then
      let h := s.bl.length
      let s1 := (((s.add 3).end 1 0 [(h : Int)]).at h).end 2 n.a [(h : Int) + 1, h + 2]
      let r := lowL n.thn (s1.at (h + 1))
      (true, (if r.1 then r.2.end 1 0 [(h : Int)] else r.2).at (h + 2))
    else if n.kind = 4 then
      let f := s.bl.length
      let r := lowP n.arms f ((s.add n.arms.length).end 3 n.a ((List.range n.arms.length).map fun (i : Nat) => (f : Int) + (i : Int)))
      joinL r.1 r.2
    else if n.kind = 5 then (false, s.end 4 n.a [])
    else (false, s.end 5 0 []) := by cases n; rw [lowN]; rfl

mutual
def szN : Nd → Nat
  | .mk _ _ _ t e arms => 1 + szL t + szL e + szP arms
def szL : List Nd → Nat
  | [] => 0
  | n :: l => szN n + szL l
def szP : List (List Nd) → Nat
  | [] => 0
  | p :: ps => 1 + szL p + szP ps
end

theorem szP_len : ∀ ps : List (List Nd), ps.length ≤ szP ps
  | [] => Nat.zero_le _
  | p :: ps => by simp only [List.length_cons, szP]; have := szP_len ps; omega

/-- The state has at least as many blocks as another one, at most n more; its instructions' lists are longer by at most n; the current block is one. -/
structure Grow (s t : LS) (n : Nat) : Prop where
  le : s.bl.length ≤ t.bl.length
  ge : t.bl.length ≤ s.bl.length + n
  cur : t.cur < t.bl.length
  code : ∀ c, (∀ b, b ∈ s.bl → b.code.length ≤ c) → ∀ b, b ∈ t.bl → b.code.length ≤ c + n
  ok : OkB s.bl → OkB t.bl

theorem Grow.trans {s t u : LS} {n m : Nat} (h : Grow s t n) (g : Grow t u m) : Grow s u (n + m) :=
  ⟨Nat.le_trans h.le g.le, by have := h.ge; have := g.ge; omega, g.cur, fun c hc b hb => by have := g.code (c + n) (h.code c hc) b hb; omega, fun ho => g.ok (h.ok ho)⟩

theorem Grow.mono {s t : LS} {n m : Nat} (h : Grow s t n) (hm : n ≤ m) : Grow s t m :=
  ⟨h.le, by have := h.ge; omega, h.cur, fun c hc b hb => by have := h.code c hc b hb; omega, h.ok⟩

theorem Grow.refl {s : LS} (h : s.cur < s.bl.length) : Grow s s 0 :=
  ⟨Nat.le_refl _, Nat.le_refl _, h, fun c hc b hb => hc b hb, fun h => h⟩

theorem Grow.at {s t : LS} {n k : Nat} (h : Grow s t n) (hk : k < t.bl.length) : Grow s (t.at k) n :=
  ⟨h.le, h.ge, hk, h.code, h.ok⟩

theorem grow_add {s : LS} (h : s.cur < s.bl.length) (n : Nat) : Grow s (s.add n) n := by
  refine ⟨?_, ?_, ?_, fun c hc b hb => ?_, fun ho b hb x hx => ?_⟩
  · simp [LS.add]
  · simp [LS.add]
  · simp only [LS.add, List.length_append, List.length_replicate]; omega
  · rcases List.mem_append.1 hb with hb | hb
    · have := hc b hb; omega
    · obtain rfl := (List.mem_replicate.1 hb).2; simp
  · rcases List.mem_append.1 hb with hb | hb
    · exact ho b hb x hx
    · obtain rfl := (List.mem_replicate.1 hb).2; cases hx

theorem mem_modify {l : List Blk} {k : Nat} {f : Blk → Blk} {b : Blk} (h : b ∈ l.modify k f) : b ∈ l ∨ ∃ a, a ∈ l ∧ b = f a := by
  obtain ⟨i, hi, rfl⟩ := List.getElem_of_mem h
  rw [List.getElem_modify]
  have hi' : i < l.length := by simpa using hi
  split
  · exact .inr ⟨_, List.getElem_mem hi', rfl⟩
  · exact .inl (List.getElem_mem hi')

theorem grow_end {s : LS} (h : s.cur < s.bl.length) (k a : Int) (ts : List Int) : Grow s (s.end k a ts) 0 := by
  refine ⟨by simp [LS.end], by simp [LS.end], by simpa [LS.end] using h, fun c hc b hb => ?_, fun ho b hb x hx => ?_⟩
  · rcases mem_modify hb with hb | ⟨a, ha, rfl⟩
    · exact hc b hb
    · exact hc a ha
  · rcases mem_modify hb with hb | ⟨a, ha, rfl⟩
    · exact ho b hb x hx
    · exact ho a ha x hx

theorem grow_ins {s : LS} (h : s.cur < s.bl.length) {x : AV} (hx : x.clo = true) : Grow s (s.ins x) 1 := by
  refine ⟨by simp [LS.ins], by simp [LS.ins], by simpa [LS.ins] using h, fun c hc b hb => ?_, fun ho b hb y hy => ?_⟩
  · rcases mem_modify hb with hb | ⟨a, ha, rfl⟩
    · have := hc b hb; omega
    · have := hc a ha; simp only [List.length_append, List.length_cons, List.length_nil]; omega
  · rcases mem_modify hb with hb | ⟨a, ha, rfl⟩
    · exact ho b hb y hy
    · rcases List.mem_append.1 hy with hy | hy
      · exact ho a ha y hy
      · obtain rfl := List.mem_singleton.1 hy; exact hx

theorem modify_set {l : List Blk} {k : Nat} {b : Blk} (h : l[k]? = some b) (f : Blk → Blk) : l.modify k f = l.set k (f b) := by
  refine List.ext_getElem? fun i => ?_
  rw [List.getElem?_modify, List.getElem?_set]
  have hlt : k < l.length := (List.getElem?_eq_some_iff.1 h).1
  by_cases e : k = i
  · subst e; rw [if_pos rfl, if_pos hlt, h]; simp [hlt]
  · rw [if_neg e]; simp [e]

theorem end_set {s : LS} {b : Blk} (h : s.bl[s.cur]? = some b) (k a : Int) (ts : List Int) : s.end k a ts = ⟨s.bl.set s.cur ⟨b.code, k, a, some ts⟩, s.cur⟩ := by
  simp only [LS.end, modify_set h]

theorem ins_set {s : LS} {b : Blk} (h : s.bl[s.cur]? = some b) (x : AV) : s.ins x = ⟨s.bl.set s.cur ⟨b.code ++ [x], b.kind, b.a, b.tg⟩, s.cur⟩ := by
  simp only [LS.ins, modify_set h]


theorem szN_eq (n : Nd) : szN n = 1 + szL n.thn + szL n.els + szP n.arms := by cases n; rw [szN]; rfl
theorem szN_pos (n : Nd) : 1 ≤ szN n := by rw [szN_eq]; omega
theorem szN_mem {n : Nd} : ∀ {l : List Nd}, n ∈ l → szN n ≤ szL l
  | x :: l, h => by
    rw [szL]
    rcases List.mem_cons.1 h with e | e
    · subst e; omega
    · have := szN_mem e; omega
theorem szL_mem {p : List Nd} : ∀ {l : List (List Nd)}, p ∈ l → szL p < szP l
  | x :: l, h => by
    rw [szP]
    rcases List.mem_cons.1 h with e | e
    · subst e; omega
    · have := szL_mem e; omega

theorem joinFold_grow (j : Int) : ∀ (exits : List Nat) (s : LS), s.cur < s.bl.length → (∀ b, b ∈ exits → b < s.bl.length) → Grow s (exits.foldl (fun t b => (t.at b).end 1 0 [j]) s) 0
  | [], s, h, _ => Grow.refl h
  | b :: l, s, h, he => by
    have hb := he b (by simp)
    have g1 : Grow s ((s.at b).end 1 0 [j]) 0 := ((Grow.refl h).at hb).trans (grow_end (s := s.at b) hb 1 0 [j])
    have g2 := joinFold_grow j l ((s.at b).end 1 0 [j]) g1.cur (fun c hc => Nat.lt_of_lt_of_le (he c (by simp [hc])) g1.le)
    exact g1.trans g2

theorem joinL_grow (exits : List Nat) (s : LS) (h : s.cur < s.bl.length) (he : ∀ b, b ∈ exits → b < s.bl.length) : Grow s (joinL exits s).2 1 := by
  unfold joinL
  split
  · exact (Grow.refl h).mono (by omega)
  · have g1 := grow_add h 1
    have g2 := joinFold_grow (s.bl.length : Int) exits (s.add 1) g1.cur (fun b hb => Nat.lt_of_lt_of_le (he b hb) g1.le)
    refine (g1.trans g2).at ?_
    have := g2.le
    have e : (s.add 1).bl.length = s.bl.length + 1 := by simp [LS.add]
    omega

theorem add_len (s : LS) (n : Nat) : (s.add n).bl.length = s.bl.length + n := by simp [LS.add]
theorem end_len (s : LS) (k a : Int) (ts : List Int) : (s.end k a ts).bl.length = s.bl.length := by simp [LS.end]

mutual
theorem lowN_grow : ∀ (n : Nd) (s : LS), s.cur < s.bl.length → Grow s (lowN n s).2 (4 * szN n)
  | .mk k a x t e arms, s, h => by
    rw [lowN, szN]
    split
    · exact (grow_ins h x.av_clo).mono (by omega)
    · split
      · have g1 := (grow_add h 2)
        have g2 := g1.trans (grow_end g1.cur 2 a [(s.bl.length : Int), s.bl.length + 1])
        have l1 : ((s.add 2).end 2 a [(s.bl.length : Int), s.bl.length + 1]).bl.length = s.bl.length + 2 := by rw [end_len, add_len]
        have g3 := g2.at (k := s.bl.length) (by omega)
        have g4 := g3.trans (lowL_grow t _ g3.cur)
        have g5 := g4.at (k := s.bl.length + 1) (by have := (lowL_grow t _ g3.cur).le; rw [show (LS.at ((s.add 2).end 2 a [(s.bl.length : Int), s.bl.length + 1]) s.bl.length).bl.length = s.bl.length + 2 from l1] at this; omega)
        have g6 := g5.trans (lowL_grow e _ g5.cur)
        refine (g6.trans (joinL_grow _ _ g6.cur ?_)).mono (by omega)
        intro b hb
        have h1 := (lowL_grow t _ g3.cur).cur
        have h2 := (lowL_grow e _ g5.cur).le
        have h3 := g6.cur
        rcases List.mem_append.1 hb with hb | hb
        · split at hb
          · simp only [List.mem_singleton] at hb; subst hb; exact Nat.lt_of_lt_of_le h1 h2
          · cases hb
        · split at hb
          · simp only [List.mem_singleton] at hb; subst hb; exact h3
          · cases hb
      · split
        · have g1 := (grow_add h 3)
          have g2 := g1.trans (grow_end g1.cur 1 0 [(s.bl.length : Int)])
          have l1 : ((s.add 3).end 1 0 [(s.bl.length : Int)]).bl.length = s.bl.length + 3 := by rw [end_len, add_len]
          have g3 := g2.at (k := s.bl.length) (by omega)
          have g4 := g3.trans (grow_end g3.cur 2 a [(s.bl.length : Int) + 1, s.bl.length + 2])
          have l2 : ((((s.add 3).end 1 0 [(s.bl.length : Int)]).at s.bl.length).end 2 a [(s.bl.length : Int) + 1, s.bl.length + 2]).bl.length = s.bl.length + 3 := by rw [end_len]; exact l1
          have g5 := g4.at (k := s.bl.length + 1) (by omega)
          have g6 := g5.trans (lowL_grow t _ g5.cur)
          have l3 := (lowL_grow t _ g5.cur).le
          rw [show (LS.at ((((s.add 3).end 1 0 [(s.bl.length : Int)]).at s.bl.length).end 2 a [(s.bl.length : Int) + 1, s.bl.length + 2]) (s.bl.length + 1)).bl.length = s.bl.length + 3 from l2] at l3
          simp only
          split
          · exact ((g6.trans (grow_end g6.cur 1 0 [(s.bl.length : Int)])).at (by rw [end_len]; omega)).mono (by omega)
          · exact (g6.at (by omega)).mono (by omega)
        · split
          · have g1 := (grow_add h arms.length)
            have g2 := g1.trans (grow_end g1.cur 3 a ((List.range arms.length).map fun (i : Nat) => (s.bl.length : Int) + (i : Int)))
            have l1 : ((s.add arms.length).end 3 a ((List.range arms.length).map fun (i : Nat) => (s.bl.length : Int) + (i : Int))).bl.length = s.bl.length + arms.length := by rw [end_len, add_len]
            have g3 := lowP_grow arms s.bl.length _ g2.cur (by omega)
            refine ((g2.trans g3.1).trans (joinL_grow _ _ g3.1.cur g3.2)).mono ?_
            have := szP_len arms
            omega
          · split
            · exact (grow_end h 4 a []).mono (by omega)
            · exact (grow_end h 5 0 []).mono (by omega)
theorem lowL_grow : ∀ (l : List Nd) (s : LS), s.cur < s.bl.length → Grow s (lowL l s).2 (4 * szL l)
  | [], s, h => by rw [lowL, szL]; exact Grow.refl h
  | n :: l, s, h => by
    rw [lowL, szL]
    have g1 := lowN_grow n s h
    split
    · exact (g1.trans (lowL_grow l _ g1.cur)).mono (by omega)
    · exact g1.mono (by omega)
theorem lowP_grow : ∀ (ps : List (List Nd)) (f : Nat) (s : LS), s.cur < s.bl.length → f + ps.length ≤ s.bl.length → Grow s (lowP ps f s).2 (4 * szP ps - 4 * ps.length) ∧ ∀ b, b ∈ (lowP ps f s).1 → b < (lowP ps f s).2.bl.length
  | [], f, s, h, _ => by rw [lowP]; exact ⟨(Grow.refl h).mono (by simp), fun b hb => by cases hb⟩
  | p :: ps, f, s, h, hf => by
    rw [lowP, szP]
    simp only [List.length_cons] at hf ⊢
    have g0 := (Grow.refl h).at (k := f) (by omega)
    have g1 := g0.trans (lowL_grow p _ g0.cur)
    have h1 := (lowL_grow p _ g0.cur).le
    have g2 := lowP_grow ps (f + 1) (lowL p (s.at f)).2 g1.cur (by have : (s.at f).bl.length = s.bl.length := rfl; omega)
    refine ⟨(g1.trans g2.1).mono ?_, fun b hb => ?_⟩
    · have := szP_len ps
      omega
    · rcases List.mem_append.1 hb with hb | hb
      · split at hb
        · simp only [List.mem_singleton] at hb; subst hb
          exact Nat.lt_of_lt_of_le (lowL_grow p _ g0.cur).cur g2.1.le
        · cases hb
      · exact g2.2 b hb
end

mutual
/-- All nodes have kinds from 1 to 6. -/
def kdN : Nd → Prop
  | .mk k _ _ t e arms => 1 ≤ k ∧ k ≤ 6 ∧ kdL t ∧ kdL e ∧ kdP arms
def kdL : List Nd → Prop
  | [] => True
  | n :: l => kdN n ∧ kdL l
def kdP : List (List Nd) → Prop
  | [] => True
  | p :: ps => kdL p ∧ kdP ps
end
theorem kdN_eq (n : Nd) : kdN n = (1 ≤ n.kind ∧ n.kind ≤ 6 ∧ kdL n.thn ∧ kdL n.els ∧ kdP n.arms) := by cases n; rw [kdN]; rfl
theorem kdL_mem {n : Nd} : ∀ {l : List Nd}, kdL l → n ∈ l → kdN n
  | x :: l, h, hm => by
    rw [kdL] at h
    rcases List.mem_cons.1 hm with e | e
    · subst e; exact h.1
    · exact kdL_mem h.2 e
theorem kdP_mem {p : List Nd} : ∀ {l : List (List Nd)}, kdP l → p ∈ l → kdL p
  | x :: l, h, hm => by
    rw [kdP] at h
    rcases List.mem_cons.1 hm with e | e
    · subst e; exact h.1
    · exact kdP_mem h.2 e

end Go.Low

/- Chapter 10: the small methods of a lowering. -/
set_option linter.unusedSimpArgs false
set_option linter.unusedVariables false
set_option maxHeartbeats 4000000
set_option maxRecDepth 100000
namespace Go.Proofs.Ytdheeecpkkjfiaa
open Nat (reduceAdd reduceMul reduceEqDiff reduceLT reduceLeDiff reduceSub reduceDiv)
open Int (reduceBNe reduceLE reduceEq)
open Go.Am Go.Proofs Go.Low
attribute [local irreducible] AW CallP CallB

theorem ok_rep {bl : List Blk} (hb : OkB bl) (n : Nat) : OkB (bl ++ List.replicate n ⟨[], 0, 0, none⟩) := by
  intro b hb' x hx
  rcases List.mem_append.1 hb' with h | h
  · exact hb b h x hx
  · obtain rfl := (List.mem_replicate.1 h).2
    cases hx

theorem get_rep {bl : List Blk} {n k : Nat} {b : Blk} (hk : (bl ++ List.replicate n ⟨[], 0, 0, none⟩)[k]? = some b) (hc : b.code ≠ []) : bl[k]? = some b := by
  rcases Nat.lt_or_ge k bl.length with h | h
  · rwa [List.getElem?_append_left h] at hk
  · rw [List.getElem?_append_right h] at hk
    obtain rfl := (List.mem_replicate.1 (List.mem_of_getElem? hk)).2
    exact absurd rfl hc

theorem add_call {md : List (AV × AV)} {bl : List Blk} {cur : Int} (hm : OkM (hsL md)) (hb : OkB bl) (n : Nat) (hlen : bl.length + n ≤ 500000) :
    LCall Try.prog 47 [.i n] (hsL md) bl cur (fun r bl' cur' => r = .i bl.length ∧ bl' = bl ++ List.replicate n ⟨[], 0, 0, none⟩ ∧ cur' = cur) (fun _ _ _ => False) := by
  refine LCall.intro Try.func47 rfl isf47 (by simp [Try.f47]) hm fun E Q hE hN hQ hQp => K_start ?_
  refine K_low (fr := [(0, .ptr 0 0), (1, .i n)]) (loc := []) (base := 2) (fun i => i) hN hb (by omega) hm (Nat.le_refl 2) (fun _ _ h => h) (by simp [go_sem, lowM]) (by simp) (by simp) ?_
  repeat' (first | apply w1 | apply w2 | apply w3 | apply w4 | apply w5 | apply w6 | apply w7 | refine Kq_exit_ne (by decide) ?_ | apply w8 | apply w9 | apply w0 | rw [wrap64 (by omega) (by omega)] | ((first | refine hK _ ?_ | refine hKp _ _ ?_); clear hK hKp K Kp; try clear hanc anc) | ((with_reducible refine And.intro ?_ ?_); (focus (first | trivial | omega | (simp only [Fits]; omega) | assumption | (rw [hanc]; rfl)))) | ((first | refine K_regA hE fun K Kp hK hKp => ?_ | refine K_drwA true mixed hE fun K Kp hK hKp anc hanc => ?_ | refine K_drwA false mixed hE fun K Kp hK hKp anc hanc => ?_); simp only [go_sem, ↓reduceIte, reduceCtorEq, reduceAdd, reduceMul, reduceEqDiff, reduceLT, reduceLeDiff, reduceSub, reduceDiv, Nat.reduceBEq, Int.reduceBEq, reduceBNe, Int.reduceLT, reduceLE, reduceEq, blksAV_len]) | ((first | refine onG_split_t (fun hg => ?_) (fun hg => ?_) | refine onG_split_f (fun hg => ?_) (fun hg => ?_)) <;> simp only [go_sem, ↓reduceIte, reduceCtorEq, reduceAdd, reduceMul, reduceEqDiff, reduceLT, reduceLeDiff, reduceSub, reduceDiv, Nat.reduceBEq, Int.reduceBEq, reduceBNe, Int.reduceLT, reduceLE, reduceEq, blksAV_len, hg]) | (refine K_condA (fun hc => ?_) (fun hc => ?_) <;> try (exact absurd hc (by decide))))
  refine K_ret ?_
  refine (hQ _ (.i bl.length) (bl ++ List.replicate n ⟨[], 0, 0, none⟩) cur (resA_tmp (by simp only [go_sem, ↓reduceIte, reduceCtorEq, reduceAdd, reduceMul, reduceEqDiff, reduceLT, reduceLeDiff, reduceSub, reduceDiv, Nat.reduceBEq, Int.reduceBEq, reduceBNe, Int.reduceLT, reduceLE, reduceEq]; congr 2; omega)) ⟨rfl, rfl, rfl⟩ rfl (Out.row 8340032 (by decide) (ok_rep hb n) hm (by simp; omega) (by simp only [go_sem, ↓reduceIte, reduceCtorEq, reduceAdd, reduceMul, reduceEqDiff, reduceLT, reduceLeDiff, reduceSub, reduceDiv, Nat.reduceBEq, Int.reduceBEq, reduceBNe, Int.reduceLT, reduceLE, reduceEq]) (by simp [go_sem]) ?_ ?_)).1
  · simp only [go_sem, ↓reduceIte, reduceCtorEq, reduceAdd, reduceMul, reduceEqDiff, reduceLT, reduceLeDiff, reduceSub, reduceDiv, Nat.reduceBEq, Int.reduceBEq, reduceBNe, Int.reduceLT, reduceLE, reduceEq]
    rw [blksAV_app, blksAV_rep]
  · intro k b hk hc
    have hk2 := get_rep hk hc
    have hlt : k < bl.length := (List.getElem?_eq_some_iff.1 hk2).1
    simp only [go_sem, ↓reduceIte, reduceCtorEq, reduceAdd, reduceMul, reduceEqDiff, reduceLT, reduceLeDiff, reduceSub, reduceDiv, Nat.reduceBEq, Int.reduceBEq, reduceBNe, Int.reduceLT, reduceLE, reduceEq]
    rw [if_neg (by omega), if_neg (by omega), if_neg (by omega)]
    exact lowHp_code (by omega) hk2 hc

theorem end_call {md : List (AV × AV)} {bl : List Blk} {cur : Nat} (hm : OkM (hsL md)) (hb : OkB bl) (hlen : bl.length ≤ 500000) {b : Blk} (hc : bl[cur]? = some b) (kind a : Int) (ts : List Int) :
    LCall Try.prog 48 [.i kind, .i a, .sl (ts.map AV.i)] (hsL md) bl cur (fun r bl' cur' => r = .tup [] ∧ bl' = bl.set cur ⟨b.code, kind, a, some ts⟩ ∧ cur' = cur) (fun _ _ _ => False) := by
  refine LCall.intro Try.func48 rfl isf48 (by simp [Try.f48]) hm fun E Q hE hN hQ hQp => K_start ?_
  refine K_low (fr := [(0, .ptr 0 0), (1, .i kind), (2, .i a), (3, .sl (ts.map AV.i))]) (loc := []) (base := 2) (fun i => i) hN hb (by omega) hm (Nat.le_refl 2) (fun _ _ h => h) (by simp [go_sem, lowM]) (by simp) (by simp) ?_
  have hcur : cur < bl.length := (List.getElem?_eq_some_iff.1 hc).1
  repeat' (first | apply w1 | apply w2 | apply w3 | apply w4 | apply w5 | apply w6 | apply w7 | refine Kq_exit_ne (by decide) ?_ | apply w8 | apply w9 | apply w0 | rw [wrap64 (by omega) (by omega)] | ((first | refine hK _ ?_ | refine hKp _ _ ?_); clear hK hKp K Kp; try clear hanc anc) | ((with_reducible refine And.intro ?_ ?_); (focus (first | trivial | omega | (simp only [Fits]; omega) | assumption | (rw [hanc]; rfl)))) | ((first | refine K_regA hE fun K Kp hK hKp => ?_ | refine K_drwA true mixed hE fun K Kp hK hKp anc hanc => ?_ | refine K_drwA false mixed hE fun K Kp hK hKp anc hanc => ?_); simp only [go_sem, ↓reduceIte, reduceCtorEq, reduceAdd, reduceMul, reduceEqDiff, reduceLT, reduceLeDiff, reduceSub, reduceDiv, Nat.reduceBEq, Int.reduceBEq, reduceBNe, Int.reduceLT, reduceLE, reduceEq, blksAV_len, blksAV_get?, hc, blkAV]) | ((first | refine onG_split_t (fun hg => ?_) (fun hg => ?_) | refine onG_split_f (fun hg => ?_) (fun hg => ?_)) <;> simp only [go_sem, ↓reduceIte, reduceCtorEq, reduceAdd, reduceMul, reduceEqDiff, reduceLT, reduceLeDiff, reduceSub, reduceDiv, Nat.reduceBEq, Int.reduceBEq, reduceBNe, Int.reduceLT, reduceLE, reduceEq, blksAV_len, blksAV_get?, hc, blkAV, hg]) | (refine K_condA (fun hc => ?_) (fun hc => ?_) <;> try (exact absurd hc (by decide))))
  have e1 : (blksAV 11 bl).set cur (.agg [cAV (11 + cur) b, .i kind, .i a, .sl (ts.map AV.i)]) = blksAV 11 (bl.set cur ⟨b.code, kind, a, some ts⟩) := blksAV_set bl 11 cur ⟨b.code, kind, a, some ts⟩
  rw [e1]
  refine Kq_norm_nil ?_
  refine (hQ _ (.tup []) (bl.set cur ⟨b.code, kind, a, some ts⟩) cur rfl ⟨rfl, rfl, rfl⟩ rfl ?_).2
  refine Out.of_in (base := 10) (hb.set hc rfl) hm (by omega) ?_ (by simpa using hlen)
  exact LowIn.set (fun _ _ h => h) (by omega) hc rfl

theorem ins_call {md : List (AV × AV)} {bl : List Blk} {cur : Nat} (hm : OkM (hsL md)) (hb : OkB bl) (hlen : bl.length ≤ 500000) {b : Blk} (hc : bl[cur]? = some b) (hcode : b.code.length ≤ 1000000) (n : Nd) :
    LCall Try.prog 40 [n.av] (hsL md) bl cur (fun r bl' cur' => r = .bool true ∧ bl' = bl.set cur ⟨b.code ++ [n.ins.av], b.kind, b.a, b.tg⟩ ∧ cur' = cur) (fun _ _ _ => False) := by
  refine LCall.intro Try.func40 rfl isf40 (by simp [Try.f40]) hm fun E Q hE hN hQ hQp => K_start ?_
  refine K_low (fr := [(0, .ptr 0 0), (1, n.av)]) (loc := []) (base := 2) (fun i => i) hN hb (by omega) hm (Nat.le_refl 2) (fun _ _ h => h) (by simp [go_sem, lowM, ren_clo _ _ n.av_clo, ids_clo _ _ n.av_clo]) (by simp) (by simp) ?_
  have hcur : cur < bl.length := (List.getElem?_eq_some_iff.1 hc).1
  rw [Nd.av_eq]
  have f1 : (11 + cur = 1000000) = False := eq_false (by omega)
  have f2 : (11 + cur < 14631488) = True := eq_true (by omega)
  by_cases hne : b.code = []
  · have hcv : cAV (11 + cur) b = .nilsl := if_pos hne
    repeat' (first | apply w1 | apply w2 | apply w3 | apply w4 | apply w5 | apply w6 | apply w7 | refine Kq_exit_ne (by decide) ?_ | apply w8 | apply w9 | apply w0 | rw [wrap64 (by omega) (by omega)] | ((first | refine hK _ ?_ | refine hKp _ _ ?_); clear hK hKp K Kp; try clear hanc anc) | ((with_reducible refine And.intro ?_ ?_); (focus (first | trivial | omega | (simp only [Fits]; omega) | assumption | (rw [hanc]; rfl)))) | ((first | refine K_regA hE fun K Kp hK hKp => ?_ | refine K_drwA true mixed hE fun K Kp hK hKp anc hanc => ?_ | refine K_drwA false mixed hE fun K Kp hK hKp anc hanc => ?_); simp only [go_sem, ↓reduceIte, reduceCtorEq, reduceAdd, reduceMul, reduceEqDiff, reduceLT, reduceLeDiff, reduceSub, reduceDiv, Nat.reduceBEq, Int.reduceBEq, reduceBNe, Int.reduceLT, reduceLE, reduceEq, blksAV_len, blksAV_get?, hc, blkAV, hcv, f1, f2]) | ((first | refine onG_split_t (fun hg => ?_) (fun hg => ?_) | refine onG_split_f (fun hg => ?_) (fun hg => ?_)) <;> simp only [go_sem, ↓reduceIte, reduceCtorEq, reduceAdd, reduceMul, reduceEqDiff, reduceLT, reduceLeDiff, reduceSub, reduceDiv, Nat.reduceBEq, Int.reduceBEq, reduceBNe, Int.reduceLT, reduceLE, reduceEq, blksAV_len, blksAV_get?, hc, blkAV, hcv, f1, f2, hg]) | (refine K_condA (fun hc => ?_) (fun hc => ?_) <;> try (exact absurd hc (by decide))))
    refine K_ret ?_
    refine (hQ _ (.bool true) _ cur (resA_tmp (by simp only [go_sem, ↓reduceIte, reduceCtorEq, reduceAdd, reduceMul, reduceEqDiff, reduceLT, reduceLeDiff, reduceSub, reduceDiv, Nat.reduceBEq, Int.reduceBEq, reduceBNe, Int.reduceLT, reduceLE, reduceEq])) ⟨rfl, rfl, rfl⟩ rfl (Out.ins (v := 21971520) hc hb hm n.ins.av_clo hlen (by omega) (by simp only [go_sem, ↓reduceIte, reduceCtorEq, reduceAdd, reduceMul, reduceEqDiff, reduceLT, reduceLeDiff, reduceSub, reduceDiv, Nat.reduceBEq, Int.reduceBEq, reduceBNe, Int.reduceLT, reduceLE, reduceEq]) (by simp [go_sem]) (by simp only [go_sem, ↓reduceIte, reduceCtorEq, reduceAdd, reduceMul, reduceEqDiff, reduceLT, reduceLeDiff, reduceSub, reduceDiv, Nat.reduceBEq, Int.reduceBEq, reduceBNe, Int.reduceLT, reduceLE, reduceEq]) ?_ ?_)).1
    · simp only [go_sem, ↓reduceIte, reduceCtorEq, reduceAdd, reduceMul, reduceEqDiff, reduceLT, reduceLeDiff, reduceSub, reduceDiv, Nat.reduceBEq, Int.reduceBEq, reduceBNe, Int.reduceLT, reduceLE, reduceEq]
      rw [hne]; rfl
    · intro j hj hj2
      have g1 : (11 + j = 1000000) = False := eq_false (by omega)
      have g2 : (11 + j = 20922944) = False := eq_false (by omega)
      have g3 : (11 + j = 21971520) = False := eq_false (by omega)
      have g4 : (11 + j = 10) = False := eq_false (by omega)
      simp only [go_sem, ↓reduceIte, reduceCtorEq, reduceAdd, reduceMul, reduceEqDiff, reduceLT, reduceLeDiff, reduceSub, reduceDiv, Nat.reduceBEq, Int.reduceBEq, reduceBNe, Int.reduceLT, reduceLE, reduceEq, g1, g2, g3, g4]
  · have hcv : cAV (11 + cur) b = .rw (11 + cur) := if_neg hne
    have hl : lowHp (hsL md) 10 bl cur (11 + cur) = some (.row 7 b.code) := lowHp_code (by omega) hc hne
    have f3 : (11 + cur < 13582912) = True := eq_true (by omega)
    have f4 : (11 + cur = 20922944) = False := eq_false (by omega)
    have f5 : (10 = 11 + cur) = False := eq_false (by omega)
    have f6 : (0 = 11 + cur) = False := eq_false (by omega)
    have f7 : (1 = 11 + cur) = False := eq_false (by omega)
    repeat' (first | apply w1 | apply w2 | apply w3 | apply w4 | apply w5 | apply w6 | apply w7 | refine Kq_exit_ne (by decide) ?_ | apply w8 | apply w9 | apply w0 | rw [wrap64 (by omega) (by omega)] | ((first | refine hK _ ?_ | refine hKp _ _ ?_); clear hK hKp K Kp; try clear hanc anc) | ((with_reducible refine And.intro ?_ ?_); (focus (first | trivial | omega | (simp only [Fits]; omega) | assumption | (rw [hanc]; rfl)))) | ((first | refine K_regA hE fun K Kp hK hKp => ?_ | refine K_drwA true mixed hE fun K Kp hK hKp anc hanc => ?_ | refine K_drwA false mixed hE fun K Kp hK hKp anc hanc => ?_); simp only [go_sem, ↓reduceIte, reduceCtorEq, reduceAdd, reduceMul, reduceEqDiff, reduceLT, reduceLeDiff, reduceSub, reduceDiv, Nat.reduceBEq, Int.reduceBEq, reduceBNe, Int.reduceLT, reduceLE, reduceEq, blksAV_len, blksAV_get?, hc, blkAV, hcv, f1, f2, f3, f4, f5, hl]) | ((first | refine onG_split_t (fun hg => ?_) (fun hg => ?_) | refine onG_split_f (fun hg => ?_) (fun hg => ?_)) <;> simp only [go_sem, ↓reduceIte, reduceCtorEq, reduceAdd, reduceMul, reduceEqDiff, reduceLT, reduceLeDiff, reduceSub, reduceDiv, Nat.reduceBEq, Int.reduceBEq, reduceBNe, Int.reduceLT, reduceLE, reduceEq, blksAV_len, blksAV_get?, hc, blkAV, hcv, f1, f2, f3, f4, f5, hl, hg]) | (refine K_condA (fun hc => ?_) (fun hc => ?_) <;> try (exact absurd hc (by decide))))
    refine K_ret ?_
    refine (hQ _ (.bool true) _ cur (resA_tmp (by simp only [go_sem, ↓reduceIte, reduceCtorEq, reduceAdd, reduceMul, reduceEqDiff, reduceLT, reduceLeDiff, reduceSub, reduceDiv, Nat.reduceBEq, Int.reduceBEq, reduceBNe, Int.reduceLT, reduceLE, reduceEq])) ⟨rfl, rfl, rfl⟩ rfl (Out.ins (v := 21971520) hc hb hm n.ins.av_clo hlen (by omega) (by simp only [go_sem, ↓reduceIte, reduceCtorEq, reduceAdd, reduceMul, reduceEqDiff, reduceLT, reduceLeDiff, reduceSub, reduceDiv, Nat.reduceBEq, Int.reduceBEq, reduceBNe, Int.reduceLT, reduceLE, reduceEq, f6]) (by simp [go_sem, f7]) (by simp only [go_sem, ↓reduceIte, reduceCtorEq, reduceAdd, reduceMul, reduceEqDiff, reduceLT, reduceLeDiff, reduceSub, reduceDiv, Nat.reduceBEq, Int.reduceBEq, reduceBNe, Int.reduceLT, reduceLE, reduceEq]) (by simp only [go_sem, ↓reduceIte, reduceCtorEq, reduceAdd, reduceMul, reduceEqDiff, reduceLT, reduceLeDiff, reduceSub, reduceDiv, Nat.reduceBEq, Int.reduceBEq, reduceBNe, Int.reduceLT, reduceLE, reduceEq]; rfl) ?_)).1
    intro j hj hj2
    have g1 : (11 + j = 1000000) = False := eq_false (by omega)
    have g2 : (11 + j = 20922944) = False := eq_false (by omega)
    have g3 : (11 + j = 21971520) = False := eq_false (by omega)
    have g4 : (11 + j = 10) = False := eq_false (by omega)
    have g5 : (11 + j = 11 + cur) = False := eq_false (by omega)
    simp only [go_sem, ↓reduceIte, reduceCtorEq, reduceAdd, reduceMul, reduceEqDiff, reduceLT, reduceLeDiff, reduceSub, reduceDiv, Nat.reduceBEq, Int.reduceBEq, reduceBNe, Int.reduceLT, reduceLE, reduceEq, g1, g2, g3, g4, g5]
end Go.Proofs.Ytdheeecpkkjfiaa


/- Chapter 10: return and panic. -/
set_option linter.unusedSimpArgs false
set_option linter.unusedVariables false
set_option maxHeartbeats 4000000
set_option maxRecDepth 100000
namespace Go.Proofs.Ytdheeecpkkjfiaa
open Nat (reduceAdd reduceMul reduceEqDiff reduceLT reduceLeDiff reduceSub reduceDiv)
open Int (reduceBNe reduceLE reduceEq)
open Go.Am Go.Proofs Go.Low
attribute [local irreducible] AW CallP CallB

theorem ret_call {md : List (AV × AV)} {bl : List Blk} {cur : Nat} (hm : OkM (hsL md)) (hb : OkB bl) (hlen : bl.length ≤ 500000) {b : Blk} (hc : bl[cur]? = some b) (n : Nd) :
    LCall Try.prog 44 [n.av] (hsL md) bl cur (fun r bl' cur' => r = .bool false ∧ bl' = bl.set cur ⟨b.code, 4, n.a, some []⟩ ∧ cur' = cur) (fun _ _ _ => False) := by
  refine LCall.intro Try.func44 rfl isf44 (by simp [Try.f44]) hm fun E Q hE hN hQ hQp => K_start ?_
  refine K_low (fr := [(0, .ptr 0 0), (1, n.av)]) (loc := []) (base := 2) (fun i => i) hN hb (by omega) hm (Nat.le_refl 2) (fun _ _ h => h) (by simp [go_sem, lowM, ren_clo _ _ n.av_clo, ids_clo _ _ n.av_clo]) (by simp) (by simp) ?_
  rw [Nd.av_eq]
  repeat' (first | apply w1 | apply w2 | apply w3 | apply w4 | apply w5 | apply w6 | apply w7 | refine Kq_exit_ne (by decide) ?_ | apply w8 | apply w9 | apply w0 | rw [wrap64 (by omega) (by omega)] | ((first | refine hK _ ?_ | refine hKp _ _ ?_); clear hK hKp K Kp; try clear hanc anc) | ((with_reducible refine And.intro ?_ ?_); (focus (first | trivial | omega | (simp only [Fits]; omega) | assumption | (rw [hanc]; rfl)))) | ((first | refine K_regA hE fun K Kp hK hKp => ?_ | refine K_drwA true mixed hE fun K Kp hK hKp anc hanc => ?_ | refine K_drwA false mixed hE fun K Kp hK hKp anc hanc => ?_); simp only [go_sem, ↓reduceIte, reduceCtorEq, reduceAdd, reduceMul, reduceEqDiff, reduceLT, reduceLeDiff, reduceSub, reduceDiv, Nat.reduceBEq, Int.reduceBEq, reduceBNe, Int.reduceLT, reduceLE, reduceEq]) | ((first | refine onG_split_t (fun hg => ?_) (fun hg => ?_) | refine onG_split_f (fun hg => ?_) (fun hg => ?_)) <;> simp only [go_sem, ↓reduceIte, reduceCtorEq, reduceAdd, reduceMul, reduceEqDiff, reduceLT, reduceLeDiff, reduceSub, reduceDiv, Nat.reduceBEq, Int.reduceBEq, reduceBNe, Int.reduceLT, reduceLE, reduceEq, hg]) | (refine K_condA (fun hc => ?_) (fun hc => ?_) <;> try (exact absurd hc (by decide))))
  refine Hold.mk (CallB.nil3 <| LCall.use (end_call hm hb hlen hc 4 (n.a) []) rfl hm hb (o := 10) (by omega) (LowIn.upd (fun _ _ h => h) (lowHp_none (by omega) (.inr (by omega)))) (Nat.le_of_ble_eq_true rfl) ?_ (fun _ _ _ _ h => h.elim))
  rintro r bl' cur' ⟨fr', hp', nx'⟩ ⟨rfl, rfl, rfl⟩ _ hb' hlen' hnx hfr hin hold
  simp only at hnx hfr hin hold
  subst hnx hfr
  simp only [go_sem, ↓reduceIte, reduceCtorEq, reduceAdd, reduceMul, reduceEqDiff, reduceLT, reduceLeDiff, reduceSub, reduceDiv, Nat.reduceBEq, Int.reduceBEq, reduceBNe, Int.reduceLT, reduceLE, reduceEq]
  refine hK _ ?_; clear hK hKp K Kp; try clear hanc anc
  repeat (first | refine Kq_norm_code ?_ | refine Kq_norm_blk ?_ | refine Kq_norm_lp ?_)
  refine K_low (fr := [(0, .ptr 0 0)]) (loc := []) _ (fun i => i) hN hb' hlen' hm (by omega) hin (by simp [go_sem, lowM]) (by simp [hold]) (by simp) ?_
  clear hin hold; clear hb; have hb := hb'; clear hb'
  repeat' (first | apply w1 | apply w2 | apply w3 | apply w4 | apply w5 | apply w6 | apply w7 | refine Kq_exit_ne (by decide) ?_ | apply w8 | apply w9 | apply w0 | rw [wrap64 (by omega) (by omega)] | ((first | refine hK _ ?_ | refine hKp _ _ ?_); clear hK hKp K Kp; try clear hanc anc) | ((with_reducible refine And.intro ?_ ?_); (focus (first | trivial | omega | (simp only [Fits]; omega) | assumption | (rw [hanc]; rfl)))) | ((first | refine K_regA hE fun K Kp hK hKp => ?_ | refine K_drwA true mixed hE fun K Kp hK hKp anc hanc => ?_ | refine K_drwA false mixed hE fun K Kp hK hKp anc hanc => ?_); simp only [go_sem, ↓reduceIte, reduceCtorEq, reduceAdd, reduceMul, reduceEqDiff, reduceLT, reduceLeDiff, reduceSub, reduceDiv, Nat.reduceBEq, Int.reduceBEq, reduceBNe, Int.reduceLT, reduceLE, reduceEq]) | ((first | refine onG_split_t (fun hg => ?_) (fun hg => ?_) | refine onG_split_f (fun hg => ?_) (fun hg => ?_)) <;> simp only [go_sem, ↓reduceIte, reduceCtorEq, reduceAdd, reduceMul, reduceEqDiff, reduceLT, reduceLeDiff, reduceSub, reduceDiv, Nat.reduceBEq, Int.reduceBEq, reduceBNe, Int.reduceLT, reduceLE, reduceEq, hg]) | (refine K_condA (fun hc => ?_) (fun hc => ?_) <;> try (exact absurd hc (by decide))))
  refine K_ret ?_
  exact (hQ _ _ _ cur (resA_tmp (by simp only [go_sem, ↓reduceIte, reduceCtorEq, reduceAdd, reduceMul, reduceEqDiff, reduceLT, reduceLeDiff, reduceSub, reduceDiv, Nat.reduceBEq, Int.reduceBEq, reduceBNe, Int.reduceLT, reduceLE, reduceEq])) ⟨rfl, rfl, rfl⟩ rfl (Out.of_in (base := 10) hb hm (by omega) (fun _ _ h => h) hlen')).1
theorem panics_call {md : List (AV × AV)} {bl : List Blk} {cur : Nat} (hm : OkM (hsL md)) (hb : OkB bl) (hlen : bl.length ≤ 500000) {b : Blk} (hc : bl[cur]? = some b) (n : Nd) :
    LCall Try.prog 45 [n.av] (hsL md) bl cur (fun r bl' cur' => r = .bool false ∧ bl' = bl.set cur ⟨b.code, 5, 0, some []⟩ ∧ cur' = cur) (fun _ _ _ => False) := by
  refine LCall.intro Try.func45 rfl isf45 (by simp [Try.f45]) hm fun E Q hE hN hQ hQp => K_start ?_
  refine K_low (fr := [(0, .ptr 0 0), (1, n.av)]) (loc := []) (base := 2) (fun i => i) hN hb (by omega) hm (Nat.le_refl 2) (fun _ _ h => h) (by simp [go_sem, lowM, ren_clo _ _ n.av_clo, ids_clo _ _ n.av_clo]) (by simp) (by simp) ?_
  rw [Nd.av_eq]
  repeat' (first | apply w1 | apply w2 | apply w3 | apply w4 | apply w5 | apply w6 | apply w7 | refine Kq_exit_ne (by decide) ?_ | apply w8 | apply w9 | apply w0 | rw [wrap64 (by omega) (by omega)] | ((first | refine hK _ ?_ | refine hKp _ _ ?_); clear hK hKp K Kp; try clear hanc anc) | ((with_reducible refine And.intro ?_ ?_); (focus (first | trivial | omega | (simp only [Fits]; omega) | assumption | (rw [hanc]; rfl)))) | ((first | refine K_regA hE fun K Kp hK hKp => ?_ | refine K_drwA true mixed hE fun K Kp hK hKp anc hanc => ?_ | refine K_drwA false mixed hE fun K Kp hK hKp anc hanc => ?_); simp only [go_sem, ↓reduceIte, reduceCtorEq, reduceAdd, reduceMul, reduceEqDiff, reduceLT, reduceLeDiff, reduceSub, reduceDiv, Nat.reduceBEq, Int.reduceBEq, reduceBNe, Int.reduceLT, reduceLE, reduceEq]) | ((first | refine onG_split_t (fun hg => ?_) (fun hg => ?_) | refine onG_split_f (fun hg => ?_) (fun hg => ?_)) <;> simp only [go_sem, ↓reduceIte, reduceCtorEq, reduceAdd, reduceMul, reduceEqDiff, reduceLT, reduceLeDiff, reduceSub, reduceDiv, Nat.reduceBEq, Int.reduceBEq, reduceBNe, Int.reduceLT, reduceLE, reduceEq, hg]) | (refine K_condA (fun hc => ?_) (fun hc => ?_) <;> try (exact absurd hc (by decide))))
  refine Hold.mk (CallB.nil3 <| LCall.use (end_call hm hb hlen hc 5 (0) []) rfl hm hb (o := 10) (by omega) (LowIn.upd (fun _ _ h => h) (lowHp_none (by omega) (.inr (by omega)))) (Nat.le_of_ble_eq_true rfl) ?_ (fun _ _ _ _ h => h.elim))
  rintro r bl' cur' ⟨fr', hp', nx'⟩ ⟨rfl, rfl, rfl⟩ _ hb' hlen' hnx hfr hin hold
  simp only at hnx hfr hin hold
  subst hnx hfr
  simp only [go_sem, ↓reduceIte, reduceCtorEq, reduceAdd, reduceMul, reduceEqDiff, reduceLT, reduceLeDiff, reduceSub, reduceDiv, Nat.reduceBEq, Int.reduceBEq, reduceBNe, Int.reduceLT, reduceLE, reduceEq]
  refine hK _ ?_; clear hK hKp K Kp; try clear hanc anc
  repeat (first | refine Kq_norm_code ?_ | refine Kq_norm_blk ?_ | refine Kq_norm_lp ?_)
  refine K_low (fr := [(0, .ptr 0 0)]) (loc := []) _ (fun i => i) hN hb' hlen' hm (by omega) hin (by simp [go_sem, lowM]) (by simp [hold]) (by simp) ?_
  clear hin hold; clear hb; have hb := hb'; clear hb'
  repeat' (first | apply w1 | apply w2 | apply w3 | apply w4 | apply w5 | apply w6 | apply w7 | refine Kq_exit_ne (by decide) ?_ | apply w8 | apply w9 | apply w0 | rw [wrap64 (by omega) (by omega)] | ((first | refine hK _ ?_ | refine hKp _ _ ?_); clear hK hKp K Kp; try clear hanc anc) | ((with_reducible refine And.intro ?_ ?_); (focus (first | trivial | omega | (simp only [Fits]; omega) | assumption | (rw [hanc]; rfl)))) | ((first | refine K_regA hE fun K Kp hK hKp => ?_ | refine K_drwA true mixed hE fun K Kp hK hKp anc hanc => ?_ | refine K_drwA false mixed hE fun K Kp hK hKp anc hanc => ?_); simp only [go_sem, ↓reduceIte, reduceCtorEq, reduceAdd, reduceMul, reduceEqDiff, reduceLT, reduceLeDiff, reduceSub, reduceDiv, Nat.reduceBEq, Int.reduceBEq, reduceBNe, Int.reduceLT, reduceLE, reduceEq]) | ((first | refine onG_split_t (fun hg => ?_) (fun hg => ?_) | refine onG_split_f (fun hg => ?_) (fun hg => ?_)) <;> simp only [go_sem, ↓reduceIte, reduceCtorEq, reduceAdd, reduceMul, reduceEqDiff, reduceLT, reduceLeDiff, reduceSub, reduceDiv, Nat.reduceBEq, Int.reduceBEq, reduceBNe, Int.reduceLT, reduceLE, reduceEq, hg]) | (refine K_condA (fun hc => ?_) (fun hc => ?_) <;> try (exact absurd hc (by decide))))
  refine K_ret ?_
  exact (hQ _ _ _ cur (resA_tmp (by simp only [go_sem, ↓reduceIte, reduceCtorEq, reduceAdd, reduceMul, reduceEqDiff, reduceLT, reduceLeDiff, reduceSub, reduceDiv, Nat.reduceBEq, Int.reduceBEq, reduceBNe, Int.reduceLT, reduceLE, reduceEq])) ⟨rfl, rfl, rfl⟩ rfl (Out.of_in (base := 10) hb hm (by omega) (fun _ _ h => h) hlen')).1
end Go.Proofs.Ytdheeecpkkjfiaa

