/- A part of the proof: an abstract machine for the walks, and what the walked functions compute. -/
import Derived.Test.YtdheeecpkkjfiaaAah
set_option linter.unusedVariables false
set_option linter.unusedSimpArgs false
/- Chapter 10: what the reference's lowering computes, in plain Lean. -/
namespace Go.Low
open Go Go.Am

abbrev Blk.nil : Blk := ⟨[], 0, 0, none⟩
def endB (bl : List Blk) (k : Nat) (kind a : Int) (ts : List Int) : List Blk := bl.modify k fun b => ⟨b.code, kind, a, some ts⟩
def insB (bl : List Blk) (k : Nat) (x : AV) : List Blk := bl.modify k fun b => ⟨b.code ++ [x], b.kind, b.a, b.tg⟩
def rJoin (exits : List Nat) (bl : List Blk) : Int × List Blk :=
  if exits = [] then (-1, bl) else ((bl.length : Int), exits.foldl (fun t b => endB t b 1 0 [((bl.length : Nat) : Int)]) (bl ++ [Blk.nil]))
def exitOf (r : Int) : List Nat := if 0 ≤ r then [r.toNat] else []

mutual
def rN (n : Nd) (bl : List Blk) (cur : Nat) : Int × List Blk :=
  match n with
  | .mk k a x thn els arms =>
    if k = 1 then ((cur : Int), insB bl cur x.av)
    else if k = 2 then
      let r1 := rL thn (endB (bl ++ [Blk.nil] ++ [Blk.nil]) cur 2 a [(bl.length : Int), bl.length + 1]) bl.length
      let r2 := rL els r1.2 ((bl.length : Int) + 1)
      rJoin (exitOf r1.1 ++ exitOf r2.1) r2.2
    else if k = 3 then
      let r := rL thn (endB (endB (bl ++ [Blk.nil] ++ [Blk.nil] ++ [Blk.nil]) cur 1 0 [(bl.length : Int)]) bl.length 2 a [(bl.length : Int) + 1, bl.length + 2]) ((bl.length : Int) + 1)
      ((bl.length : Int) + 2, if 0 ≤ r.1 then endB r.2 r.1.toNat 1 0 [(bl.length : Int)] else r.2)
    else if k = 4 then
      let r := rP arms bl.length (endB (bl ++ List.replicate arms.length Blk.nil) cur 3 a ((List.range arms.length).map fun (i : Nat) => (bl.length : Int) + (i : Int)))
      rJoin r.1 r.2
    else if k = 5 then (-1, endB bl cur 4 a [])
    else (-1, endB bl cur 5 0 [])
def rL (l : List Nd) (bl : List Blk) (cur : Int) : Int × List Blk :=
  match l with
  | [] => (cur, bl)
  | n :: l => if 0 ≤ cur ∧ bl.length ≤ 400 then (let r := rN n bl cur.toNat; rL l r.2 r.1) else (cur, bl)
def rP (ps : List (List Nd)) (f : Nat) (bl : List Blk) : List Nat × List Blk :=
  match ps with
  | [] => ([], bl)
  | p :: ps =>
    let r := rL p bl (f : Int)
    let r2 := rP ps (f + 1) r.2
    (exitOf r.1 ++ r2.1, r2.2)
end

theorem rN_eq (n : Nd) (bl : List Blk) (cur : Nat) : rN n bl cur =
    if n.kind = 1 then ((cur : Int), insB bl cur n.ins.av)
    else if n.kind = 2 then
      let r1 := rL n.thn (endB (bl ++ [Blk.nil] ++ [Blk.nil]) cur 2 n.a [(bl.length : Int), bl.length + 1]) bl.length
      let r2 := rL n.els r1.2 ((bl.length : Int) + 1)
      rJoin (exitOf r1.1 ++ exitOf r2.1) r2.2
    else if n.kind = 3 then
      let r := rL n.thn (endB (endB (bl ++ [Blk.nil] ++ [Blk.nil] ++ [Blk.nil]) cur 1 0 [(bl.length : Int)]) bl.length 2 n.a [(bl.length : Int) + 1, bl.length + 2]) ((bl.length : Int) + 1)
      ((bl.length : Int) + 2, if 0 ≤ r.1 then endB r.2 r.1.toNat 1 0 [(bl.length : Int)] else r.2)
    else if n.kind = 4 then
      let r := rP n.arms bl.length (endB (bl ++ List.replicate n.arms.length Blk.nil) cur 3 n.a ((List.range n.arms.length).map fun (i : Nat) => (bl.length : Int) + (i : Int)))
      rJoin r.1 r.2
    else if n.kind = 5 then (-1, endB bl cur 4 n.a [])
    else (-1, endB bl cur 5 0 []) := by cases n; rw [rN]; rfl

/-- What the reference's lowering and the other one have in common: the same blocks, and the block in which the nodes are left. -/
def sameR (r : Int × List Blk) (s : Bool × LS) : Prop := r.2 = s.2.bl ∧ r.1 = if s.1 then (s.2.cur : Int) else -1

theorem rep2 (bl : List Blk) : bl ++ [Blk.nil] ++ [Blk.nil] = bl ++ List.replicate 2 Blk.nil := by simp [List.replicate]
theorem rep3 (bl : List Blk) : bl ++ [Blk.nil] ++ [Blk.nil] ++ [Blk.nil] = bl ++ List.replicate 3 Blk.nil := by simp [List.replicate]

theorem exitOf_same {r : Int × List Blk} {s : Bool × LS} (h : sameR r s) : exitOf r.1 = if s.1 then [s.2.cur] else [] := by
  rw [h.2]
  cases s.1 <;> simp [exitOf]

theorem joinFold_same (j : Int) : ∀ (es : List Nat) (s : LS), (es.foldl (fun t b => (t.at b).end 1 0 [j]) s).bl = es.foldl (fun t b => endB t b 1 0 [j]) s.bl
  | [], _ => rfl
  | e :: es, s => by rw [List.foldl_cons, List.foldl_cons, joinFold_same j es]; rfl

theorem rJoin_same (es : List Nat) (s : LS) : sameR (rJoin es s.bl) (joinL es s) := by
  unfold rJoin joinL
  split
  · exact ⟨rfl, rfl⟩
  · refine ⟨?_, rfl⟩
    show _ = (es.foldl (fun t b => (t.at b).end 1 0 [((s.bl.length : Nat) : Int)]) (s.add 1)).bl
    rw [joinFold_same]
    rfl

theorem joinL_len (es : List Nat) (s : LS) (h : s.cur < s.bl.length) (he : ∀ b, b ∈ es → b < s.bl.length) : s.bl.length ≤ (joinL es s).2.bl.length := (joinL_grow es s h he).le

/-- From these blocks to those: at most n more blocks, at most n more instructions in each. -/
structure RG (s t : List Blk) (n : Nat) : Prop where
  le : s.length ≤ t.length
  ge : t.length ≤ s.length + n
  code : ∀ c, (∀ b, b ∈ s → b.code.length ≤ c) → ∀ b, b ∈ t → b.code.length ≤ c + n
  ok : OkB s → OkB t
structure PreB (s : List Blk) (n : Nat) : Prop where
  ok : OkB s
  len : s.length + n ≤ 400000
  code : ∀ b, b ∈ s → b.code.length + n ≤ 900000

theorem RG.trans {s t u : List Blk} {n m : Nat} (h : RG s t n) (g : RG t u m) : RG s u (n + m) :=
  ⟨Nat.le_trans h.le g.le, by have := h.ge; have := g.ge; omega, fun c hc b hb => by have := g.code (c + n) (h.code c hc) b hb; omega, fun ho => g.ok (h.ok ho)⟩
theorem RG.mono {s t : List Blk} {n m : Nat} (h : RG s t n) (hm : n ≤ m) : RG s t m :=
  ⟨h.le, by have := h.ge; omega, fun c hc b hb => by have := h.code c hc b hb; omega, h.ok⟩
theorem RG.refl {s : List Blk} : RG s s 0 := ⟨Nat.le_refl _, Nat.le_refl _, fun c hc b hb => hc b hb, fun h => h⟩
theorem PreB.grow {s t : List Blk} {n m k : Nat} (h : PreB s n) (g : RG s t k) (hk : k + m ≤ n) : PreB t m :=
  ⟨g.ok h.ok, by have := g.ge; have := h.len; omega, fun b hb => by
    have := g.code (900000 - n) (fun b hb => by have := h.code b hb; omega) b hb
    have h3 : n ≤ 900000 := by have := h.len; omega
    omega⟩
theorem PreB.mono {s : List Blk} {n m : Nat} (h : PreB s n) (hm : m ≤ n) : PreB s m :=
  ⟨h.ok, by have := h.len; omega, fun b hb => by have := h.code b hb; omega⟩
theorem PreB.len5 {s : List Blk} {n : Nat} (h : PreB s n) : s.length ≤ 500000 := by have := h.len; omega
theorem PreB.len51 {s : List Blk} {n : Nat} (h : PreB s n) : s.length + 1 ≤ 500000 := by have := h.len; omega

theorem endB_len (bl : List Blk) (k : Nat) (kind a : Int) (ts : List Int) : (endB bl k kind a ts).length = bl.length := by simp [endB]
theorem insB_len (bl : List Blk) (k : Nat) (x : AV) : (insB bl k x).length = bl.length := by simp [insB]
theorem rg_rep (bl : List Blk) (n : Nat) : RG bl (bl ++ List.replicate n Blk.nil) n := by
  refine ⟨by simp, by simp, fun c hc b hb => ?_, fun ho b hb x hx => ?_⟩
  · rcases List.mem_append.1 hb with hb | hb
    · have := hc b hb; omega
    · obtain rfl := (List.mem_replicate.1 hb).2; simp
  · rcases List.mem_append.1 hb with hb | hb
    · exact ho b hb x hx
    · obtain rfl := (List.mem_replicate.1 hb).2; cases hx
theorem rg_nil (bl : List Blk) : RG bl (bl ++ [Blk.nil]) 1 := rg_rep bl 1
theorem rg_end (bl : List Blk) (k : Nat) (kind a : Int) (ts : List Int) : RG bl (endB bl k kind a ts) 0 := by
  refine ⟨by simp [endB], by simp [endB], fun c hc b hb => ?_, fun ho b hb x hx => ?_⟩
  · rcases mem_modify hb with hb | ⟨a, ha, rfl⟩
    · exact hc b hb
    · exact hc a ha
  · rcases mem_modify hb with hb | ⟨a, ha, rfl⟩
    · exact ho b hb x hx
    · exact ho a ha x hx
theorem rg_ins (bl : List Blk) (k : Nat) {x : AV} (hx : x.clo = true) : RG bl (insB bl k x) 1 := by
  refine ⟨by simp [insB], by simp [insB], fun c hc b hb => ?_, fun ho b hb y hy => ?_⟩
  · rcases mem_modify hb with hb | ⟨a, ha, rfl⟩
    · have := hc b hb; omega
    · have := hc a ha; simp only [List.length_append, List.length_cons, List.length_nil]; omega
  · rcases mem_modify hb with hb | ⟨a, ha, rfl⟩
    · exact ho b hb y hy
    · rcases List.mem_append.1 hy with hy | hy
      · exact ho a ha y hy
      · obtain rfl := List.mem_singleton.1 hy; exact hx
theorem rg_fold (j : Int) : ∀ (es : List Nat) (bl : List Blk), RG bl (es.foldl (fun t b => endB t b 1 0 [j]) bl) 0
  | [], _ => RG.refl
  | e :: es, bl => (rg_end bl e 1 0 [j]).trans (rg_fold j es _)
theorem rg_join (es : List Nat) (bl : List Blk) : RG bl (rJoin es bl).2 1 ∧ (rJoin es bl).1 < (rJoin es bl).2.length := by
  unfold rJoin
  split
  · exact ⟨RG.refl.mono (by omega), by simp only; omega⟩
  · have g := (rg_nil bl).trans (rg_fold (bl.length : Int) es _)
    refine ⟨g, ?_⟩
    have := (rg_fold (bl.length : Int) es (bl ++ [Blk.nil])).le
    simp only [List.length_append, List.length_cons, List.length_nil] at this ⊢
    omega

mutual
theorem rN_grow : ∀ (n : Nd) (bl : List Blk) (cur : Nat), cur < bl.length → RG bl (rN n bl cur).2 (4 * szN n) ∧ (rN n bl cur).1 < (rN n bl cur).2.length
  | .mk k a x t e arms, bl, cur, h => by
    rw [rN, szN]
    split
    · exact ⟨(rg_ins bl cur x.av_clo).mono (by omega), by simp only [insB_len]; omega⟩
    · split
      · have l1 : (endB (bl ++ [Blk.nil] ++ [Blk.nil]) cur 2 a [(bl.length : Int), bl.length + 1]).length = bl.length + 2 := by rw [endB_len]; simp
        have g1 := ((rg_nil bl).trans (rg_nil _)).trans (rg_end (bl ++ [Blk.nil] ++ [Blk.nil]) cur 2 a [(bl.length : Int), bl.length + 1])
        have g2 := rL_grow t _ (bl.length : Int) (by rw [l1]; omega)
        have := g2.1.le
        have g3 := rL_grow e (rL t (endB (bl ++ [Blk.nil] ++ [Blk.nil]) cur 2 a [(bl.length : Int), bl.length + 1]) bl.length).2 ((bl.length : Int) + 1) (by omega)
        have g4 := rg_join (exitOf (rL t (endB (bl ++ [Blk.nil] ++ [Blk.nil]) cur 2 a [(bl.length : Int), bl.length + 1]) bl.length).1 ++ exitOf (rL e (rL t (endB (bl ++ [Blk.nil] ++ [Blk.nil]) cur 2 a [(bl.length : Int), bl.length + 1]) bl.length).2 ((bl.length : Int) + 1)).1) (rL e (rL t (endB (bl ++ [Blk.nil] ++ [Blk.nil]) cur 2 a [(bl.length : Int), bl.length + 1]) bl.length).2 ((bl.length : Int) + 1)).2
        exact ⟨(((g1.trans g2.1).trans g3.1).trans g4.1).mono (by omega), g4.2⟩
      · split
        · have l1 : (endB (endB (bl ++ [Blk.nil] ++ [Blk.nil] ++ [Blk.nil]) cur 1 0 [(bl.length : Int)]) bl.length 2 a [(bl.length : Int) + 1, bl.length + 2]).length = bl.length + 3 := by rw [endB_len, endB_len]; simp
          have g1 := ((((rg_nil bl).trans (rg_nil _)).trans (rg_nil _)).trans (rg_end (bl ++ [Blk.nil] ++ [Blk.nil] ++ [Blk.nil]) cur 1 0 [(bl.length : Int)])).trans (rg_end _ bl.length 2 a [(bl.length : Int) + 1, bl.length + 2])
          have g2 := rL_grow t _ ((bl.length : Int) + 1) (by rw [l1]; omega)
          have := g2.1.le
          simp only
          split
          · exact ⟨((g1.trans g2.1).trans (rg_end _ _ 1 0 [(bl.length : Int)])).mono (by omega), by rw [endB_len]; omega⟩
          · exact ⟨(g1.trans g2.1).mono (by omega), by omega⟩
        · split
          · have l1 : (endB (bl ++ List.replicate arms.length Blk.nil) cur 3 a ((List.range arms.length).map fun (i : Nat) => (bl.length : Int) + (i : Int))).length = bl.length + arms.length := by rw [endB_len]; simp
            have g1 := (rg_rep bl arms.length).trans (rg_end _ cur 3 a ((List.range arms.length).map fun (i : Nat) => (bl.length : Int) + (i : Int)))
            have g2 := rP_grow arms bl.length _ (Nat.le_of_eq l1.symm)
            have g4 := rg_join (rP arms bl.length (endB (bl ++ List.replicate arms.length Blk.nil) cur 3 a ((List.range arms.length).map fun (i : Nat) => (bl.length : Int) + (i : Int)))).1 (rP arms bl.length (endB (bl ++ List.replicate arms.length Blk.nil) cur 3 a ((List.range arms.length).map fun (i : Nat) => (bl.length : Int) + (i : Int)))).2
            refine ⟨((g1.trans g2).trans g4.1).mono ?_, g4.2⟩
            have := szP_len arms
            omega
          · split
            · exact ⟨(rg_end bl cur 4 a []).mono (by omega), by simp only; omega⟩
            · exact ⟨(rg_end bl cur 5 0 []).mono (by omega), by simp only; omega⟩
theorem rL_grow : ∀ (l : List Nd) (bl : List Blk) (cur : Int), cur < bl.length → RG bl (rL l bl cur).2 (4 * szL l) ∧ (rL l bl cur).1 < (rL l bl cur).2.length
  | [], bl, cur, h => by rw [rL, szL]; exact ⟨RG.refl, h⟩
  | n :: l, bl, cur, h => by
    rw [rL, szL]
    split
    · rename_i hc
      have g1 := rN_grow n bl cur.toNat (by omega)
      have g2 := rL_grow l _ _ g1.2
      exact ⟨(g1.1.trans g2.1).mono (by omega), g2.2⟩
    · exact ⟨RG.refl.mono (by omega), h⟩
theorem rP_grow : ∀ (ps : List (List Nd)) (f : Nat) (bl : List Blk), f + ps.length ≤ bl.length → RG bl (rP ps f bl).2 (4 * szP ps - 4 * ps.length)
  | [], f, bl, _ => by rw [rP]; exact RG.refl.mono (by simp)
  | p :: ps, f, bl, hf => by
    rw [rP, szP]
    simp only [List.length_cons] at hf ⊢
    have g1 := rL_grow p bl (f : Int) (by omega)
    have h1 := g1.1.le
    have g2 := rP_grow ps (f + 1) (rL p bl (f : Int)).2 (by omega)
    refine (g1.1.trans g2).mono ?_
    have := szP_len ps
    omega
end

end Go.Low

/- Chapter 10: of. -/
set_option linter.unusedSimpArgs false
set_option linter.unusedVariables false
set_option maxHeartbeats 4000000
set_option maxRecDepth 100000
namespace Go.Proofs.Ytdheeecpkkjfiaa
open Go.Am Go.Proofs Go.Low
attribute [local irreducible] AW CallP CallB

theorem of_call : ACall Try.prog 28 [] (fun _ => none) 0 0 (fun r hp' => r = .ptr 0 0 ∧ hp' = lowHp (hsL mdL) 2 [Blk.nil] 0) (fun _ _ => False) := by
  refine ACall.of_body' Try.func28 isf28 rfl (by simp [Try.f28]) fun E Q hE hN hQ hQp => K_start ?_
  repeat' (first | refine K_seq ?_ | refine K_blk ?_ | refine AW_skip ?_ | refine AW_exit ?_ | refine Kq_exit_code ?_ | refine Kq_exit_lp ?_ | refine Kq_exit_blk ?_ | refine Kq_exit_ne (by decide) ?_ | refine Kq_norm_code ?_ | refine Kq_norm_blk ?_ | refine Kq_norm_lp ?_ | rw [wrap64 (by omega) (by omega)] | (refine hK _ ?_; clear hK hKp K Kp; (try clear hanc anc)) | (refine hKp _ _ ?_; clear hK hKp K Kp; (try clear hanc anc)) | ((with_reducible refine And.intro ?_ ?_); (focus (first | trivial | omega | (simp only [Fits]; omega) | (refine ⟨?_, ?_⟩ <;> (simp only [Fits]; omega)) | assumption | (rw [hanc]; rfl)))) | ((first | refine K_regA hE fun K Kp hK hKp => ?_ | refine K_drwA true mixed hE fun K Kp hK hKp anc hanc => ?_ | refine K_drwA false mixed hE fun K Kp hK hKp anc hanc => ?_); simp only [go_sem, ↓reduceIte, reduceCtorEq, Nat.reduceAdd, Nat.reduceMul, Nat.reduceEqDiff, Nat.reduceLT, Nat.reduceLeDiff, Nat.reduceSub, Nat.reduceDiv, Nat.reducePow, Nat.reduceBEq, Int.reduceBEq, Int.reduceBNe, Int.reduceLT, Int.reduceLE, Int.reduceEq]) | ((first | refine onG_split_t (fun hg => ?_) (fun hg => ?_) | refine onG_split_f (fun hg => ?_) (fun hg => ?_)) <;> simp only [go_sem, ↓reduceIte, reduceCtorEq, Nat.reduceAdd, Nat.reduceMul, Nat.reduceEqDiff, Nat.reduceLT, Nat.reduceLeDiff, Nat.reduceSub, Nat.reduceDiv, Nat.reducePow, Nat.reduceBEq, Int.reduceBEq, Int.reduceBNe, Int.reduceLT, Int.reduceLE, Int.reduceEq, hg]) | (refine K_condA (fun hc => ?_) (fun hc => ?_) <;> try (exact absurd hc (by decide))))
  refine K_ret ?_
  refine (hQ _ ⟨.ptr 0 0, fun i => if i = 0 then 11534336 else if i = 1 then 2097152 else 1048576, _, 3, resA_tmp (by simp only [go_sem, ↓reduceIte, reduceCtorEq, Nat.reduceAdd, Nat.reduceMul, Nat.reduceEqDiff, Nat.reduceLT, Nat.reduceLeDiff, Nat.reduceSub, Nat.reduceDiv, Nat.reducePow, Nat.reduceBEq, Int.reduceBEq, Int.reduceBNe, Int.reduceLT, Int.reduceLE, Int.reduceEq]), (show 0 < 3 by decide), ?_, rfl, rfl⟩).1
  refine ent_out0 (Nat.le_refl 2) mdL_ok (by simp) (by omega) (by decide) (by decide) (by decide) (by simp only [go_sem, ↓reduceIte, reduceCtorEq, Nat.reduceAdd, Nat.reduceMul, Nat.reduceEqDiff, Nat.reduceLT, Nat.reduceLeDiff, Nat.reduceSub, Nat.reduceDiv, Nat.reducePow, Nat.reduceBEq, Int.reduceBEq, Int.reduceBNe, Int.reduceLT, Int.reduceLE, Int.reduceEq]) (fun ob h => ?_) (by simp only [go_sem, ↓reduceIte, reduceCtorEq, Nat.reduceAdd, Nat.reduceMul, Nat.reduceEqDiff, Nat.reduceLT, Nat.reduceLeDiff, Nat.reduceSub, Nat.reduceDiv, Nat.reducePow, Nat.reduceBEq, Int.reduceBEq, Int.reduceBNe, Int.reduceLT, Int.reduceLE, Int.reduceEq]; rfl)
  cases h
  simp only [go_sem, ↓reduceIte, reduceCtorEq, Nat.reduceAdd, Nat.reduceMul, Nat.reduceEqDiff, Nat.reduceLT, Nat.reduceLeDiff, Nat.reduceSub, Nat.reduceDiv, Nat.reducePow, Nat.reduceBEq, Int.reduceBEq, Int.reduceBNe, Int.reduceLT, Int.reduceLE, Int.reduceEq]
  rfl
end Go.Proofs.Ytdheeecpkkjfiaa


/- Chapter 10: what the small functions of the reference and of the laws compute, in plain Lean. -/
namespace Go.Low
open Go Go.Am

mutual
def sizeN (n : Nd) (left : Int) : Int :=
  match n with
  | .mk _ _ x t e arms => sizeP arms (sizeL e (sizeL t (left - 1 - x.args.length - arms.length)))
def sizeL (l : List Nd) (left : Int) : Int :=
  match l with
  | [] => left
  | n :: l => if 0 < left then sizeL l (sizeN n left) else left
def sizeP (ps : List (List Nd)) (left : Int) : Int :=
  match ps with
  | [] => left
  | p :: ps => if 0 < left then sizeP ps (sizeL p left) else left
end

mutual
def formedN (n : Nd) (d : Int) : Bool :=
  match n with
  | .mk k _ _ t e arms => !(decide (d < 1) || decide (k < 1) || decide (6 < k) || (k == 4 && decide (arms = []))) && formedL t (d - 1) && formedL e (d - 1) && formedP arms (d - 1)
def formedL (l : List Nd) (d : Int) : Bool :=
  match l with
  | [] => true
  | n :: l => formedN n d && formedL l d
def formedP (ps : List (List Nd)) (d : Int) : Bool :=
  match ps with
  | [] => true
  | p :: ps => formedL p d && formedP ps d
end

mutual
def leftN (n : Nd) : Bool :=
  match n with
  | .mk k _ _ t e arms => !(k == 5 || k == 6 || (k == 2 && !leftL t && !leftL e)) && (k != 4 || leftP arms)
def leftL (l : List Nd) : Bool :=
  match l with
  | [] => true
  | n :: l => leftN n && leftL l
def leftP (ps : List (List Nd)) : Bool :=
  match ps with
  | [] => false
  | p :: ps => leftL p || leftP ps
end

mutual
def waysN (n : Nd) : Bool :=
  match n with
  | .mk k _ _ t e arms => k == 1 || k == 3 || (k == 2 && (waysL t || waysL e)) || (k == 4 && waysP arms)
def waysL (l : List Nd) : Bool :=
  match l with
  | [] => true
  | n :: l => waysN n && waysL l
def waysP (ps : List (List Nd)) : Bool :=
  match ps with
  | [] => false
  | p :: ps => waysL p || waysP ps
end

mutual
def loopsN (n : Nd) : Nat :=
  match n with
  | .mk k _ _ t e arms => (if k = 3 then 1 else 0) + loopsL t + loopsL e + loopsP arms
def loopsL (l : List Nd) : Nat :=
  match l with
  | [] => 0
  | n :: l => loopsN n + loopsL l
def loopsP (ps : List (List Nd)) : Nat :=
  match ps with
  | [] => 0
  | p :: ps => loopsL p + loopsP ps
end

mutual
def flatN (n : Nd) : List Ins :=
  match n with
  | .mk k _ x t e arms => if k = 1 then [x] else if k = 2 then flatL t ++ flatL e else if k = 3 then flatL t else if k = 4 then flatP arms else []
def flatL (l : List Nd) : List Ins :=
  match l with
  | [] => []
  | n :: l => flatN n ++ if leftN n then flatL l else []
def flatP (ps : List (List Nd)) : List Ins :=
  match ps with
  | [] => []
  | p :: ps => flatL p ++ flatP ps
end

theorem sizeN_eq (n : Nd) (left : Int) : sizeN n left = sizeP n.arms (sizeL n.els (sizeL n.thn (left - 1 - n.ins.args.length - n.arms.length))) := by cases n; rw [sizeN]; rfl
theorem formedN_eq (n : Nd) (d : Int) : formedN n d = (!(decide (d < 1) || decide (n.kind < 1) || decide (6 < n.kind) || (n.kind == 4 && decide (n.arms = []))) && formedL n.thn (d - 1) && formedL n.els (d - 1) && formedP n.arms (d - 1)) := by cases n; rw [formedN]; rfl
theorem leftN_eq (n : Nd) : leftN n = (!(n.kind == 5 || n.kind == 6 || (n.kind == 2 && !leftL n.thn && !leftL n.els)) && (n.kind != 4 || leftP n.arms)) := by cases n; rw [leftN]; rfl
theorem waysN_eq (n : Nd) : waysN n = (n.kind == 1 || n.kind == 3 || (n.kind == 2 && (waysL n.thn || waysL n.els)) || (n.kind == 4 && waysP n.arms)) := by cases n; rw [waysN]; rfl
theorem loopsN_eq (n : Nd) : loopsN n = (if n.kind = 3 then 1 else 0) + loopsL n.thn + loopsL n.els + loopsP n.arms := by cases n; rw [loopsN]; rfl
theorem flatN_eq (n : Nd) : flatN n = (if n.kind = 1 then [n.ins] else if n.kind = 2 then flatL n.thn ++ flatL n.els else if n.kind = 3 then flatL n.thn else if n.kind = 4 then flatP n.arms else []) := by cases n; rw [flatN]; rfl

mutual
theorem sizeN_ge : ∀ (n : Nd) (left : Int), left - n.sz ≤ sizeN n left ∧ sizeN n left < left
  | .mk k a x t e arms, left => by
    rw [sizeN, Nd.sz]
    have h1 := sizeL_ge t (left - 1 - x.args.length - arms.length)
    have h2 := sizeL_ge e (sizeL t (left - 1 - x.args.length - arms.length))
    have h3 := sizeP_ge arms (sizeL e (sizeL t (left - 1 - x.args.length - arms.length)))
    have h4 : x.args.length + 1 ≤ x.sz := by unfold Ins.sz; omega
    omega
theorem sizeL_ge : ∀ (l : List Nd) (left : Int), left - Nd.szL l ≤ sizeL l left ∧ sizeL l left ≤ left
  | [], left => by rw [sizeL, Nd.szL]; omega
  | n :: l, left => by
    rw [sizeL, Nd.szL]
    have h1 := sizeN_ge n left
    have h2 := sizeL_ge l (sizeN n left)
    split <;> omega
theorem sizeP_ge : ∀ (l : List (List Nd)) (left : Int), left - (Nd.szLL l - l.length) ≤ sizeP l left ∧ sizeP l left ≤ left
  | [], left => by rw [sizeP, Nd.szLL]; simp
  | p :: l, left => by
    rw [sizeP, Nd.szLL]
    have h1 := sizeL_ge p left
    have h2 := sizeP_ge l (sizeL p left)
    have h3 := Nd.lenL_le l
    simp only [List.length_cons]
    split <;> omega
end

mutual
theorem loopsN_le : ∀ n : Nd, loopsN n ≤ n.sz
  | .mk k a x t e arms => by
    rw [loopsN, Nd.sz]
    have h1 := loopsL_le t
    have h2 := loopsL_le e
    have h3 := loopsP_le arms
    split <;> omega
theorem loopsL_le : ∀ l : List Nd, loopsL l ≤ Nd.szL l
  | [] => by rw [loopsL]; omega
  | n :: l => by
    rw [loopsL, Nd.szL]
    have h1 := loopsN_le n
    have h2 := loopsL_le l
    omega
theorem loopsP_le : ∀ l : List (List Nd), loopsP l ≤ Nd.szLL l
  | [] => by rw [loopsP]; omega
  | p :: l => by
    rw [loopsP, Nd.szLL]
    have h1 := loopsL_le p
    have h2 := loopsP_le l
    omega
end

end Go.Low

/- The abstract machine: a drawn region by a tree of all its orders. -/
set_option linter.unusedVariables false
set_option linter.unusedSimpArgs false
namespace Go.Am
open Go
variable {P : Program} {E : En} {σ : St} {Q : AEx → St → Prop}

inductive Tr where
  | nil
  | leaf
  | alt (i : Nat) (sub rest : Tr)

def Tr.find : Tr → Nat → Option Tr
  | .alt i s r, j => if i = j then some s else r.find j
  | _, _ => none
def Tr.isLeaf : Tr → Bool
  | .leaf => true
  | _ => false

def okT : Nat → Tr → List (Oper × Nat) → Bool
  | 0, T, r => r.isEmpty && T.isLeaf
  | n + 1, T, r => if r.isEmpty then T.isLeaf else (readyR r).all fun p => match T.find p.2 with
    | some s => okT n s (r.filter fun q => q.2 != p.2)
    | none => false

def goTr (P : Program) (ds : List (Option Nat)) (ops : List Oper) (K : St → Prop) (Kp : AV → St → Prop) : Tr → St → Prop
  | .leaf, σ => K σ
  | .nil, _ => True
  | .alt i s r, σ => (match ops[i]? with | some o => goG P true none ds i o σ (fun σ' => goTr P ds ops K Kp s σ') Kp | none => False) ∧ goTr P ds ops K Kp r σ

theorem goTr_find {ds : List (Option Nat)} {ops : List Oper} {K : St → Prop} {Kp : AV → St → Prop} : ∀ {T s : Tr} {j : Nat}, goTr P ds ops K Kp T σ → T.find j = some s →
    ∃ o, ops[j]? = some o ∧ goG P true none ds j o σ (fun σ' => goTr P ds ops K Kp s σ') Kp
  | .leaf, _, _, _, h => by cases h
  | .nil, _, _, _, h => by cases h
  | .alt i s r, s', j, hg, h => by
    simp only [Tr.find] at h
    simp only [goTr] at hg
    split at h
    · rename_i e
      subst e
      cases h
      cases ho : ops[i]? with
      | none => simp [ho] at hg
      | some o => simp only [ho] at hg; exact ⟨o, rfl, hg.1⟩
    · exact goTr_find hg.2 h

theorem goG_monoB {bar : Bool} {bs : Option (List Nat)} {ds : List (Option Nat)} {k : Nat} {o : Oper} {K K' : St → Prop} {Kp : AV → St → Prop} (h : ∀ σ, K σ → K' σ) : goG P bar bs ds k o σ K Kp → goG P bar bs ds k o σ K' Kp := by
  intro hg
  unfold goG at hg ⊢
  split at hg
  · refine ⟨hg.1, ?_⟩
    have hx := hg.2
    unfold goX at hx ⊢
    split at hx
    · split at hx
      · split at hx
        · rename_i hb
          rw [if_pos hb]
          refine ⟨hx.1, fun E ρ V Z a w args g1 g2 g3 g4 g5 => (hx.2 E ρ V Z a w args g1 g2 g3 g4 g5).mono ?_⟩
          rintro e w' ⟨ρ', V', Z', k1, k2, k3⟩
          refine ⟨ρ', V', Z', k1, k2, k3.imp ?_ (fun h => h)⟩
          rintro ⟨v, σ', h1, h2, h3, h4⟩
          exact ⟨v, σ', h1, h2, h _ h3, h4⟩
        · rename_i hb
          rw [if_neg hb]
          obtain ⟨h1, r, h2, h3, h4⟩ := hx
          exact ⟨h1, r, h2, h3, h _ h4⟩
      · exact hx.elim
    · exact hx
    · exact hx
    · split at hx
      · exact ⟨hx.1, h _ hx.2⟩
      · exact hx.elim
  · exact h _ hg
  · exact hg.elim

theorem goTr_all {ds : List (Option Nat)} {ops : List Oper} {K : St → Prop} {Kp : AV → St → Prop} : ∀ (n : Nat) (T : Tr) (r : List (Oper × Nat)) (σ : St), (∀ p, p ∈ r → ops[p.2]? = some p.1) → okT n T r = true → goTr P ds ops K Kp T σ → goAll P ds n r σ K Kp
  | 0, T, r, σ, hr, hT, h => by
    simp only [okT, Bool.and_eq_true, List.isEmpty_iff] at hT
    refine ⟨hT.1, ?_⟩
    cases T with
    | leaf => exact h
    | nil => cases hT.2
    | alt i s r => cases hT.2
  | n + 1, T, r, σ, hr, hT, h => by
    rw [goAll]
    rw [okT] at hT
    split
    · rename_i e
      subst e
      simp only [List.isEmpty_nil, if_true] at hT
      cases T with
      | leaf => exact h
      | nil => cases hT
      | alt i s r => cases hT
    · rename_i e
      have e2 : r.isEmpty = false := by cases r with | nil => exact absurd rfl e | cons => rfl
      rw [e2] at hT
      simp only [Bool.false_eq_true, if_false, List.all_eq_true] at hT
      intro p hp
      have h1 := hT p hp
      cases hs : T.find p.2 with
      | none => simp [hs] at h1
      | some s =>
        simp only [hs] at h1
        obtain ⟨o, ho, hg⟩ := goTr_find h hs
        have hpr : p ∈ r := by unfold readyR at hp; exact (List.mem_filter.1 hp).1
        have := hr p hpr
        rw [ho] at this
        cases this
        exact goG_monoB (fun σ' h' => goTr_all n s _ σ' (fun q hq => hr q (List.mem_filter.1 hq).1) h1 h') hg

theorem K_all {id : Nat} {l : List Oper} {fs : List Fm} {n : Nat} {ds : List (Option Nat)} {fr : Nat → Option AV} {hp : Nat → Option AObj} {nx : Nat} (T : Tr) (hm : P.follows .mixedOrders = true) (hd : dstOk E.nt l.toArray = true) (hback : okBack l.toArray = true) (hT : okT l.length T l.zipIdx = true)
    (hn : l.length = n) (hds : l.map (·.dst) = ds)
    (h : ∀ (K : St → Prop) (Kp : AV → St → Prop), (∀ σ', Kq P E fs Q .norm σ' → K σ') → (∀ x σ', Q (.pan x) σ' → Kp x σ') → goTr P ds l (fun σ' => K { σ' with nx := nx + 1048576 * n }) Kp T ⟨fr, hp, nx⟩) : AW P E (.region id l.toArray true) (Kq P E fs Q) ⟨fr, hp, nx⟩ := by
  subst hn
  subst hds
  refine AW_drawAll hm hd hback ?_
  have hg := h (fun σ' => Kq P E fs Q .norm σ') (fun x σ' => Kq P E fs Q (.pan x) σ') (fun _ h => h) (fun x σ' h => Kq_pan h)
  exact goTr_all _ T _ _ (fun p hp => by
    obtain ⟨o, i⟩ := p
    have := List.mem_zipIdx hp
    simp only at this ⊢
    obtain ⟨_, h2, h3⟩ := this
    simp only [Nat.zero_add, Nat.sub_zero] at h2 h3
    rw [h3]; simp [h2]) hT hg

@[go_sem] theorem goTr_leaf {ds : List (Option Nat)} {ops : List Oper} {K : St → Prop} {Kp : AV → St → Prop} : goTr P ds ops K Kp .leaf σ = K σ := _root_.id rfl
theorem goTr_alt {ds : List (Option Nat)} {ops : List Oper} {K : St → Prop} {Kp : AV → St → Prop} {i : Nat} {s r : Tr} {o : Oper} (ho : ops[i]? = some o) (h1 : goG P true none ds i o σ (fun σ' => goTr P ds ops K Kp s σ') Kp) (h2 : goTr P ds ops K Kp r σ) : goTr P ds ops K Kp (.alt i s r) σ := by
  simp only [goTr, ho]
  exact ⟨h1, h2⟩
theorem goTr_one {ds : List (Option Nat)} {ops : List Oper} {K : St → Prop} {Kp : AV → St → Prop} {i : Nat} {s : Tr} {o : Oper} (ho : ops[i]? = some o) (h1 : goG P true none ds i o σ (fun σ' => goTr P ds ops K Kp s σ') Kp) : goTr P ds ops K Kp (.alt i s .nil) σ :=
  goTr_alt ho h1 trivial
end Go.Am

/- The abstract machine: values with rows in rows, given up and only read from then on. -/
set_option linter.unusedVariables false
set_option linter.unusedSimpArgs false
namespace Go.Am
open Go
variable {P : Program} {E : En} {ρ : Nat → Ref} {V : Nat → Prop} {Z : Nat → Nat → Prop} {σ : St} {a : Act} {w : World}

/-- A value with the rows of F as slices, at all depths up to n. -/
def AV.dsn (F : Nat → Option AObj) : Nat → AV → AV
  | 0, a => a
  | n + 1, .rw id => match F id with | some (.row _ l) => .sl (l.map (AV.dsn F n)) | _ => .rw id
  | _ + 1, .nilsl => .sl []
  | n + 1, .agg l => .agg (l.map (AV.dsn F n))
  | n + 1, .tup l => .tup (l.map (AV.dsn F n))
  | _ + 1, a => a

def AV.dsnOk (F : Nat → Option AObj) : Nat → AV → Prop
  | 0, _ => True
  | n + 1, .rw id => match F id with | some (.row _ l) => ∀ e, e ∈ l → AV.dsnOk F n e ∧ (e.dsn F n).cells.all AV.clo = true | _ => True
  | n + 1, .agg l => ∀ e, e ∈ l → AV.dsnOk F n e
  | n + 1, .tup l => ∀ e, e ∈ l → AV.dsnOk F n e
  | _ + 1, _ => True

theorem dsn_one (F : Nat → Option AObj) (n : Nat) (x : AV) : (x.dsn F n).one = x.one := by
  cases n with
  | zero => rfl
  | succ n => cases x <;> simp only [AV.dsn] <;> first | rfl | (split <;> rfl)

theorem dsn_isTup (F : Nat → Option AObj) (n : Nat) (x : AV) : (x.dsn F n).isTup = x.isTup := by
  cases n with
  | zero => rfl
  | succ n => cases x <;> simp only [AV.dsn] <;> first | rfl | (split <;> rfl)

theorem getD_mem {l : List AV} {i : Nat} (hi : i < l.length) : l.getD i default ∈ l := by
  have : l.getD i default = l[i] := by simp [List.getD_eq_getElem?_getD, hi]
  rw [this]; exact List.getElem_mem hi
theorem getD_map {f : AV → AV} {l : List AV} {i : Nat} (hi : i < l.length) : (l.map f).getD i default = f (l.getD i default) := by
  simp [List.getD_eq_getElem?_getD, hi]

theorem dsn_cells (F : Nat → Option AObj) (n : Nat) (x : AV) : (x.dsn F n).cells.length = x.cells.length ∧ ∀ j, j < x.cells.length → ∃ m, m ≤ n ∧ (x.dsn F n).cells.getD j default = (x.cells.getD j default).dsn F m ∧ (x.dsnOk F n → (x.cells.getD j default).dsnOk F m) := by
  cases n with
  | zero => exact ⟨rfl, fun j _ => ⟨0, Nat.le_refl _, rfl, fun _ => trivial⟩⟩
  | succ n =>
    by_cases hx : ∃ l, x = .agg l
    · obtain ⟨l, rfl⟩ := hx
      simp only [AV.dsn, AV.cells, List.length_map, true_and]
      intro j hj
      exact ⟨n, Nat.le_succ n, getD_map hj, fun h => h _ (getD_mem hj)⟩
    · have h' : ∀ l, x ≠ .agg l := fun l e => hx ⟨l, e⟩
      have e1 : x.cells = [x] := by cases x <;> first | rfl | exact absurd rfl (h' _)
      have e2 : (x.dsn F (n + 1)).cells = [x.dsn F (n + 1)] := by
        cases x <;> first | rfl | exact absurd rfl (h' _) | (simp only [AV.dsn]; split <;> rfl)
      rw [e1, e2]
      refine ⟨rfl, fun j hj => ?_⟩
      obtain rfl : j = 0 := by simpa using hj
      exact ⟨n + 1, Nat.le_refl _, rfl, fun h => h⟩

theorem dsn_rel {F : Nat → Option AObj} (hs : HSat ρ V Z w F) (n : Nat) : ∀ {v : Value} {x : AV}, Rel ρ V Z w v x → x.dsnOk F n → Rel ρ V (ZR ρ Z ⟨fun _ => none, F, 0⟩) w v (x.dsn F n) := by
  have hm : ∀ {v x}, Rel ρ V Z w v x → Rel ρ V (ZR ρ Z ⟨fun _ => none, F, 0⟩) w v x := fun h => h.mono (fun _ _ => rfl) (fun _ h => h) (fun _ _ h => .inl h) (fun _ _ _ => rfl)
  induction n using Nat.strongRecOn with
  | _ n ih =>
    cases n with
    | zero => intro v x h _; exact hm h
    | succ n =>
      intro v x h hx
      cases x with
      | rw id =>
        obtain ⟨hv, hV⟩ := h.rw_inv
        simp only [AV.dsnOk] at hx
        simp only [AV.dsn]
        cases ho : F id with
        | none => exact hm h
        | some o =>
          cases o with
          | cells l => exact hm h
          | map es => exact hm h
          | row sz l =>
            simp only [ho] at hx ⊢
            rw [hv]
            rcases (hs.obj id _ ho).2.row_cells' with ⟨h0, rfl⟩ | ⟨h0, cs, ty, h1, h2, h3, h4, h5⟩
            · simp only [Ref.slice, h0, if_true, List.map_nil]; exact .sl0 _ _
            · simp only [Ref.slice, h0, Bool.false_eq_true, if_false, h2]
              have hlen : (l.map (AV.dsn F n)).length = l.length := List.length_map ..
              rw [← hlen]
              have hg : ∀ i, i < l.length → (l.map (AV.dsn F n)).getD i default = (l.getD i default).dsn F n := fun i hi => getD_map hi
              refine .sl (ρ id).blk 0 (ρ id).cap sz _ (fun i j => cs.getD (i * sz + j) undef) (by rw [hlen]; exact h3) (fun i hi => ?_) (fun i j hi hj => ?_) (fun i j hi hj => ?_)
              · rw [hlen] at hi
                rw [hg i hi, (dsn_cells F n _).1]; exact h5.1 i hi
              · rw [hlen] at hi
                have h6 : i * sz + j < cs.size := by
                  have := row_idx hi hj
                  have := Nat.mul_le_mul_right sz h3
                  omega
                have hjl : j < (l.getD i default).cells.length := by rw [h5.1 i hi]; exact hj
                obtain ⟨m, hm1, hm2, _⟩ := (dsn_cells F n (l.getD i default)).2 j hjl
                refine ⟨?_, .inr ⟨id, _, ho, h0, rfl⟩, ?_, ?_⟩
                · simp [World.cell?, h1, Array.getD, h6]
                · rw [hg i hi, hm2, dsn_one]; exact (h5.2 i j hi hj).1
                · rw [hg i hi]
                  have hall := (hx _ (getD_mem hi)).2
                  rw [List.all_eq_true] at hall
                  exact hall _ (getD_mem (by rw [(dsn_cells F n _).1]; exact hjl))
              · rw [hlen] at hi
                have hjl : j < (l.getD i default).cells.length := by rw [h5.1 i hi]; exact hj
                obtain ⟨m, hm1, hm2, hm3⟩ := (dsn_cells F n (l.getD i default)).2 j hjl
                rw [hg i hi, hm2]
                exact ih m (by omega) (by simpa using (h5.2 i j hi hj).2) (hm3 (hx _ (getD_mem hi)).1)
      | nilsl => rw [h.nilsl_inv]; exact .sl0 _ _
      | agg l =>
        obtain ⟨cs, rfl, h1, h2, h3⟩ := h.agg_inv
        simp only [AV.dsnOk] at hx
        simp only [AV.dsn]
        refine .agg _ _ (by rw [List.length_map]; exact h1) (fun i hi => ?_) (fun i hi => ?_)
        · rw [List.length_map] at hi; rw [getD_map hi, dsn_one]; exact h2 i hi
        · rw [List.length_map] at hi; rw [getD_map hi]; exact ih n (Nat.lt_succ_self n) (h3 i hi) (hx _ (getD_mem hi))
      | tup l =>
        obtain ⟨cs, rfl, h1, h3⟩ := h.tup_inv
        simp only [AV.dsnOk] at hx
        simp only [AV.dsn]
        refine .tup _ _ (by rw [List.length_map]; exact h1) (fun i hi => ?_)
        rw [List.length_map] at hi; rw [getD_map hi]; exact ih n (Nat.lt_succ_self n) (h3 i hi) (hx _ (getD_mem hi))
      | _ => exact hm h

def Dsn (F : Nat → Option AObj) (x x' : AV) : Prop := x' = x ∨ ∃ n, x.dsnOk F n ∧ x' = x.dsn F n

theorem Dsn.rel {F : Nat → Option AObj} (hF : HSat ρ V Z w F) {v : Value} {x x' : AV} (h : Rel ρ V Z w v x) (hx : Dsn F x x') : Rel ρ V (ZR ρ Z ⟨fun _ => none, F, 0⟩) w v x' := by
  rcases hx with rfl | ⟨n, h1, rfl⟩
  · exact h.mono (fun _ _ => rfl) (fun _ h => h) (fun _ _ h => .inl h) (fun _ _ _ => rfl)
  · exact dsn_rel hF n h h1

theorem Sat.dfr (h : Sat E ρ V Z σ a w) {F : Nat → Option AObj} (hF : ∀ id o, F id = some o → σ.hp id = some o) {σ' : St}
    (hfr : ∀ t x', σ'.fr t = some x' → ∃ x, σ.fr t = some x ∧ Dsn F x x') (hhp : ∀ id o', σ'.hp id = some o' → F id = none ∧ σ.hp id = some o') : Sat E ρ V (ZR ρ Z ⟨fun _ => none, F, 0⟩) σ' a w := by
  have g := h.frz (F := F) hF (σ' := ⟨fun _ => none, σ'.hp, σ'.nx⟩) (fun t x' hx => by cases hx) (fun id o' ho => ⟨(hhp id o' ho).1, o', (hhp id o' ho).2, SnpO.refl _⟩)
  exact ⟨g.nt, g.df, fun t x' hx => by
    obtain ⟨x, h1, h2⟩ := hfr t x' hx
    exact h2.rel (h.hs.sub hF) (h.fr t x h1), g.hs, g.ext, g.ownd, g.z0, g.zn, g.pn⟩

theorem AW.dfr {c : Code} {Q : AEx → St → Prop} {σ' : St} (F : Nat → Option AObj) (hF : ∀ id o, F id = some o → σ.hp id = some o)
    (hfr : ∀ t x', σ'.fr t = some x' → ∃ x, σ.fr t = some x ∧ Dsn F x x') (hhp : ∀ id o', σ'.hp id = some o' → F id = none ∧ σ.hp id = some o') (hnx : σ'.nx = σ.nx) (h : AW P E c Q σ') : AW P E c Q σ :=
  fun ρ V Z a w hs hV => h _ _ _ a w (hs.dfr hF hfr hhp) (fun id hid => by rw [hnx]; exact hV id hid)

/-- The objects of F are given up ahead of a call. -/
theorem CallB.dfr {g : FuncId} {us : List AV} {k : Nat} {d : Option Nat} {K : St → Prop} {Kp : AV → St → Prop} (F : Nat → Option AObj) (n : Nat) (hp' : Nat → Option AObj) (hF : ∀ id o, F id = some o → σ.hp id = some o)
    (hhp : ∀ id o', hp' id = some o' → F id = none ∧ σ.hp id = some o') (hok : ∀ x, x ∈ us → x.dsnOk F n) (h : CallB P g (us.map (AV.dsn F n)) ⟨σ.fr, hp', σ.nx⟩ k d K Kp) : CallB P g us σ k d K Kp := by
  refine ⟨h.1, fun E ρ V Z a w args hs hV hd hsz hrel => ?_⟩
  have hs' := hs.dfr (F := F) hF (σ' := ⟨σ.fr, hp', σ.nx⟩) (fun t x' hx => ⟨x', hx, .inl rfl⟩) hhp
  exact h.2 E ρ V _ a w args hs' hV hd (by rw [List.length_map]; exact hsz) (fun i hi => by
    rw [List.length_map] at hi
    rw [getD_map hi]
    exact dsn_rel (hs.hs.sub hF) n (hrel i hi) (hok _ (getD_mem hi)))

/-- Those of some objects. -/
def onlyIn (L : List Nat) (h : Nat → Option AObj) (id : Nat) : Option AObj := if id ∈ L then h id else none
def notIn (L : List Nat) (h : Nat → Option AObj) (id : Nat) : Option AObj := if id ∈ L then none else h id

/-- A pure call, ahead of which some objects are given up. -/
theorem CallB.dfrL {g : FuncId} {us us' : List AV} {k : Nat} {d : Option Nat} {K : St → Prop} {Kp : AV → St → Prop} (L : List Nat) (n : Nat) (he : us.map (AV.dsn (onlyIn L σ.hp) n) = us') (hok : ∀ x, x ∈ us → x.dsnOk (onlyIn L σ.hp) n)
    (h : CallB P g us' ⟨σ.fr, notIn L σ.hp, σ.nx⟩ k d K Kp) : CallB P g us σ k d K Kp := by
  subst he
  refine CallB.dfr (onlyIn L σ.hp) n (notIn L σ.hp) (fun id o ho => ?_) (fun id o ho => ?_) hok h
  · unfold onlyIn at ho; split at ho
    · exact ho
    · cases ho
  · unfold notIn at ho; split at ho
    · cases ho
    · rename_i hn; exact ⟨if_neg hn, ho⟩

theorem AW.dfrL {c : Code} {Q : AEx → St → Prop} (L : List Nat) (n : Nat) (fr : List (Nat × AV)) (hfr : ∀ p, p ∈ fr → ∃ x, σ.fr p.1 = some x ∧ x.dsnOk (onlyIn L σ.hp) n ∧ x.dsn (onlyIn L σ.hp) n = p.2)
    (h : AW P E c Q ⟨mkFr fr, notIn L σ.hp, σ.nx⟩) : AW P E c Q σ := by
  have hmem : ∀ {fr : List (Nat × AV)} {t : Nat} {x : AV}, mkFr fr t = some x → (t, x) ∈ fr := by
    intro fr
    induction fr with
    | nil => intro t x h; cases h
    | cons p fr ih =>
      intro t x h
      obtain ⟨t', x'⟩ := p
      simp only [mkFr, upd] at h
      split at h
      · rename_i e; cases h; simp [e]
      · exact List.mem_cons_of_mem _ (ih h)
  refine AW.dfr (σ' := ⟨mkFr fr, notIn L σ.hp, σ.nx⟩) (onlyIn L σ.hp) (fun id o ho => ?_) (fun t x' hx => ?_) (fun id o ho => ?_) rfl h
  · unfold onlyIn at ho; split at ho
    · exact ho
    · cases ho
  · obtain ⟨x, h1, h2, h3⟩ := hfr _ (hmem hx)
    exact ⟨x, h1, .inr ⟨n, h2, h3.symm⟩⟩
  · simp only [notIn] at ho; split at ho
    · cases ho
    · rename_i hn; exact ⟨if_neg hn, ho⟩

section
variable {F : Nat → Option AObj} {n : Nat}
def dsnR (F : Nat → Option AObj) (n : Nat) (id : Nat) : Option AObj → AV
  | some (.row _ l) => .sl (l.map (AV.dsn F n))
  | _ => .rw id
def dsnRok (F : Nat → Option AObj) (n : Nat) : Option AObj → Prop
  | some (.row _ l) => ∀ e, e ∈ l → AV.dsnOk F n e ∧ (e.dsn F n).cells.all AV.clo = true
  | _ => True
@[go_sem] theorem dsn_rw {id : Nat} : AV.dsn F (n + 1) (.rw id) = dsnR F n id (F id) := by
  simp only [AV.dsn, dsnR]
@[go_sem] theorem dsnR_row {id sz : Nat} {l : List AV} : dsnR F n id (some (.row sz l)) = .sl (l.map (AV.dsn F n)) := _root_.id rfl
@[go_sem] theorem dsn_nilsl : AV.dsn F (n + 1) .nilsl = .sl [] := _root_.id rfl
@[go_sem] theorem dsn_agg {l : List AV} : AV.dsn F (n + 1) (.agg l) = .agg (l.map (AV.dsn F n)) := _root_.id rfl
@[go_sem] theorem dsn_tup {l : List AV} : AV.dsn F (n + 1) (.tup l) = .tup (l.map (AV.dsn F n)) := _root_.id rfl
@[go_sem] theorem dsn_int {k : IntKind} {i : Int} : AV.dsn F (n + 1) (.int k i) = .int k i := _root_.id rfl
@[go_sem] theorem dsn_bool {b : Bool} : AV.dsn F (n + 1) (.bool b) = .bool b := _root_.id rfl
@[go_sem] theorem dsn_str {s : ByteArray} : AV.dsn F (n + 1) (.str s) = .str s := _root_.id rfl
@[go_sem] theorem dsn_sl {l : List AV} : AV.dsn F (n + 1) (.sl l) = .sl l := _root_.id rfl
@[go_sem] theorem dsn_nilp : AV.dsn F (n + 1) .nilp = .nilp := _root_.id rfl
@[go_sem] theorem dsn_nilmap : AV.dsn F (n + 1) .nilmap = .nilmap := _root_.id rfl
@[go_sem] theorem dsn_nilif : AV.dsn F (n + 1) .nilif = .nilif := _root_.id rfl
@[go_sem] theorem dsn_nilfn : AV.dsn F (n + 1) .nilfn = .nilfn := _root_.id rfl
@[go_sem] theorem dsnOk_rw {id : Nat} : AV.dsnOk F (n + 1) (.rw id) = dsnRok F n (F id) := by
  simp only [AV.dsnOk, dsnRok]
@[go_sem] theorem dsnRok_row {sz : Nat} {l : List AV} : dsnRok F n (some (.row sz l)) = ∀ e, e ∈ l → AV.dsnOk F n e ∧ (e.dsn F n).cells.all AV.clo = true := _root_.id rfl
@[go_sem] theorem dsnOk_nilsl : AV.dsnOk F (n + 1) .nilsl = True := _root_.id rfl
@[go_sem] theorem dsnOk_agg {l : List AV} : AV.dsnOk F (n + 1) (.agg l) = ∀ e, e ∈ l → AV.dsnOk F n e := _root_.id rfl
@[go_sem] theorem dsnOk_tup {l : List AV} : AV.dsnOk F (n + 1) (.tup l) = ∀ e, e ∈ l → AV.dsnOk F n e := _root_.id rfl
@[go_sem] theorem dsnOk_int {k : IntKind} {i : Int} : AV.dsnOk F (n + 1) (.int k i) = True := _root_.id rfl
@[go_sem] theorem dsnOk_bool {b : Bool} : AV.dsnOk F (n + 1) (.bool b) = True := _root_.id rfl
@[go_sem] theorem dsnOk_str {s : ByteArray} : AV.dsnOk F (n + 1) (.str s) = True := _root_.id rfl
@[go_sem] theorem dsnOk_sl {l : List AV} : AV.dsnOk F (n + 1) (.sl l) = True := _root_.id rfl
@[go_sem] theorem dsnOk_nilp : AV.dsnOk F (n + 1) .nilp = True := _root_.id rfl
@[go_sem] theorem dsnOk_nilmap : AV.dsnOk F (n + 1) .nilmap = True := _root_.id rfl
@[go_sem] theorem dsnOk_nilif : AV.dsnOk F (n + 1) .nilif = True := _root_.id rfl
@[go_sem] theorem dsnOk_nilfn : AV.dsnOk F (n + 1) .nilfn = True := _root_.id rfl
@[go_sem] theorem onlyIn_at {L : List Nat} {h : Nat → Option AObj} {id : Nat} : onlyIn L h id = if id ∈ L then h id else none := _root_.id rfl
@[go_sem] theorem notIn_at {L : List Nat} {h : Nat → Option AObj} {id : Nat} : notIn L h id = if id ∈ L then none else h id := _root_.id rfl
end

theorem resA_cell {σ : St} {t : Nat} {ty : TypeId} {id off : Nat} {T : TI} {l : List AV} {x : AV} (h1 : σ.fr t = some (.ptr id off)) (h2 : ti P ty = some T) (h3 : σ.hp id = some (.cells l)) (h4 : ldA T l off = some x) : resA P [.cell t ty] σ = some x := by
  simp [resA, rvA, h1, h2, h3, h4]

/-- A pure call with some objects given up ahead of it. -/
theorem CallB.dpure {g : FuncId} {us us' : List AV} {r : AV} {k : Nat} {d : Option Nat} {K : St → Prop} {Kp : AV → St → Prop} (L : List Nat) (n : Nat) (h : PCall P g us' r) (he : us.map (AV.dsn (onlyIn L σ.hp) n) = us') (hok : ∀ x, x ∈ us → x.dsnOk (onlyIn L σ.hp) n)
    (hu : ∀ h, AV.snapL h us' = us') (hs : ∀ h, AV.snapOkL h us') (hf : us'.all AV.noRw = true) (hk : K (St.put ⟨σ.fr, notIn L σ.hp, σ.nx⟩ d r)) : CallB P g us σ k d K Kp :=
  CallB.dfrL L n he hok (CallB.of_P ⟨hs _, r, by rw [hu]; exact h, .inr hf, hk⟩)

theorem AW_frz1 {c : Code} {Q : AEx → St → Prop} (t id : Nat) {sz : Nat} {xs : List AV} (hx : σ.fr t = some (.rw id)) (h : σ.hp id = some (.row sz xs)) (hc : CloRow xs) (h2 : AW P E c Q ⟨upd σ.fr t (.sl xs), updo σ.hp id none, σ.nx⟩) : AW P E c Q σ := by
  refine AW.frz (σ' := ⟨upd σ.fr t (.sl xs), updo σ.hp id none, σ.nx⟩) (fun i => if i = id then some (.row sz xs) else none) (fun i o h' => ?_) (fun t' x' h' => ?_) (fun i o' h' => ?_) rfl h2
  · split at h'
    · rename_i e; subst e; cases h'; exact h
    · cases h'
  · simp only [upd] at h'
    split at h'
    · rename_i e
      subst e
      cases h'
      refine ⟨_, hx, .inr ⟨?_, ?_⟩⟩
      · rw [AV.snapOk]; simpa using hc
      · rw [AV.snap]; simp
    · exact ⟨x', h', .inl rfl⟩
  · simp only [updo] at h'
    split at h'
    · cases h'
    · rename_i e; exact ⟨if_neg e, o', h', SnpO.refl _⟩

end Go.Am
