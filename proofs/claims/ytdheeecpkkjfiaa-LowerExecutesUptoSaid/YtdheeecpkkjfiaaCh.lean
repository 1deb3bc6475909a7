/- A part of the proof: an abstract machine for the walks, and what the walked functions compute. -/
import Derived.Test.YtdheeecpkkjfiaaCf
set_option linter.unusedVariables false
set_option linter.unusedSimpArgs false
/- Chapter 10: what the reference's lowering computes, in plain Lean. -/
namespace Go.Low
open Go Go.Am

abbrev Blk.nil : Blk := ⟨[], 0, 0, none⟩
def endB (bl : List Blk) (k : Nat) (kind a : Int) (ts : List Int) : List Blk := bl.modify k fun b => ⟨b.code, kind, a, some ts⟩
def insB (bl : List Blk) (k : Nat) (x : AV) : List Blk := bl.modify k fun b => ⟨b.code ++ [x], b.kind, b.a, b.tg⟩
def rJoin (exits : List Nat) (bl : List Blk) : Int × List Blk :=
  if exits = [] then (-1, bl) else ((bl.length : Int), exits.foldl (fun t b => endB t b 1 0 [((bl.length : Nat) : Int)]) (bl ++ [Blk.nil]))
def exitOf (r : Int) : List Nat := if 0 ≤ r then [r.toNat] else []

mutual
def rN (n : Nd) (bl : List Blk) (cur : Nat) : Int × List Blk :=
  match n with
  | .mk k a x thn els arms =>
    if k = 1 then ((cur : Int), insB bl cur x.av)
    else if k = 2 then
      let r1 := rL thn (endB (bl ++ [Blk.nil] ++ [Blk.nil]) cur 2 a [(bl.length : Int), bl.length + 1]) bl.length
      let r2 := rL els r1.2 ((bl.length : Int) + 1)
      rJoin (exitOf r1.1 ++ exitOf r2.1) r2.2
    else if k = 3 then
      let r := rL thn (endB (endB (bl ++ [Blk.nil] ++ [Blk.nil] ++ [Blk.nil]) cur 1 0 [(bl.length : Int)]) bl.length 2 a [(bl.length : Int) + 1, bl.length + 2]) ((bl.length : Int) + 1)
      ((bl.length : Int) + 2, if 0 ≤ r.1 then endB r.2 r.1.toNat 1 0 [(bl.length : Int)] else r.2)
    else if k = 4 then
      let r := rP arms bl.length (endB (bl ++ List.replicate arms.length Blk.nil) cur 3 a ((List.range arms.length).map fun (i : Nat) => (bl.length : Int) + (i : Int)))
      rJoin r.1 r.2
    else if k = 5 then (-1, endB bl cur 4 a [])
    else (-1, endB bl cur 5 0 [])
def rL (l : List Nd) (bl : List Blk) (cur : Int) : Int × List Blk :=
  match l with
  | [] => (cur, bl)
  | n :: l => if 0 ≤ cur ∧ bl.length ≤ 400 then (let r := rN n bl cur.toNat; rL l r.2 r.1) else (cur, bl)
def rP (ps : List (List Nd)) (f : Nat) (bl : List Blk) : List Nat × List Blk :=
  match ps with
  | [] => ([], bl)
  | p :: ps =>
    let r := rL p bl (f : Int)
    let r2 := rP ps (f + 1) r.2
    (exitOf r.1 ++ r2.1, r2.2)
end

theorem rN_eq (n : Nd) (bl : List Blk) (cur : Nat) : rN n bl cur =
    if n.kind = 1 then ((cur : Int), insB bl cur n.ins.av)
    else if n.kind = 2 then
      let r1 := rL n.thn (endB (bl ++ [Blk.nil] ++ [Blk.nil]) cur 2 n.a [(bl.length : Int), bl.length + 1]) bl.length
      let r2 := rL n.els r1.2 ((bl.length : Int) + 1)
      rJoin (exitOf r1.1 ++ exitOf r2.1) r2.2
    else if n.kind = 3 then
      let r := rL n.thn (endB (endB (bl ++ [Blk.nil] ++ [Blk.nil] ++ [Blk.nil]) cur 1 0 [(bl.length : Int)]) bl.length 2 n.a [(bl.length : Int) + 1, bl.length + 2]) ((bl.length : Int) + 1)
      ((bl.length : Int) + 2, if 0 ≤ r.1 then endB r.2 r.1.toNat 1 0 [(bl.length : Int)] else r.2)
    else if n.kind = 4 then
      let r := rP n.arms bl.length (endB (bl ++ List.replicate n.arms.length Blk.nil) cur 3 n.a ((List.range n.arms.length).map fun (i : Nat) => (bl.length : Int) + (i : Int)))
      rJoin r.1 r.2
    else if n.kind = 5 then (-1, endB bl cur 4 n.a [])
    else (-1, endB bl cur 5 0 []) := by cases n; rw [rN]; rfl

/-- What the reference's lowering and the other one have in common: the same blocks, and the block in which the nodes are left. -/
def sameR (r : Int × List Blk) (s : Bool × LS) : Prop := r.2 = s.2.bl ∧ r.1 = if s.1 then (s.2.cur : Int) else -1

theorem rep2 (bl : List Blk) : bl ++ [Blk.nil] ++ [Blk.nil] = bl ++ List.replicate 2 Blk.nil := by simp [List.replicate]
theorem rep3 (bl : List Blk) : bl ++ [Blk.nil] ++ [Blk.nil] ++ [Blk.nil] = bl ++ List.replicate 3 Blk.nil := by simp [List.replicate]

theorem exitOf_same {r : Int × List Blk} {s : Bool × LS} (h : sameR r s) : exitOf r.1 = if s.1 then [s.2.cur] else [] := by
  rw [h.2]
  cases s.1 <;> simp [exitOf]

theorem joinFold_same (j : Int) : ∀ (es : List Nat) (s : LS), (es.foldl (fun t b => (t.at b).end 1 0 [j]) s).bl = es.foldl (fun t b => endB t b 1 0 [j]) s.bl
  | [], _ => rfl
  | e :: es, s => by rw [List.foldl_cons, List.foldl_cons, joinFold_same j es]; rfl

theorem rJoin_same (es : List Nat) (s : LS) : sameR (rJoin es s.bl) (joinL es s) := by
  unfold rJoin joinL
  split
  · exact ⟨rfl, rfl⟩
  · refine ⟨?_, rfl⟩
    show _ = (es.foldl (fun t b => (t.at b).end 1 0 [((s.bl.length : Nat) : Int)]) (s.add 1)).bl
    rw [joinFold_same]
    rfl

theorem joinL_len (es : List Nat) (s : LS) (h : s.cur < s.bl.length) (he : ∀ b, b ∈ es → b < s.bl.length) : s.bl.length ≤ (joinL es s).2.bl.length := (joinL_grow es s h he).le

/-- From these blocks to those: at most n more blocks, at most n more instructions in each. -/
structure RG (s t : List Blk) (n : Nat) : Prop where
  le : s.length ≤ t.length
  ge : t.length ≤ s.length + n
  code : ∀ c, (∀ b, b ∈ s → b.code.length ≤ c) → ∀ b, b ∈ t → b.code.length ≤ c + n
  ok : OkB s → OkB t
structure PreB (s : List Blk) (n : Nat) : Prop where
  ok : OkB s
  len : s.length + n ≤ 400000
  code : ∀ b, b ∈ s → b.code.length + n ≤ 900000

theorem RG.trans {s t u : List Blk} {n m : Nat} (h : RG s t n) (g : RG t u m) : RG s u (n + m) :=
  ⟨Nat.le_trans h.le g.le, by have := h.ge; have := g.ge; omega, fun c hc b hb => by have := g.code (c + n) (h.code c hc) b hb; omega, fun ho => g.ok (h.ok ho)⟩
theorem RG.mono {s t : List Blk} {n m : Nat} (h : RG s t n) (hm : n ≤ m) : RG s t m :=
  ⟨h.le, by have := h.ge; omega, fun c hc b hb => by have := h.code c hc b hb; omega, h.ok⟩
theorem RG.refl {s : List Blk} : RG s s 0 := ⟨Nat.le_refl _, Nat.le_refl _, fun c hc b hb => hc b hb, fun h => h⟩
theorem PreB.grow {s t : List Blk} {n m k : Nat} (h : PreB s n) (g : RG s t k) (hk : k + m ≤ n) : PreB t m :=
  ⟨g.ok h.ok, by have := g.ge; have := h.len; omega, fun b hb => by
    have := g.code (900000 - n) (fun b hb => by have := h.code b hb; omega) b hb
    have h3 : n ≤ 900000 := by have := h.len; omega
    omega⟩
theorem PreB.mono {s : List Blk} {n m : Nat} (h : PreB s n) (hm : m ≤ n) : PreB s m :=
  ⟨h.ok, by have := h.len; omega, fun b hb => by have := h.code b hb; omega⟩
theorem PreB.len5 {s : List Blk} {n : Nat} (h : PreB s n) : s.length ≤ 500000 := by have := h.len; omega
theorem PreB.len51 {s : List Blk} {n : Nat} (h : PreB s n) : s.length + 1 ≤ 500000 := by have := h.len; omega

theorem endB_len (bl : List Blk) (k : Nat) (kind a : Int) (ts : List Int) : (endB bl k kind a ts).length = bl.length := by simp [endB]
theorem insB_len (bl : List Blk) (k : Nat) (x : AV) : (insB bl k x).length = bl.length := by simp [insB]
theorem rg_rep (bl : List Blk) (n : Nat) : RG bl (bl ++ List.replicate n Blk.nil) n := by
  refine ⟨by simp, by simp, fun c hc b hb => ?_, fun ho b hb x hx => ?_⟩
  · rcases List.mem_append.1 hb with hb | hb
    · have := hc b hb; omega
    · obtain rfl := (List.mem_replicate.1 hb).2; simp
  · rcases List.mem_append.1 hb with hb | hb
    · exact ho b hb x hx
    · obtain rfl := (List.mem_replicate.1 hb).2; cases hx
theorem rg_nil (bl : List Blk) : RG bl (bl ++ [Blk.nil]) 1 := rg_rep bl 1
theorem rg_end (bl : List Blk) (k : Nat) (kind a : Int) (ts : List Int) : RG bl (endB bl k kind a ts) 0 := by
  refine ⟨by simp [endB], by simp [endB], fun c hc b hb => ?_, fun ho b hb x hx => ?_⟩
  · rcases mem_modify hb with hb | ⟨a, ha, rfl⟩
    · exact hc b hb
    · exact hc a ha
  · rcases mem_modify hb with hb | ⟨a, ha, rfl⟩
    · exact ho b hb x hx
    · exact ho a ha x hx
theorem rg_ins (bl : List Blk) (k : Nat) {x : AV} (hx : x.clo = true) : RG bl (insB bl k x) 1 := by
  refine ⟨by simp [insB], by simp [insB], fun c hc b hb => ?_, fun ho b hb y hy => ?_⟩
  · rcases mem_modify hb with hb | ⟨a, ha, rfl⟩
    · have := hc b hb; omega
    · have := hc a ha; simp only [List.length_append, List.length_cons, List.length_nil]; omega
  · rcases mem_modify hb with hb | ⟨a, ha, rfl⟩
    · exact ho b hb y hy
    · rcases List.mem_append.1 hy with hy | hy
      · exact ho a ha y hy
      · obtain rfl := List.mem_singleton.1 hy; exact hx
theorem rg_fold (j : Int) : ∀ (es : List Nat) (bl : List Blk), RG bl (es.foldl (fun t b => endB t b 1 0 [j]) bl) 0
  | [], _ => RG.refl
  | e :: es, bl => (rg_end bl e 1 0 [j]).trans (rg_fold j es _)
theorem rg_join (es : List Nat) (bl : List Blk) : RG bl (rJoin es bl).2 1 ∧ (rJoin es bl).1 < (rJoin es bl).2.length := by
  unfold rJoin
  split
  · exact ⟨RG.refl.mono (by omega), by simp only; omega⟩
  · have g := (rg_nil bl).trans (rg_fold (bl.length : Int) es _)
    refine ⟨g, ?_⟩
    have := (rg_fold (bl.length : Int) es (bl ++ [Blk.nil])).le
    simp only [List.length_append, List.length_cons, List.length_nil] at this ⊢
    omega

mutual
theorem rN_grow : ∀ (n : Nd) (bl : List Blk) (cur : Nat), cur < bl.length → RG bl (rN n bl cur).2 (4 * szN n) ∧ (rN n bl cur).1 < (rN n bl cur).2.length
  | .mk k a x t e arms, bl, cur, h => by
    rw [rN, szN]
    split
    · exact ⟨(rg_ins bl cur x.av_clo).mono (by omega), by simp only [insB_len]; omega⟩
    · split
      · have l1 : (endB (bl ++ [Blk.nil] ++ [Blk.nil]) cur 2 a [(bl.length : Int), bl.length + 1]).length = bl.length + 2 := by rw [endB_len]; simp
        have g1 := ((rg_nil bl).trans (rg_nil _)).trans (rg_end (bl ++ [Blk.nil] ++ [Blk.nil]) cur 2 a [(bl.length : Int), bl.length + 1])
        have g2 := rL_grow t _ (bl.length : Int) (by rw [l1]; omega)
        have := g2.1.le
        have g3 := rL_grow e (rL t (endB (bl ++ [Blk.nil] ++ [Blk.nil]) cur 2 a [(bl.length : Int), bl.length + 1]) bl.length).2 ((bl.length : Int) + 1) (by omega)
        have g4 := rg_join (exitOf (rL t (endB (bl ++ [Blk.nil] ++ [Blk.nil]) cur 2 a [(bl.length : Int), bl.length + 1]) bl.length).1 ++ exitOf (rL e (rL t (endB (bl ++ [Blk.nil] ++ [Blk.nil]) cur 2 a [(bl.length : Int), bl.length + 1]) bl.length).2 ((bl.length : Int) + 1)).1) (rL e (rL t (endB (bl ++ [Blk.nil] ++ [Blk.nil]) cur 2 a [(bl.length : Int), bl.length + 1]) bl.length).2 ((bl.length : Int) + 1)).2
        exact ⟨(((g1.trans g2.1).trans g3.1).trans g4.1).mono (by omega), g4.2⟩
      · split
        · have l1 : (endB (endB (bl ++ [Blk.nil] ++ [Blk.nil] ++ [Blk.nil]) cur 1 0 [(bl.length : Int)]) bl.length 2 a [(bl.length : Int) + 1, bl.length + 2]).length = bl.length + 3 := by rw [endB_len, endB_len]; simp
          have g1 := ((((rg_nil bl).trans (rg_nil _)).trans (rg_nil _)).trans (rg_end (bl ++ [Blk.nil] ++ [Blk.nil] ++ [Blk.nil]) cur 1 0 [(bl.length : Int)])).trans (rg_end _ bl.length 2 a [(bl.length : Int) + 1, bl.length + 2])
          have g2 := rL_grow t _ ((bl.length : Int) + 1) (by rw [l1]; omega)
          have := g2.1.le
          simp only
          split
          · exact ⟨((g1.trans g2.1).trans (rg_end _ _ 1 0 [(bl.length : Int)])).mono (by omega), by rw [endB_len]; omega⟩
          · exact ⟨(g1.trans g2.1).mono (by omega), by omega⟩
        · split
          · have l1 : (endB (bl ++ List.replicate arms.length Blk.nil) cur 3 a ((List.range arms.length).map fun (i : Nat) => (bl.length : Int) + (i : Int))).length = bl.length + arms.length := by rw [endB_len]; simp
            have g1 := (rg_rep bl arms.length).trans (rg_end _ cur 3 a ((List.range arms.length).map fun (i : Nat) => (bl.length : Int) + (i : Int)))
            have g2 := rP_grow arms bl.length _ (Nat.le_of_eq l1.symm)
            have g4 := rg_join (rP arms bl.length (endB (bl ++ List.replicate arms.length Blk.nil) cur 3 a ((List.range arms.length).map fun (i : Nat) => (bl.length : Int) + (i : Int)))).1 (rP arms bl.length (endB (bl ++ List.replicate arms.length Blk.nil) cur 3 a ((List.range arms.length).map fun (i : Nat) => (bl.length : Int) + (i : Int)))).2
            refine ⟨((g1.trans g2).trans g4.1).mono ?_, g4.2⟩
            have := szP_len arms
            omega
          · split
            · exact ⟨(rg_end bl cur 4 a []).mono (by omega), by simp only; omega⟩
            · exact ⟨(rg_end bl cur 5 0 []).mono (by omega), by simp only; omega⟩
theorem rL_grow : ∀ (l : List Nd) (bl : List Blk) (cur : Int), cur < bl.length → RG bl (rL l bl cur).2 (4 * szL l) ∧ (rL l bl cur).1 < (rL l bl cur).2.length
  | [], bl, cur, h => by rw [rL, szL]; exact ⟨RG.refl, h⟩
  | n :: l, bl, cur, h => by
    rw [rL, szL]
    split
    · rename_i hc
      have g1 := rN_grow n bl cur.toNat (by omega)
      have g2 := rL_grow l _ _ g1.2
      exact ⟨(g1.1.trans g2.1).mono (by omega), g2.2⟩
    · exact ⟨RG.refl.mono (by omega), h⟩
theorem rP_grow : ∀ (ps : List (List Nd)) (f : Nat) (bl : List Blk), f + ps.length ≤ bl.length → RG bl (rP ps f bl).2 (4 * szP ps - 4 * ps.length)
  | [], f, bl, _ => by rw [rP]; exact RG.refl.mono (by simp)
  | p :: ps, f, bl, hf => by
    rw [rP, szP]
    simp only [List.length_cons] at hf ⊢
    have g1 := rL_grow p bl (f : Int) (by omega)
    have h1 := g1.1.le
    have g2 := rP_grow ps (f + 1) (rL p bl (f : Int)).2 (by omega)
    refine (g1.1.trans g2).mono ?_
    have := szP_len ps
    omega
end

theorem at_bl (s : LS) (k : Nat) : (s.at k).bl = s.bl := rfl
end Go.Low
