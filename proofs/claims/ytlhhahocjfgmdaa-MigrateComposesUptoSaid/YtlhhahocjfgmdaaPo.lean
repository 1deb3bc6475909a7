/- A part of the proof: an abstract machine for the walks, and what the walked functions compute. -/
import Derived.Test.YtlhhahocjfgmdaaPn
set_option linter.unusedVariables false
set_option linter.unusedSimpArgs false
set_option linter.unusedSimpArgs false
set_option linter.unusedVariables false
set_option maxHeartbeats 4000000
set_option maxRecDepth 100000
namespace Go.Proofs.Ytlhhahocjfgmdaa
open Nat (reduceAdd reduceMul reduceEqDiff reduceLT reduceLeDiff reduceSub reduceDiv)
open Int (reduceBNe reduceLE reduceEq)
open Go.Am Go.Proofs Go.Hv Go.Mv
open Classical
attribute [local irreducible] AW CallP CallB CallY
theorem snp_vl : ∀ (l : List (Int × Int)) (i : Nat), i < (l.map fun p => (AV.agg [.i p.1, .i 0, .i 0, .i p.2, .nilsl, .bool false, .nilsl, .nilsl])).length → Snp (fun _ => none) ((l.map fun p => (AV.agg [.i p.1, .i 0, .i 0, .i p.2, .nilsl, .bool false, .nilsl, .nilsl])).getD i default) ((Vl.avL (l.map fun p => Vl.mk p.1 0 0 p.2 [] false [] [])).getD i default)
 | [], i, h => absurd h (Nat.not_lt_zero _)
 | p :: l, 0, _ => .inr ⟨by simp [AV.snapOk, AV.snapOkL], rfl⟩
 | p :: l, i + 1, h => snp_vl l i (by simpa using h)
theorem head_call : PCall Try.prog 6 [] (.bool true) := by
 refine PCall.intro Try.func6 rfl isf6 (by simp [Try.f6]) (by simp [AV.cloL, AV.clo]) fun E Q hE hN hQ => K_start ?_
 repeat' (first | apply nx | refine Kq_exit_ne (by decide) ?_ | rw [wrap64 (by omega) (by omega)] | ((first | refine hK _ ?_ | refine hKp _ _ ?_); clear hK hKp K Kp; try clear hanc anc) | ((with_reducible refine And.intro ?_ ?_); (focus (first | trivial | omega | (simp only [Fits]; omega) | assumption | (rw [hanc]; rfl)))) | ((fail_if_success refine K_stop 2 ?_); (first | refine K_regA hE fun K Kp hK hKp => ?_ | refine K_drwA true mixed hE fun K Kp hK hKp anc hanc => ?_ | refine K_drwA false mixed hE fun K Kp hK hKp anc hanc => ?_); simp only [go_sem]) | ((first | refine onG_split_t (fun hg => ?_) (fun hg => ?_) | refine onG_split_f (fun hg => ?_) (fun hg => ?_)) <;> simp only [go_sem, hg]) | (refine K_condA (fun hc => ?_) (fun hc => ?_) <;> try (exact absurd hc (by decide))))
 refine AW.dfrL [1048576, 2097152, 3145728, 5242880, 6291456, 7340032, 9437184] 8 [(0, .bool false), (1, .sl (mgl (exM [1, 0, -8])))] ?_ ?_
 ·intro p hp
  simp only [List.mem_cons, List.not_mem_nil, or_false] at hp
  rcases hp with rfl | rfl
  ·exact ⟨.bool false, by simp only [go_sem], trivial, rfl⟩
  ·exact ⟨.rw 9437184, by simp only [go_sem], by simp [go_sem, AV.cells, AV.clo], by simp [go_sem]; rfl⟩
 refine AW.ent (σ' := mkSt [(0, .bool false), (1, .sl (mgl (exM [1, 0, -8])))] [] 0) (fun i => i) (by refine ent_mk (by simp [go_sem]) (by simp [go_sem]) (by simp) (by simp [hN])) ?_
 have hs1 : (exM [1, 0, -8])[1]? = some exS := rfl
 repeat' (first | apply nx | refine Kq_exit_ne (by decide) ?_ | rw [wrap64 (by omega) (by omega)] | ((first | refine hK _ ?_ | refine hKp _ _ ?_); clear hK hKp K Kp; try clear hanc anc) | ((with_reducible refine And.intro ?_ ?_); (focus (first | trivial | omega | (simp only [Fits]; omega) | assumption | (rw [hanc]; rfl)))) | ((fail_if_success refine K_stop 3 ?_); (first | refine K_regA hE fun K Kp hK hKp => ?_ | refine K_drwA true mixed hE fun K Kp hK hKp anc hanc => ?_ | refine K_drwA false mixed hE fun K Kp hK hKp anc hanc => ?_); simp only [go_sem, hs1, Mg.av, Mg.cs_eq]) | ((first | refine onG_split_t (fun hg => ?_) (fun hg => ?_) | refine onG_split_f (fun hg => ?_) (fun hg => ?_)) <;> simp only [go_sem, hs1, Mg.av, Mg.cs_eq, hg]) | (refine K_condA (fun hc => ?_) (fun hc => ?_) <;> try (exact absurd hc (by decide))))
 refine AW.dfrL [0, 1048576, 2097152, 7340032] 8 [(0, .bool false), (1, .sl (mgl (exM [1, 0, -8]))), (2, .sl (mgl (exM [1, -1, -1])))] ?_ ?_
 ·intro p hp
  simp only [List.mem_cons, List.not_mem_nil, or_false] at hp
  rcases hp with rfl | rfl | rfl
  ·exact ⟨.bool false, by simp only [go_sem], trivial, rfl⟩
  ·exact ⟨.sl (mgl (exM [1, 0, -8])), by simp only [go_sem], trivial, rfl⟩
  ·exact ⟨.rw 7340032, by simp only [go_sem], by simp [go_sem, AV.cells, AV.clo], by simp [go_sem]; rfl⟩
 refine AW.ent (σ' := mkSt [(0, .bool false), (1, .sl (mgl (exM [1, 0, -8]))), (2, .sl (mgl (exM [1, -1, -1])))] [] 0) (fun i => i) (by refine ent_mk (by simp [go_sem]) (by simp [go_sem]) (by simp) (by simp [hN])) ?_
 repeat' (first | apply nx | refine Kq_exit_ne (by decide) ?_ | rw [wrap64 (by omega) (by omega)] | ((first | refine hK _ ?_ | refine hKp _ _ ?_); clear hK hKp K Kp; try clear hanc anc) | ((with_reducible refine And.intro ?_ ?_); (focus (first | trivial | omega | (simp only [Fits]; omega) | assumption | (rw [hanc]; rfl)))) | ((fail_if_success refine K_stop 4 ?_); (first | refine K_regA hE fun K Kp hK hKp => ?_ | refine K_drwA true mixed hE fun K Kp hK hKp anc hanc => ?_ | refine K_drwA false mixed hE fun K Kp hK hKp anc hanc => ?_); simp only [go_sem, hs1, Mg.av, Mg.cs_eq]) | ((first | refine onG_split_t (fun hg => ?_) (fun hg => ?_) | refine onG_split_f (fun hg => ?_) (fun hg => ?_)) <;> simp only [go_sem, hs1, Mg.av, Mg.cs_eq, hg]) | (refine K_condA (fun hc => ?_) (fun hc => ?_) <;> try (exact absurd hc (by decide))))
 refine AW.dfrL [0, 1048576, 2097152, 7340032] 8 [(0, .bool false), (1, .sl (mgl (exM [1, 0, -8]))), (2, .sl (mgl (exM [1, -1, -1]))), (3, .sl (mgl (exM [0, 1, -8])))] ?_ ?_
 ·intro p hp
  simp only [List.mem_cons, List.not_mem_nil, or_false] at hp
  rcases hp with rfl | rfl | rfl | rfl
  ·exact ⟨.bool false, by simp only [go_sem], trivial, rfl⟩
  ·exact ⟨.sl (mgl (exM [1, 0, -8])), by simp only [go_sem], trivial, rfl⟩
  ·exact ⟨.sl (mgl (exM [1, -1, -1])), by simp only [go_sem], trivial, rfl⟩
  ·exact ⟨.rw 7340032, by simp only [go_sem], by simp [go_sem, AV.cells, AV.clo], by simp [go_sem]; rfl⟩
 refine AW.ent (σ' := mkSt [(0, .bool false), (1, .sl (mgl (exM [1, 0, -8]))), (2, .sl (mgl (exM [1, -1, -1]))), (3, .sl (mgl (exM [0, 1, -8])))] [] 0) (fun i => i) (by refine ent_mk (by simp [go_sem]) (by simp [go_sem]) (by simp) (by simp [hN])) ?_
 repeat' (first | apply nx | refine Kq_exit_ne (by decide) ?_ | rw [wrap64 (by omega) (by omega)] | ((first | refine hK _ ?_ | refine hKp _ _ ?_); clear hK hKp K Kp; try clear hanc anc) | ((with_reducible refine And.intro ?_ ?_); (focus (first | trivial | omega | (simp only [Fits]; omega) | assumption | (rw [hanc]; rfl)))) | ((fail_if_success refine K_stop 5 ?_); (first | refine K_regA hE fun K Kp hK hKp => ?_ | refine K_drwA true mixed hE fun K Kp hK hKp anc hanc => ?_ | refine K_drwA false mixed hE fun K Kp hK hKp anc hanc => ?_); simp only [go_sem]) | ((first | refine onG_split_t (fun hg => ?_) (fun hg => ?_) | refine onG_split_f (fun hg => ?_) (fun hg => ?_)) <;> simp only [go_sem, hg]) | (refine K_condA (fun hc => ?_) (fun hc => ?_) <;> try (exact absurd hc (by decide))))
 refine AW.ent (σ' := mkSt [(0, .bool false), (1, .sl (mgl (exM [1, 0, -8]))), (2, .sl (mgl (exM [1, -1, -1]))), (3, .sl (mgl (exM [0, 1, -8]))), (4, .ptr 0 0)] [(0, .cells [.i 2, .i 0, .i 0, .i 0, .rw 1, .bool false, .nilsl, .nilsl]), (1, .row 8 [(.agg [.i 1, .i 0, .i 0, .i 5, .nilsl, .bool false, .nilsl, .nilsl]), (.agg [.i 3, .i 0, .i 0, .i 2, .nilsl, .bool false, .nilsl, .nilsl])])] 2) (fun i => if i = 0 then 4194304 else 2097152) (by refine ent_mk (by simp [go_sem]) (by simp [go_sem]) (by simp) (by simp [hN])) ?_
 refine AW.wk (Wk.snpRow 1 (sz := 8) (l := [(.agg [.i 1, .i 0, .i 0, .i 5, .nilsl, .bool false, .nilsl, .nilsl]), (.agg [.i 3, .i 0, .i 0, .i 2, .nilsl, .bool false, .nilsl, .nilsl])]) (Vl.avL [iV 5, bV 2]) (by simp only [go_sem]) rfl (fun i hi => snp_vl [(1, 5), (3, 2)] i hi)) ?_
 refine AW_frzCell 0 4 1 (sz := 8) (l := [.i 2, .i 0, .i 0, .i 0, .rw 1, .bool false, .nilsl, .nilsl]) (xs := Vl.avL [iV 5, bV 2]) (by simp only [go_sem]) rfl (by simp only [go_sem]) (by decide) (Vl.clo_avL _) ?_
 refine AW.ent (σ' := mkSt [(0, .bool false), (1, .sl (mgl (exM [1, 0, -8]))), (2, .sl (mgl (exM [1, -1, -1]))), (3, .sl (mgl (exM [0, 1, -8]))), (4, .ptr 0 0)] [(0, .cells [.i 2, .i 0, .i 0, .i 0, .sl (Vl.avL [iV 5, bV 2]), .bool false, .nilsl, .nilsl])] 1) (fun i => i) (by refine ent_mk (by simp [go_sem]) (by simp [go_sem]) (by simp) (by simp [hN])) ?_
 have r1 : PCall Try.prog 11 [.sl (mgl (exM [1, 0, -8])), (.agg [.i 2, .i 0, .i 0, .i 0, .sl (Vl.avL [iV 5, bV 2]), .bool false, .sl [], .sl []])] (.tup [(.agg [.i 2, .i 1, .i 0, .i 0, .sl (Vl.avL [bV 2, iV 5, iV 7]), .bool false, .sl [], .sl []]), .sl []]) := by
  have := value_call (2 ^ 20) exV (exM [1, 0, -8]) (by decide) (by decide) (mb_ex _ (by simp) (by intro j hj; simp at hj; omega))
  rw [f_v1] at this
  exact this
 have r2 : PCall Try.prog 11 [.sl (mgl (exM [1, -1, -1])), (.agg [.i 2, .i 0, .i 0, .i 0, .sl (Vl.avL [iV 5, bV 2]), .bool false, .sl [], .sl []])] (.tup [(.agg [.i 2, .i 1, .i 0, .i 0, .sl (Vl.avL [bV 2, iV 0, iV 0]), .bool false, .sl [], .sl []]), .sl (Vl.avL [iV 5])]) := by
  have := value_call (2 ^ 20) exV (exM [1, -1, -1]) (by decide) (by decide) (mb_ex _ (by simp) (by intro j hj; simp at hj; omega))
  rw [f_v2] at this
  exact this
 have r3 : PCall Try.prog 13 [.sl (ddl oldD), .sl (ddl newD), .sl (mgl (exM [1, 0, -8]))] (.sl (bl [true, true])) := by
  have := changed_call oldD newD (exM [1, 0, -8]) sz_old sz_new (mb_ex _ (by simp) (by intro j hj; simp at hj; omega)).toL (by decide)
  rw [f_c1, if_pos rfl, f_g] at this
  exact this
 repeat' (first | apply nx | refine Kq_exit_ne (by decide) ?_ | rw [wrap64 (by omega) (by omega)] | ((first | refine hK _ ?_ | refine hKp _ _ ?_); clear hK hKp K Kp; try clear hanc anc) | ((with_reducible refine And.intro ?_ ?_); (focus (first | trivial | omega | (simp only [Fits]; omega) | assumption | (rw [hanc]; rfl)))) | ((fail_if_success refine K_stop 8 ?_); (first | refine K_regA hE fun K Kp hK hKp => ?_ | refine K_drwA true mixed hE fun K Kp hK hKp anc hanc => ?_ | refine K_drwA false mixed hE fun K Kp hK hKp anc hanc => ?_ | ((first | apply CallP_mk | apply CallB_mk); (focus (simp only [go_sem] <;> rfl)); (focus (first | exact r1 | exact r2 | exact r3 | exact old_call | exact new_call)); (focus (first | (simp [go_sem]; done) | (simp [go_sem, CloRow, AV.cells, AV.clo]; done))); (focus (first | exact .inl rfl | (right; simp [go_sem]))))); simp only [go_sem]) | ((first | refine onG_split_t (fun hg => ?_) (fun hg => ?_) | refine onG_split_f (fun hg => ?_) (fun hg => ?_)) <;> simp only [go_sem, hg]) | (refine K_condA (fun hc => ?_) (fun hc => ?_) <;> try (exact absurd hc (by decide))))
 refine AW.ent (σ' := mkSt [(0, .bool false), (1, .sl (mgl (exM [1, 0, -8]))), (2, .sl (mgl (exM [1, -1, -1]))), (3, .sl (mgl (exM [0, 1, -8]))), (5, .ptr 0 0), (6, .sl []), (7, .ptr 1 0), (8, .sl (Vl.avL [iV 5])), (9, .sl (bl [true, true]))] [(0, .cells [.i 2, .i 1, .i 0, .i 0, .sl (Vl.avL [bV 2, iV 5, iV 7]), .bool false, .sl [], .sl []]), (1, .cells [.i 2, .i 1, .i 0, .i 0, .sl (Vl.avL [bV 2, iV 0, iV 0]), .bool false, .sl [], .sl []])] 2) (fun i => if i = 0 then 6291457 else 15728641) (by refine ent_mk (by simp [go_sem]) (by simp [go_sem]) (by simp) (by simp [hN])) ?_
 repeat' (first | apply nx | refine Kq_exit_ne (by decide) ?_ | rw [wrap64 (by omega) (by omega)] | ((first | refine hK _ ?_ | refine hKp _ _ ?_); clear hK hKp K Kp; try clear hanc anc) | ((with_reducible refine And.intro ?_ ?_); (focus (first | trivial | omega | (simp only [Fits]; omega) | assumption | (rw [hanc]; rfl)))) | ((fail_if_success refine K_stop 9 ?_); (first | refine K_regA hE fun K Kp hK hKp => ?_ | refine K_drwA true mixed hE fun K Kp hK hKp anc hanc => ?_ | refine K_drwA false mixed hE fun K Kp hK hKp anc hanc => ?_); simp only [go_sem]) | ((first | refine onG_split_t (fun hg => ?_) (fun hg => ?_) | refine onG_split_f (fun hg => ?_) (fun hg => ?_)) <;> simp only [go_sem, hg]) | (refine K_condA (fun hc => ?_) (fun hc => ?_) <;> try (exact absurd hc (by decide))))
 refine AW.ent (σ' := mkSt [(0, .bool false), (1, .sl (mgl (exM [1, 0, -8]))), (2, .sl (mgl (exM [1, -1, -1]))), (3, .sl (mgl (exM [0, 1, -8]))), (5, .ptr 0 0), (6, .sl []), (7, .ptr 1 0), (8, .sl (Vl.avL [iV 5])), (9, .sl (bl [true, true])), (10, .ptr 2 0)] [(0, .cells [.i 2, .i 1, .i 0, .i 0, .sl (Vl.avL [bV 2, iV 5, iV 7]), .bool false, .sl [], .sl []]), (1, .cells [.i 2, .i 1, .i 0, .i 0, .sl (Vl.avL [bV 2, iV 0, iV 0]), .bool false, .sl [], .sl []]), (2, .cells [.i 2, .i 1, .i 0, .i 0, .rw 3, .bool false, .nilsl, .nilsl]), (3, .row 8 [(.agg [.i 3, .i 0, .i 0, .i 2, .nilsl, .bool false, .nilsl, .nilsl]), (.agg [.i 1, .i 0, .i 0, .i 5, .nilsl, .bool false, .nilsl, .nilsl]), (.agg [.i 1, .i 0, .i 0, .i 7, .nilsl, .bool false, .nilsl, .nilsl])])] 4) (fun i => if i = 2 then 5242882 else if i = 3 then 3145730 else i) (by refine ent_mk (by simp [go_sem]) (by simp [go_sem]) (by simp) (by simp [hN])) ?_
 refine AW.wk (Wk.snpRow 3 (sz := 8) (l := [(.agg [.i 3, .i 0, .i 0, .i 2, .nilsl, .bool false, .nilsl, .nilsl]), (.agg [.i 1, .i 0, .i 0, .i 5, .nilsl, .bool false, .nilsl, .nilsl]), (.agg [.i 1, .i 0, .i 0, .i 7, .nilsl, .bool false, .nilsl, .nilsl])]) (Vl.avL [bV 2, iV 5, iV 7]) (by simp only [go_sem]) rfl (fun i hi => snp_vl [(3, 2), (1, 5), (1, 7)] i hi)) ?_
 refine AW_frzCell 2 4 3 (sz := 8) (l := [.i 2, .i 1, .i 0, .i 0, .rw 3, .bool false, .nilsl, .nilsl]) (xs := Vl.avL [bV 2, iV 5, iV 7]) (by simp only [go_sem]) rfl (by simp only [go_sem]) (by decide) (Vl.clo_avL _) ?_
 repeat' (first | apply nx | refine Kq_exit_ne (by decide) ?_ | rw [wrap64 (by omega) (by omega)] | ((first | refine hK _ ?_ | refine hKp _ _ ?_); clear hK hKp K Kp; try clear hanc anc) | ((with_reducible refine And.intro ?_ ?_); (focus (first | trivial | omega | (simp only [Fits]; omega) | assumption | (rw [hanc]; rfl)))) | ((fail_if_success refine K_stop 10 ?_); (first | refine K_regA hE fun K Kp hK hKp => ?_ | refine K_drwA true mixed hE fun K Kp hK hKp anc hanc => ?_ | refine K_drwA false mixed hE fun K Kp hK hKp anc hanc => ?_); simp only [go_sem]) | ((first | refine onG_split_t (fun hg => ?_) (fun hg => ?_) | refine onG_split_f (fun hg => ?_) (fun hg => ?_)) <;> simp only [go_sem, hg]) | (refine K_condA (fun hc => ?_) (fun hc => ?_) <;> try (exact absurd hc (by decide))))
 refine AW.ent (σ' := mkSt [(0, .bool false), (1, .sl (mgl (exM [1, 0, -8]))), (2, .sl (mgl (exM [1, -1, -1]))), (3, .sl (mgl (exM [0, 1, -8]))), (5, .ptr 0 0), (6, .sl []), (7, .ptr 1 0), (8, .sl (Vl.avL [iV 5])), (9, .sl (bl [true, true])), (10, .ptr 2 0), (11, .ptr 3 0)] [(0, .cells [.i 2, .i 1, .i 0, .i 0, .sl (Vl.avL [bV 2, iV 5, iV 7]), .bool false, .sl [], .sl []]), (1, .cells [.i 2, .i 1, .i 0, .i 0, .sl (Vl.avL [bV 2, iV 0, iV 0]), .bool false, .sl [], .sl []]), (2, .cells [.i 2, .i 1, .i 0, .i 0, .sl (Vl.avL [bV 2, iV 5, iV 7]), .bool false, .nilsl, .nilsl]), (3, .cells [.i 2, .i 1, .i 0, .i 0, .rw 4, .bool false, .nilsl, .nilsl]), (4, .row 8 [(.agg [.i 3, .i 0, .i 0, .i 2, .nilsl, .bool false, .nilsl, .nilsl]), (.agg [.i 1, .i 0, .i 0, .i 0, .nilsl, .bool false, .nilsl, .nilsl]), (.agg [.i 1, .i 0, .i 0, .i 0, .nilsl, .bool false, .nilsl, .nilsl])])] 5) (fun i => if i = 3 then 5242884 else if i = 4 then 3145732 else i) (by refine ent_mk (by simp [go_sem]) (by simp [go_sem]) (by simp) (by simp [hN])) ?_
 refine AW.wk (Wk.snpRow 4 (sz := 8) (l := [(.agg [.i 3, .i 0, .i 0, .i 2, .nilsl, .bool false, .nilsl, .nilsl]), (.agg [.i 1, .i 0, .i 0, .i 0, .nilsl, .bool false, .nilsl, .nilsl]), (.agg [.i 1, .i 0, .i 0, .i 0, .nilsl, .bool false, .nilsl, .nilsl])]) (Vl.avL [bV 2, iV 0, iV 0]) (by simp only [go_sem]) rfl (fun i hi => snp_vl [(3, 2), (1, 0), (1, 0)] i hi)) ?_
 refine AW_frzCell 3 4 4 (sz := 8) (l := [.i 2, .i 1, .i 0, .i 0, .rw 4, .bool false, .nilsl, .nilsl]) (xs := Vl.avL [bV 2, iV 0, iV 0]) (by simp only [go_sem]) rfl (by simp only [go_sem]) (by decide) (Vl.clo_avL _) ?_
 refine AW.ent (σ' := mkSt [(0, .bool false), (1, .sl (mgl (exM [1, 0, -8]))), (3, .sl (mgl (exM [0, 1, -8]))), (5, .ptr 0 0), (6, .sl []), (7, .ptr 1 0), (8, .sl (Vl.avL [iV 5])), (9, .sl (bl [true, true])), (10, .ptr 2 0), (11, .ptr 3 0)] [(0, .cells [.i 2, .i 1, .i 0, .i 0, .sl (Vl.avL [bV 2, iV 5, iV 7]), .bool false, .sl [], .sl []]), (1, .cells [.i 2, .i 1, .i 0, .i 0, .sl (Vl.avL [bV 2, iV 0, iV 0]), .bool false, .sl [], .sl []]), (2, .cells [.i 2, .i 1, .i 0, .i 0, .sl (Vl.avL [bV 2, iV 5, iV 7]), .bool false, .nilsl, .nilsl]), (3, .cells [.i 2, .i 1, .i 0, .i 0, .sl (Vl.avL [bV 2, iV 0, iV 0]), .bool false, .nilsl, .nilsl])] 4) (fun i => i) (by refine ent_mk (by simp [go_sem]) (by simp [go_sem]) (by simp) (by simp [hN])) ?_
 have c1 : PCall Try.prog 8 [.sl (ddl oldD), .sl (ddl newD), .sl (mgl (exM [1, 0, -8]))] (.i 0) := by
  have := check_call oldD newD (exM [1, 0, -8]) sz_old sz_new (mb_ex _ (by simp) (by intro j hj; simp at hj; omega)).toL
  rw [f_c1] at this
  exact this
 have c2 : PCall Try.prog 8 [.sl (ddl oldD), .sl (ddl newD), .sl (mgl (exM [0, 1, -8]))] (.i 8) := by
  have := check_call oldD newD (exM [0, 1, -8]) sz_old sz_new (mb_ex _ (by simp) (by intro j hj; simp at hj; omega)).toL
  rw [f_c2] at this
  exact this
 have c3 : PCall Try.prog 8 [.sl (ddl oldD), .sl (ddl newD), .sl ((mgl (exM [1, 0, -8])).take 1)] (.i 1) := by
  have := check_call oldD newD [⟨1, [0], [[1, 0, -8]]⟩] sz_old sz_new mb_ex1.toL
  rw [f_c3] at this
  exact this
 have s1 : PCall Try.prog 15 [(.agg [.i 2, .i 1, .i 0, .i 0, .sl (Vl.avL [bV 2, iV 5, iV 7]), .bool false, .sl [], .sl []]), (.agg [.i 2, .i 1, .i 0, .i 0, .sl (Vl.avL [bV 2, iV 5, iV 7]), .bool false, .sl [], .sl []])] (.bool true) := by
  have := sameV_call (2 ^ 40) exW exW (by decide) (Nat.le_refl _)
  rw [decide_eq_true rfl] at this
  exact this
 have s2 : PCall Try.prog 15 [(.agg [.i 2, .i 1, .i 0, .i 0, .sl (Vl.avL [bV 2, iV 0, iV 0]), .bool false, .sl [], .sl []]), (.agg [.i 2, .i 1, .i 0, .i 0, .sl (Vl.avL [bV 2, iV 0, iV 0]), .bool false, .sl [], .sl []])] (.bool true) := by
  have := sameV_call (2 ^ 40) exZ exZ (by decide) (Nat.le_refl _)
  rw [decide_eq_true rfl] at this
  exact this
 have s3 : PCall Try.prog 15 [(.agg [.i 1, .i 0, .i 0, .i 5, .sl [], .bool false, .sl [], .sl []]), (.agg [.i 1, .i 0, .i 0, .i 5, .sl [], .bool false, .sl [], .sl []])] (.bool true) := by
  have := sameV_call (2 ^ 40) (iV 5) (iV 5) (by decide) (Nat.le_refl _)
  rw [decide_eq_true rfl] at this
  exact this
 have hb0 : ([true, true] : List Bool)[0]? = some true := rfl
 have hb1 : ([true, true] : List Bool)[1]? = some true := rfl
 have hi0 : ([iV 5] : List Vl)[0]? = some (iV 5) := rfl
 have hiv : (iV 5).av = (.agg [.i 1, .i 0, .i 0, .i 5, .sl [], .bool false, .sl [], .sl []]) := rfl
 have hlv : (((([iV 5] : List Vl).length : Nat) : Int) == 1) = true := rfl
 have hlb : (((([true, true] : List Bool).length : Nat) : Int) == 2) = true := rfl
 have hln : (((([] : List AV).length : Nat) : Int) == 0) = true := rfl
 have hsl : 1 ≤ (exM [1, 0, -8]).length ∧ SzOk (mgl (exM [1, 0, -8])) 3 := ⟨by decide, fun y hy => by obtain ⟨z, _, rfl⟩ := List.mem_map.1 hy; rfl⟩
 have d0 := data_call 0
 have d1 := data_call 1
 have x0 : PCall Try.prog 21 [(.agg [.i 2, .i 0, .sl []])] (.agg [.i 3, .i 0, .sl [(.agg [.i 2, .i 0, .sl []])]]) := boxed_call (.mk 2 0 [])
 have x1 : PCall Try.prog 21 [(.agg [.i 2, .i 1, .sl []])] (.agg [.i 3, .i 0, .sl [(.agg [.i 2, .i 1, .sl []])]]) := boxed_call (.mk 2 1 [])
 have ty : PCall Try.prog 12 [.sl (mgl (exM [1, 0, -8])), .agg [.i 3, .i 0, .sl [(.agg [.i 2, .i 0, .sl []])]]] (.agg [.i 3, .i 0, .sl [(.agg [.i 2, .i 1, .sl []])]]) := by
  have := type_call (2 ^ 40) (.mk 3 0 [.mk 2 0 []]) (exM [1, 0, -8]) (by decide) (Nat.le_refl _)
  rw [f_t] at this
  exact this
 have st : PCall Try.prog 18 [.agg [.i 3, .i 0, .sl [(.agg [.i 2, .i 1, .sl []])]], .agg [.i 3, .i 0, .sl [(.agg [.i 2, .i 1, .sl []])]]] (.bool true) := by
  have := sameT_call (2 ^ 40) (.mk 3 0 [.mk 2 1 []]) (.mk 3 0 [.mk 2 1 []]) (by decide) (Nat.le_refl _)
  rw [decide_eq_true rfl] at this
  exact this
 have t1 : PCall Try.prog 14 [.sl (ddl oldD), .sl [.bool true, .bool false], .agg [.i 3, .i 0, .sl [(.agg [.i 2, .i 1, .sl []])]]] (.bool true) := by
  have := touched_call oldD [true, false] (.mk 3 0 [.mk 2 1 []]) sz_old f_d1 rfl rfl (by decide)
  rw [decide_eq_true f_t1] at this
  exact this
 have t2 : PCall Try.prog 14 [.sl (ddl oldD), .sl [.bool false, .bool true], (.agg [.i 2, .i 0, .sl []])] (.bool false) := by
  have := touched_call oldD [false, true] (.mk 2 0 []) sz_old f_d1 rfl rfl (by decide)
  rw [decide_eq_false f_t2] at this
  exact this
 repeat' (first | apply nx | refine Kq_exit_ne (by decide) ?_ | rw [wrap64 (by omega) (by omega)] | ((first | refine hK _ ?_ | refine hKp _ _ ?_); clear hK hKp K Kp; try clear hanc anc) | ((with_reducible refine And.intro ?_ ?_); (focus (first | trivial | omega | (simp only [Fits]; omega) | assumption | (rw [hanc]; rfl)))) | ((first | refine K_regA hE fun K Kp hK hKp => ?_ | refine K_drwA false mixed hE fun K Kp hK hKp anc hanc => ?_ | ((first | apply CallP_mk | apply CallB_mk); (focus (simp only [go_sem] <;> rfl)); (focus (first | exact old_call | exact new_call | exact c1 | exact c2 | exact c3 | exact s1 | exact s2 | exact s3 | exact d0 | exact d1 | exact x0 | exact x1 | exact ty | exact st | exact t1 | exact t2)); (focus (first | (simp [go_sem]; done) | (simp [go_sem, CloRow, AV.cells, AV.clo]; done))); (focus (first | exact .inl rfl | (right; simp [go_sem]))))); simp only [go_sem, hb0, hb1, hi0, hiv, hlv, hlb, hln]) | ((first | refine onG_split_t (fun hg => ?_) (fun hg => ?_) | refine onG_split_f (fun hg => ?_) (fun hg => ?_)) <;> simp only [go_sem, hb0, hb1, hi0, hiv, hlv, hlb, hln, hg]) | (refine K_condA (fun hc => ?_) (fun hc => ?_) <;> try (exact absurd hc (by decide))) | (refine K_ret ?_; refine (hQ _ ⟨_, by (try simp only [go_sem, ↓reduceIte, Nat.reduceEqDiff]); rfl, by simp [go_sem], ?_, by first | rfl | assumption⟩).1))
 all_goals first | rfl | (simp only [AV.snap]; done) | (exfalso; clear hQ; simp at *; done)
end Go.Proofs.Ytlhhahocjfgmdaa
