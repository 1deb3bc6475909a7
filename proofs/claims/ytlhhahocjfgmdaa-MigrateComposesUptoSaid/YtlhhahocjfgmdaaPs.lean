/- A part of the proof: an abstract machine for the walks, and what the walked functions compute. -/
import Derived.Test.YtlhhahocjfgmdaaRows
import Derived.Test.YtlhhahocjfgmdaaMg
import Derived.Test.YtlhhahocjfgmdaaPq
set_option linter.unusedVariables false
set_option linter.unusedSimpArgs false
set_option linter.unusedVariables false
namespace Go.Proofs.Ytlhhahocjfgmdaa
open Go.Am Go.Proofs Go.Hv Go.Mv
variable {H : Type}
mutual
theorem bulk_eq : ∀ d : DataW H, Rows.uptoBulk d = bulk d
 | .lit (.string _) | .lit (.bool _) | .lit (.int _ _) | .lit (.float _ _) | .lit .nil => by simp [Rows.uptoBulk, bulk]
 | .nil => by simp [Rows.uptoBulk, bulk]
 | .ptr d => by simp [Rows.uptoBulk, bulk, bulk_eq d]
 | .slice l r => by simp [Rows.uptoBulk, bulk, bulkL_eq l, bulkL_eq r]
 | .agg l => by simp [Rows.uptoBulk, bulk, bulkL_eq l]
 | .iface _ d => by simp [Rows.uptoBulk, bulk, bulk_eq d]
 | .map l => by simp [Rows.uptoBulk, bulk, bulkE_eq l]
 | .held _ => by simp [Rows.uptoBulk, bulk]
theorem bulkL_eq : ∀ l : List (DataW H), Rows.uptoBulkAll l = bulkL l
 | [] => by simp [Rows.uptoBulkAll, bulkL]
 | d :: l => by simp [Rows.uptoBulkAll, bulkL, bulk_eq d, bulkL_eq l]
theorem bulkE_eq : ∀ l : List (Lit × DataW H), Rows.uptoBulkEntries l = bulkE l
 | [] => by simp [Rows.uptoBulkEntries, bulkE]
 | d :: l => by simp [Rows.uptoBulkEntries, bulkE, bulkP_eq d, bulkE_eq l]
theorem bulkP_eq : ∀ l : Lit × DataW H, Rows.uptoBulkEntry l = bulkP l
 | (.string _, d) | (.bool _, d) | (.int _ _, d) | (.float _ _, d) | (.nil, d) => by simp [Rows.uptoBulkEntry, bulkP, bulk_eq d]
end
theorem opn_int {d : DataW H} (h : DT Try.prog 3 d) : ∃ n : Int, avD d = AV.i n ∧ 1 ≤ bulk d := by
 obtain ⟨n, h1, _⟩ := h.int_inv Try.underlying3
 exact ⟨n, h1, bulk_pos d⟩
theorem opn_il {d : DataW H} (h : DT Try.prog 28 d) : ∃ l : List Int, avD d = .sl (il l) ∧ l.length + 1 ≤ bulk d := by
 obtain ⟨es, h1, h2, h3⟩ := h.slice_inv Try.underlying28
 obtain ⟨l, h4, h5, h6⟩ := list_open (p := fun _ => True) AV.i (fun _ => 1) es fun x hx => opn_int (h2 x hx)
 exact ⟨l, by rw [h1, h4]; rfl, by rw [h6]; have := bulk_len es; omega⟩
theorem opn_ill {d : DataW H} (h : DT Try.prog 48 d) : ∃ l : List (List Int), avD d = .sl (ill l) ∧ (l.map fun r => r.length + 1).sum + 1 ≤ bulk d := by
 obtain ⟨es, h1, h2, h3⟩ := h.slice_inv Try.underlying48
 obtain ⟨l, h4, h5, h6⟩ := list_open (p := fun _ => True) (fun r => AV.sl (il r)) (fun r => r.length + 1) es fun x hx => opn_il (h2 x hx)
 exact ⟨l, by rw [h1, h4]; rfl, by omega⟩
theorem parts2 {p : List (DataW H)} (h : p.length = 2) : ∃ a b, p = [a, b] := by
 match p, h with | [a, b], _ => exact ⟨a, b, rfl⟩
theorem parts3 {p : List (DataW H)} (h : p.length = 3) : ∃ a b c, p = [a, b, c] := by
 match p, h with | [a, b, c], _ => exact ⟨a, b, c, rfl⟩
theorem parts5 {p : List (DataW H)} (h : p.length = 5) : ∃ a b c d e, p = [a, b, c, d, e] := by
 match p, h with | [a, b, c, d, e], _ => exact ⟨a, b, c, d, e, rfl⟩
theorem parts8 {p : List (DataW H)} (h : p.length = 8) : ∃ a b c d e f g i, p = [a, b, c, d, e, f, g, i] := by
 match p, h with | [a, b, c, d, e, f, g, i], _ => exact ⟨a, b, c, d, e, f, g, i, rfl⟩
theorem opn_vl : ∀ (n : Nat) (d : DataW H), bulk d < n → DT Try.prog 30 d → ∃ t : Vl, avD d = t.av ∧ t.sz ≤ bulk d
 | 0, d, hn, _ => absurd hn (Nat.not_lt_zero _)
 | n + 1, d, hn, h => by
  obtain ⟨p, h1, h2, h3, h4⟩ := h.struct_inv Try.underlying30
  obtain ⟨a, b, c, e, f, g, i, j, rfl⟩ := parts8 h2
  obtain ⟨na, ha, _⟩ := opn_int (h3 0 _ a rfl rfl)
  obtain ⟨nb, hb, _⟩ := opn_int (h3 1 _ b rfl rfl)
  obtain ⟨nc, hc, _⟩ := opn_int (h3 2 _ c rfl rfl)
  obtain ⟨ne, he, _⟩ := opn_int (h3 3 _ e rfl rfl)
  obtain ⟨es, g1, g2, g3⟩ := (h3 4 _ f rfl rfl).slice_inv Try.underlying27
  obtain ⟨bo, hg⟩ := (h3 5 _ g rfl rfl).bool_inv Try.underlying4
  obtain ⟨pl, hi, hil⟩ := opn_il (h3 6 _ i rfl rfl)
  obtain ⟨ll, hj, hjl⟩ := opn_il (h3 7 _ j rfl rfl)
  simp only [bulkL] at h4
  obtain ⟨l, h5, h6, h7⟩ := list_open (p := fun _ => True) Vl.av Vl.sz es fun x hx => opn_vl n x (by have := bulk_mem hx; omega) (g2 x hx)
  refine ⟨.mk na nb nc ne l bo pl ll, ?_, ?_⟩
  ·rw [h1]
   simp only [avDC, ha, hb, hc, he, g1, h5, hg, hi, hj, AV.cells, Vl.av, Vl.avL_eq]
   rfl
  ·rw [Vl.sz, Vl.szL_eq]; have := bulk_pos a; omega
theorem opn_v {d : DataW H} (h : DT Try.prog 30 d) : ∃ t : Vl, avD d = t.av ∧ t.sz ≤ bulk d := opn_vl _ d (Nat.lt_succ_self _) h
theorem opn_tl : ∀ (n : Nat) (d : DataW H), bulk d < n → DT Try.prog 26 d → ∃ t : Ty, avD d = t.av ∧ t.sz ≤ bulk d
 | 0, d, hn, _ => absurd hn (Nat.not_lt_zero _)
 | n + 1, d, hn, h => by
  obtain ⟨p, h1, h2, h3, h4⟩ := h.struct_inv Try.underlying26
  obtain ⟨a, b, c, rfl⟩ := parts3 h2
  obtain ⟨na, ha, _⟩ := opn_int (h3 0 _ a rfl rfl)
  obtain ⟨nb, hb, _⟩ := opn_int (h3 1 _ b rfl rfl)
  obtain ⟨es, g1, g2, g3⟩ := (h3 2 _ c rfl rfl).slice_inv Try.underlying24
  simp only [bulkL] at h4
  obtain ⟨l, h5, h6, h7⟩ := list_open (p := fun _ => True) Ty.av Ty.sz es fun x hx => opn_tl n x (by have := bulk_mem hx; omega) (g2 x hx)
  refine ⟨.mk na nb l, ?_, ?_⟩
  ·rw [h1]
   simp only [avDC, ha, hb, g1, h5, AV.cells, Ty.av, Ty.avL_eq]
   rfl
  ·rw [Ty.sz, Ty.szL_eq]; have := bulk_pos a; omega
theorem opn_t {d : DataW H} (h : DT Try.prog 26 d) : ∃ t : Ty, avD d = t.av ∧ t.sz ≤ bulk d := opn_tl _ d (Nat.lt_succ_self _) h
theorem opn_dv {d : DataW H} (h : DT Try.prog 63 d) : ∃ v : Dv, avD d = v.av ∧ v.sz ≤ bulk d := by
 obtain ⟨p, h1, h2, h3, h4⟩ := h.struct_inv Try.underlying63
 obtain ⟨a, b, rfl⟩ := parts2 h2
 obtain ⟨s, ha, _⟩ := (h3 0 _ a rfl rfl).str_inv Try.underlying9
 obtain ⟨es, g1, g2, g3⟩ := (h3 1 _ b rfl rfl).slice_inv Try.underlying24
 simp only [bulkL] at h4
 obtain ⟨l, h5, h6, h7⟩ := list_open (p := fun _ => True) Ty.av Ty.sz es fun x hx => opn_t (g2 x hx)
 refine ⟨⟨s, l⟩, ?_, ?_⟩
 ·rw [h1]
  simp only [avDC, ha, g1, h5, AV.cells, Dv.av, Dv.cs, Ty.avL_eq]
  rfl
 ·rw [Dv.sz, Ty.szL_eq]; have := bulk_pos a; simp only; omega
theorem opn_d {d : DataW H} (h : DT Try.prog 60 d) : ∃ t : Dd, avD d = t.av ∧ 1 + (t.vs.map Dv.sz).sum ≤ bulk d := by
 obtain ⟨p, h1, h2, h3, h4⟩ := h.struct_inv Try.underlying60
 obtain ⟨a, b, c, e, f, rfl⟩ := parts5 h2
 obtain ⟨s, ha, _⟩ := (h3 0 _ a rfl rfl).str_inv Try.underlying9
 obtain ⟨nb, hb, _⟩ := opn_int (h3 1 _ b rfl rfl)
 obtain ⟨nc, hc, _⟩ := opn_int (h3 2 _ c rfl rfl)
 obtain ⟨es, g1, g2, g3⟩ := (h3 3 _ e rfl rfl).slice_inv Try.underlying58
 obtain ⟨nf, hf, _⟩ := opn_int (h3 4 _ f rfl rfl)
 simp only [bulkL] at h4
 obtain ⟨l, h5, h6, h7⟩ := list_open (p := fun _ => True) Dv.av Dv.sz es fun x hx => opn_dv (g2 x hx)
 refine ⟨⟨s, nb, nc, l, nf⟩, ?_, by have := bulk_pos a; simp only; omega⟩
 rw [h1]
 simp only [avDC, ha, hb, hc, g1, h5, hf, AV.cells, Dd.av, Dd.cs, dvl]
 rfl
theorem opn_dl {d : DataW H} (h : DT Try.prog 22 d) (hb : bulk d ≤ 1048576) : ∃ l : List Dd, avD d = .sl (ddl l) ∧ SzD l := by
 obtain ⟨es, h1, h2, h3⟩ := h.slice_inv Try.underlying22
 obtain ⟨l, h4, h5, h6⟩ := list_open (p := fun _ => True) Dd.av (fun x => 1 + (x.vs.map Dv.sz).sum) es fun x hx => opn_d (h2 x hx)
 exact ⟨l, by rw [h1, h4]; rfl, ⟨by unfold dSz; omega⟩⟩
theorem opn_m {d : DataW H} (h : DT Try.prog 50 d) : ∃ x : Mg, avD d = x.av ∧ 1 + (x.vars.length + (x.fss.map fun r => r.length + 1).sum) ≤ bulk d := by
 obtain ⟨p, h1, h2, h3, h4⟩ := h.struct_inv Try.underlying50
 obtain ⟨a, b, c, rfl⟩ := parts3 h2
 obtain ⟨na, ha, _⟩ := opn_int (h3 0 _ a rfl rfl)
 obtain ⟨l, hb, hbl⟩ := opn_il (h3 1 _ b rfl rfl)
 obtain ⟨m, hc, hcl⟩ := opn_ill (h3 2 _ c rfl rfl)
 simp only [bulkL] at h4
 refine ⟨⟨na, l, m⟩, ?_, by have := bulk_pos a; simp only; omega⟩
 rw [h1]
 simp only [avDC, ha, hb, hc, AV.cells, Mg.av, Mg.cs]
 rfl
theorem opn_ml {d : DataW H} (h : DT Try.prog 23 d) (hb : bulk d ≤ 1048576) : ∃ l : List Mg, avD d = .sl (mgl l) ∧ MgL l ∧ l.length ≤ 2 ^ 20 := by
 obtain ⟨es, h1, h2, h3⟩ := h.slice_inv Try.underlying23
 obtain ⟨l, h4, h5, h6⟩ := list_open (p := fun _ => True) Mg.av (fun x => 1 + (x.vars.length + (x.fss.map fun r => r.length + 1).sum)) es fun x hx => opn_m (h2 x hx)
 have hes := bulk_len es
 refine ⟨l, by rw [h1, h4]; rfl, ⟨by omega, fun x hx => ?_⟩, by omega⟩
 have g1 := sum_memN (fun x : Mg => 1 + (x.vars.length + (x.fss.map fun r => r.length + 1).sum)) hx
 have g2 := len_sumN (fun r : List Int => r.length + 1) (fun r => by omega) x.fss
 refine ⟨by omega, by omega, fun f hf => ?_⟩
 have g3 := sum_memN (fun r : List Int => r.length + 1) hf
 omega
theorem migrateTypes_pcall {a b c d e : DataW H} (ha : DT Try.prog 22 a) (hb : DT Try.prog 22 b) (hc : DT Try.prog 23 c) (hd : DT Try.prog 26 d) (he : DT Try.prog 30 e) (ba : bulk a ≤ 1048576) (bb : bulk b ≤ 1048576) (bc : bulk c ≤ 1048576) (bd : bulk d ≤ 1048576) (be : bulk e ≤ 1048576) : PCall Try.prog 3 [avD a, avD b, avD c, avD d, avD e] (.bool true) := by
 obtain ⟨x, h1, h2⟩ := opn_dl ha ba
 obtain ⟨y, h3, h4⟩ := opn_dl hb bb
 obtain ⟨l, h5, h6, h7⟩ := opn_ml hc bc
 obtain ⟨t, h8, h9⟩ := opn_t hd
 obtain ⟨v, h10, h11⟩ := opn_v he
 rw [h1, h3, h5, h8, h10]
 exact types_pc x y l t v h2 h4 h6 (by omega) (by omega)
theorem migrateStays_pcall {a b c d e : DataW H} (ha : DT Try.prog 22 a) (hb : DT Try.prog 22 b) (hc : DT Try.prog 23 c) (hd : DT Try.prog 26 d) (he : DT Try.prog 30 e) (ba : bulk a ≤ 1048576) (bb : bulk b ≤ 1048576) (bc : bulk c ≤ 1048576) (bd : bulk d ≤ 1048576) (be : bulk e ≤ 1048576) : PCall Try.prog 4 [avD a, avD b, avD c, avD d, avD e] (.bool true) := by
 obtain ⟨x, h1, h2⟩ := opn_dl ha ba
 obtain ⟨y, h3, h4⟩ := opn_dl hb bb
 obtain ⟨l, h5, h6, h7⟩ := opn_ml hc bc
 obtain ⟨t, h8, h9⟩ := opn_t hd
 obtain ⟨v, h10, h11⟩ := opn_v he
 rw [h1, h3, h5, h8, h10]
 exact stays_pc x y l t v h2 h4 h6 (by omega) (by omega) (by omega)
end Go.Proofs.Ytlhhahocjfgmdaa
