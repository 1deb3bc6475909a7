/- A part of the proof: an abstract machine for the walks, and what the walked functions compute. -/
import Derived.Test.YtdgmjbgjahmoaaaRows
import Derived.Test.YtdgmjbgjahmoaaaMg
import Derived.Test.YtdgmjbgjahmoaaaCg
set_option linter.unusedVariables false
set_option linter.unusedSimpArgs false
namespace Go.Proofs.Ytdgmjbgjahmoaaa
open Go.Am Go.Proofs Go.Hv
variable {H : Type}
mutual
theorem bulk_eq : ∀ d : DataW H, Rows.uptoBulk d = bulk d
 | .lit (.string _) | .lit (.bool _) | .lit (.int _ _) | .lit (.float _ _) | .lit .nil => by simp [Rows.uptoBulk, bulk]
 | .nil => by simp [Rows.uptoBulk, bulk]
 | .ptr d => by simp [Rows.uptoBulk, bulk, bulk_eq d]
 | .slice l r => by simp [Rows.uptoBulk, bulk, bulkL_eq l, bulkL_eq r]
 | .agg l => by simp [Rows.uptoBulk, bulk, bulkL_eq l]
 | .iface _ d => by simp [Rows.uptoBulk, bulk, bulk_eq d]
 | .map l => by simp [Rows.uptoBulk, bulk, bulkE_eq l]
 | .held _ => by simp [Rows.uptoBulk, bulk]
theorem bulkL_eq : ∀ l : List (DataW H), Rows.uptoBulkAll l = bulkL l
 | [] => by simp [Rows.uptoBulkAll, bulkL]
 | d :: l => by simp [Rows.uptoBulkAll, bulkL, bulk_eq d, bulkL_eq l]
theorem bulkE_eq : ∀ l : List (Lit × DataW H), Rows.uptoBulkEntries l = bulkE l
 | [] => by simp [Rows.uptoBulkEntries, bulkE]
 | d :: l => by simp [Rows.uptoBulkEntries, bulkE, bulkP_eq d, bulkE_eq l]
theorem bulkP_eq : ∀ l : Lit × DataW H, Rows.uptoBulkEntry l = bulkP l
 | (.string _, d) | (.bool _, d) | (.int _ _, d) | (.float _ _, d) | (.nil, d) => by simp [Rows.uptoBulkEntry, bulkP, bulk_eq d]
end
theorem opn_int {d : DataW H} (h : DT Try.prog 3 d) : ∃ n : Int, avD d = AV.i n ∧ 1 ≤ bulk d := by
 obtain ⟨n, h1, _⟩ := h.int_inv Try.underlying3
 exact ⟨n, h1, bulk_pos d⟩
theorem opn_il {d : DataW H} (h : DT Try.prog 27 d) : ∃ l : List Int, avD d = .sl (il l) ∧ l.length + 1 ≤ bulk d := by
 obtain ⟨es, h1, h2, h3⟩ := h.slice_inv Try.underlying27
 obtain ⟨l, h4, h5, h6⟩ := list_open (p := fun _ => True) AV.i (fun _ => 1) es fun x hx => opn_int (h2 x hx)
 exact ⟨l, by rw [h1, h4]; rfl, by rw [h6]; have := bulk_len es; omega⟩
theorem opn_bl {d : DataW H} (h : DT Try.prog 23 d) : ∃ l : List Bool, avD d = .sl (bl l) ∧ l.length ≤ bulk d := by
 obtain ⟨es, h1, h2, h3⟩ := h.slice_inv Try.underlying23
 obtain ⟨l, h4, h5, h6⟩ := list_open (p := fun _ => True) AV.bool (fun _ => 1) es fun x hx => by
  obtain ⟨b, hb⟩ := (h2 x hx).bool_inv Try.underlying4
  exact ⟨b, hb, bulk_pos x⟩
 exact ⟨l, by rw [h1, h4]; rfl, by rw [h6]; have := bulk_len es; omega⟩
theorem parts2 {p : List (DataW H)} (h : p.length = 2) : ∃ a b, p = [a, b] := by
 match p, h with | [a, b], _ => exact ⟨a, b, rfl⟩
theorem parts3 {p : List (DataW H)} (h : p.length = 3) : ∃ a b c, p = [a, b, c] := by
 match p, h with | [a, b, c], _ => exact ⟨a, b, c, rfl⟩
theorem parts5 {p : List (DataW H)} (h : p.length = 5) : ∃ a b c d e, p = [a, b, c, d, e] := by
 match p, h with | [a, b, c, d, e], _ => exact ⟨a, b, c, d, e, rfl⟩
theorem parts8 {p : List (DataW H)} (h : p.length = 8) : ∃ a b c d e f g i, p = [a, b, c, d, e, f, g, i] := by
 match p, h with | [a, b, c, d, e, f, g, i], _ => exact ⟨a, b, c, d, e, f, g, i, rfl⟩
theorem opn_vl : ∀ (n : Nat) (d : DataW H), bulk d < n → DT Try.prog 29 d → ∃ t : Vl, avD d = t.av ∧ t.sz ≤ bulk d
 | 0, d, hn, _ => absurd hn (Nat.not_lt_zero _)
 | n + 1, d, hn, h => by
  obtain ⟨p, h1, h2, h3, h4⟩ := h.struct_inv Try.underlying29
  obtain ⟨a, b, c, e, f, g, i, j, rfl⟩ := parts8 h2
  obtain ⟨na, ha, _⟩ := opn_int (h3 0 _ a rfl rfl)
  obtain ⟨nb, hb, _⟩ := opn_int (h3 1 _ b rfl rfl)
  obtain ⟨nc, hc, _⟩ := opn_int (h3 2 _ c rfl rfl)
  obtain ⟨ne, he, _⟩ := opn_int (h3 3 _ e rfl rfl)
  obtain ⟨es, g1, g2, g3⟩ := (h3 4 _ f rfl rfl).slice_inv Try.underlying26
  obtain ⟨bo, hg⟩ := (h3 5 _ g rfl rfl).bool_inv Try.underlying4
  obtain ⟨pl, hi, hil⟩ := opn_il (h3 6 _ i rfl rfl)
  obtain ⟨ll, hj, hjl⟩ := opn_il (h3 7 _ j rfl rfl)
  simp only [bulkL] at h4
  obtain ⟨l, h5, h6, h7⟩ := list_open (p := fun _ => True) Vl.av Vl.sz es fun x hx => opn_vl n x (by have := bulk_mem hx; omega) (g2 x hx)
  refine ⟨.mk na nb nc ne l bo pl ll, ?_, ?_⟩
  ·rw [h1]
   simp only [avDC, ha, hb, hc, he, g1, h5, hg, hi, hj, AV.cells, Vl.av, Vl.avL_eq]
   rfl
  ·rw [Vl.sz, Vl.szL_eq]; have := bulk_pos a; omega
theorem opn_v {d : DataW H} (h : DT Try.prog 29 d) : ∃ t : Vl, avD d = t.av ∧ t.sz ≤ bulk d := opn_vl _ d (Nat.lt_succ_self _) h
theorem opn_c {d : DataW H} (h : DT Try.prog 37 d) : ∃ c : Cl, avD d = c.av ∧ 1 + c.v.sz ≤ bulk d := by
 obtain ⟨p, h1, h2, h3, h4⟩ := h.struct_inv Try.underlying37
 obtain ⟨a, b, c, rfl⟩ := parts3 h2
 obtain ⟨bo, ha⟩ := (h3 0 _ a rfl rfl).bool_inv Try.underlying4
 obtain ⟨nb, hb, _⟩ := opn_int (h3 1 _ b rfl rfl)
 obtain ⟨v, hc, hcs⟩ := opn_v (h3 2 _ c rfl rfl)
 simp only [bulkL] at h4
 refine ⟨⟨bo, nb, v⟩, ?_, by have := bulk_pos a; simp only; omega⟩
 rw [h1]
 simp only [avDC, ha, hb, hc, AV.cells, Cl.av, Cl.cs, Vl.av_cs]
 simp
theorem sum_mem {α : Type} (f : α → Nat) : ∀ (l : List α) (x : α), x ∈ l → f x ≤ (l.map f).sum
 | y :: l, x, h => by
  simp only [List.map_cons, List.sum_cons]
  rcases List.mem_cons.1 h with rfl | h
  ·omega
  ·have := sum_mem f l x h; omega
theorem opn_hp {d : DataW H} (h : DT Try.prog 25 d) (hb : bulk d ≤ 1048576) : ∃ t : Hp, avD d = t.av ∧ HB t := by
 obtain ⟨p, h1, h2, h3, h4⟩ := h.struct_inv Try.underlying25
 obtain ⟨a, b, rfl⟩ := parts2 h2
 obtain ⟨es, g1, g2, g3⟩ := (h3 0 _ a rfl rfl).slice_inv Try.underlying22
 obtain ⟨l, h5, h6, h7⟩ := list_open (p := fun _ => True) Cl.av (fun c => 1 + c.v.sz) es fun x hx => opn_c (g2 x hx)
 obtain ⟨bo, hb2, hbl⟩ := opn_bl (h3 1 _ b rfl rfl)
 simp only [bulkL] at h4
 have hes := bulk_len es
 refine ⟨⟨l, bo⟩, ?_, ⟨by simp only; omega, by simp only; omega, fun c hc => ?_⟩⟩
 ·rw [h1]
  simp only [avDC, g1, hb2, h5, AV.cells, Hp.av, Hp.cs, cl]
  rfl
 ·have := sum_mem (fun c : Cl => 1 + c.v.sz) l c hc
  omega
theorem opn_d {d : DataW H} (h : DT Try.prog 49 d) : ∃ t : Dt, avD d = t.av ∧ 1 ≤ bulk d := by
 obtain ⟨p, h1, h2, h3, h4⟩ := h.struct_inv Try.underlying49
 obtain ⟨a, b, c, e, f, rfl⟩ := parts5 h2
 obtain ⟨s, ha, _⟩ := (h3 0 _ a rfl rfl).str_inv Try.underlying9
 obtain ⟨nb, hb, _⟩ := opn_int (h3 1 _ b rfl rfl)
 obtain ⟨nc, hc, _⟩ := opn_int (h3 2 _ c rfl rfl)
 obtain ⟨es, g1, g2, g3⟩ := (h3 3 _ e rfl rfl).slice_inv Try.underlying47
 obtain ⟨nf, hf, _⟩ := opn_int (h3 4 _ f rfl rfl)
 refine ⟨⟨s, nb, nc, es.map avD, nf⟩, ?_, bulk_pos d⟩
 rw [h1]
 simp only [avDC, ha, hb, hc, g1, hf, AV.cells, Dt.av]
 rfl
theorem opn_dl {d : DataW H} (h : DT Try.prog 44 d) : ∃ l : List Dt, avD d = .sl (dl l) ∧ l.length ≤ bulk d := by
 obtain ⟨es, h1, h2, h3⟩ := h.slice_inv Try.underlying44
 obtain ⟨l, h4, h5, h6⟩ := list_open (p := fun _ => True) Dt.av (fun _ => 1) es fun x hx => opn_d (h2 x hx)
 exact ⟨l, by rw [h1, h4]; rfl, by rw [h6]; have := bulk_len es; omega⟩
end Go.Proofs.Ytdgmjbgjahmoaaa
