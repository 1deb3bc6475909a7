/- A part of the proof: an abstract machine for the walks, and what the walked functions compute. -/
import Derived.Test.YtfiehjbijdmbaaaDoorCards
import Derived.Lib.LaidTab
import Derived.Stop.LaidErr
import Derived.KernelRfl
import Derived.Test.YtfiehjbijdmbaaaDoorMg
import Derived.Test.YtfiehjbijdmbaaaDoorRj
set_option linter.unusedVariables false
set_option linter.unusedSimpArgs false
set_option linter.unusedVariables false
namespace Go.Proofs.YtfiehjbijdmbaaaDoor
open Go.Am Go.Proofs Go.Ca
variable {H : Type}
mutual
theorem bulk_eq : ∀ d : DataW H, Rows.uptoBulk d = bulk d
 | .lit (.string _) | .lit (.bool _) | .lit (.int _ _) | .lit (.float _ _) | .lit .nil => by simp [Rows.uptoBulk, bulk]
 | .nil => by simp [Rows.uptoBulk, bulk]
 | .ptr d => by simp [Rows.uptoBulk, bulk, bulk_eq d]
 | .slice l r => by simp [Rows.uptoBulk, bulk, bulkL_eq l, bulkL_eq r]
 | .agg l => by simp [Rows.uptoBulk, bulk, bulkL_eq l]
 | .iface _ d => by simp [Rows.uptoBulk, bulk, bulk_eq d]
 | .map l => by simp [Rows.uptoBulk, bulk, bulkE_eq l]
 | .held _ => by simp [Rows.uptoBulk, bulk]
theorem bulkL_eq : ∀ l : List (DataW H), Rows.uptoBulkAll l = bulkL l
 | [] => by simp [Rows.uptoBulkAll, bulkL]
 | d :: l => by simp [Rows.uptoBulkAll, bulkL, bulk_eq d, bulkL_eq l]
theorem bulkE_eq : ∀ l : List (Lit × DataW H), Rows.uptoBulkEntries l = bulkE l
 | [] => by simp [Rows.uptoBulkEntries, bulkE]
 | d :: l => by simp [Rows.uptoBulkEntries, bulkE, bulkP_eq d, bulkE_eq l]
theorem bulkP_eq : ∀ l : Lit × DataW H, Rows.uptoBulkEntry l = bulkP l
 | (.string _, d) | (.bool _, d) | (.int _ _, d) | (.float _ _, d) | (.nil, d) => by simp [Rows.uptoBulkEntry, bulkP, bulk_eq d]
end
theorem opn_int {d : DataW H} (h : DT Tryd.prog 3 d) : ∃ n : Int, avD d = AV.i n ∧ I64 n := by
 obtain ⟨n, h1, h2⟩ := h.int_inv Tryd.underlying3
 refine ⟨n, h1, ?_⟩
 simp [Lit.wf, IntKind.min, IntKind.max, IntKind.signed, IntKind.bits] at h2
 constructor <;> omega
theorem opn_u8 {d : DataW H} (h : DT Tryd.prog 5 d) : ∃ n : UInt8, avD d = AV.int .u8 (n.toNat : Int) ∧ 1 ≤ bulk d := by
 obtain ⟨n, h1, h2⟩ := h.int_inv Tryd.underlying5
 refine ⟨UInt8.ofNat n.toNat, ?_, bulk_pos d⟩
 have hr : 0 ≤ n ∧ n < 256 := by
  simp [Lit.wf, IntKind.min, IntKind.max, IntKind.signed, IntKind.bits] at h2
  constructor <;> omega
 rw [h1, UInt8.toNat_ofNat', Nat.mod_eq_of_lt (by omega), Int.toNat_of_nonneg hr.1]
theorem opn_ub {d : DataW H} (h : DT Tryd.prog 23 d) : ∃ l : List UInt8, avD d = .sl (ub l) ∧ l.length + 1 ≤ bulk d := by
 obtain ⟨es, h1, h2, h3⟩ := h.slice_inv Tryd.underlying23
 obtain ⟨l, h4, h5, h6⟩ := list_open (p := fun _ => True) (fun b : UInt8 => AV.int .u8 (b.toNat : Int)) (fun _ => 1) es fun x hx => opn_u8 (h2 x hx)
 exact ⟨l, by rw [h1, h4]; rfl, by rw [h6]; have := bulk_len es; omega⟩
theorem parts2 {p : List (DataW H)} (h : p.length = 2) : ∃ a b, p = [a, b] := by
 match p, h with | [a, b], _ => exact ⟨a, b, rfl⟩
theorem opn_f {d : DataW H} (h : DT Tryd.prog 37 d) : ∃ f : Fl, avD d = f.av ∧ f.bs.length + f.nm.size ≤ bulk d := by
 obtain ⟨p, h1, h2, h3, h4⟩ := h.struct_inv Tryd.underlying37
 obtain ⟨a, b, rfl⟩ := parts2 h2
 obtain ⟨s, ha, hs⟩ := (h3 0 _ a rfl rfl).str_inv Tryd.underlying9
 obtain ⟨l, hb, hl⟩ := opn_ub (h3 1 _ b rfl rfl)
 simp only [bulkL] at h4
 refine ⟨⟨s, l⟩, ?_, by simp only; omega⟩
 rw [h1]
 simp only [avDC, ha, hb, AV.cells, Fl.av, Fl.cs]
 rfl
theorem sum_mem {α : Type} (f : α → Nat) : ∀ {l : List α} {x : α}, x ∈ l → f x ≤ (l.map f).sum
 | y :: l, x, h => by
  rw [List.map_cons, List.sum_cons]
  rcases List.mem_cons.1 h with rfl | h
  ·omega
  ·have := sum_mem f h; omega
theorem opn_fl {d : DataW H} (h : DT Tryd.prog 22 d) (hb : bulk d ≤ 1048576) : ∃ l : List Fl, avD d = .sl (fl l) ∧ FB l ∧ l.length ≤ 2 ^ 20 := by
 obtain ⟨es, h1, h2, h3⟩ := h.slice_inv Tryd.underlying22
 obtain ⟨l, h4, h5, h6⟩ := list_open (p := fun _ => True) Fl.av (fun f => f.bs.length + f.nm.size) es fun x hx => opn_f (h2 x hx)
 have := bulk_len es
 refine ⟨l, by rw [h1, h4]; rfl, ⟨by omega, fun f hf => ?_, fun f hf => ?_⟩, by omega⟩
 ·have := sum_mem (fun f : Fl => f.bs.length + f.nm.size) hf; omega
 ·have := sum_mem (fun f : Fl => f.bs.length + f.nm.size) hf; omega
theorem gl_of {W : World} {x y : String × DataW Unit} (h : laidMet Tryd.prog [x, y, ("internal/strconv.uint64pow10", Rows.laid_internal_strconv_uint64pow10)] W) : Gl W (fun b _ => b < W.heap.size) := by
 have hg : Tryd.prog.globalNamed "internal/strconv.uint64pow10" = some 0 := by kernel_rfl
 have ht : (Tryd.prog.globals[0]?).map (·.type) = some 81 := by kernel_rfl
 have htab : Lib.TabIs Tryd.prog W "internal/strconv.uint64pow10" .u64 Lib.pow10Tab := by
  refine Lib.tabIs_of_head (rest := []) hg ht Tryd.underlying81 Tryd.underlying12 (by kernel_rfl) (by kernel_rfl) ?_
  exact h.tail.tail
 intro p hp
 obtain rfl := List.mem_singleton.1 hp
 unfold Lib.TabIs World.var? at htab
 rw [hg, Option.bind_some] at htab
 cases hh : W.heap[0]? with
 | none => rw [hh] at htab; cases htab
 | some o =>
  rw [hh] at htab
  have hlt : 0 < W.heap.size := (Array.getElem?_eq_some_iff.1 hh).1
  cases o with
  | cells cs ty fz =>
   refine ⟨⟨cs, ty, fz, rfl, ?_⟩, fun o _ => hlt⟩
   cases htab
   simp
  | _ => cases htab
end Go.Proofs.YtfiehjbijdmbaaaDoor
