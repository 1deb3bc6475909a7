/- A part of the proof: an abstract machine for the walks, and what the walked functions compute. -/
import Derived.Test.YtihfjibkmhclfaaDoorCards
import Derived.Lib.LaidTab
import Derived.Stop.LaidErr
import Derived.Stop.JoinedAt
import Derived.Stop.ErrReads
import Derived.KernelRfl
import Derived.Test.YtihfjibkmhclfaaDoorMg
import Derived.Test.YtihfjibkmhclfaaDoorPb
set_option linter.unusedVariables false
set_option linter.unusedSimpArgs false
set_option linter.unusedVariables false
set_option maxRecDepth 100000
namespace Go.Proofs.YtihfjibkmhclfaaDoor
open Go.Am Go.Proofs Go.Lx
variable {H : Type}
mutual
theorem bulk_eq : ∀ d : DataW H, Rows.uptoBulk d = bulk d
 | .lit (.string _) | .lit (.bool _) | .lit (.int _ _) | .lit (.float _ _) | .lit .nil => by simp [Rows.uptoBulk, bulk]
 | .nil => by simp [Rows.uptoBulk, bulk]
 | .ptr d => by simp [Rows.uptoBulk, bulk, bulk_eq d]
 | .slice l r => by simp [Rows.uptoBulk, bulk, bulkL_eq l, bulkL_eq r]
 | .agg l => by simp [Rows.uptoBulk, bulk, bulkL_eq l]
 | .iface _ d => by simp [Rows.uptoBulk, bulk, bulk_eq d]
 | .map l => by simp [Rows.uptoBulk, bulk, bulkE_eq l]
 | .held _ => by simp [Rows.uptoBulk, bulk]
theorem bulkL_eq : ∀ l : List (DataW H), Rows.uptoBulkAll l = bulkL l
 | [] => by simp [Rows.uptoBulkAll, bulkL]
 | d :: l => by simp [Rows.uptoBulkAll, bulkL, bulk_eq d, bulkL_eq l]
theorem bulkE_eq : ∀ l : List (Lit × DataW H), Rows.uptoBulkEntries l = bulkE l
 | [] => by simp [Rows.uptoBulkEntries, bulkE]
 | d :: l => by simp [Rows.uptoBulkEntries, bulkE, bulkP_eq d, bulkE_eq l]
theorem bulkP_eq : ∀ l : Lit × DataW H, Rows.uptoBulkEntry l = bulkP l
 | (.string _, d) | (.bool _, d) | (.int _ _, d) | (.float _ _, d) | (.nil, d) => by simp [Rows.uptoBulkEntry, bulkP, bulk_eq d]
end
theorem opn_s {d : DataW H} (h : DT Tryd.prog 9 d) : ∃ l : List UInt8, avD d = .str (tx l) ∧ l.length + 1 ≤ bulk d := by
 obtain ⟨s, h1, h2⟩ := h.str_inv Tryd.underlying9
 obtain ⟨l, rfl⟩ := tx_of s
 rw [tx_size] at h2
 exact ⟨l, h1, h2⟩
theorem star : "*" ++ "errors.errorString" = "*errors.errorString" := by decide
theorem row102 (u : TypeId) (h : Tryd.prog.typeName? 3 u = some "*errors.errorString") : u = 102 :=
 typeName_ptr_named (nm := "errors.errorString") (by rw [star]; kernel_rfl) (by kernel_rfl) (by decide) u (by rw [star]; exact h)
theorem gl_of {W : World} {x y z s t : String × DataW Unit} (h : laidMet Tryd.prog [x, y, z, ("strconv.ErrRange", Rows.laid_strconv_ErrRange), s, t, ("strings.asciiSpace", Rows.laid_strings_asciiSpace)] W) : Gl W (fun b _ => b < W.heap.size) := by
 have hg : Tryd.prog.globalNamed "strings.asciiSpace" = some 0 := by kernel_rfl
 have ht : (Tryd.prog.globals[0]?).map (·.type) = some 54 := by kernel_rfl
 have htab : Lib.TabIs Tryd.prog W "strings.asciiSpace" .u8 Lib.asciiSpaceTab := by
  refine Lib.tabIs_of_head (rest := []) hg ht Tryd.underlying54 Tryd.underlying5 (by kernel_rfl) (by kernel_rfl) ?_
  exact h.tail.tail.tail.tail.tail.tail
 have hg4 : Tryd.prog.globalNamed "strconv.ErrRange" = some 4 := by kernel_rfl
 obtain ⟨a, ss, hv, _, _, _⟩ := laid_sentinel h.tail.tail.tail hg4 (by kernel_rfl) Tryd.underlying60 row102 Tryd.underlying102 Tryd.underlying104 rfl rfl Tryd.underlying9 (by kernel_rfl) (by kernel_rfl)
 have cell : ∀ (g : Nat) (n : String) (v : Array Value), Tryd.prog.globalNamed n = some g → W.var? Tryd.prog n = some v → ∃ ty fz, W.heap[g]? = some (.cells v ty fz) := by
  intro g n v hn hw
  unfold World.var? at hw
  rw [hn, Option.bind_some] at hw
  cases hh : W.heap[g]? with
  | none => rw [hh] at hw; cases hw
  | some o =>
   rw [hh] at hw
   cases o with
   | cells cs ty fz => cases hw; exact ⟨ty, fz, rfl⟩
   | _ => cases hw
 intro p hp
 simp only [tabs, List.mem_cons, List.not_mem_nil, or_false] at hp
 rcases hp with rfl | rfl
 ·obtain ⟨ty, fz, h1⟩ := cell _ _ _ hg htab
  exact ⟨⟨_, ty, fz, h1, by simp⟩, fun o _ => (Array.getElem?_eq_some_iff.1 h1).1⟩
 ·obtain ⟨ty, fz, h1⟩ := cell _ _ _ hg4 hv
  exact ⟨⟨_, ty, fz, h1, _, rfl, .inr ⟨_, _, rfl⟩⟩, fun o _ => (Array.getElem?_eq_some_iff.1 h1).1⟩
end Go.Proofs.YtihfjibkmhclfaaDoor
