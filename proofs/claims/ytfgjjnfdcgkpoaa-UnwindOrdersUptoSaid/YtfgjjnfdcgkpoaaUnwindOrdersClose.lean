/- UnwindOrders answers true and leaves its arguments as they were, for all arguments of at most 1048576 values together. -/
import Derived.Test.YtfgjjnfdcgkpoaaUor
import Derived.Test.YtfgjjnfdcgkpoaaRows
import Derived.Test.YtfgjjnfdcgkpoaaChecked
namespace Go.Proofs.Ytfgjjnfdcgkpoaa.unwindOrders
open Go.Am Go.ChangeShapes Go.WideShapes Go.ChangeAt Go.RowKit

theorem own : ownKnob Try.prog.godebug = none := by kernel_rfl
theorem laid : laidOutB Try.prog = true := by kernel_rfl

set_option maxRecDepth 100000 in
theorem contract (H : Type) (enc : TypeId × Value → H) (W : World) (base : Nat) (args : Array Value) (ds gs : List (DataW H)) (before : List MemPlace)
    (hval : ∀ (j : Nat) t v, Try.f4.params[j]? = some t → args[j]? = some v → Value.okWide Try.prog W .any base t v)
    (hW : DataW.Whole enc Try.prog Try.f4.params.toList Rows.unwindOrdersSpec.vars false W args.toList ds gs before) (hk : Rows.uptoSmall H (ds ++ gs) = true) :
    Calls Try.prog 4 args W fun e W' => ∃ v, e = .returned v ∧ Rows.unwindOrdersSpec.post enc Try.prog Try.f4 false true false false W args v W' := by
  refine law_contract (s := Rows.unwindOrdersSpec) [34,38,3,49,36,25,29,30,31,32,35,4,22,23,26,27,58,73,69,180,62,55,56,9,67,174,176,177,178,96,182,188,189,184,186,194,191,192,196] 4 laid (by kernel_rfl) (by kernel_rfl) (by kernel_rfl) rfl Try.underlying4 rfl ?_ hval hW ?_
  · intro hd
    match ds, hd with
    | [_], _ => rfl
  · intro ht hg hd
    subst hg
    have hb : bulkL ds ≤ 1048576 := by
      have := of_decide_eq_true hk
      rw [bulkL_eq, List.append_nil] at this
      exact this
    match ds, hd with
    | [d0], _ =>
      simp only [bulkL] at hb
      exact unwindOrders_pcall (ht 0 _ _ rfl rfl) (by omega)

set_option maxRecDepth 100000 in
theorem lifted (os : Os) (started : os.Started) (H : Type) (enc : TypeId × Value → H) (F : Stop.Interp) :
    ReturnsInHanded {} Try.checked os 4 .any ((Rows.OpenSpec.upto Rows.unwindOrdersSpec).pre6 enc Try.prog Try.f4 Rows.unwindOrdersUptoRow.domain false) (((Rows.OpenSpec.upto Rows.unwindOrdersSpec).at F).post enc Try.prog Try.f4 false true false false) := by
  refine returnsInHanded_of_cond (C := Try.checked) (s := Rows.OpenSpec.upto Rows.unwindOrdersSpec) (k := Rows.uptoSmall) rfl own started (by kernel_rfl) Try.func4
    (OpenSpec.witness (enc := enc) (C := Try.checked) (s := Rows.OpenSpec.upto Rows.unwindOrdersSpec) (k := Rows.uptoSmall) rfl false ⟨#[], #[.agg #[.int .i64 0, .int .i64 0, .int .i64 0, .int .i64 0, .int .i64 0, .slice none 0 0, .slice none 0 0]], []⟩ 8 (by kernel_rfl) (by kernel_rfl) (by kernel_rfl)
      (x := ([.agg [.lit (.int .i64 0), .lit (.int .i64 0), .lit (.int .i64 0), .lit (.int .i64 0), .lit (.int .i64 0), .nil, .nil]], [], [])) (by kernel_rfl) rfl (by kernel_rfl)) ?_
  intro W base args ds gs before hval hW _ hk _
  exact contract H enc W base args ds gs before hval hW hk

theorem over : Rows.unwindOrdersUptoRow.holds Try.pinned (Rows.OpenSpec.upto Rows.unwindOrdersSpec) :=
  OpenClaim.holds_of_cond 4 Try.f4 rfl rfl rfl rfl rfl rfl rfl ⟨rfl, rfl, rfl, rfl, rfl⟩ rfl rfl rfl rfl rfl (by kernel_rfl) Try.func4 (by kernel_rfl)
    (of_decide_eq_true (by kernel_rfl)) (by unfold Func.isWrapper; first | (rw [if_pos (by decide +kernel)]; kernel_rfl) | (rw [if_neg (by decide +kernel)]; exact ⟨rfl, rfl⟩))
    (fun os started H enc _ F => lifted os started H enc F)

theorem proved : Rows.UnwindOrdersUptoSaid := over
end Go.Proofs.Ytfgjjnfdcgkpoaa.unwindOrders
