/- UnwindStops answers true and leaves its arguments as they were, for all arguments of at most 1048576 values together. -/
import Derived.Test.YtfgjjnfdcgkpoaaUmz
import Derived.Test.YtfgjjnfdcgkpoaaRows
import Derived.Test.YtfgjjnfdcgkpoaaChecked
namespace Go.Proofs.Ytfgjjnfdcgkpoaa.unwindStops
open Go.Am Go.ChangeShapes Go.WideShapes Go.ChangeAt Go.RowKit

theorem own : ownKnob Try.prog.godebug = none := by kernel_rfl
theorem laid : laidOutB Try.prog = true := by kernel_rfl

set_option maxRecDepth 100000 in
theorem contract (H : Type) (enc : TypeId × Value → H) (W : World) (base : Nat) (args : Array Value) (ds gs : List (DataW H)) (before : List MemPlace)
    (hval : ∀ (j : Nat) t v, Try.f8.params[j]? = some t → args[j]? = some v → Value.okWide Try.prog W .any base t v)
    (hW : DataW.Whole enc Try.prog Try.f8.params.toList Rows.unwindStopsSpec.vars false W args.toList ds gs before) (hk : Rows.uptoSmall H (ds ++ gs) = true) :
    Calls Try.prog 8 args W fun e W' => ∃ v, e = .returned v ∧ Rows.unwindStopsSpec.post enc Try.prog Try.f8 false true false false W args v W' := by
  refine law_contract (s := Rows.unwindStopsSpec) [34,38,3,49,36,25,29,30,31,32,35,4,22,23,26,27,58,73,69,180,62,55,56,9,67,174,176,177,178,96,182,188,189,184,186,194,191,192,196] 4 laid (by kernel_rfl) (by kernel_rfl) (by kernel_rfl) rfl Try.underlying4 rfl ?_ hval hW ?_
  · intro hd
    match ds, hd with
    | [_, _], _ => rfl
  · intro ht hg hd
    subst hg
    have hb : bulkL ds ≤ 1048576 := by
      have := of_decide_eq_true hk
      rw [bulkL_eq, List.append_nil] at this
      exact this
    match ds, hd with
    | [d0, d1], _ =>
      simp only [bulkL] at hb
      exact unwindStops_pcall (ht 0 _ _ rfl rfl) (ht 1 _ _ rfl rfl) (by omega) (by omega)

set_option maxRecDepth 100000 in
theorem lifted (os : Os) (started : os.Started) (H : Type) (enc : TypeId × Value → H) (F : Stop.Interp) :
    ReturnsInHanded {} Try.checked os 8 .any ((Rows.OpenSpec.upto Rows.unwindStopsSpec).pre6 enc Try.prog Try.f8 Rows.unwindStopsUptoRow.domain false) (((Rows.OpenSpec.upto Rows.unwindStopsSpec).at F).post enc Try.prog Try.f8 false true false false) := by
  refine returnsInHanded_of_cond (C := Try.checked) (s := Rows.OpenSpec.upto Rows.unwindStopsSpec) (k := Rows.uptoSmall) rfl own started (by kernel_rfl) Try.func8
    (OpenSpec.witness (enc := enc) (C := Try.checked) (s := Rows.OpenSpec.upto Rows.unwindStopsSpec) (k := Rows.uptoSmall) rfl false ⟨#[], #[.agg #[.slice none 0 0, .slice none 0 0, .int .i64 0, .slice none 0 0, .slice none 0 0, .slice none 0 0, .slice none 0 0, .slice none 0 0, .int .i64 0, .int .i64 0, .int .i64 0], .int .i64 0], []⟩ 8 (by kernel_rfl) (by kernel_rfl) (by kernel_rfl)
      (x := ([.agg [.agg [.nil, .nil, .lit (.int .i64 0)], .agg [.nil, .nil], .nil, .nil, .nil, .lit (.int .i64 0), .lit (.int .i64 0), .lit (.int .i64 0)], .lit (.int .i64 0)], [], [])) (by kernel_rfl) rfl (by kernel_rfl)) ?_
  intro W base args ds gs before hval hW _ hk _
  exact contract H enc W base args ds gs before hval hW hk

theorem over : Rows.unwindStopsUptoRow.holds Try.pinned (Rows.OpenSpec.upto Rows.unwindStopsSpec) :=
  OpenClaim.holds_of_cond 8 Try.f8 rfl rfl rfl rfl rfl rfl rfl ⟨rfl, rfl, rfl, rfl, rfl⟩ rfl rfl rfl rfl rfl (by kernel_rfl) Try.func8 (by kernel_rfl)
    (of_decide_eq_true (by kernel_rfl)) (by unfold Func.isWrapper; first | (rw [if_pos (by decide +kernel)]; kernel_rfl) | (rw [if_neg (by decide +kernel)]; exact ⟨rfl, rfl⟩))
    (fun os started H enc _ F => lifted os started H enc F)

theorem proved : Rows.UnwindStopsUptoSaid := over
end Go.Proofs.Ytfgjjnfdcgkpoaa.unwindStops
