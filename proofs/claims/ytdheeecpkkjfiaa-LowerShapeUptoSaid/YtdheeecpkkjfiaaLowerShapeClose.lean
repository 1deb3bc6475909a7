/- LowerShape answers true and leaves its arguments as they were, for all arguments of at most 1048576 values together. -/
import Derived.Test.YtdheeecpkkjfiaaCt
import Derived.Test.YtdheeecpkkjfiaaRows
import Derived.Test.YtdheeecpkkjfiaaChecked
namespace Go.Proofs.Ytdheeecpkkjfiaa.lowerShape
open Go.Am Go.ChangeShapes Go.WideShapes Go.ChangeAt Go.RowKit

theorem own : ownKnob Try.prog.godebug = none := by kernel_rfl
theorem laid : laidOutB Try.prog = true := by kernel_rfl

theorem contract (H : Type) (enc : TypeId × Value → H) (W : World) (base : Nat) (args : Array Value) (ds gs : List (DataW H)) (before : List MemPlace)
    (hval : ∀ (j : Nat) t v, Try.f5.params[j]? = some t → args[j]? = some v → Value.okWide Try.prog W .any base t v)
    (hW : DataW.Whole enc Try.prog Try.f5.params.toList Rows.lowerShapeSpec.vars false W args.toList ds gs before) (hk : Rows.uptoSmall H (ds ++ gs) = true) :
    Calls Try.prog 5 args W fun e W' => ∃ v, e = .returned v ∧ Rows.lowerShapeSpec.post enc Try.prog Try.f5 false true false false W args v W' := by
  refine law_contract (s := Rows.lowerShapeSpec) [25,22,89,3,23,61,42,40,59] 4 laid (by kernel_rfl) (by kernel_rfl) (by kernel_rfl) rfl Try.underlying4 rfl ?_ hval hW ?_
  · intro hd
    match ds, hd with
    | [_], _ => rfl
  · intro ht hg hd
    subst hg
    have hb : bulkL ds ≤ 1048576 := by
      have := of_decide_eq_true hk
      rw [bulkL_eq, List.append_nil] at this
      exact this
    match ds, hd with
    | [d0], _ =>
      simp only [bulkL] at hb
      exact lowerShape_pcall (ht 0 _ _ rfl rfl) (by omega)

set_option maxRecDepth 100000 in
theorem lifted (os : Os) (started : os.Started) (H : Type) (enc : TypeId × Value → H) (F : Stop.Interp) :
    ReturnsInHanded {} Try.checked os 5 .any ((Rows.OpenSpec.upto Rows.lowerShapeSpec).pre6 enc Try.prog Try.f5 Rows.lowerShapeUptoRow.domain false) (((Rows.OpenSpec.upto Rows.lowerShapeSpec).at F).post enc Try.prog Try.f5 false true false false) := by
  refine returnsInHanded_of_cond (C := Try.checked) (s := Rows.OpenSpec.upto Rows.lowerShapeSpec) (k := Rows.uptoSmall) rfl own started (by kernel_rfl) Try.func5
    (OpenSpec.witness (enc := enc) (C := Try.checked) (s := Rows.OpenSpec.upto Rows.lowerShapeSpec) (k := Rows.uptoSmall) rfl false ⟨#[], #[.agg #[.slice none 0 0, .slice none 0 0]], []⟩ 8 (by kernel_rfl) (by kernel_rfl) (by kernel_rfl)
      (x := ([.agg [.nil, .nil]], [], [])) (by kernel_rfl) rfl (by kernel_rfl)) ?_
  intro W base args ds gs before hval hW _ hk _
  exact contract H enc W base args ds gs before hval hW hk

theorem over : Rows.lowerShapeUptoRow.holds Try.pinned (Rows.OpenSpec.upto Rows.lowerShapeSpec) :=
  OpenClaim.holds_of_cond 5 Try.f5 rfl rfl rfl rfl rfl rfl rfl ⟨rfl, rfl, rfl, rfl, rfl⟩ rfl rfl rfl rfl rfl (by kernel_rfl) Try.func5 (by kernel_rfl)
    (of_decide_eq_true (by kernel_rfl)) (by unfold Func.isWrapper; first | (rw [if_pos (by decide +kernel)]; kernel_rfl) | (rw [if_neg (by decide +kernel)]; exact ⟨rfl, rfl⟩))
    (fun os started H enc _ F => lifted os started H enc F)

theorem proved : Rows.LowerShapeUptoSaid := over
end Go.Proofs.Ytdheeecpkkjfiaa.lowerShape
