/- MigrateComposes answers true and leaves its arguments as they were, for all arguments of at most 1048576 values together. -/
import Derived.Test.YtlhhahocjfgmdaaPt
import Derived.Test.YtlhhahocjfgmdaaRows
import Derived.Test.YtlhhahocjfgmdaaChecked
namespace Go.Proofs.Ytlhhahocjfgmdaa.migrateComposes
open Go.Am Go.ChangeShapes Go.WideShapes Go.ChangeAt Go.RowKit

theorem own : ownKnob Try.prog.godebug = none := by kernel_rfl
theorem laid : laidOutB Try.prog = true := by kernel_rfl

set_option maxRecDepth 100000 in
theorem contract (H : Type) (enc : TypeId × Value → H) (W : World) (base : Nat) (args : Array Value) (ds gs : List (DataW H)) (before : List MemPlace)
    (hval : ∀ (j : Nat) t v, Try.f5.params[j]? = some t → args[j]? = some v → Value.okWide Try.prog W .any base t v)
    (hW : DataW.Whole enc Try.prog Try.f5.params.toList Rows.migrateComposesSpec.vars false W args.toList ds gs before) (hk : Rows.uptoSmall H (ds ++ gs) = true) :
    Calls Try.prog 5 args W fun e W' => ∃ v, e = .returned v ∧ Rows.migrateComposesSpec.post enc Try.prog Try.f5 false true false false W args v W' := by
  refine law_contract (s := Rows.migrateComposesSpec) [22,23,24,26,27,28,30,48,50,58,60,63,3,9,4] 4 laid (by kernel_rfl) (by kernel_rfl) (by kernel_rfl) rfl Try.underlying4 rfl ?_ hval hW ?_
  · intro hd
    match ds, hd with
    | [_, _, _, _, _, _, _], _ => rfl
  · intro ht hg hd
    subst hg
    have hb : bulkL ds ≤ 1048576 := by
      have := of_decide_eq_true hk
      rw [bulkL_eq, List.append_nil] at this
      exact this
    match ds, hd with
    | [d0, d1, d2, d3, d4, d5, d6], _ =>
      simp only [bulkL] at hb
      exact migrateComposes_pcall (ht 0 _ _ rfl rfl) (ht 1 _ _ rfl rfl) (ht 2 _ _ rfl rfl) (ht 3 _ _ rfl rfl) (ht 4 _ _ rfl rfl) (ht 5 _ _ rfl rfl) (ht 6 _ _ rfl rfl) (by omega) (by omega) (by omega) (by omega) (by omega) (by omega) (by omega)

set_option maxRecDepth 100000 in
theorem lifted (os : Os) (started : os.Started) (H : Type) (enc : TypeId × Value → H) (F : Stop.Interp) :
    ReturnsInHanded {} Try.checked os 5 .any ((Rows.OpenSpec.upto Rows.migrateComposesSpec).pre6 enc Try.prog Try.f5 Rows.migrateComposesUptoRow.domain false) (((Rows.OpenSpec.upto Rows.migrateComposesSpec).at F).post enc Try.prog Try.f5 false true false false) := by
  refine returnsInHanded_of_cond (C := Try.checked) (s := Rows.OpenSpec.upto Rows.migrateComposesSpec) (k := Rows.uptoSmall) rfl own started (by kernel_rfl) Try.func5
    (OpenSpec.witness (enc := enc) (C := Try.checked) (s := Rows.OpenSpec.upto Rows.migrateComposesSpec) (k := Rows.uptoSmall) rfl false ⟨#[], #[.slice none 0 0, .slice none 0 0, .slice none 0 0, .slice none 0 0, .slice none 0 0, .agg #[.int .i64 0, .int .i64 0, .slice none 0 0], .agg #[.int .i64 0, .int .i64 0, .int .i64 0, .int .i64 0, .slice none 0 0, .bool false, .slice none 0 0, .slice none 0 0]], []⟩ 8 (by kernel_rfl) (by kernel_rfl) (by kernel_rfl)
      (x := ([.nil, .nil, .nil, .nil, .nil, .agg [.lit (.int .i64 0), .lit (.int .i64 0), .nil], .agg [.lit (.int .i64 0), .lit (.int .i64 0), .lit (.int .i64 0), .lit (.int .i64 0), .nil, .lit (.bool false), .nil, .nil]], [], [])) (by kernel_rfl) rfl (by kernel_rfl)) ?_
  intro W base args ds gs before hval hW _ hk _
  exact contract H enc W base args ds gs before hval hW hk

theorem over : Rows.migrateComposesUptoRow.holds Try.pinned (Rows.OpenSpec.upto Rows.migrateComposesSpec) :=
  OpenClaim.holds_of_cond 5 Try.f5 rfl rfl rfl rfl rfl rfl rfl ⟨rfl, rfl, rfl, rfl, rfl⟩ rfl rfl rfl rfl rfl (by kernel_rfl) Try.func5 (by kernel_rfl)
    (of_decide_eq_true (by kernel_rfl)) (by unfold Func.isWrapper; first | (rw [if_pos (by decide +kernel)]; kernel_rfl) | (rw [if_neg (by decide +kernel)]; exact ⟨rfl, rfl⟩))
    (fun os started H enc _ F => lifted os started H enc F)

theorem proved : Rows.MigrateComposesUptoSaid := over
end Go.Proofs.Ytlhhahocjfgmdaa.migrateComposes
