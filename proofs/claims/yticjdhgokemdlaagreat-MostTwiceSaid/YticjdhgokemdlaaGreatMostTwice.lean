/-
  Doubling the objective doubles the maximum, and adding a row does not increase it.
  No condition: every input that the row reads.
-/
import Derived.Test.YticjdhgokemdlaaGreatRows
import Derived.Test.YticjdhgokemdlaaGreatMostTwiceQ23
set_option linter.unusedSimpArgs false
set_option linter.unusedVariables false
namespace Go.Proofs.YticjdhgokemdlaaGreat.mostTwice
open Go.ChangeShapes Go.WideShapes Go.ChangeAt Go.RowKit

theorem own : ownKnob Tryz.prog.godebug = none := by kernel_rfl
set_option maxRecDepth 100000 in
theorem lifted (os : Os) (started : os.Started) (H : Type) (enc : TypeId × Value → H) :
    ReturnsInHanded {} Tryz.checked os 5 .any (Rows.mostTwiceSpec.pre6 enc Tryz.prog Tryz.f5 Rows.mostTwiceRow.domain false) (Rows.mostTwiceSpec.post enc Tryz.prog Tryz.f5 false true false false) := by
  refine returnsInHanded_of_change_sized (C := Tryz.checked) own started (by kernel_rfl) Tryz.func5
    (ChangeSpec.witness6 (enc := enc) (C := Tryz.checked) false ⟨#[], #[.slice none 0 0, .int .i64 0, .slice none 0 0, .agg #[.slice none 0 0, .int .i64 0, .int .i64 0]], []⟩ 8 (by kernel_rfl) (by kernel_rfl) (by kernel_rfl) (by kernel_rfl)) ?_
  intro W base args ds gs before hval hW _ hsz _
  exact Go.Aev.law_contract (n := 19) (An := Go.Aev.Gen.ann) (tb := 4) Go.Aev.Gen.hm (by kernel_rfl) (by kernel_rfl) Tryz.func5 rfl (by kernel_rfl) Tryz.underlying4 (by kernel_rfl) (by kernel_rfl) (by kernel_rfl) rfl
    (fun ds h => by
      rw [Tryz.params5] at h
      rcases ds with _ | ⟨d0, _ | ⟨d1, _ | ⟨d2, _ | ⟨d3, _ | ⟨d4, r⟩⟩⟩⟩⟩ <;> simp at h
      rfl) Go.Aev.Gen.claim5 W base args ds gs before hval hW hsz
theorem over : Rows.mostTwiceRow.holds Tryz.pinned (OpenSpec.ofChange Rows.mostTwiceSpec) :=
  OpenClaim.holds_of_wide 5 Tryz.f5 rfl rfl rfl rfl rfl rfl rfl ⟨rfl, rfl, rfl, rfl, rfl⟩ rfl rfl rfl rfl rfl (by kernel_rfl) Tryz.func5 (by kernel_rfl)
    (of_decide_eq_true (by kernel_rfl)) (by unfold Func.isWrapper; first | (rw [if_pos (by decide +kernel)]; kernel_rfl) | (rw [if_neg (by decide +kernel)]; exact ⟨rfl, rfl⟩))
    (fun os started H enc _ => lifted os started H enc)
theorem proved : Rows.MostTwiceSaid := over
#print axioms proved
end Go.Proofs.YticjdhgokemdlaaGreat.mostTwice
