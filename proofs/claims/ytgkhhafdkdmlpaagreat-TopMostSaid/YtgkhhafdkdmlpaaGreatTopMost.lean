/-
  The maximum of a linear function under constraints in two variables is attained, and no feasible point that is drawn exceeds it.
  No condition: every input that the row reads.
-/
import Derived.Test.YtgkhhafdkdmlpaaGreatRows
import Derived.Test.YtgkhhafdkdmlpaaGreatTopMostQ21
set_option linter.unusedSimpArgs false
set_option linter.unusedVariables false
namespace Go.Proofs.YtgkhhafdkdmlpaaGreat.topMost
open Go.ChangeShapes Go.WideShapes Go.ChangeAt Go.RowKit

theorem own : ownKnob Tryz.prog.godebug = none := by kernel_rfl
set_option maxRecDepth 100000 in
theorem lifted (os : Os) (started : os.Started) (H : Type) (enc : TypeId × Value → H) :
    ReturnsInHanded {} Tryz.checked os 3 .any (Rows.topMostSpec.pre6 enc Tryz.prog Tryz.f3 Rows.topMostRow.domain false) (Rows.topMostSpec.post enc Tryz.prog Tryz.f3 false true false false) := by
  refine returnsInHanded_of_change_sized (C := Tryz.checked) own started (by kernel_rfl) Tryz.func3
    (ChangeSpec.witness6 (enc := enc) (C := Tryz.checked) false ⟨#[], #[.slice none 0 0, .int .i64 0, .int .i64 0, .int .i64 0, .int .i64 0], []⟩ 8 (by kernel_rfl) (by kernel_rfl) (by kernel_rfl) (by kernel_rfl)) ?_
  intro W base args ds gs before hval hW _ hsz _
  exact Go.Aev.law_contract (n := 19) (An := Go.Aev.Gen.ann) (tb := 4) Go.Aev.Gen.hm (by kernel_rfl) (by kernel_rfl) Tryz.func3 rfl (by kernel_rfl) Tryz.underlying4 (by kernel_rfl) (by kernel_rfl) (by kernel_rfl) rfl
    (fun ds h => by
      rw [Tryz.params3] at h
      rcases ds with _ | ⟨d0, _ | ⟨d1, _ | ⟨d2, _ | ⟨d3, _ | ⟨d4, _ | ⟨d5, r⟩⟩⟩⟩⟩⟩ <;> simp at h
      rfl) Go.Aev.Gen.claim3 W base args ds gs before hval hW hsz
theorem over : Rows.topMostRow.holds Tryz.pinned (OpenSpec.ofChange Rows.topMostSpec) :=
  OpenClaim.holds_of_wide 3 Tryz.f3 rfl rfl rfl rfl rfl rfl rfl ⟨rfl, rfl, rfl, rfl, rfl⟩ rfl rfl rfl rfl rfl (by kernel_rfl) Tryz.func3 (by kernel_rfl)
    (of_decide_eq_true (by kernel_rfl)) (by unfold Func.isWrapper; first | (rw [if_pos (by decide +kernel)]; kernel_rfl) | (rw [if_neg (by decide +kernel)]; exact ⟨rfl, rfl⟩))
    (fun os started H enc _ => lifted os started H enc)
theorem proved : Rows.TopMostSaid := over
#print axioms proved
end Go.Proofs.YtgkhhafdkdmlpaaGreat.topMost
