/-
  HeapClauses: an assignment can be extended to a model of the clauses just if the heap holds under it, and the clauses are fine.
  No condition: every input that the row reads.
-/
import Derived.Test.YtcjfkgkobblonaaRows
import Derived.Test.YtcjfkgkobblonaaHCLaw
set_option linter.unusedSimpArgs false
set_option linter.unusedVariables false
namespace Go.Proofs.Ytcjfkgkobblonaa.heapClauses
open Go.ChangeShapes Go.WideShapes Go.ChangeAt Go.RowKit

theorem own : ownKnob Try.prog.godebug = none := by kernel_rfl
set_option maxRecDepth 100000 in
theorem lifted (os : Os) (started : os.Started) (H : Type) (enc : TypeId × Value → H) :
    ReturnsInHanded {} Try.checked os 7 .any (Rows.heapClausesSpec.pre6 enc Try.prog Try.f7 Rows.heapClausesRow.domain false) (Rows.heapClausesSpec.post enc Try.prog Try.f7 false true false false) := by
  refine returnsInHanded_of_change_sized (C := Try.checked) own started (by kernel_rfl) Try.func7
    (ChangeSpec.witness6 (enc := enc) (C := Try.checked) false ⟨#[], #[.agg #[.slice none 0 0, .slice none 0 0, .int .i64 0], .slice none 0 0], []⟩ 8 (by kernel_rfl) (by kernel_rfl) (by kernel_rfl) (by kernel_rfl)) ?_
  intro W base args ds gs before hval hW _ hsz _
  exact Go.Aev.law_contract (n := 19) (An := Go.Aev.Gen.ann) (tb := 4) Go.Aev.Gen.hm (by kernel_rfl) (by kernel_rfl) Try.func7 rfl (by kernel_rfl) Try.underlying4 (by kernel_rfl) (by kernel_rfl) (by kernel_rfl) rfl
    (fun ds h => by
      rw [Try.params7] at h
      rcases ds with _ | ⟨d0, _ | ⟨d1, _ | ⟨d2, r⟩⟩⟩ <;> simp at h
      rfl) Go.Aev.Gen.claim7 W base args ds gs before hval hW hsz Go.Aev.Gen.ext_sound
theorem over : Rows.heapClausesRow.holds Try.pinned (OpenSpec.ofChange Rows.heapClausesSpec) :=
  OpenClaim.holds_of_wide 7 Try.f7 rfl rfl rfl rfl rfl rfl rfl ⟨rfl, rfl, rfl, rfl, rfl⟩ rfl rfl rfl rfl rfl (by kernel_rfl) Try.func7 (by kernel_rfl)
    (of_decide_eq_true (by kernel_rfl)) (by unfold Func.isWrapper; first | (rw [if_pos (by decide +kernel)]; kernel_rfl) | (rw [if_neg (by decide +kernel)]; exact ⟨rfl, rfl⟩))
    (fun os started H enc _ => lifted os started H enc)
theorem proved : Rows.HeapClausesSaid := over
#print axioms proved
end Go.Proofs.Ytcjfkgkobblonaa.heapClauses
