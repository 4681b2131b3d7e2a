/-
  Reiter: every minimal correction set intersects every minimal unsatisfiable set, and conversely.
  No condition: every input that the row reads.
-/
import Derived.Test.YtmpjdngpblfecaaRows
import Derived.Test.YtmpjdngpblfecaaYArg
set_option linter.unusedSimpArgs false
set_option linter.unusedVariables false
namespace Go.Proofs.Ytmpjdngpblfecaa.topMends
open Go.ChangeShapes Go.WideShapes Go.ChangeAt Go.RowKit

theorem own : ownKnob Try.prog.godebug = none := by kernel_rfl
set_option maxRecDepth 100000 in
theorem lifted (os : Os) (started : os.Started) (H : Type) (enc : TypeId × Value → H) :
    ReturnsInHanded {} Try.checked os 3 .any (Rows.topMendsSpec.pre6 enc Try.prog Try.f3 Rows.topMendsRow.domain false) (Rows.topMendsSpec.post enc Try.prog Try.f3 false true false false) := by
  refine returnsInHanded_of_change_sized (C := Try.checked) own started (by kernel_rfl) Try.func3
    (ChangeSpec.witness6 (enc := enc) (C := Try.checked) false ⟨#[], #[.slice none 0 0], []⟩ 8 (by kernel_rfl) (by kernel_rfl) (by kernel_rfl) (by kernel_rfl)) ?_
  intro W base args ds gs before hval hW _ hsz _
  exact Go.Aev.law_contract (n := 19) (An := Go.Aev.Gen.ann) (tb := 4) Go.Aev.Gen.hm (by kernel_rfl) (by kernel_rfl) Try.func3 rfl (by kernel_rfl) Try.underlying4 (by kernel_rfl) (by kernel_rfl) (by kernel_rfl) rfl
    (fun ds h => by
      rw [Try.params3] at h
      rcases ds with _ | ⟨d0, _ | ⟨d1, r⟩⟩ <;> simp at h
      rfl) Go.Aev.Gen.claim3 W base args ds gs before hval hW hsz Go.Aev.Gen.ext_sound
theorem over : Rows.topMendsRow.holds Try.pinned (OpenSpec.ofChange Rows.topMendsSpec) :=
  OpenClaim.holds_of_wide 3 Try.f3 rfl rfl rfl rfl rfl rfl rfl ⟨rfl, rfl, rfl, rfl, rfl⟩ rfl rfl rfl rfl rfl (by kernel_rfl) Try.func3 (by kernel_rfl)
    (of_decide_eq_true (by kernel_rfl)) (by unfold Func.isWrapper; first | (rw [if_pos (by decide +kernel)]; kernel_rfl) | (rw [if_neg (by decide +kernel)]; exact ⟨rfl, rfl⟩))
    (fun os started H enc _ => lifted os started H enc)
theorem proved : Rows.TopMendsSaid := over
#print axioms proved
end Go.Proofs.Ytmpjdngpblfecaa.topMends
