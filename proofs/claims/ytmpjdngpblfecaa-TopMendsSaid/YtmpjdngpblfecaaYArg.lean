/-
  TopMends for every input.
-/
import Derived.Test.YtmpjdngpblfecaaYLaw
import Derived.Test.YtmpjdngpblfecaaAevFrame
set_option linter.unusedSimpArgs false
set_option linter.unusedVariables false
namespace Go.Aev.Gen
open Go Go.Aev Go.Proofs

set_option maxRecDepth 1000000 in
theorem int_wt {n : Nat} {ts : List T} (h : Wt PROG (n + 1) 3 ts) : ∃ m : Int, ts = [ti m] := by
  have hu : PROG.underlying 3 = some (.int .i64) := Try.underlying3
  have h3 := @wt_int PROG n 3 ts .i64 hu h
  obtain ⟨m, h2, _⟩ := h3
  exact ⟨m, h2⟩
theorem cellsI : PROG.cellsOf 3 = 1 := by kernel_rfl
set_option maxRecDepth 1000000 in
theorem ints_arg {n : Nat} {a : AV} (h : (isAggT PROG 22 = true ∧ ∃ l, Wt PROG (n + 2) 22 l ∧ a = .agg (l.map .t)) ∨ (isAggT PROG 22 = false ∧ ∃ x, Wt PROG (n + 2) 22 [x] ∧ a = .t x)) : ∃ e l, a = lst e l := by
  obtain ⟨x, h1, rfl⟩ := arg_one h (by kernel_rfl)
  have hu := (Try.underlying22 : PROG.underlying 22 = _)
  obtain ⟨b, l, h2, _, h3⟩ := wt_list (fun r : Int => [ti r]) hu h1 (fun cs hc => int_wt hc)
  rw [cellsI] at h2
  simp only [List.cons.injEq, and_true] at h2
  subst h2
  exact ⟨b, l, rfl⟩
set_option maxRecDepth 1000000 in
theorem claim3 (vs : List AV) (h : ArgWt PROG (19 + 1) Try.f3.params.toList vs) : Or (.call 3) vs [] = some [.bool true] := by
  rw [Try.params3] at h
  obtain ⟨a, _, rfl, h1, rfl⟩ := h
  obtain ⟨e, l, rfl⟩ := ints_arg h1
  exact law l e
theorem ext_sound : ESound PROG ann := by
  intro f vals blks xs h
  by_cases e : f = 24
  · subst e
    exact ⟨Try.f24, _, Try.func24, rfl, by decide +kernel, Ys.sort_ok rfl (fun _ => rfl) h⟩
  · have h0 : ann.ext f vals blks = none := by
      unfold ann
      simp only
    rw [h0] at h
    cases h
end Go.Aev.Gen
