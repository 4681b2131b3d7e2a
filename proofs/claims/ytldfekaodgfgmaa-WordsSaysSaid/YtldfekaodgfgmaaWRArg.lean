/-
  The laws of words and bits, for arguments as a row reads them.
-/
import Derived.Test.YtldfekaodgfgmaaWOut
import Derived.Test.YtldfekaodgfgmaaWArg
set_option linter.unusedSimpArgs false
set_option linter.unusedVariables false
namespace Go.Aev.Gen
open Go Go.Aev Go.Proofs

set_option maxRecDepth 1000000 in
theorem ints_arg {n : Nat} {a : AV} (h : (isAggT PROG 22 = true ∧ ∃ l, Wt PROG (n + 2) 22 l ∧ a = .agg (l.map .t)) ∨ (isAggT PROG 22 = false ∧ ∃ x, Wt PROG (n + 2) 22 [x] ∧ a = .t x)) : ∃ e l, a = lst e l := by
  obtain ⟨x, h1, rfl⟩ := arg_one h (by kernel_rfl)
  have hu : PROG.underlying 22 = some (.slice 3) := Try.underlying22
  have hu3 : PROG.underlying 3 = some (.int .i64) := Try.underlying3
  have hc : PROG.cellsOf 3 = 1 := by kernel_rfl
  have h4 := @wt_list PROG (n + 1) 22 [x] Int (fun r : Int => [ti r]) 3 hu h1 (fun cs hc => by
    have h5 := @wt_int PROG n 3 cs .i64 hu3 hc
    obtain ⟨m, hm, _⟩ := h5
    exact ⟨m, hm⟩)
  obtain ⟨b, l, h2, _, h3⟩ := h4
  rw [hc] at h2
  simp only [List.cons.injEq, and_true] at h2
  subst h2
  exact ⟨b, l, rfl⟩
set_option maxRecDepth 1000000 in
theorem bools_arg {n : Nat} {a : AV} (h : (isAggT PROG 31 = true ∧ ∃ l, Wt PROG (n + 2) 31 l ∧ a = .agg (l.map .t)) ∨ (isAggT PROG 31 = false ∧ ∃ x, Wt PROG (n + 2) 31 [x] ∧ a = .t x)) : ∃ e l, a = AV.t (T.lst 1 e (bt l)) := by
  obtain ⟨x, h1, rfl⟩ := arg_one h (by kernel_rfl)
  have hu : PROG.underlying 31 = some (.slice 4) := Try.underlying31
  have hu3 : PROG.underlying 4 = some .bool := Try.underlying4
  have hc : PROG.cellsOf 4 = 1 := by kernel_rfl
  have h4 := @wt_list PROG (n + 1) 31 [x] Bool (fun r : Bool => [tb r]) 4 hu h1 (fun cs hc => by
    have h5 := @wt_bool PROG n 4 cs hu3 hc
    obtain ⟨m, hm⟩ := h5
    exact ⟨m, hm⟩)
  obtain ⟨b, l, h2, _, h3⟩ := h4
  rw [hc] at h2
  simp only [List.cons.injEq, and_true] at h2
  subst h2
  exact ⟨b, l, rfl⟩
set_option maxRecDepth 1000000 in
theorem claim3 (vs : List AV) (h : ArgWt PROG (19 + 1) Try.f3.params.toList vs) : Or (.call 3) vs [] = some [.bool true] := by
  rw [Try.params3] at h
  obtain ⟨a, _, rfl, h1, b, _, rfl, h2, c, _, rfl, h3, d, _, rfl, h4, rfl⟩ := h
  obtain ⟨x, rfl⟩ := int_arg h1
  obtain ⟨y, rfl⟩ := int_arg h2
  obtain ⟨e, l, rfl⟩ := ints_arg h3
  obtain ⟨w, rfl⟩ := int_arg h4
  exact law3 x y e l w
set_option maxRecDepth 1000000 in
theorem claim4 (vs : List AV) (h : ArgWt PROG (19 + 1) Try.f4.params.toList vs) : Or (.call 4) vs [] = some [.bool true] := by
  rw [Try.params4] at h
  obtain ⟨a, _, rfl, h1, b, _, rfl, h2, c, _, rfl, h3, rfl⟩ := h
  obtain ⟨x, rfl⟩ := int_arg h1
  obtain ⟨y, rfl⟩ := int_arg h2
  obtain ⟨e, l, rfl⟩ := bools_arg h3
  exact law4 x y e l
end Go.Aev.Gen
