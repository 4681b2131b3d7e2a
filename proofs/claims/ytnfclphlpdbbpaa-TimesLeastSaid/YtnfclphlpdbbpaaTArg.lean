/-
  Arguments as a row reads them: jobs, waits, starts.
-/
import Derived.Test.YtnfclphlpdbbpaaTRight
import Derived.Test.YtnfclphlpdbbpaaAevFrame
set_option linter.unusedSimpArgs false
set_option linter.unusedVariables false
namespace Go.Aev.Gen
open Go Go.Aev Go.Proofs

set_option maxRecDepth 1000000 in
theorem int_wt {n : Nat} {ts : List T} (h : Wt PROG (n + 1) 3 ts) : ∃ m : Int, ts = [ti m] := by
  have hu : PROG.underlying 3 = some (.int .i64) := Try.underlying3
  have h3 := @wt_int PROG n 3 ts .i64 hu h
  obtain ⟨m, h2, _⟩ := h3
  exact ⟨m, h2⟩
theorem int_arg {n : Nat} {a : AV} (h : (isAggT PROG 3 = true ∧ ∃ l, Wt PROG (n + 1) 3 l ∧ a = .agg (l.map .t)) ∨ (isAggT PROG 3 = false ∧ ∃ x, Wt PROG (n + 1) 3 [x] ∧ a = .t x)) : ∃ m, a = I m := by
  obtain ⟨x, h1, rfl⟩ := arg_one h (by kernel_rfl)
  obtain ⟨m, h2⟩ := int_wt h1
  simp only [List.cons.injEq, and_true] at h2
  subst h2
  exact ⟨m, rfl⟩
set_option maxRecDepth 1000000 in
theorem job_wt {n : Nat} {ts : List T} (h : Wt PROG (n + 2) 40 ts) : ∃ j : J, ts = eJ j := by
  have hu := (Try.underlying40 : PROG.underlying 40 = _)
  have h1 := wt_struct hu h
  obtain ⟨a, b, rfl, g1, c, d, rfl, g2, e, f, rfl, g3, rfl⟩ := h1
  obtain ⟨x, rfl⟩ := int_wt g1
  obtain ⟨y, rfl⟩ := int_wt g2
  obtain ⟨z, rfl⟩ := int_wt g3
  exact ⟨⟨x, y, z⟩, rfl⟩
set_option maxRecDepth 1000000 in
theorem wait_wt {n : Nat} {ts : List T} (h : Wt PROG (n + 2) 38 ts) : ∃ j : W, ts = eW j := by
  have hu := (Try.underlying38 : PROG.underlying 38 = _)
  have h1 := wt_struct hu h
  obtain ⟨a, b, rfl, g1, c, d, rfl, g2, e, f, rfl, g3, rfl⟩ := h1
  obtain ⟨x, rfl⟩ := int_wt g1
  obtain ⟨y, rfl⟩ := int_wt g2
  obtain ⟨z, rfl⟩ := int_wt g3
  exact ⟨⟨x, y, z⟩, rfl⟩
set_option maxRecDepth 1000000 in
theorem wait_arg {n : Nat} {a : AV} (h : (isAggT PROG 38 = true ∧ ∃ l, Wt PROG (n + 2) 38 l ∧ a = .agg (l.map .t)) ∨ (isAggT PROG 38 = false ∧ ∃ x, Wt PROG (n + 2) 38 [x] ∧ a = .t x)) : ∃ w : W, a = AV.agg [I w.a, I w.b, I w.y] := by
  obtain ⟨l, h1, rfl⟩ := arg_agg h (by kernel_rfl)
  obtain ⟨w, rfl⟩ := wait_wt h1
  exact ⟨w, rfl⟩
theorem cells40 : PROG.cellsOf 40 = 3 := by kernel_rfl
theorem cells38 : PROG.cellsOf 38 = 3 := by kernel_rfl
theorem cells3 : PROG.cellsOf 3 = 1 := by kernel_rfl
set_option maxRecDepth 1000000 in
theorem jobs_arg {n : Nat} {a : AV} (h : (isAggT PROG 22 = true ∧ ∃ l, Wt PROG (n + 3) 22 l ∧ a = .agg (l.map .t)) ∨ (isAggT PROG 22 = false ∧ ∃ x, Wt PROG (n + 3) 22 [x] ∧ a = .t x)) : ∃ e l, a = LJ e l := by
  obtain ⟨x, h1, rfl⟩ := arg_one h (by kernel_rfl)
  have hu := (Try.underlying22 : PROG.underlying 22 = _)
  obtain ⟨b, l, h2, _, h3⟩ := wt_list eJ hu h1 (fun cs hc => job_wt hc)
  rw [cells40] at h2
  simp only [List.cons.injEq, and_true] at h2
  subst h2
  exact ⟨b, l, rfl⟩
set_option maxRecDepth 1000000 in
theorem waits_arg {n : Nat} {a : AV} (h : (isAggT PROG 23 = true ∧ ∃ l, Wt PROG (n + 3) 23 l ∧ a = .agg (l.map .t)) ∨ (isAggT PROG 23 = false ∧ ∃ x, Wt PROG (n + 3) 23 [x] ∧ a = .t x)) : ∃ e l, a = LW e l ∧ (e = true → l = []) := by
  obtain ⟨x, h1, rfl⟩ := arg_one h (by kernel_rfl)
  have hu := (Try.underlying23 : PROG.underlying 23 = _)
  obtain ⟨b, l, h2, h4, h3⟩ := wt_list eW hu h1 (fun cs hc => wait_wt hc)
  rw [cells38] at h2
  simp only [List.cons.injEq, and_true] at h2
  subst h2
  exact ⟨b, l, rfl, h4⟩
theorem bytes38 : PROG.bytesOf 38 = 24 := by kernel_rfl
set_option maxRecDepth 1000000 in
theorem waits_argb {n : Nat} {a : AV} (h : (isAggT PROG 23 = true ∧ ∃ l, Wt PROG (n + 3) 23 l ∧ a = .agg (l.map .t)) ∨ (isAggT PROG 23 = false ∧ ∃ x, Wt PROG (n + 3) 23 [x] ∧ a = .t x)) : ∃ e l, a = LW e l ∧ (e = true → l = []) ∧ l.length * 24 ≤ reachBytes := by
  obtain ⟨x, h1, rfl⟩ := arg_one h (by kernel_rfl)
  have hu := (Try.underlying23 : PROG.underlying 23 = _)
  obtain ⟨b, l, h2, h4, h3, h5⟩ := wt_listb eW hu h1 (fun cs hc => wait_wt hc)
  rw [cells38] at h2
  rw [bytes38] at h5
  simp only [List.cons.injEq, and_true] at h2
  subst h2
  exact ⟨b, l, rfl, h4, h5⟩
set_option maxRecDepth 1000000 in
theorem ints_arg {n : Nat} {a : AV} (h : (isAggT PROG 25 = true ∧ ∃ l, Wt PROG (n + 2) 25 l ∧ a = .agg (l.map .t)) ∨ (isAggT PROG 25 = false ∧ ∃ x, Wt PROG (n + 2) 25 [x] ∧ a = .t x)) : ∃ e l, a = lst e l := by
  obtain ⟨x, h1, rfl⟩ := arg_one h (by kernel_rfl)
  have hu := (Try.underlying25 : PROG.underlying 25 = _)
  obtain ⟨b, l, h2, _, h3⟩ := wt_list (fun r : Int => [ti r]) hu h1 (fun cs hc => int_wt hc)
  rw [cells3] at h2
  simp only [List.cons.injEq, and_true] at h2
  subst h2
  exact ⟨b, l, rfl⟩
set_option maxRecDepth 1000000 in
theorem claim6 (vs : List AV) (h : ArgWt PROG (19 + 1) Try.f6.params.toList vs) : Or (.call 6) vs [] = some [.bool true] := by
  rw [Try.params6] at h
  obtain ⟨a, _, rfl, h1, b, _, rfl, h2, c, _, rfl, h3, rfl⟩ := h
  obtain ⟨e, q, rfl⟩ := jobs_arg h1
  obtain ⟨e', r, rfl, _⟩ := waits_arg h2
  obtain ⟨e2, s, rfl⟩ := ints_arg h3
  exact law6 q r s e e' e2
end Go.Aev.Gen
