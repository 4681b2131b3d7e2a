/-
  The laws of rests, for arguments as a row reads them.
-/
import Derived.Test.YtnfdhfmfcpbepaaRLaw2
import Derived.Test.YtnfdhfmfcpbepaaAevFrame
set_option linter.unusedSimpArgs false
set_option linter.unusedVariables false
namespace Go.Aev.Gen
open Go Go.Aev Go.Num Go.Proofs

theorem int_arg {n : Nat} {a : AV} (h : (isAggT PROG 3 = true ∧ ∃ l, Wt PROG (n + 1) 3 l ∧ a = .agg (l.map .t)) ∨ (isAggT PROG 3 = false ∧ ∃ x, Wt PROG (n + 1) 3 [x] ∧ a = .t x)) : ∃ m, a = I m := by
  obtain ⟨x, h1, rfl⟩ := arg_one h (by kernel_rfl)
  obtain ⟨m, h2, _⟩ := wt_int Try.underlying3 h1
  simp only [List.cons.injEq, and_true] at h2
  subst h2
  exact ⟨m, rfl⟩
theorem rest_wt {n : Nat} {ts : List T} (h : Wt PROG (n + 2) 23 ts) : ∃ r : Int × Int, ts = [ti r.1, ti r.2] := by
  obtain ⟨a, b, rfl, h1, c, d, rfl, h2, rfl⟩ := wt_struct Try.underlying23 h
  obtain ⟨x, rfl, _⟩ := wt_int Try.underlying3 h1
  obtain ⟨y, rfl, _⟩ := wt_int Try.underlying3 h2
  exact ⟨(x, y), rfl⟩
theorem rest_arg {n : Nat} {a : AV} (h : (isAggT PROG 23 = true ∧ ∃ l, Wt PROG (n + 2) 23 l ∧ a = .agg (l.map .t)) ∨ (isAggT PROG 23 = false ∧ ∃ x, Wt PROG (n + 2) 23 [x] ∧ a = .t x)) : ∃ x y, a = AV.agg [I x, I y] := by
  obtain ⟨l, h1, rfl⟩ := arg_agg h (by kernel_rfl)
  obtain ⟨r, rfl⟩ := rest_wt h1
  exact ⟨r.1, r.2, rfl⟩
theorem cells23 : PROG.cellsOf 23 = 2 := by kernel_rfl
theorem rests_arg {n : Nat} {a : AV} (h : (isAggT PROG 24 = true ∧ ∃ l, Wt PROG (n + 3) 24 l ∧ a = .agg (l.map .t)) ∨ (isAggT PROG 24 = false ∧ ∃ x, Wt PROG (n + 3) 24 [x] ∧ a = .t x)) : ∃ e l, a = lst e l ∧ l.length ≤ 9223372036854775807 := by
  obtain ⟨x, h1, rfl⟩ := arg_one h (by kernel_rfl)
  obtain ⟨b, l, h2, _, h3⟩ := wt_list (fun r : Int × Int => [ti r.1, ti r.2]) Try.underlying24 h1 fun cs hc => rest_wt hc
  rw [cells23] at h2
  simp only [List.cons.injEq, and_true] at h2
  subst h2
  exact ⟨b, l, rfl, h3⟩

theorem claim3 (vs : List AV) (h : ArgWt PROG (19 + 1) Try.f3.params.toList vs) : Or (.call 3) vs [] = some [.bool true] := by
  rw [Try.params3] at h
  obtain ⟨a, _, rfl, h1, b, _, rfl, h2, c, _, rfl, h3, rfl⟩ := h
  obtain ⟨n, o, rfl⟩ := rest_arg h1
  obtain ⟨m, p, rfl⟩ := rest_arg h2
  obtain ⟨e, l, rfl, hl⟩ := rests_arg h3
  exact law3 n o m p e l hl
theorem claim4 (vs : List AV) (h : ArgWt PROG (19 + 1) Try.f4.params.toList vs) : Or (.call 4) vs [] = some [.bool true] := by
  rw [Try.params4] at h
  obtain ⟨a, _, rfl, h1, b, _, rfl, h2, c, _, rfl, h3, rfl⟩ := h
  obtain ⟨x, rfl⟩ := int_arg h1
  obtain ⟨y, rfl⟩ := int_arg h2
  obtain ⟨z, rfl⟩ := int_arg h3
  exact law4 x y z
theorem claim5 (vs : List AV) (h : ArgWt PROG (19 + 1) Try.f5.params.toList vs) : Or (.call 5) vs [] = some [.bool true] := by
  rw [Try.params5] at h
  obtain ⟨a, _, rfl, h1, b, _, rfl, h2, c, _, rfl, h3, rfl⟩ := h
  obtain ⟨n, o, rfl⟩ := rest_arg h1
  obtain ⟨m, p, rfl⟩ := rest_arg h2
  obtain ⟨z, rfl⟩ := int_arg h3
  exact law5 n o m p z
theorem claim6 (vs : List AV) (h : ArgWt PROG (19 + 1) Try.f6.params.toList vs) : Or (.call 6) vs [] = some [.bool true] := by
  rw [Try.params6] at h
  obtain ⟨a, _, rfl, h1, b, _, rfl, h2, c, _, rfl, h3, rfl⟩ := h
  obtain ⟨n, o, rfl⟩ := rest_arg h1
  obtain ⟨m, p, rfl⟩ := rest_arg h2
  obtain ⟨q, r, rfl⟩ := rest_arg h3
  exact law6 n o m p q r
theorem claim7 (vs : List AV) (h : ArgWt PROG (19 + 1) Try.f7.params.toList vs) : Or (.call 7) vs [] = some [.bool true] := by
  rw [Try.params7] at h
  obtain ⟨a, _, rfl, h1, rfl⟩ := h
  obtain ⟨e, l, rfl, hl⟩ := rests_arg h1
  exact law7 e l
theorem claim8 (vs : List AV) (h : ArgWt PROG (19 + 1) Try.f8.params.toList vs) : Or (.call 8) vs [] = some [.bool true] := by
  rw [Try.params8] at h
  obtain ⟨a, _, rfl, h1, b, _, rfl, h2, c, _, rfl, h3, d, _, rfl, h4, rfl⟩ := h
  obtain ⟨x, rfl⟩ := int_arg h1
  obtain ⟨y, rfl⟩ := int_arg h2
  obtain ⟨z, rfl⟩ := int_arg h3
  obtain ⟨w, rfl⟩ := int_arg h4
  exact law8 x y z w
end Go.Aev.Gen
