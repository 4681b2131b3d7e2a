/-
  The heap laws, for arguments as a row reads them.
-/
import Derived.Test.YtcjfkgkobblonaaHLaw
import Derived.Test.YtcjfkgkobblonaaAevFrame
set_option linter.unusedSimpArgs false
set_option linter.unusedVariables false
namespace Go.Aev.Gen
open Go Go.Aev Go.Aev.Hp Go.Proofs
set_option maxRecDepth 1000000

theorem int_arg {n : Nat} {a : AV} (h : (isAggT PROG 3 = true ∧ ∃ l, Wt PROG (n + 1) 3 l ∧ a = .agg (l.map .t)) ∨ (isAggT PROG 3 = false ∧ ∃ x, Wt PROG (n + 1) 3 [x] ∧ a = .t x)) : ∃ m, a = I m := by
  obtain ⟨x, h1, rfl⟩ := arg_one h (by kernel_rfl)
  have hu : PROG.underlying 3 = some (.int .i64) := Try.underlying3
  have h3 := @wt_int PROG n 3 [x] .i64 hu h1
  obtain ⟨m, h2, _⟩ := h3
  simp only [List.cons.injEq, and_true] at h2
  subst h2
  exact ⟨m, rfl⟩
theorem u3 : PROG.underlying 3 = some (.int .i64) := Try.underlying3
theorem u4 : PROG.underlying 4 = some .bool := Try.underlying4
theorem u22 : PROG.underlying 22 = some (.slice 3) := Try.underlying22
theorem u25 : PROG.underlying 25 = some (.slice 4) := Try.underlying25
theorem u24 : PROG.underlying 24 = some (.struct #[{ name := "Lits", type := 22, offset := 0, embedded := false, tag := "", pkgPath := "", byteOffset := 0 },
        { name := "Of", type := 22, offset := 1, embedded := false, tag := "", pkgPath := "", byteOffset := 24 },
        { name := "At", type := 3, offset := 2, embedded := false, tag := "", pkgPath := "", byteOffset := 48 }]) := Try.underlying24
theorem c3 : PROG.cellsOf 3 = 1 := by kernel_rfl
theorem c4 : PROG.cellsOf 4 = 1 := by kernel_rfl
theorem ints_wt {n : Nat} {ts : List T} (h : Wt PROG (n + 2) 22 ts) : ∃ e l, ts = [T.lst 1 e (enc l)] := by
  have h1 := @wt_listb PROG (n + 1) 22 ts Int (fun x : Int => [ti x]) 3 u22 h (fun cs hc => by
    obtain ⟨m, h2, _⟩ := @wt_int PROG n 3 cs .i64 u3 hc
    exact ⟨m, h2⟩)
  obtain ⟨b, l, h2, _⟩ := h1
  rw [c3] at h2
  exact ⟨b, l, h2⟩
theorem heap_arg {n : Nat} {a : AV} (h : (isAggT PROG 24 = true ∧ ∃ l, Wt PROG (n + 3) 24 l ∧ a = .agg (l.map .t)) ∨ (isAggT PROG 24 = false ∧ ∃ x, Wt PROG (n + 3) 24 [x] ∧ a = .t x)) : ∃ e f x, a = hv e f x := by
  obtain ⟨l, h1, rfl⟩ := arg_agg h (by kernel_rfl)
  have h5 := @wt_struct PROG (n + 2) 24 l _ u24 h1
  obtain ⟨a, b, rfl, h2, c, d, rfl, h3, p, q, rfl, h4, rfl⟩ := h5
  obtain ⟨e1, l1, rfl⟩ := ints_wt h2
  obtain ⟨e2, l2, rfl⟩ := ints_wt h3
  obtain ⟨x, rfl, _⟩ := @wt_int PROG (n + 1) 3 p .i64 u3 h4
  exact ⟨e1, e2, ⟨l1, l2, x⟩, rfl⟩
theorem bools_arg {n : Nat} {a : AV} (h : (isAggT PROG 25 = true ∧ ∃ l, Wt PROG (n + 2) 25 l ∧ a = .agg (l.map .t)) ∨ (isAggT PROG 25 = false ∧ ∃ x, Wt PROG (n + 2) 25 [x] ∧ a = .t x)) : ∃ e l, a = lb e l := by
  obtain ⟨x, h1, rfl⟩ := arg_one h (by kernel_rfl)
  have h3 := @wt_listb PROG (n + 1) 25 [x] Bool (fun x : Bool => [tb x]) 4 u25 h1 (fun cs hc => by
    obtain ⟨m, h2⟩ := @wt_bool PROG n 4 cs u4 hc
    exact ⟨m, h2⟩)
  obtain ⟨b, l, h2, _⟩ := h3
  rw [c4] at h2
  simp only [List.cons.injEq, and_true] at h2
  subst h2
  exact ⟨b, l, rfl⟩

theorem claim3 (vs : List AV) (h : ArgWt PROG (19 + 1) Try.f3.params.toList vs) : Or (.call 3) vs [] = some [.bool true] := by
  rw [Try.params3] at h
  obtain ⟨a, _, rfl, h1, b, _, rfl, h2, rfl⟩ := h
  obtain ⟨e, f, x, rfl⟩ := heap_arg h1
  obtain ⟨g, hs, rfl⟩ := bools_arg h2
  exact law3 e f g x hs
theorem claim4 (vs : List AV) (h : ArgWt PROG (19 + 1) Try.f4.params.toList vs) : Or (.call 4) vs [] = some [.bool true] := by
  rw [Try.params4] at h
  obtain ⟨a, _, rfl, h1, b, _, rfl, h2, c, _, rfl, h3, d, _, rfl, h4, rfl⟩ := h
  obtain ⟨e1, f1, x, rfl⟩ := heap_arg h1
  obtain ⟨e2, f2, y, rfl⟩ := heap_arg h2
  obtain ⟨d, rfl⟩ := int_arg h3
  obtain ⟨g, hs, rfl⟩ := bools_arg h4
  exact law4 e1 f1 e2 f2 g x y d hs
theorem claim6 (vs : List AV) (h : ArgWt PROG (19 + 1) Try.f6.params.toList vs) : Or (.call 6) vs [] = some [.bool true] := by
  rw [Try.params6] at h
  obtain ⟨a, _, rfl, h1, b, _, rfl, h2, c, _, rfl, h3, d, _, rfl, h4, rfl⟩ := h
  obtain ⟨e1, f1, x, rfl⟩ := heap_arg h1
  obtain ⟨e2, f2, y, rfl⟩ := heap_arg h2
  obtain ⟨d, rfl⟩ := int_arg h3
  obtain ⟨g, hs, rfl⟩ := bools_arg h4
  exact law6 e1 f1 e2 f2 g x y d hs

theorem ext_sound : ESound PROG ann := by
  intro f vals blks xs h
  by_cases e : f = 40
  · subst e
    exact ⟨Try.f40, _, Try.func40, rfl, by decide +kernel, Hp.terms_ok rfl rfl h⟩
  · have h0 : ann.ext f vals blks = none := by
      unfold ann
      simp only
    rw [h0] at h
    cases h
end Go.Aev.Gen
