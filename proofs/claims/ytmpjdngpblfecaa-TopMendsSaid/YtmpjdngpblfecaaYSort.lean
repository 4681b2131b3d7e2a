/-
  slices.SortFunc(rows, slices.Compare), as a call that is told to the evaluator.
-/
import Derived.Test.YtmpjdngpblfecaaYLay
import Derived.Test.YtmpjdngpblfecaaYSort0
import Derived.Test.YtmpjdngpblfecaaAevGlue
import Derived.Shelf.SlSortCmp.NoneTotal
set_option linter.unusedSimpArgs false
set_option linter.unusedVariables false
namespace Go.Proofs.Ytmpjdngpblfecaa
open Go Go.RowKit Go.Proofs Go.Sort Go.Lib

/-! ### The order -/
theorem lexI_anti : ∀ (x y : List Int), lexI y x = -lexI x y
  | [], [] => rfl
  | [], _ :: _ => rfl
  | _ :: _, [] => rfl
  | a :: x, b :: y => by
    have ih := lexI_anti x y
    simp only [lexI]
    by_cases h1 : a < b
    · rw [if_neg (by omega : ¬ b < a), if_pos (show b > a from h1), if_pos h1]; rfl
    · by_cases h2 : a > b
      · rw [if_pos (show b < a from h2), if_neg h1, if_pos h2]
      · rw [if_neg (show ¬ b < a from h2), if_neg (show ¬ b > a from h1), if_neg h1, if_neg h2, ih]
theorem lexI_eq : ∀ {x y : List Int}, lexI x y = 0 → x = y
  | [], [], _ => rfl
  | [], _ :: _, h => by simp [lexI] at h
  | _ :: _, [], h => by simp [lexI] at h
  | a :: x, b :: y, h => by
    simp only [lexI] at h
    split at h
    · simp at h
    · split at h
      · simp at h
      · rw [lexI_eq h, show a = b by omega]
theorem lexI_self (x : List Int) : lexI x x = 0 := by have := lexI_anti x x; omega
theorem lexI_le : ∀ {x y z : List Int}, lexI x y ≤ 0 → lexI y z ≤ 0 → lexI x z ≤ 0
  | [], _, [], _, _ => by simp [lexI]
  | [], _, _ :: _, _, _ => by simp [lexI]
  | _ :: _, [], _, h, _ => by simp [lexI] at h
  | _ :: _, _ :: _, [], _, h => by simp [lexI] at h
  | a :: x, b :: y, c :: z, h1, h2 => by
    simp only [lexI] at h1 h2 ⊢
    by_cases g1 : a < b
    · by_cases g2 : b < c
      · rw [if_pos (by omega)]; decide
      · rw [if_neg g2] at h2
        by_cases g3 : b > c
        · rw [if_pos g3] at h2; simp at h2
        · rw [if_pos (by omega)]; decide
    · rw [if_neg g1] at h1
      by_cases g4 : a > b
      · rw [if_pos g4] at h1; simp at h1
      · rw [if_neg g4] at h1
        by_cases g2 : b < c
        · rw [if_pos (by omega)]; decide
        · rw [if_neg g2] at h2
          by_cases g3 : b > c
          · rw [if_pos g3] at h2; simp at h2
          · rw [if_neg g3] at h2
            rw [if_neg (by omega), if_neg (by omega)]
            exact lexI_le h1 h2
theorem lexI_lt {x y z : List Int} (h1 : lexI x y < 0) (h2 : lexI y z < 0) : lexI x z < 0 := by
  have := lexI_le (x := x) (y := y) (z := z) (by omega) (by omega)
  by_cases h : lexI x z = 0
  · have e := lexI_eq h
    subst e
    have := lexI_anti x y
    omega
  · omega
end Go.Proofs.Ytmpjdngpblfecaa
namespace Go.Aev.Ys
open Go Go.Aev Go.Proofs Go.Proofs.Ytmpjdngpblfecaa Go.RowKit Go.Sort Go.Shelf Go.Lib
noncomputable abbrev PR := Go.Proofs.Try.prog

theorem ints_eq : ∀ {xs : List (List T)} {l : List Int}, ints? xs = some l → xs = l.map fun n => [.int .i64 n]
  | [], l, h => by simp [ints?] at h; subst h; rfl
  | c :: r, l, h => by
    simp only [ints?] at h
    cases h1 : int1? c with
    | none => simp [h1] at h
    | some n =>
      cases h2 : ints? r with
      | none => simp [h1, h2] at h
      | some l' =>
        simp only [h1, h2, Option.bind_some, Option.some.injEq] at h; subst h
        have e : c = [.int .i64 n] := by
          unfold int1? at h1
          split at h1
          · simp at h1; subst h1; rfl
          · cases h1
        rw [e, ints_eq h2]; rfl
theorem rows_eq : ∀ {xs : List (List T)} {q : List (List Int)}, rows? xs = some q → xs = q.map rowC ∧ ∀ l ∈ q, l.length ≤ 1000000
  | [], q, h => by simp [rows?] at h; subst h; exact ⟨rfl, by simp⟩
  | c :: r, q, h => by
    unfold rows? at h
    split at h
    · rename_i heq; cases heq
    · rename_i sz e ys r' heq
      cases heq
      split at h
      · rename_i hsz
        subst hsz
        cases h1 : ints? ys with
        | none => simp [h1] at h
        | some l =>
          simp only [h1, Option.bind_some] at h
          split at h
          · rename_i hc
            cases h2 : rows? r with
            | none => simp [h2] at h
            | some q' =>
              simp only [h2, Option.bind_some, Option.some.injEq] at h
              subst h
              obtain ⟨i1, i2⟩ := rows_eq h2
              refine ⟨?_, fun l' hl' => ?_⟩
              · rw [i1, List.map_cons, hc.1, ints_eq h1]; rfl
              · rcases List.mem_cons.1 hl' with rfl | hl'
                · exact hc.2
                · exact i2 l' hl'
          · cases h
      · cases h
    · cases h
/-! ### Sorted -/
theorem le_trans (a b c : List Int) : leC a b = true → leC b c = true → leC a c = true := by
  unfold leC
  have e1 := lexI_anti a b
  have e2 := lexI_anti b c
  have e3 := lexI_anti a c
  intro h1 h2
  have h1' : ¬ lexI b a < 0 := by simpa using h1
  have h2' : ¬ lexI c b < 0 := by simpa using h2
  have := lexI_le (x := a) (y := b) (z := c) (by omega) (by omega)
  have : ¬ lexI c a < 0 := by omega
  simpa using this
theorem le_total (a b : List Int) : (leC a b || leC b a) = true := by
  unfold leC
  have := lexI_anti a b
  by_cases h : lexI b a < 0
  · have : ¬ lexI a b < 0 := by omega
    simp [this]
  · simp [h]
theorem le_anti {a b : List Int} (h1 : leC a b = true) (h2 : leC b a = true) : a = b := by
  unfold leC at h1 h2
  have h1' : ¬ lexI b a < 0 := by simpa using h1
  have h2' : ¬ lexI a b < 0 := by simpa using h2
  have := lexI_anti a b
  exact lexI_eq (by omega)
theorem sort_uniq {p q : List (List Int)} (hp : p.Perm q) (hs : p.Pairwise fun a b => leC a b = true) : p = sortL q := by
  refine List.Perm.eq_of_pairwise (le := fun a b => leC a b = true) (fun a b _ _ h1 h2 => le_anti h1 h2) hs ?_ (hp.trans (List.mergeSort_perm q leC).symm)
  exact List.pairwise_mergeSort le_trans le_total q
theorem sort_mem (q : List (List Int)) (l : List Int) : l ∈ sortL q ↔ l ∈ q := (List.mergeSort_perm q leC).mem_iff
theorem sort_len (q : List (List Int)) : (sortL q).length = q.length := (List.mergeSort_perm q leC).length_eq
/-! ### The call -/
section
variable {w : World} {A : Nat → Prop}
/-- A row, its value beside it. -/
def Row1 (w : World) (A : Nat → Prop) (p : List Int × Value) : Prop := RelT w A (.lst 1 p.1.isEmpty (p.1.map fun n => [.int .i64 n])) p.2 ∧ p.1.length ≤ 1000000
abbrev El (w : World) (A : Nat → Prop) := { p : List Int × Value // Row1 w A p }
def vE (x : El w A) : Value := x.1.2
def cE (x y : El w A) : Int := lexI x.1.1 y.1.1
/-- What a row's value is. -/
theorem row_val {l : List Int} {v : Value} (h : Row1 w A (l, v)) : (l = [] ∧ ∃ a c, v = .slice a 0 c) ∨ ∃ b o c, v = .slice (some ⟨b, o, none⟩) l.length c ∧ 0 < l.length ∧ A b ∧ ∀ j, j < l.length → w.cell? ⟨b, o + j, none⟩ = some (.int .i64 (l.getD j 0)) := by
  have hr := h.1
  simp only [RelT] at hr
  rcases hr with ⟨_, h2, rfl⟩ | ⟨_, blk, off, sp, cap, rfl, _, h3, h4⟩
  · exact .inl ⟨by simpa using h2, _, _, rfl⟩
  · by_cases e : l = []
    · subst e; exact .inl ⟨rfl, _, _, rfl⟩
    · rcases h3 with h3 | ⟨rfl, hA⟩
      · exact absurd (by simpa using h3) e
      · refine .inr ⟨blk, off, cap, by simp, List.length_pos_iff.2 e, hA, fun j hj => ?_⟩
        have hg := (h4.get (k := j) (cs := [.int .i64 (l.getD j 0)]) (by simp [hj])).2
        simp only [RelAt, RelT, Nat.mul_one] at hg
        obtain ⟨⟨v, hv, rfl⟩, _⟩ := hg
        exact hv
theorem vE_one : OneCell (vE (w := w) (A := A)) := by
  rintro ⟨⟨l, v⟩, h⟩
  rcases row_val h with ⟨_, a, c, rfl⟩ | ⟨b, o, c, rfl, _⟩ <;> rfl
theorem cE_swo : SWO (ltOf (cE (w := w) (A := A))) where
  irrefl x := by unfold ltOf cE; rw [lexI_self]; rfl
  trans x y z h1 h2 := by
    unfold ltOf cE at *
    simp only [decide_eq_true_eq] at *
    exact lexI_lt h1 h2
  ntrans x y z h1 h2 := by
    unfold ltOf cE at *
    simp only [decide_eq_false_iff_not] at *
    have e1 := lexI_anti x.1.1 y.1.1
    have e2 := lexI_anti y.1.1 z.1.1
    have e3 := lexI_anti x.1.1 z.1.1
    have := lexI_le (x := z.1.1) (y := y.1.1) (z := x.1.1) (by omega) (by omega)
    omega
/-- Comparing, in a world that has grown. -/
theorem cmp_in {W : World} (hW : ∀ b, A b → W.heap[b]? = w.heap[b]?) (x y : El w A) :
    Calls PR 25 #[vE x, vE y] W fun e w' => e = .returned (.int .i64 (cE x y)) ∧ w' = W := by
  obtain ⟨⟨l, v⟩, h1⟩ := x
  obtain ⟨⟨m, u⟩, h2⟩ := y
  have b1 := h1.2
  have b2 := h2.2
  show Calls PR 25 #[v, u] W fun e w' => e = .returned (.int .i64 (lexI l m)) ∧ w' = W
  simp only at b1 b2
  rcases row_val h1 with ⟨rfl, a1, c1, rfl⟩ | ⟨p1, o1, c1, rfl, g1, A1, k1⟩
  · rcases row_val h2 with ⟨rfl, a2, c2, rfl⟩ | ⟨p2, o2, c2, rfl, g2, A2, k2⟩
    · exact cmp25l a1 a2 c1 0 c2 [] W rfl (by omega)
    · exact cmp25l a1 _ c1 m.length c2 m W rfl b2
  · have k1' : ∀ j, j < l.length → W.cell? ⟨p1, o1 + j, none⟩ = some (.int .i64 (l.getD j 0)) := fun j hj => by
      rw [cell_of_block (w := w) (hW p1 A1)]; exact k1 j hj
    rcases row_val h2 with ⟨rfl, a2, c2, rfl⟩ | ⟨p2, o2, c2, rfl, g2, A2, k2⟩
    · have := cmp25r p1 o1 l.length c1 c2 a2 (l.getD 0 0) W g1 b1 (k1' 0 g1)
      refine this.mono ?_
      rintro e w' ⟨rfl, rfl⟩
      refine ⟨?_, rfl⟩
      cases l with
      | nil => simp at g1
      | cons a l => rfl
    · exact cmp25 p1 o1 l.length c1 p2 o2 m.length c2 l m W rfl rfl b1 b2 k1' fun j hj => by
        rw [cell_of_block (w := w) (hW p2 A2)]; exact k2 j hj
end
end Go.Aev.Ys
