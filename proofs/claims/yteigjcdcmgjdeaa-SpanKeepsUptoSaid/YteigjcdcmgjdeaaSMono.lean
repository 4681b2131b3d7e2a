/-
  Narrower spans stay narrower. Plain lists and numbers.
-/
import Derived.Test.YteigjcdcmgjdeaaSOnce
set_option linter.unusedSimpArgs false
set_option linter.unusedVariables false
namespace Go.Aev.Gen
open Go Go.Aev

/-- m is within l. -/
def Nar (l m : List S) : Prop := l.length = m.length ∧ ∀ i, (sat l i).lo ≤ (sat m i).lo ∧ (sat m i).hi ≤ (sat l i).hi
theorem Nar.refl (l : List S) : Nar l l := ⟨rfl, fun _ => ⟨Int.le_refl _, Int.le_refl _⟩⟩
theorem Nar.trans {a b c : List S} (h : Nar a b) (g : Nar b c) : Nar a c := ⟨h.1.trans g.1, fun i => by
  have := h.2 i; have := g.2 i; omega⟩
theorem Nar.set {l m : List S} {k : Nat} {s u : S} (h : Nar l m) (hk : k < l.length) (hs : s.lo ≤ u.lo ∧ u.hi ≤ s.hi) : Nar (l.set k s) (m.set k u) := by
  have := h.1
  refine ⟨by simp [this], fun i => ?_⟩
  rw [sat_set hk, sat_set (by omega)]
  split
  · exact hs
  · exact h.2 i
theorem Nar.set2 {l m : List S} {k : Nat} {u : S} (h : Nar l m) (hk : k < l.length) (hs : (sat l k).lo ≤ u.lo ∧ u.hi ≤ (sat l k).hi) : Nar l (m.set k u) := by
  have := h.1
  refine ⟨by simp [this], fun i => ?_⟩
  rw [sat_set (by omega)]
  split
  · rename_i e; subst e; exact hs
  · exact h.2 i
theorem stepS_nar {of : List Int} {t : Int} {k : Nat} {c : Int} {l l' : List S} (hk : k < l.length) (h : stepS of t k c l = some l') : Nar l l' := by
  unfold stepS at h
  split at h
  · cases h; exact Nar.refl _
  · rename_i hc
    split at h
    · cases h; exact Nar.refl _
    · split at h
      · cases h
      · cases h
        exact (Nar.refl l).set2 hk (newS_in hc)
theorem propF_nar {of : List Int} {t : Int} : ∀ {rest : List Int} {k : Nat} {l l' : List S}, k + rest.length ≤ l.length → propF of t rest k l = some l' → Nar l l'
  | [], k, l, l', _, h => by cases h; exact Nar.refl _
  | c :: rest, k, l, l', hk, h => by
    simp only [propF, Option.bind_eq_some_iff] at h
    obtain ⟨m, h1, h2⟩ := h
    simp only [List.length_cons] at hk
    have g1 := stepS_nar (by omega) h1
    exact g1.trans (propF_nar (by have := g1.1; omega) h2)
theorem oneF_nar {r : R} {l l' : List S} (hr : r.of.length ≤ l.length) (h : oneF r l = some l') : Nar l l' := by
  unfold oneF oneT at h
  split at h
  · simp only [Option.bind_eq_some_iff] at h
    obtain ⟨l1, h1, h2⟩ := h
    have g1 := propF_nar (by omega) h1
    split at h2
    · exact g1.trans (propF_nar (by have := g1.1; simp [negL]; omega) h2)
    · cases h2; exact g1
  · split at h
    · cases h; exact Nar.refl _
    · cases h
theorem onceF_nar : ∀ {rows : List R} {l l' : List S}, (∀ r ∈ rows, r.of.length ≤ l.length) → onceF rows l = some l' → Nar l l'
  | [], l, l', _, h => by cases h; exact Nar.refl _
  | r :: rows, l, l', hr, h => by
    simp only [onceF, Option.bind_eq_some_iff] at h
    obtain ⟨m, h1, h2⟩ := h
    have g1 := oneF_nar (hr r List.mem_cons_self) h1
    exact g1.trans (onceF_nar (fun r' h' => by rw [← g1.1]; exact hr r' (List.mem_cons_of_mem _ h')) h2)
theorem onceF_val : ∀ {rows : List R} {l l' : List S}, (∀ r ∈ rows, r.of.length ≤ l.length) → Val l → onceF rows l = some l' → Val l'
  | [], l, l', _, hl, h => by cases h; exact hl
  | r :: rows, l, l', hr, hl, h => by
    simp only [onceF, Option.bind_eq_some_iff] at h
    obtain ⟨m, h1, h2⟩ := h
    obtain ⟨g1, g2⟩ := oneF_val (hr r List.mem_cons_self) hl h1
    exact onceF_val (fun r' h' => by rw [g2]; exact hr r' (List.mem_cons_of_mem _ h')) g1 h2

/-! ### Monotone -/
theorem lv_mono {c : Int} {s u : S} (h : s.lo ≤ u.lo ∧ u.hi ≤ s.hi) : lv c s ≤ lv c u := by
  unfold lv
  split
  · exact Int.mul_le_mul_of_nonneg_left h.1 (by omega)
  · exact Int.mul_le_mul_of_nonpos_left (by omega) h.2
theorem lk_mono {c : Int} {s u : S} (h : s.lo ≤ u.lo ∧ u.hi ≤ s.hi) (hk : lk c s) : lk c u := by
  unfold lk at hk ⊢
  split at hk
  · rw [if_pos ‹_›]; omega
  · rw [if_neg ‹_›]; omega
theorem restF_mono {k : Nat} {l m : List S} (h : Nar l m) : ∀ {rest : List Int} {i : Nat} {t t' r : Int}, restF k l rest i t = some r → t' ≤ t → ∃ r', restF k m rest i t' = some r' ∧ r' ≤ r
  | [], i, t, t', r, hr, ht => by cases hr; exact ⟨t', rfl, ht⟩
  | c :: rest, i, t, t', r, hr, ht => by
    rw [restF] at hr ⊢
    split at hr
    · rw [if_pos ‹_›]; exact restF_mono h hr ht
    · rw [if_neg ‹_›]
      split at hr
      · rename_i hk
        rw [if_pos (lk_mono (h.2 i) hk)]
        have := lv_mono (c := c) (h.2 i)
        exact restF_mono h hr (by omega)
      · cases hr
theorem newS_mono {c r r' : Int} {s u : S} (hc : c ≠ 0) (hr : r' ≤ r) (h : s.lo ≤ u.lo ∧ u.hi ≤ s.hi) : (newS c r s).lo ≤ (newS c r' u).lo ∧ (newS c r' u).hi ≤ (newS c r s).hi := by
  unfold newS
  split
  · have : r' / c ≤ r / c := Int.ediv_le_ediv (by omega) hr
    dsimp only; omega
  · have : r' / (-c) ≤ r / (-c) := Int.ediv_le_ediv (by omega) hr
    dsimp only; omega
theorem stepS_mono {of : List Int} {t : Int} {k : Nat} {c : Int} {l m m' : List S} (hk : k < l.length) (h : Nar l m) (hm : stepS of t k c m = some m') : ∃ l', stepS of t k c l = some l' ∧ Nar l' m' := by
  unfold stepS at hm ⊢
  by_cases hc : c = 0
  · rw [if_pos hc] at hm ⊢
    cases hm
    exact ⟨l, rfl, h⟩
  · rw [if_neg hc] at hm ⊢
    cases hl : restF k l of 0 t with
    | none =>
      refine ⟨l, rfl, ?_⟩
      split at hm
      · cases hm; exact h
      · split at hm
        · cases hm
        · cases hm
          rename_i r _ _
          have := newS_in (r := r) (s := sat m k) hc
          have := h.2 k
          exact h.set2 hk (by omega)
    | some r =>
      obtain ⟨r', h1, h2⟩ := restF_mono h hl (Int.le_refl t)
      rw [h1] at hm
      dsimp only at hm ⊢
      have hmo := newS_mono hc h2 (h.2 k)
      split at hm
      · cases hm
      · cases hm
        refine ⟨l.set k (newS c r (sat l k)), by rw [if_neg (by omega)], h.set hk hmo⟩
theorem propF_mono {of : List Int} {t : Int} : ∀ {rest : List Int} {k : Nat} {l m m' : List S}, k + rest.length ≤ l.length → Nar l m → propF of t rest k m = some m' → ∃ l', propF of t rest k l = some l' ∧ Nar l' m'
  | [], k, l, m, m', _, h, hm => by cases hm; exact ⟨l, rfl, h⟩
  | c :: rest, k, l, m, m', hk, h, hm => by
    simp only [propF, Option.bind_eq_some_iff] at hm ⊢
    obtain ⟨m1, h1, h2⟩ := hm
    simp only [List.length_cons] at hk
    obtain ⟨l1, g1, g2⟩ := stepS_mono (by omega) h h1
    have := (stepS_nar (by omega) g1).1
    obtain ⟨l2, g3, g4⟩ := propF_mono (by omega) g2 h2
    exact ⟨l2, ⟨l1, g1, g3⟩, g4⟩
theorem oneF_mono {r : R} {l m m' : List S} (hr : r.of.length ≤ l.length) (h : Nar l m) (hm : oneF r m = some m') : ∃ l', oneF r l = some l' ∧ Nar l' m' := by
  unfold oneF oneT at hm ⊢
  split at hm
  · rw [if_pos ‹_›]
    simp only [Option.bind_eq_some_iff] at hm ⊢
    obtain ⟨m1, h1, h2⟩ := hm
    obtain ⟨l1, g1, g2⟩ := propF_mono (by omega) h h1
    have := (propF_nar (by omega) g1).1
    split at h2
    · obtain ⟨l2, g3, g4⟩ := propF_mono (by simp [negL]; omega) g2 h2
      exact ⟨l2, ⟨l1, g1, by rw [if_pos ‹_›]; exact g3⟩, g4⟩
    · cases h2
      exact ⟨l1, ⟨l1, g1, by rw [if_neg ‹_›]⟩, g2⟩
  · rw [if_neg ‹_›]
    split at hm
    · rw [if_pos ‹_›]
      cases hm
      exact ⟨l, rfl, h⟩
    · cases hm
theorem onceF_mono : ∀ {rows : List R} {l m m' : List S}, (∀ r ∈ rows, r.of.length ≤ l.length) → Nar l m → onceF rows m = some m' → ∃ l', onceF rows l = some l' ∧ Nar l' m'
  | [], l, m, m', _, h, hm => by cases hm; exact ⟨l, rfl, h⟩
  | r :: rows, l, m, m', hr, h, hm => by
    simp only [onceF, Option.bind_eq_some_iff] at hm ⊢
    obtain ⟨m1, h1, h2⟩ := hm
    obtain ⟨l1, g1, g2⟩ := oneF_mono (hr r List.mem_cons_self) h h1
    have hl := (oneF_nar (hr r List.mem_cons_self) g1).1
    obtain ⟨l2, g3, g4⟩ := onceF_mono (fun r' h' => by rw [← hl]; exact hr r' (List.mem_cons_of_mem _ h')) g2 h2
    exact ⟨l2, ⟨l1, g1, g3⟩, g4⟩
theorem onceF_snoc {r : R} : ∀ {rows : List R} {l : List S}, onceF (rows ++ [r]) l = (onceF rows l).bind (oneF r)
  | [], l => by simp [onceF]
  | r' :: rows, l => by
    simp only [List.cons_append, onceF]
    cases oneF r' l with
    | none => rfl
    | some m => simpa using onceF_snoc (rows := rows) (l := m)
end Go.Aev.Gen
