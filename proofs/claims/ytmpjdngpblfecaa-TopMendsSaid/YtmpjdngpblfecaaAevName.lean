/-
  Names of blocks, anew; cells that are made slices of the call's own.
-/
import Derived.Test.YtmpjdngpblfecaaAevOp
set_option linter.unusedSimpArgs false
set_option linter.unusedVariables false
namespace Go.Aev
open Go

def Owned (O : Id → Option Nat) (b : Nat) : Prop := ∃ i, O i = some b
/-- The blocks that a call begins with. -/
def blkH (blks : List Blk) : Id → Option Blk
  | .c j => blks[j]?
  | _ => none

section
variable {P : Program} {w w' : World} {A A' : Nat → Prop} {c : Ctx} {ρ : Id → Option Value} {O : Id → Option Nat} {s s' : St} {h : Id → Option Blk}

/-! ### Names, anew -/
def idsB : Option Blk → List Id
  | some (.box cs) => idsL cs
  | some (.arr cs) => idsL cs
  | _ => []
theorem reach_sound : ∀ {n : Nat} {todo seen0 seen : List Id}, reach h n todo seen0 = some seen → seen0.Nodup → (∀ i ∈ seen0, h i ≠ none) → (∀ i ∈ seen0, ∀ j ∈ idsB (h i), j ∈ seen0 ∨ j ∈ todo) →
    seen.Nodup ∧ (∀ i ∈ seen0, i ∈ seen) ∧ (∀ i ∈ todo, i ∈ seen) ∧ (∀ i ∈ seen, h i ≠ none) ∧ ∀ i ∈ seen, ∀ j ∈ idsB (h i), j ∈ seen
  | 0, todo, seen0, seen, e, _, _, _ => by simp [reach] at e
  | n + 1, [], seen0, seen, e, hn, hd, hc => by
    simp only [reach, Option.some.injEq] at e; subst e
    exact ⟨hn, fun _ h => h, by simp, hd, fun i hi j hj => by rcases hc i hi j hj with h | h; exact h; cases h⟩
  | n + 1, i :: todo, seen0, seen, e, hn, hd, hc => by
    simp only [reach] at e
    cases hin : seen0.contains i with
    | true =>
      rw [hin, cond_true] at e
      have hi : i ∈ seen0 := by simpa using hin
      obtain ⟨g1, g2, g3, g4, g5⟩ := reach_sound e hn hd (fun k hk j hj => by
        rcases hc k hk j hj with h | h
        · exact .inl h
        · rcases List.mem_cons.1 h with rfl | h
          · exact .inl hi
          · exact .inr h)
      refine ⟨g1, g2, fun k hk => ?_, g4, g5⟩
      rcases List.mem_cons.1 hk with rfl | hk
      · exact g2 _ hi
      · exact g3 k hk
    | false =>
      rw [hin, cond_false] at e
      have hni : i ∉ seen0 := by intro hm; have : seen0.contains i = true := by simpa using hm
                                 rw [this] at hin; cases hin
      have hn' : (seen0 ++ [i]).Nodup := List.nodup_append.2 ⟨hn, by simp, fun a ha b hb hab => by simp only [List.mem_singleton] at hb; exact hni (by rw [← hb, ← hab]; exact ha)⟩
      have go : ∀ more : List Id, h i ≠ none → idsB (h i) = more → reach h n (todo ++ more) (seen0 ++ [i]) = some seen → _ := fun more hne hm e =>
        reach_sound e hn' (fun k hk => by
          rcases List.mem_append.1 hk with hk | hk
          · exact hd k hk
          · simp only [List.mem_singleton] at hk; subst hk; exact hne) (fun k hk j hj => by
          rcases List.mem_append.1 hk with hk | hk
          · rcases hc k hk j hj with h | h
            · exact .inl (List.mem_append_left _ h)
            · rcases List.mem_cons.1 h with rfl | h
              · exact .inl (List.mem_append_right _ (List.mem_singleton.2 rfl))
              · exact .inr (List.mem_append_left _ h)
          · simp only [List.mem_singleton] at hk; subst hk
            rw [hm] at hj; exact .inr (List.mem_append_right _ hj))
      have fin : ∀ more : List Id, (seen.Nodup ∧ (∀ k ∈ seen0 ++ [i], k ∈ seen) ∧ (∀ k ∈ todo ++ more, k ∈ seen) ∧ (∀ k ∈ seen, h k ≠ none) ∧ ∀ k ∈ seen, ∀ j ∈ idsB (h k), j ∈ seen) →
          seen.Nodup ∧ (∀ i ∈ seen0, i ∈ seen) ∧ (∀ k ∈ i :: todo, k ∈ seen) ∧ (∀ i ∈ seen, h i ≠ none) ∧ ∀ i ∈ seen, ∀ j ∈ idsB (h i), j ∈ seen := by
        rintro more ⟨g1, g2, g3, g4, g5⟩
        refine ⟨g1, fun k hk => g2 k (List.mem_append_left _ hk), fun k hk => ?_, g4, g5⟩
        rcases List.mem_cons.1 hk with rfl | hk
        · exact g2 _ (List.mem_append_right _ (List.mem_singleton.2 rfl))
        · exact g3 k (List.mem_append_left _ hk)
      split at e
      · rename_i cs hi
        exact fin _ (go (idsL cs) (by rw [hi]; simp) (by rw [hi]; rfl) e)
      · rename_i cs hi
        exact fin _ (go (idsL cs) (by rw [hi]; simp) (by rw [hi]; rfl) e)
      · rename_i b hb hb2 hi
        refine fin [] (go [] (by rw [hi]; simp) ?_ (by simpa using e))
        rw [hi]
        cases b with
        | box cs => exact (hb cs rfl).elim
        | arr cs => exact (hb2 cs rfl).elim
        | _ => rfl
      · simp at e

def rnρ {α : Type} (m : List Id) (f : Id → Option α) : Id → Option α
  | .c j => (m[j]?).bind f
  | .g (.c j) n => (m[j]?).bind fun i => f (.g i n)
  | _ => none
theorem rnρ_idx {α : Type} {m : List Id} {f : Id → Option α} {i : Id} (hi : i ∈ m) : rnρ m f (.c (m.idxOf i)) = f i := by
  simp only [rnρ]
  have : m.idxOf i < m.length := List.idxOf_lt_length_iff.2 hi
  rw [List.getElem?_eq_getElem this]
  simp

theorem rnρ_idxg {α : Type} {m : List Id} {f : Id → Option α} {i : Id} {n : Nat} (hi : i ∈ m) : rnρ m f (.g (.c (m.idxOf i)) n) = f (.g i n) := by
  simp only [rnρ]
  have : m.idxOf i < m.length := List.idxOf_lt_length_iff.2 hi
  rw [List.getElem?_eq_getElem this]
  simp
/-- What a renamed name stands for. -/
def unrn (seen : List Id) : Id → Option Id
  | .c j => seen[j]?
  | .g (.c j) n => (seen[j]?).map fun i => .g i n
  | _ => none
theorem rnρ_un {α : Type} {m : List Id} {f : Id → Option α} (i : Id) : rnρ m f i = (unrn m i).bind f := by
  cases i with
  | c j => rfl
  | s d j => rfl
  | g i n =>
    cases i with
    | c j => simp only [rnρ, unrn]; cases m[j]? <;> rfl
    | _ => rfl
theorem unrn_inj {seen : List Id} (hn : seen.Nodup) {i j k : Id} (hr : ∀ x ∈ seen, x.real = true) (hi : unrn seen i = some k) (hj : unrn seen j = some k) : i = j := by
  have inj : ∀ {a b : Nat} {x : Id}, seen[a]? = some x → seen[b]? = some x → a = b := by
    intro a b x h1 h2
    obtain ⟨l1, e1⟩ := List.getElem?_eq_some_iff.1 h1
    obtain ⟨l2, e2⟩ := List.getElem?_eq_some_iff.1 h2
    exact (List.getElem_inj hn).1 (e1.trans e2.symm)
  have dec : ∀ i, unrn seen i = some k → (∃ a, i = .c a ∧ seen[a]? = some k) ∨ ∃ a n x, i = .g (.c a) n ∧ seen[a]? = some x ∧ k = .g x n := by
    intro i hi
    cases i with
    | c a => exact .inl ⟨a, rfl, hi⟩
    | s d a => cases hi
    | g i n =>
      cases i with
      | c a =>
        simp only [unrn, Option.map_eq_some_iff] at hi
        obtain ⟨x, h1, h2⟩ := hi
        exact .inr ⟨a, n, x, rfl, h1, h2.symm⟩
      | _ => cases hi
  rcases dec i hi with ⟨a, rfl, h1⟩ | ⟨a, n, x, rfl, h1, h2⟩ <;> rcases dec j hj with ⟨b, rfl, h3⟩ | ⟨b, m, y, rfl, h3, h4⟩
  · rw [inj h1 h3]
  · have := hr k (List.mem_of_getElem? h1); rw [h4] at this; cases this
  · have := hr k (List.mem_of_getElem? h3); rw [h2] at this; cases this
  · rw [h2] at h4
    cases h4
    rw [inj h1 h3]
mutual
theorem RelV.rn {m : List Id} (hA : ∀ b, A b → A' b) : ∀ (v : AV) (u : Value), (∀ i ∈ v.ids, i ∈ m) → RelV w A ρ v u → RelV w A' (rnρ m ρ) (v.rn m) u
  | .top, _, _, _ => by simp [AV.rn, RelV]
  | .t x, u, _, hv => by
    simp only [AV.rn, RelV] at hv ⊢
    exact RelT.mono (fun b hb => ⟨hA b hb, rfl⟩) x u hv
  | .tup vs, u, hi, hv => by
    simp only [AV.rn, RelV] at hv ⊢
    obtain ⟨ws, e, h1⟩ := hv
    exact ⟨ws, e, RelVs.rn hA vs ws (by simpa [AV.ids] using hi) h1⟩
  | .agg vs, u, hi, hv => by
    simp only [AV.rn, RelV] at hv ⊢
    obtain ⟨ws, e, h1, h2⟩ := hv
    exact ⟨ws, e, RelVs.rn hA vs ws (by simpa [AV.ids] using hi) h1, h2⟩
  | .ref i off, u, hi, hv => by
    simp only [AV.rn, RelV] at hv ⊢
    rw [rnρ_idx (hi i (by simp [AV.ids]))]; exact hv
  | .el i sz k off, u, hi, hv => by
    simp only [AV.rn, RelV] at hv ⊢
    rw [rnρ_idx (hi i (by simp [AV.ids]))]; exact hv
  | .own i, u, hi, hv => by
    simp only [AV.rn, RelV] at hv ⊢
    rw [rnρ_idx (hi i (by simp [AV.ids]))]; exact hv
  | .part i sz off n, u, hi, hv => by
    simp only [AV.rn, RelV] at hv ⊢
    rw [rnρ_idx (hi i (by simp [AV.ids]))]; exact hv
  | .row i n, u, hi, hv => by
    simp only [AV.rn, RelV] at hv ⊢
    rw [rnρ_idxg (hi i (by simp [AV.ids]))]; exact hv
  | .rel i sz n k off, u, hi, hv => by
    simp only [AV.rn, RelV] at hv ⊢
    rw [rnρ_idxg (hi i (by simp [AV.ids]))]; exact hv
  | .fn f a b, u, hi, hv => by
    simp only [AV.rn, RelV] at hv ⊢
    obtain ⟨x', y', e, h1, h2⟩ := hv
    simp only [AV.ids, List.mem_append] at hi
    exact ⟨x', y', e, RelVs.rn hA a x' (fun i h => hi i (.inl h)) h1, RelVs.rn hA b y' (fun i h => hi i (.inr h)) h2⟩
theorem RelVs.rn {m : List Id} (hA : ∀ b, A b → A' b) : ∀ (vs : List AV) (us : List Value), (∀ i ∈ idsL vs, i ∈ m) → RelVs w A ρ vs us → RelVs w A' (rnρ m ρ) (rnL m vs) us
  | [], us, _, hv => by simpa [rnL, RelVs] using hv
  | v :: vs, us, hi, hv => by
    simp only [rnL, RelVs] at hv ⊢
    obtain ⟨u, r, e, h1, h2⟩ := hv
    simp only [idsL, List.mem_append] at hi
    exact ⟨u, r, e, RelV.rn hA v u (fun i h => hi i (.inl h)) h1, RelVs.rn hA vs r (fun i h => hi i (.inr h)) h2⟩
end

/-- A name of what is handed in: a block, or a row of it. -/
def Of (seen : List Id) (k : Id) : Prop := k ∈ seen ∨ ∃ i n, i ∈ seen ∧ k = .g i n
theorem unrn_of {seen : List Id} {i k : Id} (h : unrn seen i = some k) : Of seen k := by
  cases i with
  | c a => exact .inl (List.mem_of_getElem? h)
  | s d a => cases h
  | g i n =>
    cases i with
    | c a =>
      simp only [unrn, Option.map_eq_some_iff] at h
      obtain ⟨x, h1, h2⟩ := h
      exact .inr ⟨x, n, List.mem_of_getElem? h1, h2.symm⟩
    | _ => cases h
theorem rn_owned {seen : List Id} {b : Nat} (h : Owned (rnρ seen O) b) : ∃ k, Of seen k ∧ O k = some b := by
  obtain ⟨i, hi⟩ := h
  rw [rnρ_un] at hi
  obtain ⟨k, hj, hk⟩ := Option.bind_eq_some_iff.1 hi
  exact ⟨k, unrn_of hj, hk⟩
theorem RowsAt.rn {seen : List Id} {i : Id} {j : Nat} {blk sz col rsz : Nat} (hA : ∀ b, A b → A' b) (hj : seen[j]? = some i) : ∀ {es : List Row} {base : Nat}, RowsAt w A ρ O i blk sz col rsz base es →
    RowsAt w A' (rnρ seen ρ) (rnρ seen O) (.c j) blk sz col rsz base es
  | [], _, _ => trivial
  | e :: es, base, ⟨⟨h1, h2, h3, v, h4, h5, h7⟩, hr⟩ => by
    have e1 : rnρ seen ρ (.g (.c j) e.n) = ρ (.g i e.n) := by simp [rnρ, hj]
    refine ⟨⟨h1, h2, fun k x hk hx => ?_, v, h4, by rw [e1]; exact h5, ?_⟩, RowsAt.rn hA hj hr⟩
    · obtain ⟨u, g1, g2⟩ := h3 k x hk hx
      exact ⟨u, g1, RelT.mono (fun b hb => ⟨hA b hb, rfl⟩) x u g2⟩
    · have e2 : rnρ seen O (.g (.c j) e.n) = O (.g i e.n) := by simp [rnρ, hj]
      rw [e2]
      revert h7
      cases e.own with
      | none => exact fun h => h
      | some p => exact fun h => h.mono (fun b hb => ⟨hA b hb, rfl⟩) fun b hb => ⟨hb, rfl⟩
theorem RowNames.rn {seen : List Id} {i : Id} {j nx : Nat} {es : List Row} (hj : seen[j]? = some i) (h : RowNames ρ O i nx es) : RowNames (rnρ seen ρ) (rnρ seen O) (.c j) nx es := by
  have e1 : ∀ n, rnρ seen ρ (.g (.c j) n) = ρ (.g i n) := fun n => by simp [rnρ, hj]
  have e2 : ∀ n, rnρ seen O (.g (.c j) n) = O (.g i n) := fun n => by simp [rnρ, hj]
  exact ⟨h.1, h.2.1, fun n hn => by rw [e1]; exact h.2.2.1 n hn, fun n b hn => by rw [e2] at hn; exact h.2.2.2 n b hn⟩
theorem rnL_length (m : List Id) : ∀ l : List AV, (rnL m l).length = l.length
  | [] => rfl
  | v :: r => by simp [rnL, rnL_length m r]
theorem HS.rnC {c' : Ctx} {seen : List Id} (hs : HS c w h ρ O) (hn : seen.Nodup) (hd : ∀ i ∈ seen, h i ≠ none) (hc : ∀ i ∈ seen, ∀ j ∈ idsB (h i), j ∈ seen)
    (hA : ∀ b, AA c w O b → AA c' w (rnρ seen O) b) (hM : ∀ b, Owned (rnρ seen O) b → c'.MO b) (hN : c'.N0 ≤ w.heap.size) : HS c' w (blkH (seen.map fun i => rnB seen (h i))) (rnρ seen ρ) (rnρ seen O) := by
  have hsub : ∀ b, Owned (rnρ seen O) b → Owned O b := fun b h => let ⟨k, _, hk⟩ := rn_owned h; ⟨k, hk⟩
  refine ⟨fun i b hb => ?_, fun i hr hi => ?_, fun i n => rfl, fun i n hi => ?_, fun i n u hu => ?_, fun i j b hi hj => ?_, fun i b hi => ?_, fun i b hi => ?_, hN⟩
  · cases i with
    | s d j => simp [blkH] at hb
    | g i n => simp [blkH] at hb
    | c j =>
      simp only [blkH, List.getElem?_map, Option.map_eq_some_iff] at hb
      obtain ⟨i, hi, e⟩ := hb
      have hmem : i ∈ seen := List.mem_of_getElem? hi
      have hρ : rnρ seen ρ (.c j) = ρ i := by simp [rnρ, hi]
      have hO : rnρ seen O (.c j) = O i := by simp [rnρ, hi]
      cases hhi : h i with
      | none => exact (hd i hmem hhi).elim
      | some x =>
        have hx := hs.blk i x hhi
        have hcl := hc i hmem
        rw [hhi] at e hcl
        cases x with
        | box cs =>
          simp only [rnB] at e; subst e
          obtain ⟨bk, arr, t, e1, e2, e3, e4, e5⟩ := hx
          exact ⟨bk, arr, t, by rw [hρ]; exact e1, by rw [hO]; exact e2, e3, RelVs.rn hA cs _ (fun k hk => hcl k (by simpa [idsB] using hk)) e4, e5⟩
        | sl fz sz bb xs =>
          simp only [rnB] at e; subst e
          obtain ⟨v, e1, e2, e3⟩ := hx
          refine ⟨v, by rw [hρ]; exact e1, e2.mono (fun b hb => ⟨hA b hb, rfl⟩) (fun b hb => ⟨?_, rfl⟩), by rw [hO]; exact e3⟩
          cases fz
          · simp only [Bool.false_eq_true, if_false] at hb ⊢; rw [hO]; exact hb
          · simp only [if_true] at hb ⊢; exact hA b hb
        | fbox l =>
          simp only [rnB] at e; subst e
          obtain ⟨bk, e1, e2, e3, e4⟩ := hx
          exact ⟨bk, by rw [hρ]; exact e1, by rw [hO]; exact e2, hA bk e3, RelAt.mono (fun b hb => ⟨hA b hb, rfl⟩) bk e3 0 l e4⟩
        | mp ag ks vk es =>
          simp only [rnB] at e; subst e
          obtain ⟨bk, ents, clock, e1, e2, e3, e4, e5⟩ := hx
          exact ⟨bk, ents, clock, by rw [hρ]; exact e1, by rw [hO]; exact e2, e3, e4, e5⟩
        | arr cs =>
          simp only [rnB] at e; subst e
          obtain ⟨bk, arr, t, e1, e2, e3, e4, e5⟩ := hx
          exact ⟨bk, arr, t, by rw [hρ]; exact e1, by rw [hO]; exact e2, e3, RelVs.rn hA cs _ (fun k hk => hcl k (by simpa [idsB] using hk)) e4, e5⟩
        | rows bb sz col rsz nx es =>
          simp only [rnB] at e; subst e
          obtain ⟨a, cap, e1, e2, e3, e4, e5⟩ := hx
          refine ⟨a, cap, by rw [hρ]; exact e1, e2, e3, e4.rn hi, ?_⟩
          rcases e5 with e5 | ⟨blk, off, arr, t, q1, q2, q3, q4, q5⟩
          · exact .inl e5
          · exact .inr ⟨blk, off, arr, t, q1, by rw [hO]; exact q2, q3, q4, q5.rn hA hi⟩
        | dead =>
          simp only [rnB] at e; subst e
          obtain ⟨e1, e2⟩ := hx
          exact ⟨by rw [hρ]; exact e1, by rw [hO]; exact e2⟩
  · cases i with
    | s d j => exact ⟨rfl, rfl⟩
    | g i n => cases hr
    | c j =>
      simp only [blkH, List.getElem?_map, Option.map_eq_none_iff] at hi
      simp [rnρ, hi]
  · cases i with
    | c j =>
      simp only [blkH, List.getElem?_map, Option.map_eq_none_iff] at hi
      simp [rnρ, hi]
    | _ => exact ⟨rfl, rfl⟩
  · cases i with
    | c j =>
      simp only [rnρ] at hu
      obtain ⟨k, h1, h2⟩ := Option.bind_eq_some_iff.1 hu
      exact hs.gone k n u h2
    | _ => cases hu
  · rw [rnρ_un] at hi hj
    obtain ⟨k1, a1, b1⟩ := Option.bind_eq_some_iff.1 hi
    obtain ⟨k2, a2, b2⟩ := Option.bind_eq_some_iff.1 hj
    have := hs.inj k1 k2 b b1 b2
    subst this
    exact unrn_inj hn (fun x hx => hs.real (hd x hx)) a1 a2
  · obtain ⟨k, hk⟩ := hsub b ⟨i, hi⟩; exact hs.lt k b hk
  · exact hM b ⟨i, hi⟩
theorem HS.rn {seen : List Id} (hs : HS c w h ρ O) (hn : seen.Nodup) (hd : ∀ i ∈ seen, h i ≠ none) (hc : ∀ i ∈ seen, ∀ j ∈ idsB (h i), j ∈ seen) :
    HS c w (blkH (seen.map fun i => rnB seen (h i))) (rnρ seen ρ) (rnρ seen O) ∧ (∀ b, Owned (rnρ seen O) b → Owned O b) := by
  have hsub : ∀ b, Owned (rnρ seen O) b → Owned O b := fun b h => let ⟨k, _, hk⟩ := rn_owned h; ⟨k, hk⟩
  refine ⟨hs.rnC hn hd hc (fun b hb => ⟨hb.1, hb.2.1, fun i hi => ?_⟩) (fun b hb => ?_) hs.size, hsub⟩
  · obtain ⟨k, hk⟩ := hsub b ⟨i, hi⟩
    exact hb.2.2 k hk
  · obtain ⟨k, hk⟩ := hsub b hb
    exact hs.own k b hk

/-- The first names are those that are asked for first. -/
theorem reach_grows : ∀ {n : Nat} {todo seen0 seen : List Id}, reach h n todo seen0 = some seen → seen0 <+: seen
  | 0, todo, seen0, seen, e => by simp [reach] at e
  | n + 1, [], seen0, seen, e => by simp only [reach, Option.some.injEq] at e; subst e; exact List.prefix_refl _
  | n + 1, i :: todo, seen0, seen, e => by
    simp only [reach] at e
    cases hin : seen0.contains i with
    | true => rw [hin, cond_true] at e; exact reach_grows e
    | false =>
      rw [hin, cond_false] at e
      split at e
      · exact (List.prefix_append _ _).trans (reach_grows e)
      · exact (List.prefix_append _ _).trans (reach_grows e)
      · exact (List.prefix_append _ _).trans (reach_grows e)
      · simp at e
theorem reach_first : ∀ {l : List Id} {n : Nat} {todo seen0 seen : List Id}, reach h n (l ++ todo) seen0 = some seen → l.Nodup → (∀ i ∈ l, i ∉ seen0) → (seen0 ++ l) <+: seen
  | [], n, todo, seen0, seen, e, _, _ => by rw [List.append_nil]; exact reach_grows e
  | i :: l, 0, todo, seen0, seen, e, _, _ => by simp [reach] at e
  | i :: l, n + 1, todo, seen0, seen, e, hn, hd => by
    obtain ⟨n1, n2⟩ := List.nodup_cons.1 hn
    simp only [List.cons_append, reach] at e
    have hin : seen0.contains i = false := by
      have := hd i List.mem_cons_self
      simpa using this
    rw [hin, cond_false] at e
    have go : ∀ more : List Id, reach h n (l ++ todo ++ more) (seen0 ++ [i]) = some seen → (seen0 ++ i :: l) <+: seen := by
      intro more e
      rw [List.append_assoc] at e
      have := reach_first e n2 (fun j hj hm => by
        rcases List.mem_append.1 hm with hm | hm
        · exact hd j (List.mem_cons_of_mem _ hj) hm
        · simp only [List.mem_singleton] at hm; subst hm; exact n1 hj)
      simpa using this
    split at e
    · exact go _ e
    · exact go _ e
    · exact go [] (by simpa using e)
    · simp at e

/-! ### Cells that are made slices of the call's own -/
theorem HS.someRho (hs : HS c w h ρ O) {i : Id} {b : Blk} (hi : h i = some b) : ∃ v, ρ i = some v ∧ v.oneCell' = true ∧ v.cells = #[v] := by
  cases hρ : ρ i with
  | some u => exact ⟨u, rfl, rho_one hs hρ⟩
  | none =>
    exfalso
    have := hs.blk i b hi
    cases b with
    | box cs => obtain ⟨b, _, _, h1, _⟩ := this; rw [hρ] at h1; cases h1
    | sl fz sz b xs => obtain ⟨v, h1, _⟩ := this; rw [hρ] at h1; cases h1
    | fbox l => obtain ⟨b, h1, _⟩ := this; rw [hρ] at h1; cases h1
    | mp ag ks vk es => obtain ⟨b, _, _, h1, _⟩ := this; rw [hρ] at h1; cases h1
    | arr cs => obtain ⟨b, _, _, h1, _⟩ := this; rw [hρ] at h1; cases h1
    | rows _ _ _ _ _ _ => obtain ⟨_, _, h1, _⟩ := this; rw [hρ] at h1; cases h1
    | dead => obtain ⟨⟨v, h1, _⟩, _⟩ := this; rw [hρ] at h1; cases h1
theorem RelVs.set : ∀ {as : List AV} {us : List Value} {k : Nat} {v : AV} {u : Value}, RelVs w A ρ as us → us[k]? = some u → RelV w A ρ v u → RelVs w A ρ (as.set k v) us
  | [], us, k, v, u, h, hk, hv => by simp only [RelVs] at h; subst h; simp at hk
  | a :: as, us, 0, v, u, h, hk, hv => by
    simp only [RelVs] at h; obtain ⟨x, r, rfl, h1, h2⟩ := h
    simp only [List.getElem?_cons_zero, Option.some.injEq] at hk; subst hk
    simp only [List.set_cons_zero, RelVs]; exact ⟨_, _, rfl, hv, h2⟩
  | a :: as, us, k + 1, v, u, h, hk, hv => by
    simp only [RelVs] at h; obtain ⟨x, r, rfl, h1, h2⟩ := h
    simp only [List.getElem?_cons_succ] at hk
    simp only [List.set_cons_succ, RelVs]; exact ⟨_, _, rfl, h1, RelVs.set h2 hk hv⟩

theorem emp_slAt {b : Bool} {sz : Nat} {u : Value} {Q : Nat → Prop} (h : RelT w A (.emp b) u) : SlAt w A sz b [] u Q := by
  simp only [RelT] at h
  rcases h with ⟨rfl, rfl⟩ | ⟨rfl, blk, off, sp, rfl⟩
  · exact ⟨none, 0, rfl, by simp, by simp, by simp, .inl rfl⟩
  · exact ⟨some ⟨blk, off, sp⟩, 0, rfl, by simp, by simp, trivial, .inl rfl⟩
theorem freshCell {new i : Id} {k : Nat} {cs : List AV} {X : Blk} {us : Upd} {bb : Bool} (hnr : new.real = true) (hs : HS c w h ρ O) (hi : h i = some (.box cs))
    (hX : h new = none → ∀ u, RelT w (AA c w O) (.emp bb) u → RelB w (AA c w O) (upd ρ new (some u)) O new X) (hk : cs[k]? = some (.t (.emp bb)) ∨ (∃ z, cs[k]? = some (.t (.lst z true [])) ∧ bb = true))
    (e : (cond (h new).isNone (some [(new, X), (i, Blk.box (cs.set k (.own new)))]) none) = some us) : ∃ ρ' O', Le w ρ O w ρ' O' ∧ HS c w (updH h us) ρ' O' := by
  obtain ⟨b, arr, t, h1, h2, h3, h4, h5⟩ := hs.blk i _ hi
  cases hf : h new with
  | some x => rw [hf] at e; simp at e
  | none =>
    rw [hf] at e
    simp only [Option.isNone_none, cond_true, Option.some.injEq] at e; subst e
    have hu : ∃ u, arr.toList[k]? = some u ∧ RelT w (AA c w O) (.emp bb) u := by
      rcases hk with hk | ⟨z, hk, rfl⟩
      · obtain ⟨u, g1, g2⟩ := h4.get hk; exact ⟨u, g1, by simpa [RelV] using g2⟩
      · obtain ⟨u, g1, g2⟩ := h4.get hk
        refine ⟨u, g1, ?_⟩
        simp only [RelV, RelT] at g2 ⊢
        rcases g2 with ⟨_, _, g⟩ | ⟨g, _⟩
        · exact .inl ⟨trivial, g⟩
        · cases g
    obtain ⟨u, g1, g2⟩ := hu
    obtain ⟨n1, n2⟩ := hs.nodom new hnr hf
    have hne : i ≠ new := fun e => by rw [e, hf] at hi; cases hi
    have le : Le w ρ O w (upd ρ new (some u)) O := ⟨rfl, rfl, rfl, Nat.le_refl _, fun j v hj => by
      by_cases e : j = new
      · subst e; rw [n1] at hj; cases hj
      · rw [upd_ne _ _ e]; exact hj, fun _ _ _ => rfl, fun j b h => .inl ⟨j, h⟩⟩
    refine ⟨_, O, le, ?_⟩
    rw [updH_cons, updH_one]
    have hri := hs.real (i := i) (by rw [hi]; simp)
    have gk : GK w ρ O w (upd ρ new (some u)) O := fun j n => ⟨upd_ne _ _ (real_ne hnr), rfl, fun _ _ => rfl⟩
    refine hs.go le gk (fun j x hj => ?_) (fun j hjr hj => ?_) (fun j hj => ?_) (fun j n => by rw [upd_ne _ _ (real_ne hri), upd_ne _ _ (real_ne hnr)]; exact hs.nog j n) hs.inj hs.lt
    · by_cases e : j = i
      · subst e; rw [upd_same] at hj; cases hj
        right
        refine ⟨b, arr, t, le.rho _ _ h1, h2, h3, RelVs.set (RelVs.mono (fun b hb => le.A b hb) le.rho _ _ h4) g1 ?_, h5⟩
        simp only [RelV]; exact upd_same _ _ _
      · rw [upd_ne _ _ e] at hj
        by_cases e2 : j = new
        · subst e2; rw [upd_same] at hj; cases hj
          exact .inr (hX hf u g2)
        · rw [upd_ne _ _ e2] at hj
          exact .inl ⟨hj, rfl, fun _ _ => rfl⟩
    · by_cases e : j = i
      · subst e; rw [upd_same] at hj; cases hj
      · rw [upd_ne _ _ e] at hj
        by_cases e2 : j = new
        · subst e2; rw [upd_same] at hj; cases hj
        · rw [upd_ne _ _ e2] at hj
          rw [upd_ne _ _ e2]; exact hs.nodom j hjr hj
    · by_cases e : j = i
      · subst e; rw [upd_same] at hj; cases hj
      · rw [upd_ne _ _ e] at hj
        by_cases e2 : j = new
        · subst e2; rw [upd_same] at hj; cases hj
        · rw [upd_ne _ _ e2] at hj; exact hj
theorem rowCell_sound {new i : Id} {k sz col rsz : Nat} {us : Upd} (hnr : new.real = true) (hs : HS c w h ρ O) (e : rowCell h new i k sz col rsz = some us) : ∃ ρ' O', Le w ρ O w ρ' O' ∧ HS c w (updH h us) ρ' O' := by
  have hX : ∀ {bb : Bool}, h new = none → ∀ u, RelT w (AA c w O) (.emp bb) u → RelB w (AA c w O) (upd ρ new (some u)) O new (.rows bb sz col rsz 0 []) := by
    intro bb hf u hu
    have hn : RowNames (upd ρ new (some u)) O new 0 [] := ⟨by simp, (fun f hf => by cases hf), fun n _ => by rw [upd_ne _ _ (real_ne hnr)]; exact (hs.gdom new n hf).1, fun n d hd => by rw [(hs.gdom new n hf).2] at hd; cases hd⟩
    simp only [RelT] at hu
    rcases hu with ⟨rfl, rfl⟩ | ⟨rfl, blk, off, sp, rfl⟩
    · exact ⟨none, 0, upd_same _ _ _, by simp, by simp, hn, .inl rfl⟩
    · exact ⟨some ⟨blk, off, sp⟩, 0, upd_same _ _ _, by simp, by simp, hn, .inl rfl⟩
  unfold rowCell at e
  split at e
  · rename_i cs hi
    split at e
    · simp only [Option.some.injEq] at e; subst e
      exact ⟨ρ, O, Le.refl, hs⟩
    · rename_i bb hk
      exact freshCell hnr hs hi hX (.inl hk) e
    · rename_i z hk
      exact freshCell hnr hs hi hX (.inr ⟨z, hk, rfl⟩) e
    · simp at e
  · simp at e
theorem ownCell_sound {new i : Id} {k sz : Nat} {us : Upd} (hnr : new.real = true) (hs : HS c w h ρ O) (e : ownCell h new i k sz = some us) : ∃ ρ' O', Le w ρ O w ρ' O' ∧ HS c w (updH h us) ρ' O' := by
  unfold ownCell at e
  cases hb : Nat.ble 100000 sz with
  | true => rw [hb] at e; exact rowCell_sound hnr hs e
  | false =>
  rw [hb, cond_false] at e
  split at e
  · rename_i cs hi
    obtain ⟨b, arr, t, h1, h2, h3, h4, h5⟩ := hs.blk i _ hi
    have hX : ∀ {bb : Bool}, h new = none → ∀ u, RelT w (AA c w O) (.emp bb) u → RelB w (AA c w O) (upd ρ new (some u)) O new (.sl false sz bb []) :=
      fun _ u hu => ⟨u, upd_same _ _ _, emp_slAt hu, by simp⟩
    split at e
    · simp only [Option.some.injEq] at e; subst e
      exact ⟨ρ, O, Le.refl, hs⟩
    · rename_i bb hk
      exact freshCell hnr hs hi hX (.inl hk) e
    · rename_i z hk
      exact freshCell hnr hs hi hX (.inr ⟨z, hk, rfl⟩) e
    · rename_i j sz' n hk
      split at e
      · rename_i sz'' bb xs hj0
        split at e
        · rename_i hcond
          obtain ⟨rfl, rfl, hji⟩ := hcond
          cases hf : h new with
          | some x => rw [hf] at e; simp at e
          | none =>
            rw [hf] at e
            simp only [Option.isNone_none, cond_true, Option.some.injEq] at e; subst e
            obtain ⟨u, g1, g2⟩ := h4.get hk
            obtain ⟨n1, n2⟩ := hs.nodom new hnr hf
            have hne : i ≠ new := fun e => by rw [e, hf] at hi; cases hi
            have hnj : j ≠ new := fun e => by rw [e, hf] at hj0; cases hj0
            obtain ⟨v, f1, ⟨a, cap, rfl, f2, f3, _, f4⟩, _⟩ := hs.blk j _ hj0
            simp only [RelV] at g2
            obtain ⟨a1, L, cap1, a', e1, e2, e3, rfl, e4⟩ := g2
            rw [f1] at e1; simp only [Option.some.injEq, Value.slice.injEq] at e1
            obtain ⟨rfl, rfl, rfl⟩ := e1
            have hlen : (xs.take n).length = n := by rw [List.length_take]; omega
            have ha : a' = none ↔ a = none := by
              rcases e4 with ⟨_, rfl⟩ | ⟨_, h, _⟩ | ⟨_, _, rfl, rfl⟩
              · exact Iff.rfl
              · exact h
              · simp
            have le : Le w ρ O w (upd ρ new (some (.slice a' n (cap - 0)))) (upd (upd O j none) new (O j)) := by
              refine ⟨rfl, rfl, rfl, Nat.le_refl _, fun k v hk => ?_, fun _ _ _ => rfl, fun k b hk => ?_⟩
              · by_cases e : k = new
                · subst e; rw [n1] at hk; cases hk
                · rw [upd_ne _ _ e]; exact hk
              · by_cases e : k = new
                · subst e; rw [upd_same] at hk; exact .inl ⟨j, hk⟩
                · rw [upd_ne _ _ e] at hk
                  by_cases e2 : k = j
                  · subst e2; rw [upd_same] at hk; cases hk
                  · rw [upd_ne _ _ e2] at hk; exact .inl ⟨k, hk⟩
            have dec : ∀ k b, upd (upd O j none) new (O j) k = some b → (k = new ∧ O j = some b) ∨ (k ≠ new ∧ k ≠ j ∧ O k = some b) := by
              intro k b hk
              by_cases e : k = new
              · subst e; rw [upd_same] at hk; exact .inl ⟨rfl, hk⟩
              · rw [upd_ne _ _ e] at hk
                by_cases e2 : k = j
                · subst e2; rw [upd_same] at hk; cases hk
                · rw [upd_ne _ _ e2] at hk; exact .inr ⟨e, e2, hk⟩
            refine ⟨_, _, le, ?_⟩
            rw [updH_cons, updH_cons, updH_one]
            have hri := hs.real (i := i) (by rw [hi]; simp)
            have hrj := hs.real (i := j) (by rw [hj0]; simp)
            have gk : GK w ρ O w (upd ρ new (some (.slice a' n (cap - 0)))) (upd (upd O j none) new (O j)) := fun k m => ⟨upd_ne _ _ (real_ne hnr), by rw [upd_ne _ _ (real_ne hnr), upd_ne _ _ (real_ne hrj)], fun _ _ => rfl⟩
            refine hs.go le gk (fun k x hk => ?_) (fun k hkr hk => ?_) (fun k hk => ?_) (fun k m => by rw [upd_ne _ _ (real_ne hri), upd_ne _ _ (real_ne hnr), upd_ne _ _ (real_ne hrj)]; exact hs.nog k m) (fun k k' b hk hk' => ?_) (fun k b hk => ?_)
            · by_cases e : k = i
              · subst e; rw [upd_same] at hk; cases hk
                right
                refine ⟨b, arr, t, le.rho _ _ h1, by rw [upd_ne _ _ hne, upd_ne _ _ (Ne.symm hji)]; exact h2, h3, RelVs.set (RelVs.mono (fun b hb => le.A b hb) le.rho _ _ h4) g1 ?_, h5⟩
                simp only [RelV]; exact upd_same _ _ _
              · rw [upd_ne _ _ e] at hk
                by_cases e2 : k = new
                · subst e2; rw [upd_same] at hk; cases hk
                  right
                  refine ⟨_, upd_same _ _ _, ⟨a', cap, by rw [hlen]; rfl, by rw [hlen]; omega, by rw [ha]; exact f3, trivial, ?_⟩, by simp⟩
                  rcases f4 with f4 | ⟨blk, off, arr', t', q1, q2, q3, q4, q5⟩
                  · exact .inl f4
                  · by_cases hc0 : cap = 0
                    · exact .inl hc0
                    · right
                      subst q1
                      have : a' = some ⟨blk, off, none⟩ := by
                        rcases e4 with ⟨_, rfl⟩ | ⟨h, _⟩ | ⟨b', o, e5, rfl⟩
                        · rfl
                        · exact absurd h.symm hc0
                        · simp only [Option.some.injEq, Addr.mk.injEq] at e5
                          obtain ⟨rfl, rfl, _⟩ := e5
                          simp
                      refine ⟨blk, off, arr', t', this, ?_, q3, q4, (RelEls.mono' (fun b hb => le.A b hb) blk _ rfl off xs q5).take n⟩
                      simp only [Bool.false_eq_true, if_false] at q2 ⊢; rw [upd_same]; exact q2
                · rw [upd_ne _ _ e2] at hk
                  by_cases e3 : k = j
                  · subst e3; rw [upd_same] at hk; cases hk
                    exact .inr ⟨⟨_, le.rho _ _ f1, rfl, rfl⟩, by rw [upd_ne _ _ hnj, upd_same]⟩
                  · rw [upd_ne _ _ e3] at hk
                    exact .inl ⟨hk, by rw [upd_ne _ _ e2, upd_ne _ _ e3], fun _ _ => rfl⟩
            · by_cases e : k = i
              · subst e; rw [upd_same] at hk; cases hk
              · rw [upd_ne _ _ e] at hk
                by_cases e2 : k = new
                · subst e2; rw [upd_same] at hk; cases hk
                · rw [upd_ne _ _ e2] at hk
                  by_cases e3 : k = j
                  · subst e3; rw [upd_same] at hk; cases hk
                  · rw [upd_ne _ _ e3] at hk
                    rw [upd_ne _ _ e2, upd_ne _ _ e2, upd_ne _ _ e3]; exact hs.nodom k hkr hk
            · by_cases e : k = i
              · subst e; rw [upd_same] at hk; cases hk
              · rw [upd_ne _ _ e] at hk
                by_cases e2 : k = new
                · subst e2; rw [upd_same] at hk; cases hk
                · rw [upd_ne _ _ e2] at hk
                  by_cases e3 : k = j
                  · subst e3; rw [upd_same] at hk; cases hk
                  · rw [upd_ne _ _ e3] at hk; exact hk
            · rcases dec k b hk with ⟨rfl, p1⟩ | ⟨p0, p1, p2⟩ <;> rcases dec k' b hk' with ⟨rfl, q1⟩ | ⟨q0, q1, q2⟩
              · rfl
              · exact (q1 (hs.inj k' j b q2 p1)).elim
              · exact (p1 (hs.inj k j b p2 q1)).elim
              · exact hs.inj k k' b p2 q2
            · rcases dec k b hk with ⟨rfl, p1⟩ | ⟨p0, p1, p2⟩
              · exact hs.lt j b p1
              · exact hs.lt k b p2
        · simp at e
      · simp at e
    · simp at e
  · simp at e
theorem rowCell_none {new i x : Id} {k sz col rsz : Nat} {us : Upd} (e : rowCell h new i k sz col rsz = some us) (hx : h x = none) (hn : x ≠ new) : updH h us x = none := by
  unfold rowCell at e
  split at e
  · rename_i cs hi
    have hxi : x ≠ i := fun e => by rw [e, hi] at hx; cases hx
    have fin : ∀ {b : Bool}, (cond (h new).isNone (some [(new, Blk.rows b sz col rsz 0 []), (i, Blk.box (cs.set k (.own new)))]) none) = some us → updH h us x = none := by
      intro b e
      cases hf : (h new).isNone with
      | false => rw [hf] at e; simp at e
      | true =>
        rw [hf] at e
        simp only [cond_true, Option.some.injEq] at e; subst e
        rw [updH_cons, updH_one, upd_ne _ _ hxi, upd_ne _ _ hn]; exact hx
    split at e
    · simp only [Option.some.injEq] at e; subst e; exact hx
    · exact fin e
    · exact fin e
    · simp at e
  · simp at e
theorem ownCell_none {new i x : Id} {k sz : Nat} {us : Upd} (e : ownCell h new i k sz = some us) (hx : h x = none) (hn : x ≠ new) : updH h us x = none := by
  unfold ownCell at e
  cases hb : Nat.ble 100000 sz with
  | true => rw [hb] at e; exact rowCell_none e hx hn
  | false =>
  rw [hb, cond_false] at e
  split at e
  · rename_i cs hi
    have hxi : x ≠ i := fun e => by rw [e, hi] at hx; cases hx
    have fin : ∀ {b : Bool}, (cond (h new).isNone (some [(new, Blk.sl false sz b []), (i, Blk.box (cs.set k (.own new)))]) none) = some us → updH h us x = none := by
      intro b e
      cases hf : (h new).isNone with
      | false => rw [hf] at e; simp at e
      | true =>
        rw [hf] at e
        simp only [cond_true, Option.some.injEq] at e; subst e
        rw [updH_cons, updH_one, upd_ne _ _ hxi, upd_ne _ _ hn]; exact hx
    split at e
    · simp only [Option.some.injEq] at e; subst e; exact hx
    · exact fin e
    · exact fin e
    · rename_i j sz' n hk
      split at e
      · rename_i sz'' bb xs hj0
        have hxj : x ≠ j := fun e => by rw [e, hj0] at hx; cases hx
        split at e
        · cases hf : (h new).isNone with
          | false => rw [hf] at e; simp at e
          | true =>
            rw [hf] at e
            simp only [cond_true, Option.some.injEq] at e; subst e
            rw [updH_cons, updH_cons, updH_one, upd_ne _ _ hxi, upd_ne _ _ hn, upd_ne _ _ hxj]; exact hx
        · simp at e
      · simp at e
    · simp at e
  · simp at e
theorem prep_sound {nm : Nat} : ∀ {l : List (Id × Nat × Nat)} {j : Nat} {h : Id → Option Blk} {ρ : Id → Option Value} {O : Id → Option Nat} {us : Upd}, HS c w h ρ O → prep nm j h l = some us → ∃ ρ' O', Le w ρ O w ρ' O' ∧ HS c w (updH h us) ρ' O'
  | [], j, h, ρ, O, us, hs, e => by simp only [prep, Option.some.injEq] at e; subst e; exact ⟨ρ, O, Le.refl, hs⟩
  | (i, k, sz) :: l, j, h, ρ, O, us, hs, e => by
    simp only [prep] at e
    obtain ⟨u1, e1, e⟩ := Option.bind_eq_some_iff.1 e
    obtain ⟨u2, e2, e⟩ := Option.bind_eq_some_iff.1 e
    simp only [Option.some.injEq] at e; subst e
    obtain ⟨ρ1, O1, le1, hs1⟩ := ownCell_sound rfl hs e1
    obtain ⟨ρ2, O2, le2, hs2⟩ := prep_sound hs1 e2
    exact ⟨ρ2, O2, le1.trans le2, by rw [updH_append]; exact hs2⟩
theorem prep_none {nm : Nat} {x : Id} (hn : ∀ k, x ≠ .s nm k) : ∀ {l : List (Id × Nat × Nat)} {j : Nat} {h : Id → Option Blk} {us : Upd}, prep nm j h l = some us → h x = none → updH h us x = none
  | [], j, h, us, e, hx => by simp only [prep, Option.some.injEq] at e; subst e; exact hx
  | (i, k, sz) :: l, j, h, us, e, hx => by
    simp only [prep] at e
    obtain ⟨u1, e1, e⟩ := Option.bind_eq_some_iff.1 e
    obtain ⟨u2, e2, e⟩ := Option.bind_eq_some_iff.1 e
    simp only [Option.some.injEq] at e; subst e
    rw [updH_append]
    exact prep_none hn e2 (ownCell_none e1 hx (hn j))

end
end Go.Aev
