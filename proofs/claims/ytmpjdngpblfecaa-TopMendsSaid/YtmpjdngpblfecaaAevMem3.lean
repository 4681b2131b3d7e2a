/-
  Snaps; what is shut; stores; new blocks.
-/
import Derived.Test.YtmpjdngpblfecaaAevMem2
set_option linter.unusedSimpArgs false
set_option linter.unusedVariables false
namespace Go.Aev
open Go

section
variable {P : Program} {w w' : World} {A A' : Nat → Prop} {c : Ctx} {ρ : Id → Option Value} {O : Id → Option Nat} {s : St} {cc : Option Bool} {h : Id → Option Blk}

/-! ### What a value names -/
def refs1 (v : AV) (i : Id) : Prop := v = .own i ∨ (∃ sz off n, v = .part i sz off n) ∨ ∃ off, v = .ref i off

theorem sl_at' {i : Id} {fz b : Bool} {sz : Nat} {l : List (List T)} (hs : HS c w h ρ O) (hi : h i = some (.sl fz sz b l)) : ∃ v, ρ i = some v ∧ SlAt w (AA c w O) sz b l v (fun blk => if fz = true then AA c w O blk else O i = some blk) := by
  obtain ⟨v, h1, h2, _⟩ := hs.blk i _ hi
  exact ⟨v, h1, h2⟩

/-- A snap holds wherever the blocks that it shows may be read. -/
theorem snapOne_sound {v : AV} {x : T} {u : Value} (hs : HS c w h ρ O) (hv : RelV w (AA c w O) ρ v u) (hsn : snapOne h v = some x)
    (hA : ∀ b, AA c w O b → A' b) (hO : ∀ i blk, refs1 v i → O i = some blk → A' blk) : RelT w A' x u := by
  have mono : ∀ (t : T) (v : Value), RelT w (AA c w O) t v → RelT w A' t v := fun t v hr => RelT.mono (fun b hb => ⟨hA b hb, rfl⟩) t v hr
  cases v <;> simp only [snapOne, reduceCtorEq, Option.some.injEq] at hsn
  case t y => subst hsn; simp only [RelV] at hv; exact mono _ _ hv
  case own i =>
    split at hsn
    · rename_i fz sz b xs hi
      simp only [Option.some.injEq] at hsn; subst hsn
      obtain ⟨v', g1, a, cap, q1, q2, q3, q4, q5⟩ := sl_at' hs hi
      simp only [RelV] at hv
      rw [g1] at hv; simp only [Option.some.injEq] at hv; subst hv; subst q1
      simp only [RelT]
      cases b with
      | true =>
        left
        have : a = none := q3.2 rfl
        subst this
        rcases q5 with q5 | ⟨blk, off, arr, t, q6, _⟩
        · have : xs = [] := List.length_eq_zero_iff.1 (by omega)
          subst this; subst q5; exact ⟨rfl, rfl, rfl⟩
        · cases q6
      | false =>
        right; refine ⟨rfl, ?_⟩
        rcases q5 with q5 | ⟨blk, off, arr, t, q6, q7, q8, q9, q10⟩
        · have : xs = [] := List.length_eq_zero_iff.1 (by omega)
          subst this
          cases a with
          | none => simp at q3
          | some y =>
            obtain ⟨bk, o, sp⟩ := y
            exact ⟨bk, o, sp, cap, rfl, q2, .inl rfl, by simp [RelEls]⟩
        · subst q6
          refine ⟨blk, off, _, cap, rfl, q2, .inr ⟨rfl, ?_⟩, RelEls.mono' (fun b hb => ⟨hA b hb, rfl⟩) blk sz rfl off xs q10⟩
          cases fz
          · exact hO i blk (.inl rfl) (by simpa using q7)
          · exact hA _ (by simpa using q7)
    · simp at hsn
  case part i sz off n =>
    split at hsn
    · rename_i fz sz' b xs hi
      split at hsn
      · rename_i hsz; subst hsz
        simp only [Option.some.injEq] at hsn; subst hsn
        obtain ⟨v', g1, a, cap, q1, q2, q3, q4, q5⟩ := sl_at' hs hi
        simp only [RelV] at hv
        obtain ⟨a1, L, cap1, a', e1, e2, e3, rfl, e4⟩ := hv
        rw [g1] at e1; simp only [Option.some.injEq] at e1; subst e1
        simp only [Value.slice.injEq] at q1
        obtain ⟨rfl, rfl, rfl⟩ := q1
        have hlen : ((xs.drop off).take n).length = n := by simp only [List.length_take, List.length_drop]; omega
        simp only [RelT, hlen]
        have nilIff : a' = none ↔ a1 = none := by
          rcases e4 with ⟨_, rfl⟩ | ⟨_, e5, _⟩ | ⟨b', o, rfl, rfl⟩
          · exact Iff.rfl
          · exact e5
          · simp
        cases b with
        | true =>
          left
          have e5 : a1 = none := q3.2 rfl
          subst e5
          rcases q5 with q5 | ⟨blk, off', arr, t, q6, _⟩
          · have e6 : xs = [] := List.length_eq_zero_iff.1 (by omega)
            subst e6; subst q5
            simp only [List.length_nil] at e2
            have e7 : n = 0 := by omega
            subst e7
            rw [nilIff.2 rfl]
            exact ⟨rfl, by simp, by congr 1; omega⟩
          · cases q6
        | false =>
          right; refine ⟨rfl, ?_⟩
          by_cases hn : n = 0
          · subst hn
            cases a' with
            | none => have := nilIff.1 rfl; simp [this] at q3
            | some y =>
              obtain ⟨bk, o, sp⟩ := y
              exact ⟨bk, o, sp, _, rfl, by omega, .inl (by simp), by simp [RelEls]⟩
          · rcases q5 with q5 | ⟨blk, off', arr, t, q6, q7, q8, q9, q10⟩
            · omega
            · subst q6
              have ea : a' = some ⟨blk, off' + off * sz', none⟩ := by
                rcases e4 with ⟨rfl, rfl⟩ | ⟨rfl, _⟩ | ⟨b', o, e5, e6⟩
                · simp
                · omega
                · simp only [Option.some.injEq, Addr.mk.injEq] at e5
                  obtain ⟨rfl, rfl, _⟩ := e5
                  exact e6
              subst ea
              refine ⟨blk, _, _, _, rfl, by omega, .inr ⟨rfl, ?_⟩, (RelEls.mono' (fun b hb => ⟨hA b hb, rfl⟩) blk sz' rfl off' xs q10).drop off |>.take n⟩
              cases fz
              · exact hO i blk (.inr (.inl ⟨_, _, _, rfl⟩)) (by simpa using q7)
              · exact hA _ (by simpa using q7)
      · simp at hsn
    · simp at hsn
  case ref i off =>
    simp only [RelV] at hv
    obtain ⟨b', e1, rfl⟩ := hv
    split at hsn
    · rename_i cs hi
      obtain ⟨l, hl, hsn⟩ := Option.bind_eq_some_iff.1 hsn
      simp only [Option.some.injEq] at hsn; subst hsn
      obtain ⟨b, arr, t', h1, h2, h3, h4, h5, h6⟩ := box_cells (s := ⟨fun _ => (none, .top), h⟩) hs hi
      rw [h1] at e1; simp only [Option.some.injEq, Value.pointer.injEq, Addr.mk.injEq] at e1
      obtain ⟨rfl, _⟩ := e1
      simp only [RelT]
      refine ⟨b, off, rfl, .inr (hO i b (.inr (.inr ⟨_, rfl⟩)) h2), ?_⟩
      have hT := RelTs.of_allT hl h4
      have key : ∀ (l : List T) (vs : List Value) (off : Nat), RelTs w (AA c w O) l vs → (∀ j v, vs[j]? = some v → w.cell? ⟨b, off + j, none⟩ = some v) → RelAt w A' b off l := by
        intro l
        induction l with
        | nil => intro vs off _ _; simp [RelAt]
        | cons x l ih =>
          rintro vs off ⟨v, r, rfl, h1, h2⟩ hv
          simp only [RelAt]
          refine ⟨⟨v, by simpa using hv 0 v rfl, mono _ _ h1⟩, ih r (off + 1) h2 fun j u hj => ?_⟩
          have := hv (j + 1) u (by simpa using hj)
          rw [show off + 1 + j = off + (j + 1) by omega]; exact this
      have := (key l _ 0 hT fun j v hj => by rw [Nat.zero_add]; exact h6 j v hj).drop off
      rwa [Nat.zero_add] at this
    · rename_i l hi
      simp only [Option.some.injEq] at hsn; subst hsn
      obtain ⟨b, h1, h2, h3, h4⟩ := hs.blk i _ hi
      rw [h1] at e1; simp only [Option.some.injEq, Value.pointer.injEq, Addr.mk.injEq] at e1
      obtain ⟨rfl, _⟩ := e1
      simp only [RelT]
      refine ⟨b, off, rfl, .inr (hA b h3), ?_⟩
      have := (RelAt.mono (fun b hb => ⟨hA b hb, rfl⟩) b h3 0 l h4).drop off
      rwa [Nat.zero_add] at this
    · simp at hsn

def refsAny (v : AV) (i : Id) : Prop := refs1 v i ∨ ∃ vs, v = .agg vs ∧ ∃ u ∈ vs, refs1 u i
theorem snapAll_sound (hs : HS c w h ρ O) (hA : ∀ b, AA c w O b → A' b) : ∀ {vs : List AV} {xs : List T} {us : List Value}, RelVs w (AA c w O) ρ vs us → snapAll h vs = some xs →
    (∀ i blk, (∃ u ∈ vs, refs1 u i) → O i = some blk → A' blk) → RelTs w A' xs us
  | [], xs, us, hv, hsn, _ => by
    simp only [snapAll, Option.some.injEq] at hsn; subst hsn
    simpa [RelVs, RelTs] using hv
  | v :: vs, xs, us, hv, hsn, hO => by
    simp only [snapAll] at hsn
    cases h1 : snapOne h v with
    | none => simp [h1] at hsn
    | some x =>
      cases h2 : snapAll h vs with
      | none => simp [h1, h2] at hsn
      | some l =>
        simp only [h1, h2, Option.bind_some, Option.some.injEq] at hsn; subst hsn
        simp only [RelVs] at hv
        obtain ⟨u, r, rfl, g1, g2⟩ := hv
        exact ⟨u, r, rfl, snapOne_sound hs g1 h1 hA (fun i blk hi => hO i blk ⟨v, List.mem_cons_self, hi⟩), snapAll_sound hs hA g2 h2 (fun i blk ⟨u, hu, hi⟩ => hO i blk ⟨u, List.mem_cons_of_mem _ hu, hi⟩)⟩

theorem snapOne_cells {v : AV} {x : T} {u : Value} (hs : HS c w h ρ O) (hv : RelV w (AA c w O) ρ v u) (hsn : snapOne h v = some x) : u.oneCell' = true ∧ u.cells = #[u] :=
  (snapOne_sound (A' := fun _ => True) hs hv hsn (fun _ _ => trivial) (fun _ _ _ _ => trivial)).oneCell

theorem snap_sound {v : AV} {xs : List T} {u : Value} (hs : HS c w h ρ O) (hv : RelV w (AA c w O) ρ v u) (hsn : snap h v = some xs) (hA : ∀ b, AA c w O b → A' b)
    (hO : ∀ i blk, refsAny v i → O i = some blk → A' blk) : RelTs w A' xs u.cells.toList ∧ ∀ y ∈ u.cells.toList, y.oneCell' = true ∧ y.cells = #[y] := by
  have one : ∀ x, snapOne h v = some x → xs = [x] → RelTs w A' xs u.cells.toList ∧ ∀ y ∈ u.cells.toList, y.oneCell' = true ∧ y.cells = #[y] := by
    intro x hx he; subst he
    have hr := snapOne_sound hs hv hx hA (fun i blk hi => hO i blk (.inl hi))
    have h1 := snapOne_cells hs hv hx
    rw [h1.2]
    exact ⟨⟨u, [], rfl, hr, rfl⟩, by intro y hy; simp at hy; subst hy; exact h1⟩
  cases v
  case agg vs =>
    simp only [snap] at hsn
    simp only [RelV] at hv
    obtain ⟨ws, rfl, g1, g2⟩ := hv
    refine ⟨?_, by simpa [Value.cells] using g2⟩
    have := snapAll_sound hs hA g1 hsn (fun i blk hi => hO i blk (.inr ⟨vs, rfl, hi⟩))
    simpa [Value.cells] using this
  all_goals
    unfold snap at hsn
    obtain ⟨x, hx, he⟩ := Option.bind_eq_some_iff.1 hsn
    exact one x hx (Option.some.inj he).symm

/-! ### What is shut -/
def FrzOk1 (p : Id × Blk) (x : Option Blk) : Prop := (∃ sz b xs, p.2 = .sl true sz b xs ∧ (x = some (.sl false sz b xs) ∨ x = some (.sl true sz b xs))) ∨
  ∃ l, p.2 = .fbox l ∧ ((∃ cs, x = some (.box cs) ∧ allT cs = some l) ∨ x = some (.fbox l))
def FrzOk (h : Id → Option Blk) (us : Upd) : Prop := ∀ p ∈ us, FrzOk1 p (h p.1)
/-- What is shut is what it was: shut once more it is still so. -/
theorem FrzOk1.again {i : Id} {b b' : Blk} {x : Option Blk} (h1 : FrzOk1 (i, b) x) (h2 : FrzOk1 (i, b') x) : b' = b ∧ FrzOk1 (i, b') (some b) := by
  rcases h1 with ⟨sz, bb, xs, e1, g1⟩ | ⟨l, e1, g1⟩
  · rcases h2 with ⟨sz', bb', xs', e2, g2⟩ | ⟨l', e2, g2⟩
    · simp only at e1 e2
      have : sz' = sz ∧ bb' = bb ∧ xs' = xs := by
        rcases g1 with rfl | rfl <;> rcases g2 with g2 | g2 <;> simp at g2 <;> simp [g2]
      obtain ⟨rfl, rfl, rfl⟩ := this
      exact ⟨by rw [e1, e2], .inl ⟨_, _, _, e2, .inr (by rw [e1])⟩⟩
    · rcases g1 with rfl | rfl <;> rcases g2 with ⟨cs, g2, _⟩ | g2 <;> simp at g2
  · rcases h2 with ⟨sz', bb', xs', e2, g2⟩ | ⟨l', e2, g2⟩
    · rcases g2 with rfl | rfl <;> rcases g1 with ⟨cs, g1, _⟩ | g1 <;> simp at g1
    · simp only at e1 e2
      have : l' = l := by
        rcases g1 with ⟨cs, rfl, g1⟩ | rfl
        · rcases g2 with ⟨cs', g2, g3⟩ | g2
          · simp only [Option.some.injEq, Blk.box.injEq] at g2; subst g2
            rw [g1] at g3; simpa using g3.symm
          · simp at g2
        · rcases g2 with ⟨cs', g2, g3⟩ | g2
          · simp at g2
          · simpa using g2.symm
      subst this
      exact ⟨by rw [e1, e2], .inr ⟨_, e2, .inr (by rw [e1])⟩⟩
/-- Shutting one. -/
theorem HS.shut (hs : HS c w h ρ O) {i : Id} {b : Blk} (hok : FrzOk1 (i, b) (h i)) :
    ∃ O1, Le w ρ O w ρ O1 ∧ HS c w (upd h i (some b)) ρ O1 ∧ (∀ j, O1 j = O j ∨ O1 j = none) ∧ O1 i = none ∧ ∀ j, j ≠ i → O1 j = O j := by
  have self : ∀ (f : Id → Option Blk) (v : Option Blk), f i = v → upd f i v = f := by
    intro f v h
    funext j; unfold upd; split
    · rename_i e; rw [e, h]
    · rfl
  have rel : ∀ {x : Option Blk}, HS c w (upd h i x) ρ (upd O i none) → ∃ O1, Le w ρ O w ρ O1 ∧ HS c w (upd h i x) ρ O1 ∧ (∀ j, O1 j = O j ∨ O1 j = none) ∧ O1 i = none ∧ ∀ j, j ≠ i → O1 j = O j := by
    intro x hx
    exact ⟨_, Le.release, hx, fun j => by
      by_cases e : j = i
      · subst e; right; simp
      · left; exact upd_ne _ _ e, by simp, fun j e => upd_ne _ _ e⟩
  have same : h i = some b → O i = none → ∃ O1, Le w ρ O w ρ O1 ∧ HS c w (upd h i (some b)) ρ O1 ∧ (∀ j, O1 j = O j ∨ O1 j = none) ∧ O1 i = none ∧ ∀ j, j ≠ i → O1 j = O j := by
    intro h1 h2
    exact ⟨O, Le.refl, by rw [self _ _ h1]; exact hs, fun j => .inl rfl, h2, fun _ _ => rfl⟩
  rcases hok with ⟨sz, bb, xs, e, hi⟩ | ⟨l, e, hi⟩
  · simp only at e; subst e
    rcases hi with hi | hi
    · exact rel (hs.freeze hi)
    · obtain ⟨_, _, _, h3⟩ := hs.blk i _ hi
      exact same hi (h3 rfl)
  · simp only at e; subst e
    rcases hi with ⟨cs, hi, hl⟩ | hi
    · exact rel (hs.freezeBox hi hl)
    · obtain ⟨_, _, h3, _⟩ := hs.blk i _ hi
      exact same hi h3
theorem frz1_ok (v : AV) : FrzOk h (frz1 h v) := by
  intro p hp
  unfold frz1 at hp
  split at hp
  · split at hp
    · rename_i i sz b xs hi
      simp only [List.mem_singleton] at hp; subst hp; exact .inl ⟨sz, b, xs, rfl, .inl hi⟩
    · cases hp
  · split at hp
    · rename_i i _ _ _ sz b xs hi
      simp only [List.mem_singleton] at hp; subst hp; exact .inl ⟨sz, b, xs, rfl, .inl hi⟩
    · cases hp
  · split at hp
    · rename_i i _ cs hi
      split at hp
      · rename_i l hl
        simp only [List.mem_singleton] at hp; subst hp; exact .inr ⟨l, rfl, .inl ⟨cs, hi, hl⟩⟩
      · cases hp
    · cases hp
  · cases hp
theorem FrzOk.append {us vs : Upd} (h1 : FrzOk h us) (h2 : FrzOk h vs) : FrzOk h (us ++ vs) := by
  intro p hp
  rcases List.mem_append.1 hp with hp | hp
  · exact h1 p hp
  · exact h2 p hp
theorem frzAll_ok : ∀ (vs : List AV), FrzOk h (frzAll h vs)
  | [] => by intro p hp; cases hp
  | v :: vs => (frz1_ok v).append (frzAll_ok vs)
theorem frz_ok (v : AV) : FrzOk h (frz h v) := by
  unfold frz; split
  · exact frzAll_ok _
  · exact frz1_ok v

theorem upd_self {α : Type} (f : Id → Option α) (i : Id) (v : Option α) (h : f i = v) : upd f i v = f := by
  funext j; unfold upd; split
  · rename_i e; rw [e, h]
  · rfl

theorem HS.freezes : ∀ {us : Upd} {h : Id → Option Blk} {O : Id → Option Nat}, HS c w h ρ O → FrzOk h us →
    ∃ O', Le w ρ O w ρ O' ∧ HS c w (updH h us) ρ O' ∧ (∀ i, O' i = O i ∨ O' i = none) ∧ (∀ p ∈ us, O' p.1 = none) ∧ ∀ i, (∀ p ∈ us, p.1 ≠ i) → O' i = O i
  | [], h, O, hs, _ => ⟨O, Le.refl, hs, fun i => .inl rfl, by simp, fun _ _ => rfl⟩
  | (i, b) :: us, h, O, hs, hok => by
    have hi := hok (i, b) List.mem_cons_self
    obtain ⟨O1, g1, g2, g3, g4, g5⟩ := hs.shut hi
    have hok' : FrzOk (upd h i (some b)) us := by
      intro p hp
      have h2 := hok p (List.mem_cons_of_mem _ hp)
      by_cases e : p.1 = i
      · obtain ⟨j, x⟩ := p
        simp only at e h2; subst e
        rw [upd_same]
        exact (hi.again h2).2
      · rw [upd_ne _ _ e]; exact h2
    obtain ⟨O2, k1, k2, k3, k4, k5⟩ := HS.freezes g2 hok'
    refine ⟨O2, g1.trans k1, k2, fun j => ?_, fun p hp => ?_, fun j hj => ?_⟩
    · rcases k3 j with e | e
      · rw [e]; exact g3 j
      · exact .inr e
    · rcases List.mem_cons.1 hp with rfl | hp
      · rcases k3 i with e | e
        · rw [e]; exact g4
        · exact e
      · exact k4 p hp
    · rw [k5 j (fun p hp => hj p (List.mem_cons_of_mem _ hp)), g5 j (fun e => hj (i, b) List.mem_cons_self e.symm)]

/-- What a snap shows is shut by its own list. -/
theorem frz1_covers (hs : HS c w h ρ O) {v : AV} {x : T} (hsn : snapOne h v = some x) {i : Id} {blk : Nat} (hi : refs1 v i) (ho : O i = some blk) : ∃ p ∈ frz1 h v, p.1 = i := by
  rcases hi with rfl | ⟨sz, off, n, rfl⟩ | ⟨off, rfl⟩
  · simp only [snapOne] at hsn
    split at hsn
    · rename_i fz sz b xs hi
      cases fz
      · exact ⟨(i, .sl true sz b xs), by simp [frz1, hi], rfl⟩
      · obtain ⟨_, _, _, h3⟩ := hs.blk i _ hi
        rw [h3 rfl] at ho; cases ho
    · simp at hsn
  · simp only [snapOne] at hsn
    split at hsn
    · rename_i fz sz' b xs hi
      cases fz
      · exact ⟨(i, .sl true sz' b xs), by simp [frz1, hi], rfl⟩
      · obtain ⟨_, _, _, h3⟩ := hs.blk i _ hi
        rw [h3 rfl] at ho; cases ho
    · simp at hsn
  · simp only [snapOne] at hsn
    split at hsn
    · rename_i cs hi
      obtain ⟨l, hl, _⟩ := Option.bind_eq_some_iff.1 hsn
      exact ⟨(i, .fbox l), by simp [frz1, hi, hl], rfl⟩
    · rename_i l hi
      obtain ⟨_, _, h3, _⟩ := hs.blk i _ hi
      rw [h3] at ho; cases ho
    · simp at hsn
theorem frzAll_covers (hs : HS c w h ρ O) : ∀ {vs : List AV} {xs : List T}, snapAll h vs = some xs → ∀ {i : Id} {blk : Nat}, (∃ u ∈ vs, refs1 u i) → O i = some blk → ∃ p ∈ frzAll h vs, p.1 = i
  | [], _, _, i, blk, ⟨u, hu, _⟩, _ => by cases hu
  | v :: vs, xs, hsn, i, blk, ⟨u, hu, hi⟩, ho => by
    simp only [snapAll] at hsn
    cases h1 : snapOne h v with
    | none => simp [h1] at hsn
    | some x =>
      cases h2 : snapAll h vs with
      | none => simp [h1, h2] at hsn
      | some l =>
        rcases List.mem_cons.1 hu with rfl | hu
        · obtain ⟨p, hp, e⟩ := frz1_covers hs h1 hi ho
          exact ⟨p, List.mem_append_left _ hp, e⟩
        · obtain ⟨p, hp, e⟩ := frzAll_covers hs h2 ⟨u, hu, hi⟩ ho
          exact ⟨p, List.mem_append_right _ hp, e⟩
theorem frz_covers (hs : HS c w h ρ O) {v : AV} {xs : List T} (hsn : snap h v = some xs) {i : Id} {blk : Nat} (hi : refsAny v i) (ho : O i = some blk) : ∃ p ∈ frz h v, p.1 = i := by
  rcases hi with hi | ⟨vs, rfl, hi⟩
  · have : ∃ x, snapOne h v = some x := by
      rcases hi with rfl | ⟨_, _, _, rfl⟩ | ⟨_, rfl⟩ <;> exact (Option.bind_eq_some_iff.1 hsn).elim fun x hx => ⟨x, hx.1⟩
    obtain ⟨x, hx⟩ := this
    obtain ⟨p, hp, e⟩ := frz1_covers hs hx hi ho
    refine ⟨p, ?_, e⟩
    rcases hi with rfl | ⟨_, _, _, rfl⟩ | ⟨_, rfl⟩ <;> exact hp
  · exact frzAll_covers hs hsn hi ho

/-- A snap, behind its shutting. -/
theorem snap_frozen {v : AV} {xs : List T} {u : Value} {O' : Id → Option Nat} (hs : HS c w h ρ O) (hv : RelV w (AA c w O) ρ v u) (hsn : snap h v = some xs) (le : Le w ρ O w ρ O') (hO' : ∀ i, O' i = O i ∨ O' i = none)
    (hf : ∀ p ∈ frz h v, O' p.1 = none) : RelTs w (AA c w O') xs u.cells.toList ∧ ∀ y ∈ u.cells.toList, y.oneCell' = true ∧ y.cells = #[y] := by
  refine snap_sound hs hv hsn (fun b hb => (le.A b hb).1) (fun i blk hi ho => ?_)
  obtain ⟨p, hp, e⟩ := frz_covers hs hsn hi ho
  refine ⟨.inr (hs.own i blk ho), hs.lt i blk ho, fun j hj => ?_⟩
  rcases hO' j with e1 | e1
  · rw [e1] at hj
    have := hs.inj j i blk hj ho
    subst this
    have := hf p hp
    rw [e, e1, hj] at this; cases this
  · rw [e1] at hj; cases hj

/-! ### One-cell values -/
theorem rho_one (hs : HS c w h ρ O) {i : Id} {u : Value} (hu : ρ i = some u) : u.oneCell' = true ∧ u.cells = #[u] := by
  cases hi : h i with
  | none =>
    cases hr : i.real with
    | true => rw [(hs.nodom i hr hi).1] at hu; cases hu
    | false =>
      cases i with
      | g i n => exact hs.gone i n u hu
      | _ => cases hr
  | some b =>
    have := hs.blk i b hi
    cases b with
    | box cs =>
      obtain ⟨b, _, _, h1, _⟩ := this
      rw [hu] at h1; simp only [Option.some.injEq] at h1; subst h1; exact ⟨rfl, rfl⟩
    | sl fz sz b xs =>
      obtain ⟨v, h1, ⟨a, cap, h2, _⟩, _⟩ := this
      rw [hu] at h1; simp only [Option.some.injEq] at h1; subst h1; subst h2; exact ⟨rfl, rfl⟩
    | fbox l =>
      obtain ⟨b, h1, _⟩ := this
      rw [hu] at h1; simp only [Option.some.injEq] at h1; subst h1; exact ⟨rfl, rfl⟩
    | mp ag ks vk es =>
      obtain ⟨b, _, _, h1, _⟩ := this
      rw [hu] at h1; simp only [Option.some.injEq] at h1; subst h1; exact ⟨rfl, rfl⟩
    | arr cs =>
      obtain ⟨b, _, _, h1, _⟩ := this
      rw [hu] at h1; simp only [Option.some.injEq] at h1; subst h1; exact ⟨rfl, rfl⟩
    | rows b sz col rsz nx es =>
      obtain ⟨a, cap, h1, _⟩ := this
      rw [hu] at h1; simp only [Option.some.injEq] at h1; subst h1; exact ⟨rfl, rfl⟩
    | dead =>
      obtain ⟨⟨v, h1, h2⟩, _⟩ := this
      rw [hu] at h1; simp only [Option.some.injEq] at h1; subst h1; exact h2
theorem relV_one (hs : HS c w h ρ O) {v : AV} {u : Value} (hv : RelV w A ρ v u) (hc : cellAV v = true) : u.oneCell' = true ∧ u.cells = #[u] := by
  cases v <;> simp only [cellAV, Bool.false_eq_true] at hc <;> simp only [RelV] at hv
  case t => exact hv.oneCell
  case ref => obtain ⟨b, _, rfl⟩ := hv; exact ⟨rfl, rfl⟩
  case el => obtain ⟨_, _, _, _, _, rfl⟩ := hv; exact ⟨rfl, rfl⟩
  case own => exact rho_one hs hv
  case part => obtain ⟨_, _, _, _, _, _, _, rfl, _⟩ := hv; exact ⟨rfl, rfl⟩
  case row => exact hs.gone _ _ _ hv
  case rel => obtain ⟨_, _, _, _, _, rfl⟩ := hv; exact ⟨rfl, rfl⟩
  case fn => obtain ⟨_, _, rfl, _⟩ := hv; exact ⟨rfl, rfl⟩
theorem cellsAV_sound (hs : HS c w h ρ O) {v : AV} {u : Value} (hv : RelV w A ρ v u) (hc : (cellsAV v).all cellAV = true) : RelVs w A ρ (cellsAV v) u.cells.toList ∧ ∀ y ∈ u.cells.toList, y.oneCell' = true ∧ y.cells = #[y] := by
  have one : cellsAV v = [v] → RelVs w A ρ (cellsAV v) u.cells.toList ∧ ∀ y ∈ u.cells.toList, y.oneCell' = true ∧ y.cells = #[y] := by
    intro e
    rw [e] at hc ⊢
    simp only [List.all_cons, List.all_nil, Bool.and_true] at hc
    have h1 := relV_one hs hv hc
    rw [h1.2]
    refine ⟨by simp only [RelVs]; exact ⟨u, [], rfl, hv, rfl⟩, ?_⟩
    intro y hy; simp at hy; subst hy; exact h1
  cases v
  case agg vs =>
    simp only [RelV] at hv
    obtain ⟨ws, rfl, h1, h2⟩ := hv
    exact ⟨by simpa [cellsAV, Value.cells] using h1, by simpa [Value.cells] using h2⟩
  all_goals exact one rfl

end
end Go.Aev
