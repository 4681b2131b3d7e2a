/-
  What trees, slots and blocks say of a world.
-/
import Derived.Test.YtmpjdngpblfecaaAevMach
set_option linter.unusedSimpArgs false
set_option linter.unusedVariables false
namespace Go.Aev
open Go

section
variable (w : World) (A : Nat → Prop)
mutual
def RelT : T → Value → Prop
  | .int k n, v => v = .int k n
  | .bool b, v => v = .bool b
  | .str s, v => v = .string s
  | .lst sz b xs, v => (b = true ∧ xs = [] ∧ v = .slice none 0 0) ∨
      (b = false ∧ ∃ blk off sp cap, v = .slice (some ⟨blk, off, sp⟩) xs.length cap ∧ xs.length ≤ cap ∧ (xs = [] ∨ (sp = none ∧ A blk)) ∧ RelEls blk sz off xs)
  | .emp b, v => (b = true ∧ v = .slice none 0 0) ∨ (b = false ∧ ∃ blk off sp, v = .slice (some ⟨blk, off, sp⟩) 0 0)
  | .ptr cs, v => ∃ blk off, v = .pointer (some ⟨blk, off, none⟩) ∧ (cs = [] ∨ A blk) ∧ RelAt blk off cs
  | .nilp, v => v = .pointer none
  | .nilm, v => v = .map none
  | .nilf, v => v = .nilFunc
  | .nili, v => v = .nilIface
  | .any, v => v.oneCell' = true ∧ v.cells = #[v]
def RelEls (blk sz : Nat) : Nat → List (List T) → Prop
  | _, [] => True
  | off, cs :: xs => cs.length = sz ∧ RelAt blk off cs ∧ RelEls blk sz (off + sz) xs
def RelAt (blk : Nat) : Nat → List T → Prop
  | _, [] => True
  | off, c :: cs => (∃ v, w.cell? ⟨blk, off, none⟩ = some v ∧ RelT c v) ∧ RelAt blk (off + 1) cs
end
def RelTs : List T → List Value → Prop
  | [], vs => vs = []
  | c :: cs, vs => ∃ v r, vs = v :: r ∧ RelT w A c v ∧ RelTs cs r
end

section
variable {w w' : World} {A A' : Nat → Prop}

theorem cell_of_block {a : Addr} (h : w'.heap[a.block]? = w.heap[a.block]?) : w'.cell? a = w.cell? a := by simp [World.cell?, h]

mutual
theorem RelT.mono (h : ∀ b, A b → A' b ∧ w'.heap[b]? = w.heap[b]?) : ∀ (t : T) (v : Value), RelT w A t v → RelT w' A' t v
  | .int k n, v, hv => by simpa [RelT] using hv
  | .bool b, v, hv => by simpa [RelT] using hv
  | .str s, v, hv => by simpa [RelT] using hv
  | .emp b, v, hv => by simpa [RelT] using hv
  | .nilp, v, hv => by simpa [RelT] using hv
  | .nilm, v, hv => by simpa [RelT] using hv
  | .nilf, v, hv => by simpa [RelT] using hv
  | .nili, v, hv => by simpa [RelT] using hv
  | .any, v, hv => by simp only [RelT] at hv ⊢; exact hv
  | .lst sz b xs, v, hv => by
    simp only [RelT] at hv ⊢
    rcases hv with hv | ⟨hb, blk, off, sp, cap, h1, h2, h3, h4⟩
    · exact .inl hv
    · refine .inr ⟨hb, blk, off, sp, cap, h1, h2, ?_, ?_⟩
      · rcases h3 with h3 | h3
        · exact .inl h3
        · exact .inr ⟨h3.1, (h _ h3.2).1⟩
      · rcases h3 with h3 | h3
        · subst h3; simp [RelEls]
        · exact RelEls.mono h blk sz h3.2 off xs h4
  | .ptr cs, v, hv => by
    simp only [RelT] at hv ⊢
    obtain ⟨blk, off, h1, h2, h3⟩ := hv
    refine ⟨blk, off, h1, ?_, ?_⟩
    · rcases h2 with h2 | h2
      · exact .inl h2
      · exact .inr (h _ h2).1
    · rcases h2 with h2 | h2
      · subst h2; simp [RelAt]
      · exact RelAt.mono h blk h2 off cs h3
theorem RelEls.mono (h : ∀ b, A b → A' b ∧ w'.heap[b]? = w.heap[b]?) (blk sz : Nat) (hb : A blk) : ∀ (off : Nat) (xs : List (List T)), RelEls w A blk sz off xs → RelEls w' A' blk sz off xs
  | _, [], _ => by simp [RelEls]
  | off, cs :: xs, hv => by
    simp only [RelEls] at hv ⊢
    exact ⟨hv.1, RelAt.mono h blk hb off cs hv.2.1, RelEls.mono h blk sz hb (off + sz) xs hv.2.2⟩
theorem RelAt.mono (h : ∀ b, A b → A' b ∧ w'.heap[b]? = w.heap[b]?) (blk : Nat) (hb : A blk) : ∀ (off : Nat) (cs : List T), RelAt w A blk off cs → RelAt w' A' blk off cs
  | _, [], _ => by simp [RelAt]
  | off, c :: cs, hv => by
    simp only [RelAt] at hv ⊢
    obtain ⟨⟨v, hc, hr⟩, hrest⟩ := hv
    exact ⟨⟨v, by rw [cell_of_block (w := w) (by exact (h blk hb).2)]; exact hc, RelT.mono h c v hr⟩, RelAt.mono h blk hb (off + 1) cs hrest⟩
end

/-- The cells of a block that is not among the immutable ones may be read through a world that keeps that block. -/
theorem RelAt.mono' (h : ∀ b, A b → A' b ∧ w'.heap[b]? = w.heap[b]?) (blk : Nat) (hb : w'.heap[blk]? = w.heap[blk]?) : ∀ (off : Nat) (cs : List T), RelAt w A blk off cs → RelAt w' A' blk off cs
  | _, [], _ => by simp [RelAt]
  | off, c :: cs, hv => by
    simp only [RelAt] at hv ⊢
    obtain ⟨⟨v, hc, hr⟩, hrest⟩ := hv
    exact ⟨⟨v, by rw [cell_of_block (w := w) (by exact hb)]; exact hc, RelT.mono h c v hr⟩, RelAt.mono' h blk hb (off + 1) cs hrest⟩
theorem RelEls.mono' (h : ∀ b, A b → A' b ∧ w'.heap[b]? = w.heap[b]?) (blk sz : Nat) (hb : w'.heap[blk]? = w.heap[blk]?) : ∀ (off : Nat) (xs : List (List T)), RelEls w A blk sz off xs → RelEls w' A' blk sz off xs
  | _, [], _ => by simp [RelEls]
  | off, cs :: xs, hv => by
    simp only [RelEls] at hv ⊢
    exact ⟨hv.1, RelAt.mono' h blk hb off cs hv.2.1, RelEls.mono' h blk sz hb (off + sz) xs hv.2.2⟩
theorem RelTs.mono (h : ∀ b, A b → A' b ∧ w'.heap[b]? = w.heap[b]?) : ∀ (cs : List T) (vs : List Value), RelTs w A cs vs → RelTs w' A' cs vs
  | [], _, hv => hv
  | c :: cs, vs, ⟨v, r, e, h1, h2⟩ => ⟨v, r, e, RelT.mono h c v h1, RelTs.mono h cs r h2⟩

theorem RelEls.get {blk sz : Nat} : ∀ {off : Nat} {xs : List (List T)}, RelEls w A blk sz off xs → ∀ {k : Nat} {cs : List T}, xs[k]? = some cs → cs.length = sz ∧ RelAt w A blk (off + k * sz) cs
  | off, cs :: xs, h, 0, cs', e => by
    simp only [RelEls] at h
    simp at e; subst e
    exact ⟨h.1, by simpa using h.2.1⟩
  | off, cs :: xs, h, k + 1, cs', e => by
    simp only [RelEls] at h
    have := RelEls.get h.2.2 (k := k) (cs := cs') (by simpa using e)
    refine ⟨this.1, ?_⟩
    have he : off + (k + 1) * sz = off + sz + k * sz := by rw [Nat.succ_mul]; omega
    rw [he]; exact this.2
theorem RelAt.get {blk : Nat} : ∀ {off : Nat} {cs : List T}, RelAt w A blk off cs → ∀ {k : Nat} {c : T}, cs[k]? = some c → ∃ v, w.cell? ⟨blk, off + k, none⟩ = some v ∧ RelT w A c v
  | off, c :: cs, h, 0, c', e => by
    simp only [RelAt] at h
    simp at e; subst e
    exact h.1
  | off, c :: cs, h, k + 1, c', e => by
    simp only [RelAt] at h
    have := RelAt.get h.2 (k := k) (c := c') (by simpa using e)
    have he : off + 1 + k = off + (k + 1) := by omega
    rw [he] at this; exact this
theorem RelAt.drop {blk : Nat} : ∀ {off : Nat} {cs : List T}, RelAt w A blk off cs → ∀ (n : Nat), RelAt w A blk (off + n) (cs.drop n)
  | _, _, h, 0 => by simpa using h
  | _, [], _, n + 1 => by simp [RelAt]
  | off, c :: cs, h, n + 1 => by
    simp only [RelAt] at h
    have := RelAt.drop h.2 n
    have he : off + 1 + n = off + (n + 1) := by omega
    rw [he] at this
    simpa using this
theorem RelEls.drop {blk sz : Nat} : ∀ {off : Nat} {xs : List (List T)}, RelEls w A blk sz off xs → ∀ (n : Nat), RelEls w A blk sz (off + n * sz) (xs.drop n)
  | _, _, h, 0 => by simpa using h
  | _, [], _, n + 1 => by simp [RelEls]
  | off, cs :: xs, h, n + 1 => by
    simp only [RelEls] at h
    have := RelEls.drop h.2.2 n
    have he : off + sz + n * sz = off + (n + 1) * sz := by rw [Nat.succ_mul]; omega
    rw [he] at this
    simpa using this
theorem RelEls.take {blk sz : Nat} : ∀ {off : Nat} {xs : List (List T)}, RelEls w A blk sz off xs → ∀ (n : Nat), RelEls w A blk sz off (xs.take n)
  | _, _, _, 0 => by simp [RelEls]
  | _, [], _, n + 1 => by simp [RelEls]
  | off, cs :: xs, h, n + 1 => by
    simp only [RelEls] at h
    simp only [List.take_succ_cons, RelEls]
    exact ⟨h.1, h.2.1, RelEls.take h.2.2 n⟩
theorem RelEls.append {blk sz : Nat} : ∀ {off : Nat} {xs ys : List (List T)}, RelEls w A blk sz off xs → RelEls w A blk sz (off + xs.length * sz) ys → RelEls w A blk sz off (xs ++ ys)
  | off, [], ys, _, h => by simpa using h
  | off, cs :: xs, ys, h, h' => by
    simp only [RelEls] at h
    simp only [List.cons_append, RelEls]
    refine ⟨h.1, h.2.1, RelEls.append h.2.2 ?_⟩
    have he : off + sz + xs.length * sz = off + (cs :: xs).length * sz := by simp [Nat.succ_mul]; omega
    rw [he]; exact h'

theorem RelT.oneCell {t : T} {v : Value} (h : RelT w A t v) : v.oneCell' = true ∧ v.cells = #[v] := by
  cases t <;> simp only [RelT] at h
  case lst => rcases h with ⟨_, _, rfl⟩ | ⟨_, _, _, _, _, rfl, _⟩ <;> exact ⟨rfl, rfl⟩
  case emp => rcases h with ⟨_, rfl⟩ | ⟨_, _, _, _, rfl⟩ <;> exact ⟨rfl, rfl⟩
  case ptr => obtain ⟨_, _, rfl, _⟩ := h; exact ⟨rfl, rfl⟩
  case any => exact h
  all_goals subst h; exact ⟨rfl, rfl⟩

theorem RelTs.length : ∀ {cs : List T} {vs : List Value}, RelTs w A cs vs → vs.length = cs.length
  | [], _, h => by simp only [RelTs] at h; simp [h]
  | c :: cs, vs, ⟨v, r, e, _, h⟩ => by subst e; simp [RelTs.length h]
end

/-! ### Slots -/
section
variable (w : World) (A : Nat → Prop) (ρ : Id → Option Value)
mutual
def RelV : AV → Value → Prop
  | .top, _ => True
  | .t x, v => RelT w A x v
  | .tup vs, v => ∃ ws : List Value, v = .tuple ws.toArray ∧ RelVs vs ws
  | .agg vs, v => ∃ ws : List Value, v = .agg ws.toArray ∧ RelVs vs ws ∧ ∀ u ∈ ws, u.oneCell' = true ∧ u.cells = #[u]
  | .ref i off, v => ∃ b, ρ i = some (.pointer (some ⟨b, 0, none⟩)) ∧ v = .pointer (some ⟨b, off, none⟩)
  | .el i sz k off, v => ∃ b o L cap, ρ i = some (.slice (some ⟨b, o, none⟩) L cap) ∧ v = .pointer (some ⟨b, o + k * sz + off, none⟩)
  | .own i, v => ρ i = some v
  | .part i sz off n, v => ∃ a L cap a', ρ i = some (.slice a L cap) ∧ off + n ≤ L ∧ L ≤ cap ∧ v = .slice a' n (cap - off) ∧
      ((off = 0 ∧ a' = a) ∨ (off = cap ∧ (a' = none ↔ a = none) ∧ True) ∨ ∃ b o, a = some ⟨b, o, none⟩ ∧ a' = some ⟨b, o + off * sz, none⟩)
  | .row i n, v => ρ (.g i n) = some v
  | .rel i sz n k off, v => ∃ b o L cap, ρ (.g i n) = some (.slice (some ⟨b, o, none⟩) L cap) ∧ v = .pointer (some ⟨b, o + k * sz + off, none⟩)
  | .fn f xs ys, v => ∃ x' y' : List Value, v = .func (.func f) x'.toArray y'.toArray ∧ RelVs xs x' ∧ RelVs ys y'
def RelVs : List AV → List Value → Prop
  | [], vs => vs = []
  | a :: as, vs => ∃ v r, vs = v :: r ∧ RelV a v ∧ RelVs as r
end
end

section
variable {w w' : World} {A A' : Nat → Prop} {ρ ρ' : Id → Option Value}
mutual
theorem RelV.mono (h : ∀ b, A b → A' b ∧ w'.heap[b]? = w.heap[b]?) (hρ : ∀ i v, ρ i = some v → ρ' i = some v) : ∀ (a : AV) (v : Value), RelV w A ρ a v → RelV w' A' ρ' a v
  | .top, _, _ => by simp [RelV]
  | .t x, v, hv => by simp only [RelV] at hv ⊢; exact RelT.mono h x v hv
  | .tup vs, v, hv => by
    simp only [RelV] at hv ⊢; obtain ⟨ws, e, hw⟩ := hv; exact ⟨ws, e, RelVs.mono h hρ vs ws hw⟩
  | .agg vs, v, hv => by
    simp only [RelV] at hv ⊢; obtain ⟨ws, e, hw, hc⟩ := hv; exact ⟨ws, e, RelVs.mono h hρ vs ws hw, hc⟩
  | .ref i off, v, hv => by
    simp only [RelV] at hv ⊢; obtain ⟨b, e, hw⟩ := hv; exact ⟨b, hρ _ _ e, hw⟩
  | .el i sz k off, v, hv => by
    simp only [RelV] at hv ⊢; obtain ⟨b, o, L, cap, e, hw⟩ := hv; exact ⟨b, o, L, cap, hρ _ _ e, hw⟩
  | .own i, v, hv => by simp only [RelV] at hv ⊢; exact hρ _ _ hv
  | .part i sz off n, v, hv => by
    simp only [RelV] at hv ⊢; obtain ⟨a, L, cap, a', e, hw⟩ := hv; exact ⟨a, L, cap, a', hρ _ _ e, hw⟩
  | .row i n, v, hv => by simp only [RelV] at hv ⊢; exact hρ _ _ hv
  | .rel i sz n k off, v, hv => by
    simp only [RelV] at hv ⊢; obtain ⟨b, o, L, cap, e, hw⟩ := hv; exact ⟨b, o, L, cap, hρ _ _ e, hw⟩
  | .fn f xs ys, v, hv => by
    simp only [RelV] at hv ⊢; obtain ⟨x', y', e, h1, h2⟩ := hv; exact ⟨x', y', e, RelVs.mono h hρ xs x' h1, RelVs.mono h hρ ys y' h2⟩
theorem RelVs.mono (h : ∀ b, A b → A' b ∧ w'.heap[b]? = w.heap[b]?) (hρ : ∀ i v, ρ i = some v → ρ' i = some v) : ∀ (as : List AV) (vs : List Value), RelVs w A ρ as vs → RelVs w' A' ρ' as vs
  | [], _, hv => by simpa [RelVs] using hv
  | a :: as, vs, hv => by
    simp only [RelVs] at hv ⊢; obtain ⟨v, r, e, h1, h2⟩ := hv; exact ⟨v, r, e, RelV.mono h hρ a v h1, RelVs.mono h hρ as r h2⟩
end
theorem RelVs.length : ∀ {as : List AV} {vs : List Value}, RelVs w A ρ as vs → vs.length = as.length
  | [], _, h => by simp only [RelVs] at h; simp [h]
  | a :: as, vs, h => by simp only [RelVs] at h; obtain ⟨v, r, e, _, h⟩ := h; subst e; simp [RelVs.length h]
theorem RelVs.get : ∀ {as : List AV} {vs : List Value}, RelVs w A ρ as vs → ∀ {k : Nat} {a : AV}, as[k]? = some a → ∃ v, vs[k]? = some v ∧ RelV w A ρ a v
  | a :: as, vs, h, 0, a', e => by
    simp only [RelVs] at h; obtain ⟨v, r, rfl, h1, _⟩ := h
    simp at e; subst e; exact ⟨v, rfl, h1⟩
  | a :: as, vs, h, k + 1, a', e => by
    simp only [RelVs] at h; obtain ⟨v, r, rfl, _, h⟩ := h
    obtain ⟨u, hu, hr⟩ := RelVs.get h (k := k) (a := a') (by simpa using e)
    exact ⟨u, by simpa using hu, hr⟩
theorem RelVs.append : ∀ {as bs : List AV} {vs us : List Value}, RelVs w A ρ as vs → RelVs w A ρ bs us → RelVs w A ρ (as ++ bs) (vs ++ us)
  | [], _, _, _, h, h' => by simp only [RelVs] at h; subst h; simpa using h'
  | a :: as, bs, vs, us, h, h' => by
    simp only [RelVs] at h; obtain ⟨v, r, rfl, h1, h⟩ := h
    simp only [List.cons_append, RelVs]
    exact ⟨v, r ++ us, rfl, h1, RelVs.append h h'⟩
theorem RelVs.drop : ∀ {as : List AV} {vs : List Value}, RelVs w A ρ as vs → ∀ n, RelVs w A ρ (as.drop n) (vs.drop n)
  | _, _, h, 0 => by simpa using h
  | [], vs, h, n + 1 => by simp only [RelVs] at h; subst h; simp [RelVs]
  | a :: as, vs, h, n + 1 => by
    simp only [RelVs] at h; obtain ⟨v, r, rfl, h1, h⟩ := h
    simpa using RelVs.drop h n
theorem RelVs.take : ∀ {as : List AV} {vs : List Value}, RelVs w A ρ as vs → ∀ n, RelVs w A ρ (as.take n) (vs.take n)
  | _, _, _, 0 => by simp [RelVs]
  | [], vs, h, n + 1 => by simp only [RelVs] at h; subst h; simp [RelVs]
  | a :: as, vs, h, n + 1 => by
    simp only [RelVs] at h; obtain ⟨v, r, rfl, h1, h⟩ := h
    simp only [List.take_succ_cons, RelVs]
    exact ⟨v, r.take n, rfl, h1, RelVs.take h n⟩
theorem RelVs.of_ts : ∀ {cs : List T} {vs : List Value}, RelTs w A cs vs → RelVs w A ρ (cs.map .t) vs
  | [], _, h => by simpa [RelVs, RelTs] using h
  | c :: cs, vs, ⟨v, r, e, h1, h2⟩ => by
    simp only [List.map_cons, RelVs]; exact ⟨v, r, e, by simpa [RelV] using h1, RelVs.of_ts h2⟩
theorem RelTs.of_allT : ∀ {as : List AV} {cs : List T} {vs : List Value}, allT as = some cs → RelVs w A ρ as vs → RelTs w A cs vs
  | [], cs, vs, h, hv => by simp only [allT, Option.some.injEq] at h; subst h; simpa [RelTs, RelVs] using hv
  | a :: as, cs, vs, h, hv => by
    cases a <;> simp only [allT, reduceCtorEq] at h
    case t x =>
      cases hl : allT as with
      | none => simp [hl] at h
      | some l =>
        simp only [hl, Option.bind_some, Option.some.injEq] at h; subst h
        simp only [RelVs, RelV] at hv
        obtain ⟨v, r, e, h1, h2⟩ := hv
        exact ⟨v, r, e, h1, RelTs.of_allT hl h2⟩
end

end Go.Aev
