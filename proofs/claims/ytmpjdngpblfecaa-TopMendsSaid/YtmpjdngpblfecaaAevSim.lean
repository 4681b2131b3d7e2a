/-
  The abstract state over a world: who owns what; how a world goes on.
-/
import Derived.Test.YtmpjdngpblfecaaAevRel
import Derived.Test.YtmpjdngpblfecaaAevNat
set_option linter.unusedSimpArgs false
set_option linter.unusedVariables false
namespace Go.Aev
open Go

/-- What a call may lean on: blocks that it may read for good, blocks that are its own to change, the heap's size as it began. -/
structure Ctx where
  A0 : Nat → Prop
  M : Nat → Prop
  N0 : Nat

def Ctx.MO (c : Ctx) (b : Nat) : Prop := c.M b ∨ c.N0 ≤ b
def AA (c : Ctx) (w : World) (O : Id → Option Nat) (b : Nat) : Prop := (c.A0 b ∨ c.MO b) ∧ b < w.heap.size ∧ ∀ i, O i ≠ some b

def SlAt (w : World) (A : Nat → Prop) (sz : Nat) (b : Bool) (l : List (List T)) (v : Value) (Q : Nat → Prop) : Prop :=
  ∃ a cap, v = .slice a l.length cap ∧ l.length ≤ cap ∧ (a = none ↔ b = true) ∧ True ∧
    (cap = 0 ∨ ∃ blk off arr t, a = some ⟨blk, off, none⟩ ∧ Q blk ∧ w.heap[blk]? = some (.cells arr t (0, 0)) ∧ off + cap * sz ≤ arr.size ∧ RelEls w A blk sz off l)

/-- An element of a slice of rows, its cells at base; 'on' tells what its own slice is. -/
def RowAt (w : World) (A : Nat → Prop) (ρ : Id → Option Value) (O : Id → Option Nat) (i : Id) (blk sz col rsz base : Nat) (e : Row) : Prop :=
  e.cs.length = sz ∧ col < sz ∧ (∀ j x, j ≠ col → e.cs[j]? = some x → ∃ v, w.cell? ⟨blk, base + j, none⟩ = some v ∧ RelT w A x v) ∧
  ∃ v, w.cell? ⟨blk, base + col, none⟩ = some v ∧ ρ (.g i e.n) = some v ∧
    match e.own with
    | some p => SlAt w A rsz p.1 p.2 v (fun b => O (.g i e.n) = some b)
    | none => O (.g i e.n) = none
def RowsAt (w : World) (A : Nat → Prop) (ρ : Id → Option Value) (O : Id → Option Nat) (i : Id) (blk sz col rsz : Nat) : Nat → List Row → Prop
  | _, [] => True
  | base, e :: es => RowAt w A ρ O i blk sz col rsz base e ∧ RowsAt w A ρ O i blk sz col rsz (base + sz) es
/-- RowNames of rows: each one's own, and none beyond nx is taken. -/
def RowNames (ρ : Id → Option Value) (O : Id → Option Nat) (i : Id) (nx : Nat) (es : List Row) : Prop :=
  (es.map (·.n)).Nodup ∧ (∀ e ∈ es, e.n < nx) ∧ (∀ n, nx ≤ n → ρ (.g i n) = none) ∧ ∀ n b, O (.g i n) = some b → ∃ e ∈ es, e.n = n
def RelB (w : World) (A : Nat → Prop) (ρ : Id → Option Value) (O : Id → Option Nat) (i : Id) : Blk → Prop
  | .box cs => ∃ b arr t, ρ i = some (.pointer (some ⟨b, 0, none⟩)) ∧ O i = some b ∧ w.heap[b]? = some (.cells arr t (0, 0)) ∧ RelVs w A ρ cs arr.toList ∧
      (∀ u ∈ arr.toList, u.oneCell' = true ∧ u.cells = #[u])
  | .sl fz sz b l => ∃ v, ρ i = some v ∧ SlAt w A sz b l v (fun blk => if fz = true then A blk else O i = some blk) ∧ (fz = true → O i = none)
  | .fbox l => ∃ b, ρ i = some (.pointer (some ⟨b, 0, none⟩)) ∧ O i = none ∧ A b ∧ RelAt w A b 0 l
  | .arr cs => ∃ b arr t, ρ i = some (.slice (some ⟨b, 0, none⟩) 1 1) ∧ O i = some b ∧ w.heap[b]? = some (.cells arr t (0, 0)) ∧ RelVs w A ρ cs arr.toList ∧
      (∀ u ∈ arr.toList, u.oneCell' = true ∧ u.cells = #[u])
  | .mp ag ks vk es => ∃ b ents clock, ρ i = some (.map (some b)) ∧ O i = some b ∧ w.heap[b]? = some (.map ents clock) ∧
      ents.toList.map (fun e => (e.key, e.val)) = es.map (fun p => (kval ag p.1, tval p.2)) ∧ (es.all fun p => okKs ks p.1 && okK vk p.2) = true
  | .rows b sz col rsz nx es => ∃ a cap, ρ i = some (.slice a es.length cap) ∧ es.length ≤ cap ∧ (a = none ↔ b = true) ∧ RowNames ρ O i nx es ∧
      (cap = 0 ∨ ∃ blk off arr t, a = some ⟨blk, off, none⟩ ∧ O i = some blk ∧ w.heap[blk]? = some (.cells arr t (0, 0)) ∧ off + cap * sz ≤ arr.size ∧ RowsAt w A ρ O i blk sz col rsz off es)
  | .dead => (∃ v, ρ i = some v ∧ v.oneCell' = true ∧ v.cells = #[v]) ∧ O i = none

structure HS (c : Ctx) (w : World) (h : Id → Option Blk) (ρ : Id → Option Value) (O : Id → Option Nat) : Prop where
  blk : ∀ i b, h i = some b → RelB w (AA c w O) ρ O i b
  nodom : ∀ i, i.real = true → h i = none → ρ i = none ∧ O i = none
  nog : ∀ i n, h (.g i n) = none
  gdom : ∀ i n, h i = none → ρ (.g i n) = none ∧ O (.g i n) = none
  gone : ∀ i n u, ρ (.g i n) = some u → u.oneCell' = true ∧ u.cells = #[u]
  inj : ∀ i j b, O i = some b → O j = some b → i = j
  lt : ∀ i b, O i = some b → b < w.heap.size
  own : ∀ i b, O i = some b → c.MO b
  size : c.N0 ≤ w.heap.size

structure Le (w : World) (ρ : Id → Option Value) (O : Id → Option Nat) (w' : World) (ρ' : Id → Option Value) (O' : Id → Option Nat) : Prop where
  os : w'.os = w.os
  output : w'.output = w.output
  tape : w'.tape = w.tape
  size : w.heap.size ≤ w'.heap.size
  rho : ∀ i v, ρ i = some v → ρ' i = some v
  blk : ∀ b, b < w.heap.size → (∀ i, O i ≠ some b) → w'.heap[b]? = w.heap[b]?
  own : ∀ i b, O' i = some b → (∃ j, O j = some b) ∨ w.heap.size ≤ b

section
variable {c : Ctx} {w w' w'' : World} {h h' : Id → Option Blk} {ρ ρ' ρ'' : Id → Option Value} {O O' O'' : Id → Option Nat}

theorem Le.refl : Le w ρ O w ρ O := ⟨rfl, rfl, rfl, Nat.le_refl _, fun _ _ h => h, fun _ _ _ => rfl, fun i b h => .inl ⟨i, h⟩⟩
theorem Le.trans (a : Le w ρ O w' ρ' O') (b : Le w' ρ' O' w'' ρ'' O'') : Le w ρ O w'' ρ'' O'' where
  os := b.os.trans a.os
  output := b.output.trans a.output
  tape := b.tape.trans a.tape
  size := Nat.le_trans a.size b.size
  rho i v h := b.rho i v (a.rho i v h)
  blk k hk hn := by
    rw [b.blk k (Nat.lt_of_lt_of_le hk a.size), a.blk k hk hn]
    intro i hi
    rcases a.own i k hi with ⟨j, hj⟩ | h
    · exact hn j hj
    · omega
  own i k hi := by
    rcases b.own i k hi with ⟨j, hj⟩ | h
    · exact a.own j k hj
    · exact .inr (Nat.le_trans a.size h)
theorem Le.A (le : Le w ρ O w' ρ' O') (b : Nat) (ha : AA c w O b) : AA c w' O' b ∧ w'.heap[b]? = w.heap[b]? := by
  refine ⟨⟨ha.1, Nat.lt_of_lt_of_le ha.2.1 le.size, fun i hi => ?_⟩, le.blk b ha.2.1 ha.2.2⟩
  rcases le.own i b hi with ⟨j, hj⟩ | h
  · exact ha.2.2 j hj
  · have := ha.2.1; omega

theorem SlAt.mono {A A' Q Q' : Nat → Prop} {sz : Nat} {b : Bool} {l : List (List T)} {v : Value} (hA : ∀ b, A b → A' b ∧ w'.heap[b]? = w.heap[b]?)
    (hQ : ∀ b, Q b → Q' b ∧ w'.heap[b]? = w.heap[b]?) (hs : SlAt w A sz b l v Q) : SlAt w' A' sz b l v Q' := by
  obtain ⟨a, cap, h1, h2, h3, h4, h5⟩ := hs
  refine ⟨a, cap, h1, h2, h3, h4, ?_⟩
  rcases h5 with h5 | ⟨blk, off, arr, t, e1, e2, e3, e4, e5⟩
  · exact .inl h5
  · exact .inr ⟨blk, off, arr, t, e1, (hQ _ e2).1, by rw [(hQ _ e2).2]; exact e3, e4, RelEls.mono' hA blk sz (hQ _ e2).2 off l e5⟩

/-- The rows of block i are as they were. -/
def GKi (i : Id) (w : World) (ρ : Id → Option Value) (O : Id → Option Nat) (w' : World) (ρ' : Id → Option Value) (O' : Id → Option Nat) : Prop :=
  ∀ n, ρ' (.g i n) = ρ (.g i n) ∧ O' (.g i n) = O (.g i n) ∧ ∀ b, O (.g i n) = some b → w'.heap[b]? = w.heap[b]?
theorem RowAt.mono {A A' : Nat → Prop} {i : Id} {blk sz col rsz base : Nat} {e : Row} (hA : ∀ b, A b → A' b ∧ w'.heap[b]? = w.heap[b]?) (hb : w'.heap[blk]? = w.heap[blk]?) (hg : GKi i w ρ O w' ρ' O') (h : RowAt w A ρ O i blk sz col rsz base e) :
    RowAt w' A' ρ' O' i blk sz col rsz base e := by
  obtain ⟨h1, h2, h3, v, h4, h5, h7⟩ := h
  have hc : ∀ p, w'.cell? ⟨blk, p, none⟩ = w.cell? ⟨blk, p, none⟩ := fun p => cell_of_block hb
  refine ⟨h1, h2, fun j x hj hx => ?_, v, by rw [hc]; exact h4, by rw [(hg e.n).1]; exact h5, ?_⟩
  · obtain ⟨u, g1, g2⟩ := h3 j x hj hx
    exact ⟨u, by rw [hc]; exact g1, RelT.mono hA x u g2⟩
  · revert h7
    cases e.own with
    | none => intro h; simp only at h ⊢; rw [(hg e.n).2.1]; exact h
    | some p =>
      intro g2
      refine SlAt.mono hA (fun b hq => ?_) g2
      rw [(hg e.n).2.1]
      exact ⟨hq, (hg e.n).2.2 b hq⟩
theorem RowsAt.mono {A A' : Nat → Prop} {i : Id} {blk sz col rsz : Nat} (hA : ∀ b, A b → A' b ∧ w'.heap[b]? = w.heap[b]?) (hb : w'.heap[blk]? = w.heap[blk]?) (hg : GKi i w ρ O w' ρ' O') : ∀ {es : List Row} {base : Nat}, RowsAt w A ρ O i blk sz col rsz base es →
    RowsAt w' A' ρ' O' i blk sz col rsz base es
  | [], _, _ => trivial
  | e :: es, base, h => ⟨RowAt.mono hA hb hg h.1, RowsAt.mono hA hb hg h.2⟩
theorem SlAt.keep {A A' Q Q' : Nat → Prop} {sz : Nat} {b : Bool} {l : List (List T)} {v : Value} (hA : ∀ b, A b → A' b ∧ w'.heap[b]? = w.heap[b]?)
    (hQ : ∀ b, Q b → Q' b ∧ w'.heap[b]? = w.heap[b]?) (hs : SlAt w A sz b l v Q) : SlAt w' A' sz b l v Q' := SlAt.mono hA hQ hs
/-- An element goes elsewhere, cell by cell. -/
theorem RowAt.move {A A' : Nat → Prop} {i i' : Id} {blk blk' sz col rsz base base' : Nat} {e : Row} (hc : ∀ j, j < sz → w'.cell? ⟨blk', base' + j, none⟩ = w.cell? ⟨blk, base + j, none⟩) (hA : ∀ b, A b → A' b ∧ w'.heap[b]? = w.heap[b]?)
    (h1 : ρ' (.g i' e.n) = ρ (.g i e.n)) (h2 : O' (.g i' e.n) = O (.g i e.n)) (h3 : ∀ b, O (.g i e.n) = some b → w'.heap[b]? = w.heap[b]?) (h : RowAt w A ρ O i blk sz col rsz base e) : RowAt w' A' ρ' O' i' blk' sz col rsz base' e := by
  obtain ⟨a1, a2, a3, v, a4, a5, a7⟩ := h
  refine ⟨a1, a2, fun j x hj hx => ?_, v, by rw [hc _ a2]; exact a4, by rw [h1]; exact a5, ?_⟩
  · obtain ⟨u, g1, g2⟩ := a3 j x hj hx
    have := (List.getElem?_eq_some_iff.1 hx).1
    exact ⟨u, by rw [hc j (by omega)]; exact g1, RelT.mono hA x u g2⟩
  · revert a7
    cases e.own with
    | none => intro h; simp only at h ⊢; rw [h2]; exact h
    | some p =>
      intro g
      refine SlAt.mono hA (fun b hq => ?_) g
      rw [h2]
      exact ⟨hq, h3 b hq⟩
theorem RowsAt.move {A A' : Nat → Prop} {i i' : Id} {blk blk' sz col rsz : Nat} (hA : ∀ b, A b → A' b ∧ w'.heap[b]? = w.heap[b]?) : ∀ {es : List Row} {base base' : Nat},
    (∀ p, p < es.length * sz → w'.cell? ⟨blk', base' + p, none⟩ = w.cell? ⟨blk, base + p, none⟩) → (∀ e ∈ es, ρ' (.g i' e.n) = ρ (.g i e.n) ∧ O' (.g i' e.n) = O (.g i e.n) ∧ ∀ b, O (.g i e.n) = some b → w'.heap[b]? = w.heap[b]?) →
    RowsAt w A ρ O i blk sz col rsz base es → RowsAt w' A' ρ' O' i' blk' sz col rsz base' es
  | [], _, _, _, _, _ => trivial
  | e :: es, base, base', hc, hg, h => by
    have el : (e :: es).length * sz = sz + es.length * sz := by simp [Nat.succ_mul]; omega
    obtain ⟨h1, h2, h3⟩ := hg e List.mem_cons_self
    refine ⟨RowAt.move (fun j hj => hc j (by omega)) hA h1 h2 h3 h.1, RowsAt.move hA (fun p hp => ?_) (fun e he => hg e (List.mem_cons_of_mem _ he)) h.2⟩
    rw [Nat.add_assoc, Nat.add_assoc]; exact hc (sz + p) (by omega)
theorem RowsAt.append {A : Nat → Prop} {i : Id} {blk sz col rsz : Nat} : ∀ {es fs : List Row} {base : Nat}, RowsAt w A ρ O i blk sz col rsz base es → RowsAt w A ρ O i blk sz col rsz (base + es.length * sz) fs → RowsAt w A ρ O i blk sz col rsz base (es ++ fs)
  | [], fs, base, _, h => by simpa using h
  | e :: es, fs, base, h, h' => by
    refine ⟨h.1, RowsAt.append h.2 ?_⟩
    have : base + sz + es.length * sz = base + (e :: es).length * sz := by simp [Nat.succ_mul]; omega
    rw [this]; exact h'
/-- One element is another one now. -/
theorem RowsAt.set {A A' : Nat → Prop} {i : Id} {blk sz col rsz : Nat} {x : Row} (hA : ∀ b, A b → A' b ∧ w'.heap[b]? = w.heap[b]?) : ∀ {es : List Row} {base k : Nat}, k < es.length →
    (∀ p, base ≤ p → p < base + es.length * sz → ¬ (base + k * sz ≤ p ∧ p < base + k * sz + sz) → w'.cell? ⟨blk, p, none⟩ = w.cell? ⟨blk, p, none⟩) →
    (∀ j e, j ≠ k → es[j]? = some e → ρ' (.g i e.n) = ρ (.g i e.n) ∧ O' (.g i e.n) = O (.g i e.n) ∧ ∀ b, O (.g i e.n) = some b → w'.heap[b]? = w.heap[b]?) →
    RowAt w' A' ρ' O' i blk sz col rsz (base + k * sz) x → RowsAt w A ρ O i blk sz col rsz base es → RowsAt w' A' ρ' O' i blk sz col rsz base (es.set k x)
  | [], _, _, hk, _, _, _, _ => by simp at hk
  | e :: es, base, 0, hk, hc, hg, hx, h => by
    have el : (e :: es).length * sz = sz + es.length * sz := by simp [Nat.succ_mul]; omega
    refine ⟨by simpa using hx, RowsAt.move hA (fun p hp => hc _ (by omega) (by omega) (by omega)) (fun e' he => ?_) h.2⟩
    obtain ⟨j, hj⟩ := List.mem_iff_getElem?.1 he
    exact hg (j + 1) e' (by omega) (by simpa using hj)
  | e :: es, base, k + 1, hk, hc, hg, hx, h => by
    have el : (e :: es).length * sz = sz + es.length * sz := by simp [Nat.succ_mul]; omega
    have e2 : (k + 1) * sz = sz + k * sz := by rw [Nat.succ_mul]; omega
    obtain ⟨h1, h2, h3⟩ := hg 0 e (by omega) rfl
    refine ⟨RowAt.move (fun j hj => hc _ (by omega) (by omega) (by omega)) hA h1 h2 h3 h.1, RowsAt.set hA (by simpa using hk) (fun p p1 p2 p3 => hc p (by omega) (by omega) (by omega)) (fun j e' hj he => hg (j + 1) e' (by omega) (by simpa using he)) ?_ h.2⟩
    rw [show base + sz + k * sz = base + (k + 1) * sz by omega]; exact hx
theorem RowNames.mono {i : Id} {nx : Nat} {es : List Row} (hg : GKi i w ρ O w' ρ' O') (h : RowNames ρ O i nx es) : RowNames ρ' O' i nx es :=
  ⟨h.1, h.2.1, fun n hn => by rw [(hg n).1]; exact h.2.2.1 n hn, fun n b hn => by rw [(hg n).2.1] at hn; exact h.2.2.2 n b hn⟩
theorem RelB.mono {A A' : Nat → Prop} {i : Id} (hg : GKi i w ρ O w' ρ' O') (hA : ∀ b, A b → A' b ∧ w'.heap[b]? = w.heap[b]?) (hρ : ∀ i v, ρ i = some v → ρ' i = some v) (hO : O' i = O i)
    (hb : ∀ b, O i = some b → w'.heap[b]? = w.heap[b]?) : ∀ {b : Blk}, RelB w A ρ O i b → RelB w' A' ρ' O' i b
  | .box cs, ⟨b, arr, t, e1, e2, e3, e4, e5⟩ => ⟨b, arr, t, hρ _ _ e1, by rw [hO]; exact e2, by rw [hb _ e2]; exact e3, RelVs.mono hA hρ cs _ e4, e5⟩
  | .sl fz sz b l, ⟨v, e1, e2, e3⟩ => by
    refine ⟨v, hρ _ _ e1, SlAt.mono hA (fun b hq => ?_) e2, by rw [hO]; exact e3⟩
    cases fz
    · simp only [Bool.false_eq_true, if_false] at hq ⊢; exact ⟨by rw [hO]; exact hq, hb _ hq⟩
    · simp only [if_true] at hq ⊢; exact hA _ hq
  | .fbox l, ⟨b, e1, e2, e3, e4⟩ => ⟨b, hρ _ _ e1, by rw [hO]; exact e2, (hA b e3).1, RelAt.mono hA b e3 0 l e4⟩
  | .arr cs, ⟨b, arr, t, e1, e2, e3, e4, e5⟩ => ⟨b, arr, t, hρ _ _ e1, by rw [hO]; exact e2, by rw [hb _ e2]; exact e3, RelVs.mono hA hρ cs _ e4, e5⟩
  | .mp ag ks vk es, ⟨b, ents, clock, e1, e2, e3, e4, e5⟩ => ⟨b, ents, clock, hρ _ _ e1, by rw [hO]; exact e2, by rw [hb _ e2]; exact e3, e4, e5⟩
  | .rows b sz col rsz nx es, h => by
    obtain ⟨a, cap, e1, e2, e3, e4, e5⟩ := h
    refine ⟨a, cap, hρ _ _ e1, e2, e3, e4.mono hg, ?_⟩
    rcases e5 with e5 | ⟨blk, off, arr, t, q1, q2, q3, q4, q5⟩
    · exact .inl e5
    · exact .inr ⟨blk, off, arr, t, q1, by rw [hO]; exact q2, by rw [hb _ q2]; exact q3, q4, q5.mono hA (hb _ q2) hg⟩
  | .dead, ⟨⟨v, e1, e3⟩, e2⟩ => ⟨⟨v, hρ _ _ e1, e3⟩, by rw [hO]; exact e2⟩

/-- All rows are as they were. -/
def GK (w : World) (ρ : Id → Option Value) (O : Id → Option Nat) (w' : World) (ρ' : Id → Option Value) (O' : Id → Option Nat) : Prop := ∀ i, GKi i w ρ O w' ρ' O'
theorem GK.refl : GK w ρ O w ρ O := fun _ _ => ⟨rfl, rfl, fun _ _ => rfl⟩
theorem HS.real (hs : HS c w h ρ O) {i : Id} (hi : h i ≠ none) : i.real = true := by
  cases i with
  | g i n => exact (hi (hs.nog i n)).elim
  | _ => rfl
/-- How the whole goes on: each block is as it was, or what it is now is shown. -/
theorem HS.goG (hs : HS c w h ρ O) (le : Le w ρ O w' ρ' O')
    (hblk : ∀ i b, h' i = some b → (h i = some b ∧ O' i = O i ∧ (∀ blk, O i = some blk → w'.heap[blk]? = w.heap[blk]?) ∧ GKi i w ρ O w' ρ' O') ∨ RelB w' (AA c w' O') ρ' O' i b)
    (hnone : ∀ i, i.real = true → h' i = none → ρ' i = none ∧ O' i = none) (hnog : ∀ i n, h' (.g i n) = none)
    (hgd : ∀ i n, h' i = none → ρ' (.g i n) = none ∧ O' (.g i n) = none) (hgo : ∀ i n u, ρ' (.g i n) = some u → u.oneCell' = true ∧ u.cells = #[u])
    (inj : ∀ i j b, O' i = some b → O' j = some b → i = j) (lt : ∀ i b, O' i = some b → b < w'.heap.size) : HS c w' h' ρ' O' where
  blk i b hb := by
    rcases hblk i b hb with ⟨h1, h2, h3, h4⟩ | h1
    · exact RelB.mono h4 (fun b ha => le.A b ha) le.rho h2 h3 (hs.blk i b h1)
    · exact h1
  nodom := hnone
  nog := hnog
  gdom := hgd
  gone := hgo
  inj := inj
  lt := lt
  own i b hi := by
    rcases le.own i b hi with ⟨j, hj⟩ | h
    · exact hs.own j b hj
    · exact .inr (Nat.le_trans hs.size h)
  size := Nat.le_trans hs.size le.size
theorem HS.go (hs : HS c w h ρ O) (le : Le w ρ O w' ρ' O') (hg : GK w ρ O w' ρ' O')
    (hblk : ∀ i b, h' i = some b → (h i = some b ∧ O' i = O i ∧ (∀ blk, O i = some blk → w'.heap[blk]? = w.heap[blk]?)) ∨ RelB w' (AA c w' O') ρ' O' i b)
    (hnone : ∀ i, i.real = true → h' i = none → ρ' i = none ∧ O' i = none) (hd : ∀ i, h' i = none → h i = none) (hnog : ∀ i n, h' (.g i n) = none)
    (inj : ∀ i j b, O' i = some b → O' j = some b → i = j) (lt : ∀ i b, O' i = some b → b < w'.heap.size) : HS c w' h' ρ' O' :=
  hs.goG le (fun i b hb => by
    rcases hblk i b hb with ⟨h1, h2, h3⟩ | h1
    · exact .inl ⟨h1, h2, h3, hg i⟩
    · exact .inr h1) hnone hnog (fun i n hi => by
    have := hs.gdom i n (hd i hi)
    rw [(hg i n).1, (hg i n).2.1]; exact this) (fun i n u hu => by rw [(hg i n).1] at hu; exact hs.gone i n u hu) inj lt

/-- Only the world goes on (a draw, a callee that keeps what is owned). -/
theorem HS.world (hs : HS c w h ρ O) (le : Le w ρ O w' ρ O) (keep : ∀ i blk, O i = some blk → w'.heap[blk]? = w.heap[blk]?) : HS c w' h ρ O :=
  hs.go le (fun i n => ⟨rfl, rfl, fun b hb => keep _ b hb⟩) (fun i _ hb => .inl ⟨hb, rfl, fun blk h => keep i blk h⟩) hs.nodom (fun _ h => h) hs.nog hs.inj fun i b h => Nat.lt_of_lt_of_le (hs.lt i b h) le.size

def upd {α : Type} (f : Id → Option α) (i : Id) (v : Option α) : Id → Option α := fun j => if j = i then v else f j
@[simp] theorem upd_same {α : Type} (f : Id → Option α) (i : Id) (v : Option α) : upd f i v i = v := by simp [upd]
theorem upd_ne {α : Type} (f : Id → Option α) {i j : Id} (v : Option α) (h : j ≠ i) : upd f i v j = f j := by simp [upd, h]

theorem updH_one (h : Id → Option Blk) (i : Id) (b : Blk) : updH h [(i, b)] = upd h i (some b) := rfl
theorem updH_cons (h : Id → Option Blk) (i : Id) (b : Blk) (us : Upd) : updH h ((i, b) :: us) = updH (upd h i (some b)) us := rfl
theorem updH_append (h : Id → Option Blk) : ∀ (us vs : Upd), updH h (us ++ vs) = updH (updH h us) vs
  | [], _ => rfl
  | (i, b) :: us, vs => by simp only [List.cons_append, updH_cons]; exact updH_append _ us vs

/-! A new block. -/
theorem real_ne {i j : Id} {n : Nat} (hr : i.real = true) : Id.g j n ≠ i := by rintro rfl; cases hr
theorem Le.alloc (hs : HS c w h ρ O) {i : Id} (hr : i.real = true) (hi : h i = none) (o : Obj) (v : Value) (ob : Option Nat) (hob : ob = none ∨ ob = some w.heap.size) :
    Le w ρ O (w.alloc o) (upd ρ i (some v)) (upd O i ob) where
  os := rfl
  output := rfl
  tape := rfl
  size := by simp
  rho j u hj := by
    by_cases e : j = i
    · subst e; rw [(hs.nodom _ hr hi).1] at hj; cases hj
    · rw [upd_ne _ _ e]; exact hj
  blk b hb _ := Go.RowKit.Below.heap_alloc _ _ _ hb
  own j b hj := by
    by_cases e : j = i
    · subst e; rw [upd_same] at hj; rcases hob with rfl | rfl
      · cases hj
      · cases hj; exact .inr (Nat.le_refl _)
    · rw [upd_ne _ _ e] at hj; exact .inl ⟨j, hj⟩
theorem HS.alloc (hs : HS c w h ρ O) {i : Id} (hr : i.real = true) (hi : h i = none) (o : Obj) (v : Value) (ob : Option Nat) (hob : ob = none ∨ ob = some w.heap.size) (b : Blk)
    (hb : RelB (w.alloc o) (AA c (w.alloc o) (upd O i ob)) (upd ρ i (some v)) (upd O i ob) i b) :
    HS c (w.alloc o) (upd h i (some b)) (upd ρ i (some v)) (upd O i ob) := by
  refine hs.go (Le.alloc hs hr hi o v ob hob) (fun j n => ⟨upd_ne _ _ (real_ne hr), upd_ne _ _ (real_ne hr), fun b hb => Go.RowKit.Below.heap_alloc _ _ _ (hs.lt _ b hb)⟩) (fun j b' hj => ?_) (fun j hjr hj => ?_) (fun j hj => ?_) (fun j n => by rw [upd_ne _ _ (real_ne hr)]; exact hs.nog j n) (fun j k d hj hk => ?_) (fun j d hj => ?_)
  · by_cases e : j = i
    · subst e; rw [upd_same] at hj; cases hj; exact .inr hb
    · rw [upd_ne _ _ e] at hj
      exact .inl ⟨hj, upd_ne _ _ e, fun blk hblk => Go.RowKit.Below.heap_alloc _ _ _ (hs.lt j blk hblk)⟩
  · by_cases e : j = i
    · subst e; rw [upd_same] at hj; cases hj
    · rw [upd_ne _ _ e] at hj; rw [upd_ne _ _ e, upd_ne _ _ e]; exact hs.nodom j hjr hj
  · by_cases e : j = i
    · subst e; rw [upd_same] at hj; cases hj
    · rw [upd_ne _ _ e] at hj; exact hj
  · by_cases e : j = i <;> by_cases e' : k = i
    · rw [e, e']
    · exfalso; rw [upd_ne _ _ e'] at hk; subst e; rw [upd_same] at hj
      rcases hob with rfl | rfl
      · cases hj
      · cases hj; exact Nat.lt_irrefl _ (hs.lt _ _ hk)
    · exfalso; rw [upd_ne _ _ e] at hj; subst e'; rw [upd_same] at hk
      rcases hob with rfl | rfl
      · cases hk
      · cases hk; exact Nat.lt_irrefl _ (hs.lt _ _ hj)
    · rw [upd_ne _ _ e] at hj; rw [upd_ne _ _ e'] at hk; exact hs.inj j k d hj hk
  · by_cases e : j = i
    · subst e; rw [upd_same] at hj; rcases hob with rfl | rfl
      · cases hj
      · cases hj; simp
    · rw [upd_ne _ _ e] at hj; have := hs.lt j d hj; simp; omega

/-! A block that was the call's own is so no more (it is shut, or it has been handed on). -/
theorem Le.release {i : Id} : Le w ρ O w ρ (upd O i none) where
  os := rfl
  output := rfl
  tape := rfl
  size := Nat.le_refl _
  rho _ _ h := h
  blk _ _ _ := rfl
  own j b hj := by
    by_cases e : j = i
    · subst e; rw [upd_same] at hj; cases hj
    · rw [upd_ne _ _ e] at hj; exact .inl ⟨j, hj⟩
theorem HS.release (hs : HS c w h ρ O) {i : Id} (hr : i.real = true) (b : Blk) (hb : RelB w (AA c w (upd O i none)) ρ (upd O i none) i b) : HS c w (upd h i (some b)) ρ (upd O i none) := by
  refine hs.go Le.release (fun j n => ⟨rfl, upd_ne _ _ (real_ne hr), fun _ _ => rfl⟩) (fun j b' hj => ?_) (fun j hjr hj => ?_) (fun j hj => ?_) (fun j n => by rw [upd_ne _ _ (real_ne hr)]; exact hs.nog j n) (fun j k d hj hk => ?_) (fun j d hj => ?_)
  · by_cases e : j = i
    · subst e; rw [upd_same] at hj; cases hj; exact .inr hb
    · rw [upd_ne _ _ e] at hj; exact .inl ⟨hj, upd_ne _ _ e, fun _ _ => rfl⟩
  · by_cases e : j = i
    · subst e; rw [upd_same] at hj; cases hj
    · rw [upd_ne _ _ e] at hj ⊢; exact hs.nodom j hjr hj
  · by_cases e : j = i
    · subst e; rw [upd_same] at hj; cases hj
    · rw [upd_ne _ _ e] at hj; exact hj
  · by_cases e : j = i
    · subst e; rw [upd_same] at hj; cases hj
    · by_cases e' : k = i
      · subst e'; rw [upd_same] at hk; cases hk
      · rw [upd_ne _ _ e] at hj; rw [upd_ne _ _ e'] at hk; exact hs.inj j k d hj hk
  · by_cases e : j = i
    · subst e; rw [upd_same] at hj; cases hj
    · rw [upd_ne _ _ e] at hj; exact hs.lt j d hj

/-- Shutting a slice. -/
theorem HS.freeze (hs : HS c w h ρ O) {i : Id} {sz : Nat} {b : Bool} {l : List (List T)} (hi : h i = some (.sl false sz b l)) :
    HS c w (upd h i (some (.sl true sz b l))) ρ (upd O i none) := by
  refine hs.release (hs.real (by rw [hi]; simp)) _ ?_
  obtain ⟨v, e1, e2, e3⟩ := hs.blk i _ hi
  refine ⟨v, e1, ?_, fun _ => by simp⟩
  simp only [if_true]
  have hA : ∀ b, AA c w O b → AA c w (upd O i none) b ∧ w.heap[b]? = w.heap[b]? := fun b ha => (Le.release (ρ := ρ) (i := i)).A b ha
  refine SlAt.mono hA (fun blk hq => ?_) e2
  simp only [Bool.false_eq_true, if_false] at hq
  refine ⟨⟨.inr (hs.own i blk hq), hs.lt i blk hq, fun j hj => ?_⟩, rfl⟩
  by_cases e : j = i
  · subst e; rw [upd_same] at hj; cases hj
  · rw [upd_ne _ _ e] at hj; exact e (hs.inj j i blk hj hq)

/-- Shutting a box. -/
theorem HS.freezeBox (hs : HS c w h ρ O) {i : Id} {cs : List AV} {l : List T} (hi : h i = some (.box cs)) (hl : allT cs = some l) :
    HS c w (upd h i (some (.fbox l))) ρ (upd O i none) := by
  refine hs.release (hs.real (by rw [hi]; simp)) _ ?_
  obtain ⟨b, arr, t, e1, e2, e3, e4, e5⟩ := hs.blk i _ hi
  have hA : ∀ b, AA c w O b → AA c w (upd O i none) b ∧ w.heap[b]? = w.heap[b]? := fun b ha => (Le.release (ρ := ρ) (i := i)).A b ha
  have hb : AA c w (upd O i none) b := ⟨.inr (hs.own i b e2), hs.lt i b e2, fun j hj => by
    by_cases e : j = i
    · subst e; rw [upd_same] at hj; cases hj
    · rw [upd_ne _ _ e] at hj; exact e (hs.inj j i b hj e2)⟩
  refine ⟨b, e1, by simp, hb, ?_⟩
  have hT := RelTs.of_allT hl e4
  have key : ∀ (l : List T) (vs : List Value) (off : Nat), RelTs w (AA c w O) l vs → (∀ j v, vs[j]? = some v → w.cell? ⟨b, off + j, none⟩ = some v) → RelAt w (AA c w (upd O i none)) b off l := by
    intro l
    induction l with
    | nil => intro vs off _ _; simp [RelAt]
    | cons x l ih =>
      rintro vs off ⟨v, r, rfl, h1, h2⟩ hv
      simp only [RelAt]
      refine ⟨⟨v, by simpa using hv 0 v rfl, RelT.mono hA x v h1⟩, ih r (off + 1) h2 fun j u hj => ?_⟩
      have := hv (j + 1) u (by simpa using hj)
      rw [show off + 1 + j = off + (j + 1) by omega]; exact this
  refine key l _ 0 hT fun j v hj => ?_
  simp only [World.cell?, e3, Nat.zero_add]
  simpa using hj

/-! A block of the call's own is written. -/
theorem Le.write {b : Nat} {i : Id} (hi : O i = some b) (hos : w'.os = w.os) (ho : w'.output = w.output) (ht : w'.tape = w.tape) (hsz : w'.heap.size = w.heap.size) (hk : ∀ k, k ≠ b → w'.heap[k]? = w.heap[k]?) : Le w ρ O w' ρ O where
  os := hos
  output := ho
  tape := ht
  size := Nat.le_of_eq hsz.symm
  rho _ _ h := h
  blk k _ hn := hk k fun e => hn i (e ▸ hi)
  own j b hj := .inl ⟨j, hj⟩
theorem HS.write (hs : HS c w h ρ O) {b : Nat} {i : Id} (hi : O i = some b) (le : Le w ρ O w' ρ O) (hk : ∀ k, k ≠ b → w'.heap[k]? = w.heap[k]?) (x : Blk)
    (hx : RelB w' (AA c w' O) ρ O i x) (hd : h i ≠ none) : HS c w' (upd h i (some x)) ρ O := by
  have hr := hs.real hd
  refine hs.go le (fun j n => ⟨rfl, rfl, fun d hd => hk d fun e => real_ne hr (hs.inj _ i b (e ▸ hd) hi)⟩) (fun j b' hj => ?_) (fun j hjr hj => ?_) (fun j hj => ?_) (fun j n => by rw [upd_ne _ _ (real_ne hr)]; exact hs.nog j n) hs.inj (fun j d hj => Nat.lt_of_lt_of_le (hs.lt j d hj) le.size)
  · by_cases e : j = i
    · subst e; rw [upd_same] at hj; cases hj; exact .inr hx
    · rw [upd_ne _ _ e] at hj
      exact .inl ⟨hj, rfl, fun blk hblk => hk blk fun e' => e (hs.inj j i b (e' ▸ hblk) hi)⟩
  · by_cases e : j = i
    · subst e; rw [upd_same] at hj; cases hj
    · rw [upd_ne _ _ e] at hj; exact hs.nodom j hjr hj
  · by_cases e : j = i
    · subst e; rw [upd_same] at hj; cases hj
    · rw [upd_ne _ _ e] at hj; exact hj
end

/-! ### Slots -/
def SS (w : World) (A : Nat → Prop) (ρ : Id → Option Value) (s : Nat → Option Gs × AV) (tmps : Array Value) : Prop :=
  ∀ k, match s k with
    | (none, v) => RelV w A ρ v (tmps.getD k undef)
    | (some g, v) => (tmps.getD g.d undef = .bool g.want ∧ g.c = true ∧ RelV w A ρ v (tmps.getD k undef)) ∨ (tmps.getD g.d undef ≠ .bool g.want ∧ g.c = false ∧ tmps.getD k undef = undef)

section
variable {c : Ctx} {w w' : World} {ρ ρ' : Id → Option Value} {A A' : Nat → Prop} {s : Nat → Option Gs × AV} {tmps : Array Value}

theorem SS.mono (hA : ∀ b, A b → A' b ∧ w'.heap[b]? = w.heap[b]?) (hρ : ∀ i v, ρ i = some v → ρ' i = some v) (hs : SS w A ρ s tmps) : SS w' A' ρ' s tmps := by
  intro k
  have := hs k
  revert this
  split
  · intro this; exact RelV.mono hA hρ _ _ this
  · intro this
    rcases this with ⟨h1, h2, h3⟩ | h1
    · exact .inl ⟨h1, h2, RelV.mono hA hρ _ _ h3⟩
    · exact .inr h1

/-- The guard under which an operation runs. -/
def Runs (tmps : Array Value) : Option Gs → Prop
  | none => True
  | some g => tmps.getD g.d undef = .bool g.want ∧ g.c = true
theorem Runs.cond {g : Option Gs} (h : Runs tmps g) : g.map (·.c) = none ∨ g.map (·.c) = some true := by
  cases g with
  | none => exact .inl rfl
  | some g => exact .inr (by simp [h.2])

theorem relV_const (v : Value) : RelV w A ρ (constAV v) v := by
  have one : ∀ (u : Value) (x : T), ofVal u = some x → RelT w A x u := by
    intro u x e
    cases u <;> simp only [ofVal, Option.some.injEq, reduceCtorEq] at e
    case slice a l cp =>
      split at e <;> simp_all
      subst e; simp [RelT]
    case pointer a => split at e <;> simp_all; subst e; simp [RelT]
    case map a => split at e <;> simp_all; subst e; simp [RelT]
    all_goals (subst e; simp [RelT])
  have all : ∀ (us : List Value) (l : List T), ofVals us = some l → RelTs w A l us := by
    intro us
    induction us with
    | nil => intro l e; simp only [ofVals, Option.some.injEq] at e; subst e; rfl
    | cons u us ih =>
      intro l e
      simp only [ofVals] at e
      cases h1 : ofVal u with
      | none => simp [h1] at e
      | some x =>
        cases h2 : ofVals us with
        | none => simp [h1, h2] at e
        | some l' =>
          simp only [h1, h2, Option.bind_some, Option.some.injEq] at e; subst e
          exact ⟨u, us, rfl, one u x h1, ih l' h2⟩
  unfold constAV
  split
  · rename_i cs
    split
    · rename_i l e
      simp only [RelV]
      have := all cs.toList l e
      refine ⟨cs.toList, by simp, RelVs.of_ts this, ?_⟩
      have key : ∀ (l : List T) (us : List Value), RelTs w A l us → ∀ u ∈ us, u.oneCell' = true ∧ u.cells = #[u] := by
        intro l
        induction l with
        | nil => intro us hu; simp only [RelTs] at hu; subst hu; simp
        | cons x l ih =>
          intro us ⟨v, r, e, h1, h2⟩ u hu
          subst e
          rcases List.mem_cons.1 hu with rfl | hu
          · exact h1.oneCell
          · exact ih r h2 u hu
      exact key l _ this
    · simp [RelV]
  · split
    · rename_i x e
      simp only [RelV]
      exact one _ x e
    · simp [RelV]

theorem SS.get {a : Act} {h : Id → Option Blk} (hs : SS w A ρ s a.tmps) {g : Option Gs} (hr : Runs a.tmps g) (x : Operand) : RelV w A ρ (St.get ⟨s, h⟩ g x) (a.eval x) := by
  cases x with
  | tmp k =>
    simp only [St.get, Act.eval]
    have := hs k
    split at this
    · rename_i v e; simp only [e, sameG, cond_true]; exact this
    · rename_i g' v e; simp only [e]
      cases g with
      | none => simp [sameG, RelV]
      | some g0 =>
        by_cases hsame : sameG (some g') (some g0) = true
        · simp only [hsame, cond_true]
          simp only [sameG, Bool.and_eq_true, beq_iff_eq] at hsame
          rcases this with ⟨_, _, h3⟩ | ⟨h1, _⟩
          · exact h3
          · exfalso; apply h1; rw [hsame.1, hsame.2]; exact hr.1
        · simp only [Bool.not_eq_true] at hsame
          simp [hsame, RelV]
  | const v => exact relV_const v
  | func f => simp only [St.get, Act.eval, RelV]; exact ⟨[], [], rfl, by simp [RelVs], by simp [RelVs]⟩
  | global g => simp [St.get, RelV]

theorem SS.getArm {a : Act} {h : Id → Option Blk} (hs : SS w A ρ s a.tmps) {g : Option Gs} (hr : Runs a.tmps g) (cs x : Operand) (want : Bool) (hc : a.eval cs = .bool want) :
    RelV w A ρ (St.getArm ⟨s, h⟩ g cs want x) (a.eval x) := by
  unfold St.getArm
  split
  · rename_i d k
    simp only [Act.eval] at hc ⊢
    have := hs k
    split
    · rename_i gk v e
      simp only [e] at this
      by_cases h1 : (gk.d == d && gk.want == want) = true
      · simp only [h1, Bool.true_or, cond_true]
        simp only [Bool.and_eq_true, beq_iff_eq] at h1
        rcases this with ⟨_, _, h3⟩ | ⟨h2, _⟩
        · exact h3
        · exfalso; apply h2; rw [h1.1, h1.2]; exact hc
      · simp only [Bool.not_eq_true] at h1
        simp only [h1, Bool.false_or]
        have hg := SS.get (h := h) hs hr (.tmp k)
        simp only [St.get, e, Act.eval] at hg
        exact hg
    · rename_i v e; simp only [e] at this; exact this
  · exact SS.get hs hr _

end
end Go.Aev
