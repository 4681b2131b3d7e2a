/-
  An element is appended to a slice of rows: who owns what, then.
-/
import Derived.Test.YtmpjdngpblfecaaAevMem5
set_option linter.unusedSimpArgs false
set_option linter.unusedVariables false
namespace Go.Aev
open Go

section
variable {P : Program} {w w' : World} {A A' : Nat → Prop} {c : Ctx} {ρ : Id → Option Value} {O : Id → Option Nat} {s : St} {cc : Option Bool} {h : Id → Option Blk}

/-- Values, behind the move of block i to i' with one more row. -/
def pushV (ρ : Id → Option Value) (i i' : Id) (nx : Nat) (v vk : Value) : Id → Option Value := fun x =>
  if x = i' then some v else match x with
    | .g y n => if y = i' then (if n = nx then some vk else ρ (.g i n)) else ρ (.g y n)
    | x => ρ x
def pushO (O : Id → Option Nat) (i i' j src : Id) (nx : Nat) (ob : Option Nat) : Id → Option Nat := fun x =>
  if x = i' then ob else if x = i ∨ x = j ∨ x = src then none else match x with
    | .g y n => if y = i' then (if n = nx then O src else O (.g i n)) else if y = i then none else O (.g y n)
    | x => O x
def pushT (i i' j src : Id) (nx : Nat) : Id → Option Id := fun x =>
  if x = i' then some i else if x = i ∨ x = j ∨ x = src then none else match x with
    | .g y n => if y = i' then (if n = nx then some src else some (.g i n)) else if y = i then none else some (.g y n)
    | x => some x
def pushS (i i' src : Id) (nx : Nat) : Id → Id := fun z =>
  if z = i then i' else if z = src then .g i' nx else match z with
    | .g y n => if y = i then .g i' n else .g y n
    | z => z
theorem pushT_inv {i i' j src : Id} {nx : Nat} (hsi : src ≠ i) (hsg : ∀ n, src ≠ .g i n) (hir : i.real = true) {x z : Id} (hx : pushT i i' j src nx x = some z) : pushS i i' src nx z = x := by
  unfold pushT at hx
  split at hx
  · rename_i h; simp only [Option.some.injEq] at hx; subst hx
    unfold pushS; rw [if_pos rfl, h]
  · rename_i h1
    split at hx
    · cases hx
    · rename_i h2
      have h3 : x ≠ i := fun e => h2 (.inl e)
      have h4 : x ≠ src := fun e => h2 (.inr (.inr e))
      cases x with
      | g y n =>
        dsimp only at hx
        split at hx
        · rename_i e; subst e
          split at hx
          · rename_i e2; simp only [Option.some.injEq] at hx; subst hx
            unfold pushS; rw [if_neg hsi, if_pos rfl, e2]
          · simp only [Option.some.injEq] at hx; subst hx
            unfold pushS
            rw [if_neg (real_ne hir), if_neg (fun e => hsg n e.symm)]
            simp
        · split at hx
          · cases hx
          · rename_i e3
            simp only [Option.some.injEq] at hx; subst hx
            unfold pushS
            rw [if_neg h3, if_neg h4]
            simp [e3]
      | c a =>
        simp only [Option.some.injEq] at hx; subst hx
        unfold pushS; rw [if_neg h3, if_neg h4]
      | s d a =>
        simp only [Option.some.injEq] at hx; subst hx
        unfold pushS; rw [if_neg h3, if_neg h4]
theorem pushO_dec {i i' j src : Id} {nx : Nat} {ob : Option Nat} {x : Id} {d : Nat} (hx : pushO O i i' j src nx ob x = some d) : (x = i' ∧ ob = some d) ∨ (x ≠ i' ∧ ∃ z, pushT i i' j src nx x = some z ∧ O z = some d) := by
  unfold pushO at hx
  unfold pushT
  split at hx
  · exact .inl ⟨by assumption, hx⟩
  · rename_i h1
    right
    refine ⟨h1, ?_⟩
    rw [if_neg h1]
    split at hx
    · cases hx
    · rename_i h2
      rw [if_neg h2]
      cases x with
      | g y n =>
        dsimp only at hx ⊢
        split at hx
        · rename_i e
          rw [if_pos e]
          split at hx
          · rename_i e2; rw [if_pos e2]; exact ⟨_, rfl, hx⟩
          · rename_i e2; rw [if_neg e2]; exact ⟨_, rfl, hx⟩
        · rename_i e
          rw [if_neg e]
          split at hx
          · cases hx
          · rename_i e3; rw [if_neg e3]; exact ⟨_, rfl, hx⟩
      | c a => exact ⟨_, rfl, hx⟩
      | s d a => exact ⟨_, rfl, hx⟩

/-- Block i goes on as i', with one more element; block j (that element, written out) is dead; the row comes from src. -/
theorem HS.pushRow {i i' j src s0 : Id} {b : Bool} {sz col rsz nx : Nat} {es : List Row} {l : List T} {bb : Bool} {xs : List (List T)} {vk : Value} {X : Blk} {blk blk' off off' cap' : Nat} {arr' : Array Value} {t' : TypeId} {ob : Option Nat} {news : List Value}
    (hs : HS c w h ρ O) (hi : h i = some (.rows b sz col rsz nx es)) (hi' : h i' = none) (hrl : i'.real = true) (hj : h j ≠ none) (hji : j ≠ i) (hs0 : h s0 ≠ none) (hs0i : s0 ≠ i) (hs0j : s0 ≠ j)
    (hsrc : src = s0 ∨ ∃ n, src = .g s0 n) (hvk : ρ src = some vk) (hsl : SlAt w (AA c w O) rsz bb xs vk (fun d => O src = some d))
    (hos : w'.os = w.os) (ho : w'.output = w.output) (htp : w'.tape = w.tape) (hsz : w.heap.size ≤ w'.heap.size) (hkeep : ∀ k, k < w.heap.size → O i ≠ some k → w'.heap[k]? = w.heap[k]?)
    (hob : ob = O i ∨ (ob = some w.heap.size ∧ w.heap.size < w'.heap.size)) (hobs : ob = some blk') (hb : w'.heap[blk']? = some (.cells arr' t' (0, 0))) (hfit : off' + cap' * sz ≤ arr'.size) (hcap : es.length + 1 ≤ cap')
    (hrows : RowsAt w (AA c w O) ρ O i blk sz col rsz off es) (hold : ∀ p, p < es.length * sz → w'.cell? ⟨blk', off' + p, none⟩ = w.cell? ⟨blk, off + p, none⟩)
    (hcol : col < sz) (hl : l.length = sz) (hnew : ∀ p v, news[p]? = some v → w'.cell? ⟨blk', off' + es.length * sz + p, none⟩ = some v) (hnr : ∀ m x, m ≠ col → l[m]? = some x → ∃ v, news[m]? = some v ∧ RelT w (AA c w O) x v) (hnk : news[col]? = some vk)
    (hX : (∀ b, AA c w O b → AA c w' (pushO O i i' j src nx ob) b ∧ w'.heap[b]? = w.heap[b]?) → RelB w' (AA c w' (pushO O i i' j src nx ob)) (pushV ρ i i' nx (.slice (some ⟨blk', off', none⟩) (es.length + 1) cap') vk) (pushO O i i' j src nx ob) s0 X) :
    Le w ρ O w' (pushV ρ i i' nx (.slice (some ⟨blk', off', none⟩) (es.length + 1) cap') vk) (pushO O i i' j src nx ob) ∧
    HS c w' (upd (upd (upd (upd h i (some .dead)) j (some .dead)) s0 (some X)) i' (some (.rows false sz col rsz (nx + 1) (es ++ [⟨nx, l, some (bb, xs)⟩])))) (pushV ρ i i' nx (.slice (some ⟨blk', off', none⟩) (es.length + 1) cap') vk) (pushO O i i' j src nx ob) := by
  have hri := hs.real (i := i) (by rw [hi]; simp)
  have hrj := hs.real hj
  have hr0 := hs.real hs0
  have hii : i' ≠ i := fun e => by rw [e, hi] at hi'; cases hi'
  have hij : i' ≠ j := fun e => hj (e ▸ hi')
  have hi0 : i' ≠ s0 := fun e => hs0 (e ▸ hi')
  have hsi : src ≠ i := by
    rcases hsrc with rfl | ⟨n, rfl⟩
    · exact hs0i
    · exact real_ne hri
  have hsj : src ≠ j := by
    rcases hsrc with rfl | ⟨n, rfl⟩
    · exact hs0j
    · exact real_ne hrj
  have hsi' : src ≠ i' := by
    rcases hsrc with rfl | ⟨n, rfl⟩
    · exact hi0.symm
    · exact real_ne hrl
  have hsg : ∀ n, src ≠ .g i n := by
    intro n
    rcases hsrc with rfl | ⟨m, rfl⟩
    · exact (real_ne hr0).symm
    · intro e; simp only [Id.g.injEq] at e; exact hs0i e.1
  have hsg' : ∀ n, src ≠ .g i' n := by
    intro n
    rcases hsrc with rfl | ⟨m, rfl⟩
    · exact (real_ne hr0).symm
    · intro e; simp only [Id.g.injEq] at e; exact hi0 e.1.symm
  obtain ⟨a, cap, r1, r2, r3, ⟨n1, n2, n3, n4⟩, r5⟩ := hs.blk i _ hi
  obtain ⟨V, hV⟩ : ∃ V, V = pushV ρ i i' nx (.slice (some ⟨blk', off', none⟩) (es.length + 1) cap') vk := ⟨_, rfl⟩
  obtain ⟨Q, hQ⟩ : ∃ Q, Q = pushO O i i' j src nx ob := ⟨_, rfl⟩
  rw [← hV, ← hQ] at hX ⊢
  have V1 : V i' = some (.slice (some ⟨blk', off', none⟩) (es.length + 1) cap') := by rw [hV]; unfold pushV; rw [if_pos rfl]
  have V2 : ∀ x, x.real = true → x ≠ i' → V x = ρ x := by
    intro x hr hx
    rw [hV]; unfold pushV; rw [if_neg hx]
    cases x with
    | g y n => cases hr
    | _ => rfl
  have V3 : ∀ y n, y ≠ i' → V (.g y n) = ρ (.g y n) := by
    intro y n hy
    rw [hV]; unfold pushV; rw [if_neg (real_ne hrl)]; simp only [if_neg hy]
  have V4 : ∀ n, V (.g i' n) = if n = nx then some vk else ρ (.g i n) := by
    intro n
    rw [hV]; unfold pushV; rw [if_neg (real_ne hrl)]; simp
  have Q1 : Q i' = ob := by rw [hQ]; unfold pushO; rw [if_pos rfl]
  have Q0 : ∀ x, x ≠ i' → (x = i ∨ x = j ∨ x = src) → Q x = none := by
    intro x hx h2
    rw [hQ]; unfold pushO; rw [if_neg hx, if_pos h2]
  have Q2 : ∀ x, x.real = true → x ≠ i' → x ≠ i → x ≠ j → x ≠ src → Q x = O x := by
    intro x hr hx h1 h2 h3
    rw [hQ]; unfold pushO; rw [if_neg hx, if_neg (by rintro (h | h | h) <;> contradiction)]
    cases x with
    | g y n => cases hr
    | _ => rfl
  have Q3 : ∀ y n, y ≠ i' → y ≠ i → Id.g y n ≠ src → Q (.g y n) = O (.g y n) := by
    intro y n hy hy2 h3
    rw [hQ]; unfold pushO; rw [if_neg (real_ne hrl), if_neg (by rintro (h | h | h); exact real_ne hri h; exact real_ne hrj h; exact h3 h)]; simp only [if_neg hy, if_neg hy2]
  have Q4 : ∀ n, Q (.g i' n) = if n = nx then O src else O (.g i n) := by
    intro n
    rw [hQ]; unfold pushO; rw [if_neg (real_ne hrl), if_neg (by rintro (h | h | h); exact real_ne hri h; exact real_ne hrj h; exact hsg' n h.symm)]; simp
  have dec : ∀ x d, Q x = some d → (x = i' ∧ ob = some d) ∨ (x ≠ i' ∧ ∃ z, pushT i i' j src nx x = some z ∧ O z = some d) := fun x d hx => pushO_dec (by rw [← hQ]; exact hx)
  have le : Le w ρ O w' V Q := by
    refine ⟨hos, ho, htp, hsz, fun x u hx => ?_, fun d hd hn => hkeep d hd (hn i), fun x d hx => ?_⟩
    · cases hr : x.real with
      | true =>
        have : x ≠ i' := fun e => by rw [e, (hs.nodom i' hrl hi').1] at hx; cases hx
        rw [V2 x hr this]; exact hx
      | false =>
        cases x with
        | g y n =>
          have : y ≠ i' := fun e => by rw [e, (hs.gdom i' n hi').1] at hx; cases hx
          rw [V3 y n this]; exact hx
        | _ => cases hr
    · rcases dec x d hx with ⟨_, h1⟩ | ⟨_, z, _, h2⟩
      · rcases hob with e | ⟨e, _⟩
        · exact .inl ⟨i, by rw [← e]; exact h1⟩
        · rw [e] at h1; cases h1; exact .inr (Nat.le_refl _)
      · exact .inl ⟨z, h2⟩
  have hA : ∀ d, AA c w O d → AA c w' Q d ∧ w'.heap[d]? = w.heap[d]? := fun d hd => le.A d hd
  have keepO : ∀ x d, x ≠ i → O x = some d → w'.heap[d]? = w.heap[d]? := fun x d hx hd => hkeep d (hs.lt x d hd) fun e => hx (hs.inj x i d hd e)
  refine ⟨le, hs.goG le (fun x y hx => ?_) (fun x hr hx => ?_) (fun x n => ?_) (fun x n hx => ?_) (fun x n u hu => ?_) (fun x y d hx hy => ?_) (fun x d hx => ?_)⟩
  · by_cases e1 : x = i'
    · subst e1; rw [upd_same] at hx; cases hx
      right
      have hlen : (es ++ [(⟨nx, l, some (bb, xs)⟩ : Row)]).length = es.length + 1 := by simp
      refine ⟨some ⟨blk', off', none⟩, cap', by rw [hlen]; exact V1, by rw [hlen]; exact hcap, by simp, ⟨?_, fun f hf => ?_, fun n hn => ?_, fun n d hd => ?_⟩, .inr ⟨blk', off', arr', t', rfl, by rw [Q1]; exact hobs, hb, hfit, RowsAt.append ?_ ⟨?_, trivial⟩⟩⟩
      · rw [List.map_append, List.nodup_append]
        refine ⟨n1, by simp, fun a ha b hb => ?_⟩
        simp only [List.map_cons, List.map_nil, List.mem_singleton] at hb
        obtain ⟨f, hf, e⟩ := List.mem_map.1 ha
        have := n2 f hf
        omega
      · rcases List.mem_append.1 hf with hf | hf
        · have := n2 f hf; omega
        · simp only [List.mem_singleton] at hf; subst hf; simp
      · rw [V4, if_neg (by omega)]; exact n3 n (by omega)
      · rw [Q4] at hd
        by_cases en : n = nx
        · exact ⟨_, List.mem_append_right _ (List.mem_singleton.2 rfl), en.symm⟩
        · rw [if_neg en] at hd
          obtain ⟨f, hf, hfn⟩ := n4 n d hd
          exact ⟨f, List.mem_append_left _ hf, hfn⟩
      · refine RowsAt.move hA hold (fun f hf => ?_) hrows
        have hne : f.n ≠ nx := by have := n2 f hf; omega
        exact ⟨by rw [V4, if_neg hne], by rw [Q4, if_neg hne], fun d hd => keepO _ d (real_ne hri) hd⟩
      · refine ⟨hl, hcol, fun m y hm hy => ?_, vk, hnew col vk hnk, by rw [V4]; simp, ?_⟩
        · obtain ⟨v, g1, g2⟩ := hnr m y hm hy
          exact ⟨v, hnew m v g1, RelT.mono hA y v g2⟩
        · simp only
          refine SlAt.mono hA (fun d hd => ?_) hsl
          rw [Q4]
          exact ⟨by simpa using hd, keepO src d hsi hd⟩
    · rw [upd_ne _ _ e1] at hx
      by_cases e2 : x = s0
      · subst e2; rw [upd_same] at hx; cases hx; exact .inr (hX hA)
      · rw [upd_ne _ _ e2] at hx
        by_cases e3 : x = j
        · subst e3; rw [upd_same] at hx; cases hx
          obtain ⟨y, hy⟩ := Option.ne_none_iff_exists'.1 hj
          have : ∃ u, ρ x = some u := by
            cases hρ : ρ x with
            | some u => exact ⟨u, rfl⟩
            | none =>
              exfalso
              have := hs.blk x y hy
              cases y with
              | box cs => obtain ⟨b, _, _, h1, _⟩ := this; rw [hρ] at h1; cases h1
              | sl fz sz b xs => obtain ⟨v, h1, _⟩ := this; rw [hρ] at h1; cases h1
              | fbox l => obtain ⟨b, h1, _⟩ := this; rw [hρ] at h1; cases h1
              | mp ag ks vk es => obtain ⟨b, _, _, h1, _⟩ := this; rw [hρ] at h1; cases h1
              | arr cs => obtain ⟨b, _, _, h1, _⟩ := this; rw [hρ] at h1; cases h1
              | rows _ _ _ _ _ _ => obtain ⟨_, _, h1, _⟩ := this; rw [hρ] at h1; cases h1
              | dead => obtain ⟨⟨v, h1, _⟩, _⟩ := this; rw [hρ] at h1; cases h1
          obtain ⟨u, hu⟩ := this
          exact .inr ⟨⟨u, by rw [V2 x hrj e1]; exact hu, rho_one hs hu⟩, Q0 x e1 (.inr (.inl rfl))⟩
        · rw [upd_ne _ _ e3] at hx
          by_cases e4 : x = i
          · subst e4; rw [upd_same] at hx; cases hx
            exact .inr ⟨⟨_, by rw [V2 x hri e1]; exact r1, rfl, rfl⟩, Q0 x e1 (.inl rfl)⟩
          · rw [upd_ne _ _ e4] at hx
            have hrx := hs.real (i := x) (by rw [hx]; simp)
            have e5 : x ≠ src := by
              rcases hsrc with rfl | ⟨n, rfl⟩
              · exact e2
              · exact (real_ne hrx).symm
            refine .inl ⟨hx, Q2 x hrx e1 e4 e3 e5, fun d hd => keepO x d e4 hd, fun n => ⟨V3 x n e1, Q3 x n e1 e4 ?_, fun d hd => keepO _ d (real_ne hri) hd⟩⟩
            rcases hsrc with rfl | ⟨m, rfl⟩
            · exact real_ne hr0
            · intro e; simp only [Id.g.injEq] at e; exact e2 e.1
  · have hne : x ≠ i' := fun e => by rw [e, upd_same] at hx; cases hx
    rw [upd_ne _ _ hne] at hx
    have h0 : x ≠ s0 := fun e => by rw [e, upd_same] at hx; cases hx
    rw [upd_ne _ _ h0] at hx
    have h1 : x ≠ j := fun e => by rw [e, upd_same] at hx; cases hx
    rw [upd_ne _ _ h1] at hx
    have h2 : x ≠ i := fun e => by rw [e, upd_same] at hx; cases hx
    rw [upd_ne _ _ h2] at hx
    have h5 : x ≠ src := by
      rcases hsrc with rfl | ⟨n, rfl⟩
      · exact h0
      · exact (real_ne hr).symm
    rw [V2 x hr hne, Q2 x hr hne h2 h1 h5]
    exact hs.nodom x hr hx
  · rw [upd_ne _ _ (real_ne hrl), upd_ne _ _ (real_ne hr0), upd_ne _ _ (real_ne hrj), upd_ne _ _ (real_ne hri)]; exact hs.nog x n
  · have hne : x ≠ i' := fun e => by rw [e, upd_same] at hx; cases hx
    rw [upd_ne _ _ hne] at hx
    have h0 : x ≠ s0 := fun e => by rw [e, upd_same] at hx; cases hx
    rw [upd_ne _ _ h0] at hx
    have h1 : x ≠ j := fun e => by rw [e, upd_same] at hx; cases hx
    rw [upd_ne _ _ h1] at hx
    have h2 : x ≠ i := fun e => by rw [e, upd_same] at hx; cases hx
    rw [upd_ne _ _ h2] at hx
    have h5 : Id.g x n ≠ src := by
      rcases hsrc with rfl | ⟨m, rfl⟩
      · exact real_ne hr0
      · intro e; simp only [Id.g.injEq] at e; exact h0 e.1
    rw [V3 x n hne, Q3 x n hne h2 h5]
    exact hs.gdom x n hx
  · by_cases hne : x = i'
    · subst hne
      rw [V4] at hu
      split at hu
      · simp only [Option.some.injEq] at hu; subst hu; exact rho_one hs hvk
      · exact hs.gone i n u hu
    · rw [V3 x n hne] at hu; exact hs.gone x n u hu
  · rcases dec x d hx with ⟨x1, x2⟩ | ⟨x1, z, x2, x3⟩ <;> rcases dec y d hy with ⟨y1, y2⟩ | ⟨y1, z', y2, y3⟩
    · rw [x1, y1]
    · rcases hob with e | ⟨e, _⟩
      · rw [e] at x2
        have := hs.inj i z' d x2 y3
        subst this
        have := pushT_inv hsi hsg hri y2
        unfold pushS at this; rw [if_pos rfl] at this
        rw [x1]; exact this
      · rw [e] at x2; cases x2; exact absurd (hs.lt _ _ y3) (Nat.lt_irrefl _)
    · rcases hob with e | ⟨e, _⟩
      · rw [e] at y2
        have := hs.inj i z d y2 x3
        subst this
        have := pushT_inv hsi hsg hri x2
        unfold pushS at this; rw [if_pos rfl] at this
        rw [y1]; exact this.symm
      · rw [e] at y2; cases y2; exact absurd (hs.lt _ _ x3) (Nat.lt_irrefl _)
    · have := hs.inj z z' d x3 y3
      subst this
      rw [← pushT_inv hsi hsg hri x2, ← pushT_inv hsi hsg hri y2]
  · rcases dec x d hx with ⟨_, h1⟩ | ⟨_, z, _, h2⟩
    · rcases hob with e | ⟨e, e2⟩
      · rw [e] at h1; have := hs.lt i d h1; omega
      · rw [e] at h1; cases h1; exact e2
    · have := hs.lt z d h2; omega
end
end Go.Aev
