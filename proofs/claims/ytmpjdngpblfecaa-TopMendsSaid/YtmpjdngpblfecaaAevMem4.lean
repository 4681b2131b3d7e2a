/-
  Stores; new blocks.
-/
import Derived.Test.YtmpjdngpblfecaaAevMem3
set_option linter.unusedSimpArgs false
set_option linter.unusedVariables false
namespace Go.Aev
open Go

section
variable {P : Program} {w w' : World} {A A' : Nat → Prop} {c : Ctx} {ρ : Id → Option Value} {O : Id → Option Nat} {s : St} {cc : Option Bool} {h : Id → Option Blk}

/-! ### Cells that are written -/
theorem cell_setRow {b : Nat} {arr : Array Value} {t : TypeId} {fr : Nat × Nat} (hb : w.heap[b]? = some (.cells arr t fr)) (cs : Array Value) (p : Nat) : (w.setRow b cs).cell? ⟨b, p, none⟩ = cs[p]? := by
  simp only [World.cell?, setRow_heap w b arr cs t fr hb]; rfl
theorem cell_block {b : Nat} {arr : Array Value} {t : TypeId} {fr : Nat × Nat} (hb : w.heap[b]? = some (.cells arr t fr)) (p : Nat) : w.cell? ⟨b, p, none⟩ = arr[p]? := by
  simp only [World.cell?, hb]; rfl
theorem setRow_size (w : World) (b : Nat) (cs : Array Value) : (w.setRow b cs).heap.size = w.heap.size := by simp [World.setRow]

theorem repl_get {α : Type} (off : Nat) (new old : List α) (hl : off + new.length ≤ old.length) (p : Nat) : (repl off new old)[p]? = if off ≤ p ∧ p < off + new.length then new[p - off]? else old[p]? := by
  unfold repl
  rw [List.append_assoc]
  have h1 : (old.take off).length = off := by rw [List.length_take]; omega
  by_cases h : p < off
  · rw [List.getElem?_append_left (by omega), if_neg (by omega), List.getElem?_take, if_pos h]
  · rw [List.getElem?_append_right (by omega), h1]
    by_cases h2 : p < off + new.length
    · rw [List.getElem?_append_left (by omega), if_pos ⟨by omega, h2⟩]
    · rw [List.getElem?_append_right (by omega), if_neg (by omega), List.getElem?_drop]
      congr 1; omega
theorem repl_length {α : Type} (off : Nat) (new old : List α) (hl : off + new.length ≤ old.length) : (repl off new old).length = old.length := by
  simp only [repl, List.length_append, List.length_take, List.length_drop]; omega

theorem RelAt.of_vals {blk : Nat} : ∀ {l : List T} {vs : List Value} {off : Nat}, RelTs w A l vs → (∀ j v, vs[j]? = some v → w.cell? ⟨blk, off + j, none⟩ = some v) → RelAt w A blk off l
  | [], _, _, _, _ => by simp [RelAt]
  | x :: l, vs, off, ⟨v, r, e, h1, h2⟩, hv => by
    subst e
    simp only [RelAt]
    refine ⟨⟨v, by simpa using hv 0 v rfl, h1⟩, RelAt.of_vals h2 fun j u hj => ?_⟩
    have := hv (j + 1) u (by simpa using hj)
    rw [show off + 1 + j = off + (j + 1) by omega]; exact this
theorem RelAt.cells {blk : Nat} (hA : ∀ b, A b → A' b ∧ w'.heap[b]? = w.heap[b]?) : ∀ {cs : List T} {off : Nat}, (∀ j, j < cs.length → w'.cell? ⟨blk, off + j, none⟩ = w.cell? ⟨blk, off + j, none⟩) → RelAt w A blk off cs → RelAt w' A' blk off cs
  | [], _, _, _ => by simp [RelAt]
  | x :: cs, off, hc, hr => by
    simp only [RelAt] at hr ⊢
    obtain ⟨⟨v, h1, h2⟩, h3⟩ := hr
    refine ⟨⟨v, ?_, RelT.mono hA x v h2⟩, RelAt.cells hA (fun j hj => ?_) h3⟩
    · have := hc 0 (by simp); simp only [Nat.add_zero] at this; rw [this]; exact h1
    · have := hc (j + 1) (by simp; omega)
      rw [show off + 1 + j = off + (j + 1) by omega]; exact this
theorem RelAt.append {blk : Nat} : ∀ {a b : List T} {off : Nat}, RelAt w A blk off a → RelAt w A blk (off + a.length) b → RelAt w A blk off (a ++ b)
  | [], b, off, _, h => by simpa using h
  | x :: a, b, off, h, h' => by
    simp only [RelAt, List.cons_append] at h ⊢
    refine ⟨h.1, RelAt.append h.2 ?_⟩
    have : off + 1 + a.length = off + (x :: a).length := by simp; omega
    rw [this]; exact h'
theorem RelAt.take {blk : Nat} : ∀ {cs : List T} {off : Nat}, RelAt w A blk off cs → ∀ n, RelAt w A blk off (cs.take n)
  | _, _, _, 0 => by simp [RelAt]
  | [], _, _, n + 1 => by simp [RelAt]
  | x :: cs, off, h, n + 1 => by
    simp only [RelAt, List.take_succ_cons] at h ⊢
    exact ⟨h.1, RelAt.take h.2 n⟩
theorem RelEls.cells {blk sz : Nat} (hA : ∀ b, A b → A' b ∧ w'.heap[b]? = w.heap[b]?) : ∀ {xs : List (List T)} {off : Nat}, (∀ p, off ≤ p → p < off + xs.length * sz → w'.cell? ⟨blk, p, none⟩ = w.cell? ⟨blk, p, none⟩) → RelEls w A blk sz off xs → RelEls w' A' blk sz off xs
  | [], _, _, _ => by simp [RelEls]
  | cs :: xs, off, hc, hr => by
    simp only [RelEls] at hr ⊢
    have e : (cs :: xs).length * sz = sz + xs.length * sz := by simp [Nat.succ_mul]; omega
    refine ⟨hr.1, RelAt.cells hA (fun j hj => hc _ (by omega) (by rw [e]; omega)) hr.2.1, RelEls.cells hA (fun p h1 h2 => hc p (by omega) (by rw [e]; omega)) hr.2.2⟩
theorem RelEls.set {blk sz : Nat} (hA : ∀ b, A b → A' b ∧ w'.heap[b]? = w.heap[b]?) : ∀ {xs : List (List T)} {off k : Nat} {new : List T}, RelEls w A blk sz off xs → k < xs.length → new.length = sz → RelAt w' A' blk (off + k * sz) new →
    (∀ p, off ≤ p → p < off + xs.length * sz → ¬ (off + k * sz ≤ p ∧ p < off + k * sz + sz) → w'.cell? ⟨blk, p, none⟩ = w.cell? ⟨blk, p, none⟩) → RelEls w' A' blk sz off (xs.set k new)
  | [], _, _, _, _, hk, _, _, _ => by simp at hk
  | cs :: xs, off, 0, new, hr, _, hn, hnew, hc => by
    simp only [RelEls, List.set_cons_zero] at hr ⊢
    have e : (cs :: xs).length * sz = sz + xs.length * sz := by simp [Nat.succ_mul]; omega
    exact ⟨hn, by simpa using hnew, RelEls.cells hA (fun p h1 h2 => hc p (by omega) (by rw [e]; omega) (by omega)) hr.2.2⟩
  | cs :: xs, off, k + 1, new, hr, hk, hn, hnew, hc => by
    simp only [RelEls, List.set_cons_succ] at hr ⊢
    have e : (cs :: xs).length * sz = sz + xs.length * sz := by simp [Nat.succ_mul]; omega
    have e2 : (k + 1) * sz = sz + k * sz := by rw [Nat.succ_mul]; omega
    refine ⟨hr.1, RelAt.cells hA (fun j hj => hc _ (by omega) (by rw [e]; omega) (by rw [e2]; omega)) hr.2.1, RelEls.set hA hr.2.2 (by simpa using hk) hn ?_ (fun p h1 h2 h3 => hc p (by omega) (by rw [e]; omega) (by rw [e2]; omega))⟩
    rw [show off + sz + k * sz = off + (k + 1) * sz by rw [e2]; omega]; exact hnew

theorem RelVs.repl {as l : List AV} {vs us : List Value} (h : RelVs w A ρ as vs) (h' : RelVs w A ρ l us) (off : Nat) : RelVs w A ρ (repl off l as) (repl off us vs) := by
  unfold Aev.repl
  have := h'.length
  rw [this]
  exact ((h.take off).append h').append (h.drop _)
theorem RelAt.repl {blk base off : Nat} {cs l : List T} (h1 : RelAt w A blk base (cs.take off)) (h2 : RelAt w A blk (base + off) l) (h3 : RelAt w A blk (base + off + l.length) (cs.drop (off + l.length))) (hl : off ≤ cs.length) : RelAt w A blk base (repl off l cs) := by
  unfold Aev.repl
  rw [List.append_assoc]
  have lt : (cs.take off).length = off := by rw [List.length_take]; omega
  exact RelAt.append h1 (RelAt.append (by rw [lt]; exact h2) (by rw [lt]; exact h3))

theorem run_storeVar {t : TypeId} (ht : tyOk P t = true) {b off : Nat} {arr : Array Value} {tt : TypeId} {v : Value} (hb : w.heap[b]? = some (.cells arr tt (0, 0))) (hl : v.cells.size = P.cellsOf t) (hfit : off + v.cells.toList.length ≤ arr.size)
    (h1 : ∀ u ∈ v.cells.toList, u.oneCell' = true) : (storeVar t ⟨b, off, none⟩ v).run P w = .ok () (w.setRow b (repl off v.cells.toList arr.toList).toArray) := by
  unfold storeVar
  simp only [Sem.run_bind, run_sizeA ht, Result.andThen_ok, hl, ne_eq, not_true_eq_false, if_false]
  have := run_storeCells_at P b off tt v.cells.toList 0 arr w hb (by simpa using hfit) h1
  simp only [Nat.add_zero] at this
  rw [this]; rfl

theorem refs1_ids {v : AV} {i : Id} (h : refs1 v i) : i ∈ v.ids := by
  rcases h with rfl | ⟨_, _, _, rfl⟩ | ⟨_, rfl⟩ <;> simp [AV.ids]
theorem frz1_ids {v : AV} {p : Id × Blk} (hp : p ∈ frz1 h v) : p.1 ∈ v.ids := by
  unfold frz1 at hp
  split at hp
  · split at hp
    · simp only [List.mem_singleton] at hp; subst hp; simp [AV.ids]
    · cases hp
  · split at hp
    · simp only [List.mem_singleton] at hp; subst hp; simp [AV.ids]
    · cases hp
  · split at hp
    · split at hp
      · simp only [List.mem_singleton] at hp; subst hp; simp [AV.ids]
      · cases hp
    · cases hp
  · cases hp
theorem frzAll_ids : ∀ {vs : List AV} {p : Id × Blk}, p ∈ frzAll h vs → p.1 ∈ idsL vs
  | [], p, hp => by cases hp
  | v :: vs, p, hp => by
    simp only [frzAll, List.mem_append] at hp
    simp only [idsL, List.mem_append]
    rcases hp with hp | hp
    · exact .inl (frz1_ids hp)
    · exact .inr (frzAll_ids hp)
theorem frz_ids {v : AV} {p : Id × Blk} (hp : p ∈ frz h v) : p.1 ∈ v.ids := by
  unfold frz at hp; split at hp
  · simp only [AV.ids]; exact frzAll_ids hp
  · exact frz1_ids hp
theorem updH_other : ∀ {us : Upd} {h : Id → Option Blk} {i : Id}, (∀ p ∈ us, p.1 ≠ i) → updH h us i = h i
  | [], _, _, _ => rfl
  | (j, b) :: us, h, i, hn => by
    rw [updH_cons, updH_other (fun p hp => hn p (List.mem_cons_of_mem _ hp)), upd_ne _ _ (fun e => hn (j, b) List.mem_cons_self e.symm)]
theorem updH_swap : ∀ {us : Upd} {h : Id → Option Blk} {i : Id} {b : Blk}, (∀ p ∈ us, p.1 ≠ i) → updH (upd h i (some b)) us = upd (updH h us) i (some b)
  | [], _, _, _, _ => rfl
  | (j, x) :: us, h, i, b, hn => by
    rw [updH_cons, updH_cons, ← updH_swap (fun p hp => hn p (List.mem_cons_of_mem _ hp))]
    congr 1
    funext k
    have : j ≠ i := fun e => hn (j, x) List.mem_cons_self e
    by_cases e1 : k = j
    · subst e1; rw [upd_same, upd_ne _ _ this, upd_same]
    · by_cases e2 : k = i
      · subst e2; rw [upd_ne _ _ e1, upd_same, upd_same]
      · rw [upd_ne _ _ e1, upd_ne _ _ e2, upd_ne _ _ e2, upd_ne _ _ e1]

theorem HS.freezes' {us : Upd} (hs : HS c w h ρ O) (hok : FrzOk h us) :
    ∃ O', Le w ρ O w ρ O' ∧ HS c w (updH h us) ρ O' ∧ (∀ i, O' i = O i ∨ O' i = none) ∧ (∀ p ∈ us, O' p.1 = none) ∧ ∀ i, (∀ p ∈ us, p.1 ≠ i) → O' i = O i := HS.freezes hs hok

theorem setRow_le {b : Nat} {i : Id} (hi : O i = some b) (cs : Array Value) : Le w ρ O (w.setRow b cs) ρ O :=
  Le.write hi rfl rfl rfl (setRow_size w b cs) fun k hk => setRow_other w b k cs hk

/-- An element of a slice is written. -/
theorem SlAt.put {t : TypeId} {sz k off b o L cap : Nat} {bb : Bool} {xs ys : List (List T)} {l : List T} {vx : Value} {Q : Nat → Prop} (hq : SlAt w A sz bb xs (.slice (some ⟨b, o, none⟩) L cap) Q) (hy : storeIn k off l xs = some ys) (ht : tyOk P t = true)
    (c1 : l.length = P.cellsOf t) (g1 : RelTs w A l vx.cells.toList) (g2 : ∀ u ∈ vx.cells.toList, u.oneCell' = true ∧ u.cells = #[u]) :
    ∃ cs, Q b ∧ (storeVar t ⟨b, o + k * sz + off, none⟩ vx).run P w = .ok () (w.setRow b cs) ∧
      ∀ A' Q', (∀ b', A b' → A' b' ∧ (w.setRow b cs).heap[b']? = w.heap[b']?) → Q' b → SlAt (w.setRow b cs) A' sz bb ys (.slice (some ⟨b, o, none⟩) L cap) Q' := by
  obtain ⟨a', cap', q1, q2, q3, q4, q5⟩ := hq
  simp only [Value.slice.injEq] at q1
  obtain ⟨rfl, rfl, rfl⟩ := q1
  unfold storeIn at hy
  cases hkx : xs[k]? with
  | none => simp [hkx] at hy
  | some cs =>
    simp only [hkx] at hy
    split at hy
    · rename_i hfit0
      simp only [Option.some.injEq] at hy; subst hy
      have hlt : k < xs.length := (List.getElem?_eq_some_iff.1 hkx).1
      rcases q5 with q5 | ⟨blk, off', arr, t', q6, q7, q8, q9, q10⟩
      · omega
      · simp only [Option.some.injEq, Addr.mk.injEq] at q6
        obtain ⟨rfl, rfl, _⟩ := q6
        obtain ⟨lcs, hcs⟩ := q10.get hkx
        have gl := g1.length
        have hbnd : (k + 1) * sz ≤ cap * sz := Nat.mul_le_mul_right _ (by omega)
        have e2 : (k + 1) * sz = k * sz + sz := Nat.succ_mul _ _
        have hfit : o + k * sz + off + vx.cells.toList.length ≤ arr.size := by omega
        have run := run_storeVar (P := P) ht q8 (by rw [← Array.length_toList, gl, c1]) hfit (fun u hu => (g2 u hu).1)
        refine ⟨_, q7, run, fun A' Q' hA2 hQ' => ?_⟩
        have hl2 : (xs.set k (repl off l cs)).length = xs.length := by simp
        refine ⟨some ⟨b, o, none⟩, cap, by rw [hl2], by rw [hl2]; exact q2, q3, q4, .inr ⟨b, o, _, t', rfl, hQ', setRow_heap w b arr _ t' (0, 0) q8, ?_, ?_⟩⟩
        · have := repl_length (o + k * sz + off) vx.cells.toList arr.toList (by simpa using hfit)
          simp only [List.size_toArray]
          rw [this]; simpa using q9
        · have cellAt : ∀ p, (w.setRow b (repl (o + k * sz + off) vx.cells.toList arr.toList).toArray).cell? ⟨b, p, none⟩ = if o + k * sz + off ≤ p ∧ p < o + k * sz + off + vx.cells.toList.length then vx.cells.toList[p - (o + k * sz + off)]? else w.cell? ⟨b, p, none⟩ := by
            intro p
            rw [cell_setRow q8, List.getElem?_toArray, repl_get _ _ _ (by simpa using hfit), cell_block q8]
            simp
          have lrepl : (repl off l cs).length = sz := by rw [repl_length off l cs hfit0, lcs]
          refine RelEls.set hA2 q10 hlt lrepl ?_ ?_
          · refine RelAt.repl (RelAt.cells hA2 (fun j hj => ?_) (hcs.take off)) ?_ ?_ (by omega)
            · have lt : (cs.take off).length = off := by rw [List.length_take]; omega
              rw [lt] at hj; rw [cellAt, if_neg (by omega)]
            · refine RelAt.of_vals (RelTs.mono hA2 _ _ g1) (fun j u hj => ?_)
              have hj' : j < vx.cells.toList.length := (List.getElem?_eq_some_iff.1 hj).1
              rw [cellAt, if_pos (by omega)]
              rw [show o + k * sz + off + j - (o + k * sz + off) = j by omega]; exact hj
            · have := hcs.drop (off + l.length)
              rw [show o + k * sz + off + l.length = o + k * sz + (off + l.length) by omega]
              refine RelAt.cells hA2 (fun j hj => ?_) this
              rw [cellAt, if_neg (by omega)]
          · intro p h1 h2 h3
            rw [cellAt, if_neg (by omega)]
    · simp at hy

/-! ### Rows are written -/
theorem findR_mem {n : Nat} {p : Bool × List (List T)} : ∀ {es : List Row}, findR n es = some p → ∃ k e, es[k]? = some e ∧ e.n = n ∧ e.own = some p ∧ ∀ q, setR n q es = es.set k { e with own := q }
  | [], h => by simp [findR] at h
  | e :: es, h => by
    unfold findR at h
    by_cases c : e.n = n
    · rw [if_pos c] at h
      exact ⟨0, e, rfl, c, h, fun q => by simp [setR, c]⟩
    · rw [if_neg c] at h
      obtain ⟨k, e', h1, h2, h3, h4⟩ := findR_mem h
      exact ⟨k + 1, e', by simpa using h1, h2, h3, fun q => by simp [setR, c, h4]⟩
theorem nodup_at {es : List Row} (h : (es.map (·.n)).Nodup) {j k : Nat} {x y : Row} (hj : es[j]? = some x) (hk : es[k]? = some y) (e : x.n = y.n) : j = k := by
  have h1 : (es.map (·.n))[j]? = some x.n := by simp [hj]
  have h2 : (es.map (·.n))[k]? = some x.n := by simp [hk, e]
  obtain ⟨l1, e1⟩ := List.getElem?_eq_some_iff.1 h1
  obtain ⟨l2, e2⟩ := List.getElem?_eq_some_iff.1 h2
  exact (List.getElem_inj h).1 (e1.trans e2.symm)
theorem nodup_set : ∀ {l : List Nat} {k x : Nat}, l.Nodup → x ∉ l → (l.set k x).Nodup
  | [], _, _, _, _ => by simp
  | a :: l, 0, x, hn, hx => by
    simp only [List.set_cons_zero, List.nodup_cons, List.mem_cons, not_or] at hn hx ⊢
    exact ⟨hx.2, hn.2⟩
  | a :: l, k + 1, x, hn, hx => by
    simp only [List.set_cons_succ, List.nodup_cons, List.mem_cons, not_or] at hn hx ⊢
    refine ⟨fun hm => ?_, nodup_set hn.2 hx.2⟩
    rcases List.mem_or_eq_of_mem_set hm with h | h
    · exact hn.1 h
    · exact hx.1 h.symm
/-- Who owns what, behind a move: each one's block was one's before, and no two had the same. -/
theorem inj_of {O' : Id → Option Nat} (hs : HS c w h ρ O) (τ : Id → Option Id) (hO : ∀ k b, O' k = some b → ∃ x, τ k = some x ∧ O x = some b) (hτ : ∀ k k' x, τ k = some x → τ k' = some x → k = k') : ∀ i j b, O' i = some b → O' j = some b → i = j := by
  intro i j b hi hj
  obtain ⟨x, x1, x2⟩ := hO i b hi
  obtain ⟨y, y1, y2⟩ := hO j b hj
  have := hs.inj x y b x2 y2
  subst this
  exact hτ i j x x1 y1

/-- A slice of the call's own is laid into an element: it is a row now. -/
theorem HS.putRow {i j : Id} {b bb : Bool} {sz col rsz nx k blk : Nat} {es : List Row} {e : Row} {xs : List (List T)} {vj : Value} {cs : Array Value} (hs : HS c w h ρ O) (hi : h i = some (.rows b sz col rsz nx es)) (hj : h j = some (.sl false rsz bb xs)) (hk : es[k]? = some e) (hv : ρ j = some vj)
    {a : Option Addr} {cap : Nat} (hρ : ρ i = some (.slice a es.length cap)) {off : Nat} {arr : Array Value} {t : TypeId} (ha : a = some ⟨blk, off, none⟩) (hO : O i = some blk) (hb : w.heap[blk]? = some (.cells arr t (0, 0))) (hfit : off + cap * sz ≤ arr.size)
    (hcs : cs = (repl (off + k * sz + col) [vj] arr.toList).toArray) :
    ∃ ρ' O', Le w ρ O (w.setRow blk cs) ρ' O' ∧ HS c (w.setRow blk cs) (upd (upd h j (some .dead)) i (some (.rows b sz col rsz (nx + 1) (es.set k ⟨nx, e.cs, some (bb, xs)⟩)))) ρ' O' := by
  obtain ⟨a', cap', r1, r2, r3, ⟨n1, n2, n3, n4⟩, r5⟩ := hs.blk i _ hi
  rw [hρ] at r1; simp only [Option.some.injEq, Value.slice.injEq] at r1
  obtain ⟨rfl, -, rfl⟩ := r1
  have hlt : k < es.length := (List.getElem?_eq_some_iff.1 hk).1
  have hrows : RowsAt w (AA c w O) ρ O i blk sz col rsz off es := by
    rcases r5 with r5 | ⟨blk', off', arr', t', q1, q2, q3, q4, q5⟩
    · omega
    · rw [ha] at q1; simp only [Option.some.injEq, Addr.mk.injEq] at q1
      obtain ⟨rfl, rfl, _⟩ := q1; exact q5
  have hen : e.n < nx := n2 e (List.mem_of_getElem? hk)
  have hri := hs.real (i := i) (by rw [hi]; simp)
  have hrj := hs.real (i := j) (by rw [hj]; simp)
  have hij : j ≠ i := fun e => by rw [e, hi] at hj; cases hj
  have hgi : ∀ n, Id.g i n ≠ j := fun n => real_ne hrj
  obtain ⟨v', s1, s2, _⟩ := hs.blk j _ hj
  rw [hv] at s1; cases s1
  have hrow := hrows.get hk
  have hcol := hrow.2.1
  have hbnd : (k + 1) * sz ≤ cap * sz := Nat.mul_le_mul_right _ (by omega)
  have e2 : (k + 1) * sz = k * sz + sz := Nat.succ_mul _ _
  have hfit2 : off + k * sz + col + [vj].length ≤ arr.toList.length := by simp; omega
  let ρ' : Id → Option Value := upd ρ (.g i nx) (some vj)
  let O' : Id → Option Nat := fun x => if x = .g i nx then O j else if x = j then none else if x = .g i e.n then none else O x
  have hO' : ∀ x, x ≠ .g i nx → x ≠ j → x ≠ .g i e.n → O' x = O x := fun x h1 h2 h3 => by simp only [O', if_neg h1, if_neg h2, if_neg h3]
  have hOn : O' (.g i nx) = O j := by simp only [O', if_true]
  have hOj : O' j = none := by simp only [O', if_neg (hgi nx).symm, if_true]
  have hOe : O' (.g i e.n) = none := by
    have h1 : Id.g i e.n ≠ .g i nx := by intro h; cases h; omega
    simp only [O', if_neg h1, if_neg (hgi e.n), if_true]
  have dec : ∀ x d, O' x = some d → (x = .g i nx ∧ O j = some d) ∨ (x ≠ .g i nx ∧ x ≠ j ∧ x ≠ .g i e.n ∧ O x = some d) := by
    intro x d hx
    simp only [O'] at hx
    split at hx
    · exact .inl ⟨by assumption, hx⟩
    · split at hx
      · cases hx
      · split at hx
        · cases hx
        · exact .inr ⟨by assumption, by assumption, by assumption, hx⟩
  have le : Le w ρ O (w.setRow blk cs) ρ' O' := by
    refine ⟨rfl, rfl, rfl, by rw [setRow_size]; exact Nat.le_refl _, fun x u hx => ?_, fun d _ hn => setRow_other w blk d _ fun e => hn i (e ▸ hO), fun x d hx => ?_⟩
    · by_cases e : x = .g i nx
      · subst e; rw [n3 nx (Nat.le_refl _)] at hx; cases hx
      · simp only [ρ']; rw [upd_ne _ _ e]; exact hx
    · rcases dec x d hx with ⟨_, h⟩ | ⟨_, _, _, h⟩
      · exact .inl ⟨j, h⟩
      · exact .inl ⟨x, h⟩
  have other : ∀ x d, x ≠ i → O x = some d → (w.setRow blk cs).heap[d]? = w.heap[d]? := fun x d hx hd => setRow_other w blk d _ fun e => hx (hs.inj x i blk (e ▸ hd) hO)
  refine ⟨ρ', O', le, hs.goG le (fun x y hx => ?_) (fun x hr hx => ?_) (fun x n => ?_) (fun x n hx => ?_) (fun x n u hu => ?_) ?_ (fun x d hx => ?_)⟩
  · by_cases e1 : x = i
    · subst e1; rw [upd_same] at hx; cases hx
      right
      have hlen : (es.set k ⟨nx, e.cs, some (bb, xs)⟩).length = es.length := by simp
      refine ⟨a, cap, ?_, by rw [hlen]; exact r2, r3, ⟨?_, fun f hf => ?_, fun n hn => ?_, fun n d hd => ?_⟩, .inr ⟨blk, off, cs, t, ha, ?_, setRow_heap w blk arr _ t (0, 0) hb, ?_, ?_⟩⟩
      · rw [hlen]; simp only [ρ']; rw [upd_ne _ _ (real_ne hri).symm]; exact hρ
      · rw [List.map_set]
        refine nodup_set n1 ?_
        intro hm
        obtain ⟨f, hf, e⟩ := List.mem_map.1 hm
        simp only at e
        have := n2 f hf; omega
      · rcases List.mem_or_eq_of_mem_set hf with hf | rfl
        · have := n2 f hf; omega
        · simp
      · have h1 : Id.g x n ≠ .g x nx := by intro h; cases h; omega
        simp only [ρ']; rw [upd_ne _ _ h1]; exact n3 n (by omega)
      · rcases dec _ d hd with ⟨h, _⟩ | ⟨h1, _, h3, h4⟩
        · cases h; exact ⟨_, List.mem_set hlt _, rfl⟩
        · obtain ⟨f, hf, hfn⟩ := n4 n d h4
          obtain ⟨m, hm⟩ := List.mem_iff_getElem?.1 hf
          have hmk : m ≠ k := fun e' => by rw [e', hk] at hm; cases hm; rw [hfn] at h3; exact h3 rfl
          refine ⟨f, List.mem_iff_getElem?.2 ⟨m, ?_⟩, hfn⟩
          rw [List.getElem?_set, if_neg (Ne.symm hmk)]; exact hm
      · rw [hO' x (real_ne hri).symm (Ne.symm hij) (real_ne hri).symm]; exact hO
      · rw [hcs, List.size_toArray, repl_length _ _ _ hfit2]; simpa using hfit
      · have cellAt : ∀ p, (w.setRow blk cs).cell? ⟨blk, p, none⟩ = if off + k * sz + col ≤ p ∧ p < off + k * sz + col + 1 then some vj else w.cell? ⟨blk, p, none⟩ := by
          intro p
          rw [cell_setRow hb, hcs, List.getElem?_toArray, repl_get _ _ _ hfit2, cell_block hb]
          by_cases hp : off + k * sz + col ≤ p ∧ p < off + k * sz + col + 1
          · rw [if_pos (by simpa using hp), if_pos hp, show p - (off + k * sz + col) = 0 by omega]; rfl
          · rw [if_neg (by simpa using hp), if_neg hp]; simp
        refine RowsAt.set (fun d hd => le.A d hd) hlt (fun p p1 p2 p3 => by rw [cellAt, if_neg (by omega)]) (fun m f hm hf => ?_) ?_ hrows
        · have hfn : f.n ≠ e.n := fun e' => hm (nodup_at n1 hf hk e')
          have hfx : f.n ≠ nx := by have := n2 f (List.mem_of_getElem? hf); omega
          have h1 : Id.g x f.n ≠ .g x nx := by intro h; simp only [Id.g.injEq] at h; exact hfx h.2
          have h2 : Id.g x f.n ≠ .g x e.n := by intro h; simp only [Id.g.injEq] at h; exact hfn h.2
          refine ⟨by simp only [ρ']; exact upd_ne _ _ h1, hO' _ h1 (hgi _) h2, fun d hd => other _ d (real_ne hri) hd⟩
        · refine ⟨hrow.1, hcol, fun m y hm hy => ?_, vj, by rw [cellAt, if_pos (by omega)], by simp only [ρ']; exact upd_same _ _ _, ?_⟩
          · obtain ⟨u, g1, g2⟩ := hrow.2.2.1 m y hm hy
            have hml : m < sz := by have := (List.getElem?_eq_some_iff.1 hy).1; rw [hrow.1] at this; exact this
            exact ⟨u, by rw [cellAt, if_neg (by omega)]; exact g1, RelT.mono (fun d hd => le.A d hd) y u g2⟩
          · simp only
            refine SlAt.mono (fun d hd => le.A d hd) (fun d hd => ?_) s2
            simp only [Bool.false_eq_true, if_false] at hd
            rw [hOn]
            exact ⟨hd, other j d hij hd⟩
    · rw [upd_ne _ _ e1] at hx
      by_cases e3 : x = j
      · subst e3; rw [upd_same] at hx; cases hx
        exact .inr ⟨⟨vj, by simp only [ρ']; rw [upd_ne _ _ (hgi nx).symm]; exact hv, rho_one hs hv⟩, hOj⟩
      · rw [upd_ne _ _ e3] at hx
        have hrx := hs.real (i := x) (by rw [hx]; simp)
        refine .inl ⟨hx, hO' x (real_ne hrx).symm e3 (real_ne hrx).symm, fun d hd => other x d e1 hd, fun n => ?_⟩
        have h1 : ∀ m, Id.g x n ≠ .g i m := by intro m h; cases h; exact e1 rfl
        exact ⟨by simp only [ρ']; exact upd_ne _ _ (h1 _), hO' _ (h1 _) (real_ne hrj) (h1 _), fun d hd => other _ d (real_ne hri) hd⟩
  · by_cases e1 : x = i
    · subst e1; rw [upd_same] at hx; cases hx
    · rw [upd_ne _ _ e1] at hx
      by_cases e3 : x = j
      · subst e3; rw [upd_same] at hx; cases hx
      · rw [upd_ne _ _ e3] at hx
        have := hs.nodom x hr hx
        refine ⟨?_, ?_⟩
        · simp only [ρ']; rw [upd_ne _ _ (real_ne hr).symm]; exact this.1
        · rw [hO' x (real_ne hr).symm e3 (real_ne hr).symm]; exact this.2
  · rw [upd_ne _ _ (real_ne hri), upd_ne _ _ (real_ne hrj)]; exact hs.nog x n
  · by_cases e1 : x = i
    · subst e1; rw [upd_same] at hx; cases hx
    · rw [upd_ne _ _ e1] at hx
      by_cases e3 : x = j
      · subst e3; rw [upd_same] at hx; cases hx
      · rw [upd_ne _ _ e3] at hx
        have := hs.gdom x n hx
        have h1 : ∀ m, Id.g x n ≠ .g i m := by intro m h; cases h; exact e1 rfl
        refine ⟨?_, ?_⟩
        · simp only [ρ']; rw [upd_ne _ _ (h1 _)]; exact this.1
        · rw [hO' _ (h1 _) (real_ne hrj) (h1 _)]; exact this.2
  · by_cases e1 : Id.g x n = .g i nx
    · rw [e1] at hu; simp only [ρ', upd_same, Option.some.injEq] at hu; subst hu; exact rho_one hs hv
    · simp only [ρ'] at hu; rw [upd_ne _ _ e1] at hu; exact hs.gone x n u hu
  · refine inj_of hs (fun x => if x = .g i nx then some j else if x = j then none else some x) (fun x d hx => ?_) (fun x y z hx hy => ?_)
    · rcases dec x d hx with ⟨h1, h2⟩ | ⟨h1, h2, _, h3⟩
      · exact ⟨j, by rw [if_pos h1], h2⟩
      · exact ⟨x, by rw [if_neg h1, if_neg h2], h3⟩
    · split at hx <;> split at hy
      · rename_i h1 h2; rw [h1, h2]
      · split at hy
        · cases hy
        · simp only [Option.some.injEq] at hx hy; subst hx; rename_i h; exact (h hy).elim
      · split at hx
        · cases hx
        · simp only [Option.some.injEq] at hx hy; subst hy; rename_i h; exact (h hx).elim
      · split at hx
        · cases hx
        · split at hy
          · cases hy
          · simp only [Option.some.injEq] at hx hy; rw [hx, hy]
  · rw [setRow_size]
    rcases dec x d hx with ⟨_, h⟩ | ⟨_, _, _, h⟩
    · exact hs.lt _ d h
    · exact hs.lt _ d h
/-- A row is written. -/
theorem HS.writeRow {i : Id} {n bk : Nat} {b : Bool} {sz col rsz nx : Nat} {es : List Row} {p : Bool × List (List T)} {ys : List (List T)} {v : Value} {cs : Array Value} (hs : HS c w h ρ O) (hi : h i = some (.rows b sz col rsz nx es)) (hf : findR n es = some p) (hO : O (.g i n) = some bk)
    (hv : ρ (.g i n) = some v) (hsl : SlAt (w.setRow bk cs) (AA c (w.setRow bk cs) O) rsz p.1 ys v (fun d => O (.g i n) = some d)) :
    HS c (w.setRow bk cs) (upd h i (some (.rows b sz col rsz nx (setR n (some (p.1, ys)) es)))) ρ O := by
  have le : Le w ρ O (w.setRow bk cs) ρ O := setRow_le hO _
  have hri := hs.real (i := i) (by rw [hi]; simp)
  have other : ∀ x d, x ≠ .g i n → O x = some d → (w.setRow bk cs).heap[d]? = w.heap[d]? := fun x d hx hd => setRow_other w bk d _ fun e => hx (hs.inj x _ bk (e ▸ hd) hO)
  obtain ⟨k, e, hk, hen, heo, hset⟩ := findR_mem hf
  refine hs.goG le (fun x y hx => ?_) (fun x hr hx => ?_) (fun x m => ?_) (fun x m hx => ?_) hs.gone hs.inj (fun x d hd => by rw [setRow_size]; exact hs.lt x d hd)
  · by_cases e1 : x = i
    · subst e1; rw [upd_same] at hx; cases hx
      right
      obtain ⟨a, cap, r1, r2, r3, ⟨n1, n2, n3, n4⟩, r5⟩ := hs.blk x _ hi
      rw [hset]
      have hlen : (es.set k { e with own := some (p.1, ys) }).length = es.length := by simp
      have hmap : (es.set k { e with own := some (p.1, ys) }).map (·.n) = es.map (·.n) := by
        rw [List.map_set]
        refine List.ext_getElem? fun m => ?_
        rw [List.getElem?_set]
        split
        · rename_i h; subst h
          have := (List.getElem?_eq_some_iff.1 hk).1
          rw [if_pos (by simpa using this)]; simp [hk]
        · rfl
      refine ⟨a, cap, by rw [hlen]; exact r1, by rw [hlen]; exact r2, r3, ⟨by rw [hmap]; exact n1, fun f hf' => ?_, n3, fun m d hd => ?_⟩, ?_⟩
      · rcases List.mem_or_eq_of_mem_set hf' with hf' | rfl
        · exact n2 f hf'
        · exact n2 e (List.mem_of_getElem? hk)
      · obtain ⟨f, hf', hfn⟩ := n4 m d hd
        have : m ∈ (es.set k { e with own := some (p.1, ys) }).map (·.n) := by rw [hmap]; exact List.mem_map.2 ⟨f, hf', hfn⟩
        obtain ⟨f', h1, h2⟩ := List.mem_map.1 this
        exact ⟨f', h1, h2⟩
      · rcases r5 with r5 | ⟨blk, off, arr, t, q1, q2, q3, q4, q5⟩
        · exact .inl r5
        · have hbk : (w.setRow bk cs).heap[blk]? = w.heap[blk]? := other x blk (real_ne hri).symm q2
          refine .inr ⟨blk, off, arr, t, q1, q2, by rw [hbk]; exact q3, q4, ?_⟩
          have hrow := q5.get hk
          refine RowsAt.set (fun d hd => le.A d hd) (List.getElem?_eq_some_iff.1 hk).1 (fun _ _ _ _ => cell_of_block hbk) (fun m f hm hf' => ⟨rfl, rfl, fun d hd => other _ d (fun h => ?_) hd⟩) ?_ q5
          · simp only [Id.g.injEq] at h
            exact hm (nodup_at n1 hf' hk (by rw [h.2, hen]))
          · obtain ⟨a1, a2, a3, u, a4, a5, a7⟩ := hrow
            refine ⟨a1, a2, fun m y hm hy => ?_, u, by rw [cell_of_block hbk]; exact a4, a5, ?_⟩
            · obtain ⟨u', g1, g2⟩ := a3 m y hm hy
              exact ⟨u', by rw [cell_of_block hbk]; exact g1, RelT.mono (fun d hd => le.A d hd) y u' g2⟩
            · simp only
              rw [hen] at a5 ⊢
              rw [a5] at hv; cases hv
              exact hsl
    · rw [upd_ne _ _ e1] at hx
      have hrx := hs.real (i := x) (by rw [hx]; simp)
      refine .inl ⟨hx, rfl, fun d hd => other x d (real_ne hrx).symm hd, fun m => ⟨rfl, rfl, fun d hd => other _ d (fun h => ?_) hd⟩⟩
      simp only [Id.g.injEq] at h
      exact e1 h.1
  · by_cases e1 : x = i
    · subst e1; rw [upd_same] at hx; cases hx
    · rw [upd_ne _ _ e1] at hx; exact hs.nodom x hr hx
  · rw [upd_ne _ _ (real_ne hri)]; exact hs.nog x m
  · by_cases e1 : x = i
    · subst e1; rw [upd_same] at hx; cases hx
    · rw [upd_ne _ _ e1] at hx; exact hs.gdom x m hx
theorem storeAV_sound {R : Type} {t : TypeId} {a v : AV} {va vx : Value} {K : Upd → Option R} {r : R} (hs : HS c w s.h ρ O) (ha : RelV w (AA c w O) ρ a va) (hx : RelV w (AA c w O) ρ v vx) (hk : storeAV P s t a v K = some r) :
    ∃ us w' ρ' O', K us = some r ∧ (Instr.storeAt t va vx).run P w = .ok () w' ∧ Le w ρ O w' ρ' O' ∧ HS c w' (updH s.h us) ρ' O' := by
  unfold storeAV at hk
  cases ht : tyOk P t
  · simp [ht] at hk
  simp only [ht, cond_true] at hk
  split at hk
  · rename_i i off
    split at hk
    · rename_i cs hi
      split at hk
      · rename_i hcond
        obtain ⟨c1, c2, c3⟩ := hcond
        obtain ⟨b, arr, t', h1, h2, h3, h4, h5, h6⟩ := box_cells hs hi
        simp only [RelV] at ha
        obtain ⟨b', e1, rfl⟩ := ha
        rw [h1] at e1; simp only [Option.some.injEq, Value.pointer.injEq, Addr.mk.injEq] at e1
        obtain ⟨rfl, _⟩ := e1
        obtain ⟨g1, g2⟩ := cellsAV_sound hs hx c2
        have gl := g1.length
        have hl := h4.length
        have hfit : off + vx.cells.toList.length ≤ arr.size := by rw [gl]; simp only [Array.length_toList] at hl; omega
        have run := run_storeVar (P := P) ht h3 (by rw [← Array.length_toList, gl, c1]) hfit (fun u hu => (g2 u hu).1)
        have le : Le w ρ O (w.setRow b (repl off vx.cells.toList arr.toList).toArray) ρ O := setRow_le h2 _
        refine ⟨_, _, ρ, O, hk, by simpa [Instr.storeAt, Instr.sureAddr] using run, le, ?_⟩
        rw [updH_one]
        refine hs.write h2 le (fun k hk => setRow_other w b k _ hk) _ ?_ (by rw [hi]; simp)
        refine ⟨b, _, t', h1, h2, setRow_heap w b arr _ t' (0, 0) h3, ?_, ?_⟩
        · have m : ∀ (as : List AV) (vs : List Value), RelVs w (AA c w O) ρ as vs → RelVs _ _ ρ as vs := fun as vs hr => RelVs.mono (fun b hb => le.A b hb) le.rho as vs hr
          exact RelVs.repl (m _ _ h4) (m _ _ g1) off
        · intro u hu
          simp only [repl, List.mem_append] at hu
          rcases hu with (hu | hu) | hu
          · exact h5 u (List.mem_of_mem_take hu)
          · exact g2 u hu
          · exact h5 u (List.mem_of_mem_drop hu)
      · simp at hk
    · simp at hk
  · rename_i i sz k off
    split at hk
    · rename_i sz' bb xs hi
      obtain ⟨l, hsn, hk⟩ := Option.bind_eq_some_iff.1 hk
      split at hk
      · rename_i hcond
        obtain ⟨rfl, c1, c2⟩ := hcond
        replace hk := gdK_some hk (.inl rfl); obtain ⟨ys, hy, hk⟩ := hk
        have hnot : ∀ p ∈ frz s.h v, p.1 ≠ i := by
          intro p hp e
          have := frz_ids hp
          rw [e] at this
          simp only [List.contains_eq_mem, decide_eq_false_iff_not] at c2
          exact c2 this
        obtain ⟨O1, le1, hs1, o1, o2, o3⟩ := HS.freezes' hs (frz_ok (h := s.h) v)
        obtain ⟨g1, g2⟩ := snap_frozen hs hx hsn le1 o1 o2
        have hi1 : updH s.h (frz s.h v) i = some (.sl false sz' bb xs) := by rw [updH_other hnot]; exact hi
        obtain ⟨vv, q0, a', cap', q1, q2, q3, q4, q5⟩ := sl_at' hs1 hi1
        simp only [RelV] at ha
        obtain ⟨b, o, L, cap, e1, rfl⟩ := ha
        rw [q0] at e1; simp only [Option.some.injEq] at e1; subst e1
        simp only [Value.slice.injEq] at q1
        obtain ⟨rfl, rfl, rfl⟩ := q1
        unfold storeIn at hy
        cases hkx : xs[k]? with
        | none => simp [hkx] at hy
        | some cs =>
          simp only [hkx] at hy
          split at hy
          · rename_i hfit0
            simp only [Option.some.injEq] at hy; subst hy
            have hlt : k < xs.length := (List.getElem?_eq_some_iff.1 hkx).1
            rcases q5 with q5 | ⟨blk, off', arr, t', q6, q7, q8, q9, q10⟩
            · omega
            · simp only [Option.some.injEq, Addr.mk.injEq] at q6
              obtain ⟨rfl, rfl, _⟩ := q6
              simp only [Bool.false_eq_true, if_false] at q7
              obtain ⟨lcs, hcs⟩ := q10.get hkx
              have gl := g1.length
              have hbnd : (k + 1) * sz' ≤ cap * sz' := Nat.mul_le_mul_right _ (by omega)
              have e2 : (k + 1) * sz' = k * sz' + sz' := Nat.succ_mul _ _
              have hfit : o + k * sz' + off + vx.cells.toList.length ≤ arr.size := by omega
              have run := run_storeVar (P := P) ht q8 (by rw [← Array.length_toList, gl, c1]) hfit (fun u hu => (g2 u hu).1)
              have le2 : Le w ρ O1 (w.setRow b (repl (o + k * sz' + off) vx.cells.toList arr.toList).toArray) ρ O1 := setRow_le q7 _
              refine ⟨_, _, ρ, O1, hk, by simpa [Instr.storeAt, Instr.sureAddr] using run, le1.trans le2, ?_⟩
              rw [updH_cons, updH_swap hnot]
              refine hs1.write q7 le2 (fun k hk => setRow_other w b k _ hk) _ ?_ (by rw [hi1]; simp)
              refine ⟨_, q0, ?_, by simp⟩
              have hl2 : (xs.set k (repl off l cs)).length = xs.length := by simp
              refine ⟨some ⟨b, o, none⟩, cap, by rw [hl2], by rw [hl2]; exact q2, q3, q4, .inr ⟨b, o, _, t', rfl, by simpa using q7, setRow_heap w b arr _ t' (0, 0) q8, ?_, ?_⟩⟩
              · have := repl_length (o + k * sz' + off) vx.cells.toList arr.toList (by simpa using hfit)
                simp only [List.size_toArray]
                rw [this]; simpa using q9
              · have cellAt : ∀ p, (w.setRow b (repl (o + k * sz' + off) vx.cells.toList arr.toList).toArray).cell? ⟨b, p, none⟩ = if o + k * sz' + off ≤ p ∧ p < o + k * sz' + off + vx.cells.toList.length then vx.cells.toList[p - (o + k * sz' + off)]? else w.cell? ⟨b, p, none⟩ := by
                  intro p
                  rw [cell_setRow q8, List.getElem?_toArray, repl_get _ _ _ (by simpa using hfit), cell_block q8]
                  simp
                have hA2 : ∀ b', AA c w O1 b' → AA c (w.setRow b (repl (o + k * sz' + off) vx.cells.toList arr.toList).toArray) O1 b' ∧ (w.setRow b (repl (o + k * sz' + off) vx.cells.toList arr.toList).toArray).heap[b']? = w.heap[b']? := fun b' hb' => le2.A b' hb'
                have lrepl : (repl off l cs).length = sz' := by rw [repl_length off l cs hfit0, lcs]
                refine RelEls.set hA2 q10 hlt lrepl ?_ ?_
                · refine RelAt.repl (RelAt.cells hA2 (fun j hj => ?_) (hcs.take off)) ?_ ?_ (by omega)
                  · have lt : (cs.take off).length = off := by rw [List.length_take]; omega
                    rw [lt] at hj; rw [cellAt, if_neg (by omega)]
                  · refine RelAt.of_vals (RelTs.mono hA2 _ _ g1) (fun j u hj => ?_)
                    have hj' : j < vx.cells.toList.length := (List.getElem?_eq_some_iff.1 hj).1
                    rw [cellAt, if_pos (by omega)]
                    rw [show o + k * sz' + off + j - (o + k * sz' + off) = j by omega]; exact hj
                  · have := hcs.drop (off + l.length)
                    rw [show o + k * sz' + off + l.length = o + k * sz' + (off + l.length) by omega]
                    refine RelAt.cells hA2 (fun j hj => ?_) this
                    rw [cellAt, if_neg (by omega)]
                · intro p h1 h2 h3
                  rw [cellAt, if_neg (by omega)]
          · simp at hy
      · simp at hk
    · rename_i bb sz' col rsz nx es hi
      split at hk
      · rename_i j
        split at hk
        · rename_i rsz' b' xs hj
          split at hk
          · rename_i hcond
            obtain ⟨rfl, rfl, rfl, c1, c2⟩ := hcond
            replace hk := gdK_some hk (.inl rfl); obtain ⟨e, he, hk⟩ := hk
            obtain ⟨a, cap, r1, r2, r3, r4, r5⟩ := hs.blk i _ hi
            simp only [RelV] at ha hx
            obtain ⟨b, o, L, cap', e1, rfl⟩ := ha
            have e1' := e1
            rw [r1] at e1; simp only [Option.some.injEq, Value.slice.injEq] at e1
            obtain ⟨rfl, rfl, rfl⟩ := e1
            have hlt : k < es.length := (List.getElem?_eq_some_iff.1 he).1
            rcases r5 with r5 | ⟨blk, off', arr, t', q1, q2, q3, q4, q5⟩
            · omega
            · simp only [Option.some.injEq, Addr.mk.injEq] at q1
              obtain ⟨rfl, rfl, _⟩ := q1
              have hone := rho_one hs hx
              have hcol := (q5.get he).2.1
              have hbnd : (k + 1) * sz' ≤ cap * sz' := Nat.mul_le_mul_right _ (by omega)
              have e2 : (k + 1) * sz' = k * sz' + sz' := Nat.succ_mul _ _
              have hcells : vx.cells.toList = [vx] := by rw [hone.2]
              have run := run_storeVar (P := P) (w := w) (v := vx) ht q3 (by rw [hone.2, c1]; rfl) (off := o + k * sz' + off) (by rw [hcells]; simp; omega) (fun u hu => by rw [hcells, List.mem_singleton] at hu; subst hu; exact hone.1)
              rw [hcells] at run
              obtain ⟨ρ', O', le, hs'⟩ := hs.putRow hi hj he hx r1 rfl q2 q3 q4 rfl
              refine ⟨_, _, ρ', O', hk, by simpa [Instr.storeAt, Instr.sureAddr] using run, le, ?_⟩
              rw [updH_cons, updH_one]
              exact hs'
          · simp at hk
        · simp at hk
      · simp at hk
    · simp at hk
  · rename_i i sz n k off
    split at hk
    · rename_i b sz' col rsz nx es hi
      replace hk := gdK_some hk (.inl rfl); obtain ⟨p, hp, hk⟩ := hk
      replace hk := Option.bind_eq_some_iff.1 hk; obtain ⟨l, hsn, hk⟩ := hk
      split at hk
      · rename_i hcond
        obtain ⟨rfl, c1, c2⟩ := hcond
        replace hk := gdK_some hk (.inl rfl); obtain ⟨ys, hy, hk⟩ := hk
        have hnot : ∀ p ∈ frz s.h v, p.1 ≠ i := by
          intro p hp e
          have := frz_ids hp
          rw [e] at this
          simp only [List.contains_eq_mem, decide_eq_false_iff_not] at c2
          exact c2 this
        obtain ⟨O1, le1, hs1, o1, o2, o3⟩ := HS.freezes' hs (frz_ok (h := s.h) v)
        obtain ⟨g1, g2⟩ := snap_frozen hs hx hsn le1 o1 o2
        have hi1 : updH s.h (frz s.h v) i = some (.rows b sz' col rsz nx es) := by rw [updH_other hnot]; exact hi
        obtain ⟨vv, q0, q1⟩ := row_at (s := ⟨s.t, updH s.h (frz s.h v)⟩) hs1 hi1 hp
        simp only [RelV] at ha
        obtain ⟨bk, o, L, cap, e1, rfl⟩ := ha
        rw [q0] at e1; simp only [Option.some.injEq] at e1; subst e1
        obtain ⟨cs, hOb, run, hsl⟩ := q1.put (P := P) hy ht c1 g1 g2
        have le2 : Le w ρ O1 (w.setRow bk cs) ρ O1 := setRow_le hOb _
        refine ⟨_, _, ρ, O1, hk, by simpa [Instr.storeAt, Instr.sureAddr] using run, le1.trans le2, ?_⟩
        rw [updH_cons, updH_swap hnot]
        exact hs1.writeRow hi1 hp hOb q0 (hsl _ _ (fun d hd => le2.A d hd) hOb)
      · simp at hk
    · simp at hk
  · simp at hk

/-! ### New boxes -/
theorem run_newRow (t : TypeId) (cells : Array Value) : (newRow t cells).run P w = .ok ⟨w.heap.size, 0, none⟩ (w.alloc (.cells cells t)) := by
  simp [newRow]
theorem heap_new (o : Obj) : (w.alloc o).heap[w.heap.size]? = some o := by
  show (w.heap.push o)[w.heap.size]? = some o
  simp
theorem HS.newBox {i : Id} (hs : HS c w h ρ O) (hi : h i = none) {cs : List AV} {vs : List Value} (t : TypeId) (hv : RelVs w (AA c w O) ρ cs vs) (h1 : ∀ u ∈ vs, u.oneCell' = true ∧ u.cells = #[u]) (hrl : i.real = true := by rfl) :
    Le w ρ O (w.alloc (.cells vs.toArray t)) (upd ρ i (some (.pointer (some ⟨w.heap.size, 0, none⟩)))) (upd O i (some w.heap.size)) ∧
    HS c (w.alloc (.cells vs.toArray t)) (upd h i (some (.box cs))) (upd ρ i (some (.pointer (some ⟨w.heap.size, 0, none⟩)))) (upd O i (some w.heap.size)) := by
  have le := Le.alloc hs hrl hi (.cells vs.toArray t) (.pointer (some ⟨w.heap.size, 0, none⟩)) (some w.heap.size) (.inr rfl)
  refine ⟨le, hs.alloc hrl hi _ _ _ (.inr rfl) _ ⟨w.heap.size, vs.toArray, t, by simp, by simp, heap_new _, ?_, h1⟩⟩
  exact RelVs.mono (fun b hb => le.A b hb) le.rho _ _ hv

theorem HS.newArr {i : Id} (hs : HS c w h ρ O) (hi : h i = none) {cs : List AV} {arr : Array Value} (t : TypeId) (hv : RelVs w (AA c w O) ρ cs arr.toList) (h1 : ∀ u ∈ arr.toList, u.oneCell' = true ∧ u.cells = #[u]) (hrl : i.real = true := by rfl) :
    Le w ρ O (w.alloc (.cells arr t)) (upd ρ i (some (.slice (some ⟨w.heap.size, 0, none⟩) 1 1))) (upd O i (some w.heap.size)) ∧
    HS c (w.alloc (.cells arr t)) (upd h i (some (.arr cs))) (upd ρ i (some (.slice (some ⟨w.heap.size, 0, none⟩) 1 1))) (upd O i (some w.heap.size)) := by
  have le := Le.alloc hs hrl hi (.cells arr t) (.slice (some ⟨w.heap.size, 0, none⟩) 1 1) (some w.heap.size) (.inr rfl)
  refine ⟨le, hs.alloc hrl hi _ _ _ (.inr rfl) _ ⟨w.heap.size, arr, t, by simp, by simp, heap_new _, ?_, h1⟩⟩
  exact RelVs.mono (fun b hb => le.A b hb) le.rho _ _ hv

theorem ofVal_rel {u : Value} {x : T} (e : ofVal u = some x) : RelT w A x u := by
  cases u <;> simp only [ofVal, Option.some.injEq, reduceCtorEq] at e
  case slice a l cp =>
    split at e <;> simp_all
    subst e; simp [RelT]
  case pointer a => split at e <;> simp_all; subst e; simp [RelT]
  case map a => split at e <;> simp_all; subst e; simp [RelT]
  all_goals (subst e; simp [RelT])
theorem ofVals_rel : ∀ {us : List Value} {l : List T}, ofVals us = some l → RelTs w A l us
  | [], l, e => by simp only [ofVals, Option.some.injEq] at e; subst e; rfl
  | u :: us, l, e => by
    simp only [ofVals] at e
    obtain ⟨x, h1, e⟩ := Option.bind_eq_some_iff.1 e
    obtain ⟨l', h2, e⟩ := Option.bind_eq_some_iff.1 e
    simp only [Option.some.injEq] at e; subst e
    exact ⟨u, us, rfl, ofVal_rel h1, ofVals_rel h2⟩
theorem zeroC_some {t : TypeId} {l : List T} (e : zeroC P t = some l) : ∃ i z, P.info? t = some i ∧ i.zero = some z ∧ ofVals z.cells.toList = some l := by
  unfold zeroC at e
  split at e
  · rename_i i hi
    split at e
    · rename_i z hz; exact ⟨i, z, hi, hz, e⟩
    · simp at e
  · simp at e

/-! ### Structs and slices that are written out -/
theorem foldl_repl (off : Nat) (v cells : Array Value) (hf : off + v.size ≤ cells.size) : (v.zipIdx.foldl (fun cs (x : Value × Nat) => cs.setIfInBounds (off + x.2) x.1) cells).toList = repl off v.toList cells.toList := by
  obtain ⟨g1, g2⟩ := Go.Great.foldl_set off v.toList 0 cells
  have e : v.zipIdx.foldl (fun cs (x : Value × Nat) => cs.setIfInBounds (off + x.2) x.1) cells = (v.toList.zipIdx 0).foldl (fun cs (x : Value × Nat) => cs.setIfInBounds (off + x.2) x.1) cells := by
    rw [← Array.foldl_toList, Array.toList_zipIdx]
  rw [e]
  apply List.ext_getElem?
  intro p
  rw [Array.getElem?_toList, g2 p, repl_get off v.toList cells.toList (by simpa using hf)]
  simp only [Nat.add_zero, Array.length_toList, Array.getElem?_toList]
  by_cases hp : off ≤ p ∧ p < off + v.size
  · rw [if_pos ⟨hp.1, hp.2, by omega⟩, if_pos hp]
  · rw [if_neg (by omega), if_neg hp]

/-- Parts, as they are named and as they are. -/
inductive Parts (w : World) (A : Nat → Prop) (ρ : Id → Option Value) (place : Nat → Option (Nat × Nat)) : List (Nat × List AV) → List (Nat × Value) → Prop
  | nil : Parts w A ρ place [] []
  | cons {off : Nat} {l : List AV} {f : Nat} {v : Value} {ls : List (Nat × List AV)} {vs : List (Nat × Value)} (hp : place f = some (off, l.length)) (hr : RelVs w A ρ l v.cells.toList) (h1 : ∀ u ∈ v.cells.toList, u.oneCell' = true ∧ u.cells = #[u])
      (rest : Parts w A ρ place ls vs) : Parts w A ρ place ((off, l) :: ls) ((f, v) :: vs)

theorem fill_sound {place : Nat → Option (Nat × Nat)} : ∀ {ls : List (Nat × List AV)} {vs : List (Nat × Value)} {zs out : List AV} {cells : Array Value}, Parts w A ρ place ls vs → layAV ls zs = some out → RelVs w A ρ zs cells.toList → (∀ u ∈ cells.toList, u.oneCell' = true ∧ u.cells = #[u]) →
    ∃ r, Instr.fill place cells vs = some r ∧ RelVs w A ρ out r.toList ∧ ∀ u ∈ r.toList, u.oneCell' = true ∧ u.cells = #[u]
  | [], _, zs, out, cells, .nil, hl, hz, h1 => by
    simp only [layAV, Option.some.injEq] at hl; subst hl
    exact ⟨cells, rfl, hz, h1⟩
  | (off, l) :: ls, (f, v) :: vs, zs, out, cells, .cons hp hr h1' rest, hl, hz, h1 => by
    simp only [layAV] at hl
    split at hl
    · rename_i hfit
      have lv := hr.length
      have lz := hz.length
      simp only [Array.length_toList] at lv lz
      have hfit' : off + v.cells.size ≤ cells.size := by omega
      have hrep := foldl_repl off v.cells cells hfit'
      obtain ⟨r, e1, e2, e3⟩ := fill_sound (cells := v.cells.zipIdx.foldl (fun cs (x : Value × Nat) => cs.setIfInBounds (off + x.2) x.1) cells) rest hl (by
        rw [hrep]; unfold repl
        rw [show v.cells.toList.length = l.length by simpa using lv]
        exact ((hz.take off).append hr).append (hz.drop _)) (by
        intro u hu
        rw [hrep] at hu
        simp only [repl, List.mem_append] at hu
        rcases hu with (hu | hu) | hu
        · exact h1 u (List.mem_of_mem_take hu)
        · exact h1' u hu
        · exact h1 u (List.mem_of_mem_drop hu))
      refine ⟨r, ?_, e2, e3⟩
      unfold Instr.fill
      simp only [hp]
      rw [if_neg (by simp [lv]; omega)]
      exact e1
    · simp at hl

theorem partOf_built {t : TypeId} {f : Nat} {p : Nat × TypeId} (e : partOf P t f = some p) (hok : partsOk P t = true) :
    tyOk P p.2 = true ∧ ((∃ fs, P.underlying t = some (.struct fs) ∧ (fs.toList.map fun x => (x.offset, P.cellsOf x.type))[f]? = some (p.1, P.cellsOf p.2)) ∨
      ∃ n e, P.underlying t = some (.array n e) ∧ p = (f * P.cellsOf e, e)) := by
  unfold partOf at e
  split at e
  · rename_i q hq
    simp only [Option.some.injEq] at e; subst e
    obtain ⟨fs, x, h1, h2, h3, h4⟩ := fieldT_some hq
    refine ⟨h4, .inl ⟨fs, h1, ?_⟩⟩
    rw [List.getElem?_map, Array.getElem?_toList, h2]
    simp [h3]
  · split at e
    · rename_i n u hq
      simp only [Option.some.injEq] at e; subst e
      obtain ⟨h1, h2⟩ := arrT_some hq
      exact ⟨h2, .inr ⟨n, u, h1, rfl⟩⟩
    · simp at e

theorem partsAV_sound {a : Act} {g : Option Gs} {t : TypeId} (hs : HS c w s.h ρ O) (ht : SS w (AA c w O) ρ s.t a.tmps) (hr : Runs a.tmps g) (hok : partsOk P t = true) (place : Nat → Option (Nat × Nat))
    (hplace : ∀ f p, partOf P t f = some p → place f = some (p.1, P.cellsOf p.2)) :
    ∀ {ps : List (Nat × Operand)} {ls : List (Nat × List AV)}, partsAV P t (s.get g) ps = some ls → Parts w (AA c w O) ρ place ls (ps.map fun x => (x.1, a.eval x.2))
  | [], ls, e => by simp only [partsAV, Option.some.injEq] at e; subst e; exact .nil
  | (f, o) :: ps, ls, e => by
    simp only [partsAV] at e
    obtain ⟨p, hp, e⟩ := Option.bind_eq_some_iff.1 e
    split at e
    · rename_i hcond
      obtain ⟨q, hq, e⟩ := Option.bind_eq_some_iff.1 e
      simp only [Option.some.injEq] at e; subst e
      have hv := SS.get (h := s.h) ht hr o
      obtain ⟨g1, g2⟩ := cellsAV_sound hs hv hcond.2
      exact .cons (by rw [hplace f p hp, show (St.get ⟨s.t, s.h⟩ g o) = s.get g o from rfl, hcond.1]) g1 g2 (partsAV_sound hs ht hr hok place hplace hq)
    · simp at e

theorem buildAV_sound {a : Act} {g : Option Gs} {t : TypeId} {ps : Array (Nat × Operand)} {av : AV} (hs : HS c w s.h ρ O) (ht : SS w (AA c w O) ρ s.t a.tmps) (hr : Runs a.tmps g) (e : buildAV P t (s.get g) ps.toList = some av) :
    ∃ v, (Instr.build t (ps.map fun (i, x) => (i, a.eval x))).run P w = .ok v w ∧ RelV w (AA c w O) ρ av v := by
  unfold buildAV at e
  split at e
  · rename_i hok
    obtain ⟨z, hz, e⟩ := Option.bind_eq_some_iff.1 e
    obtain ⟨l, hl, e⟩ := Option.bind_eq_some_iff.1 e
    obtain ⟨cs, hcs, e⟩ := Option.bind_eq_some_iff.1 e
    simp only [Option.some.injEq] at e; subst e
    obtain ⟨i, zv, hi, hzv, hof⟩ := zeroC_some hz
    have hzr : RelTs w (AA c w O) z zv.cells.toList := ofVals_rel hof
    have toL : (ps.map fun (i, x) => (i, a.eval x)).toList = ps.toList.map fun x => (x.1, a.eval x.2) := by simp
    have key : ∀ place : Nat → Option (Nat × Nat), (∀ f p, partOf P t f = some p → place f = some (p.1, P.cellsOf p.2)) → ∃ r, Instr.fill place zv.cells (ps.map fun (i, x) => (i, a.eval x)).toList = some r ∧ RelVs w (AA c w O) ρ cs r.toList ∧ ∀ u ∈ r.toList, u.oneCell' = true ∧ u.cells = #[u] := by
      intro place hplace
      rw [toL]
      exact fill_sound (partsAV_sound hs ht hr hok place hplace hl) hcs (RelVs.of_ts hzr) hzr.one
    have fin : ∀ r : Array Value, P.built t (ps.map fun (i, x) => (i, a.eval x)).toList = some r → RelVs w (AA c w O) ρ cs r.toList → (∀ u ∈ r.toList, u.oneCell' = true ∧ u.cells = #[u]) →
        ∃ v, (Instr.build t (ps.map fun (i, x) => (i, a.eval x))).run P w = .ok v w ∧ RelV w (AA c w O) ρ (.agg cs) v := by
      intro r hb h1 h2
      exact ⟨_, run_build w t _ r hb, by simp only [RelV]; exact ⟨r.toList, by simp, h1, h2⟩⟩
    cases hu : P.underlying t with
    | none => simp [partsOk, hu] at hok
    | some d =>
      cases d <;> simp only [partsOk, hu, Bool.false_eq_true] at hok
      case struct fs =>
        have hplaces : fs.toList.mapM (fun f => (P.info? f.type).map fun i => (f.offset, i.size)) = some (fs.toList.map fun x => (x.offset, P.cellsOf x.type)) := by
          generalize fs.toList = l at hok
          induction l with
          | nil => rfl
          | cons f l ih =>
            simp only [List.all_cons, Bool.and_eq_true] at hok
            obtain ⟨d, hd⟩ := Option.isSome_iff_exists.1 hok.1
            obtain ⟨i, hi, hsz⟩ := info_of_underlying hd
            simp only [List.mapM_cons, hi, Option.map_some, Option.bind_eq_bind, Option.bind_some, ih hok.2, Option.pure_def, List.map_cons, hsz]
        obtain ⟨r, e1, e2, e3⟩ := key ((fs.toList.map fun x => (x.offset, P.cellsOf x.type)).toArray[·]?) (fun f p hp => by
          obtain ⟨_, h | ⟨n, e, h, _⟩⟩ := partOf_built hp (by simp [partsOk, hu, hok])
          · obtain ⟨fs', h1, h2⟩ := h
            rw [hu] at h1; simp only [Option.some.injEq, TypeDesc.struct.injEq] at h1; subst h1
            simpa using h2
          · rw [hu] at h; simp at h)
        refine fin r ?_ e2 e3
        simp only [Program.built, hi, hu, hzv, hplaces]; exact e1
      case array n e =>
        obtain ⟨d, hd⟩ := Option.isSome_iff_exists.1 hok
        obtain ⟨ie, hie, hsz⟩ := info_of_underlying hd
        obtain ⟨r, e1, e2, e3⟩ := key (fun i => some (i * ie.size, ie.size)) (fun f p hp => by
          obtain ⟨_, ⟨fs', h1, _⟩ | ⟨n', e', h, hpe⟩⟩ := partOf_built hp (by simp [partsOk, hu, hok])
          · rw [hu] at h1; simp at h1
          · rw [hu] at h; simp only [Option.some.injEq, TypeDesc.array.injEq] at h
            obtain ⟨rfl, rfl⟩ := h
            subst hpe; simp [hsz])
        refine fin r ?_ e2 e3
        simp only [Program.built, hi, hu, hzv, hie]; exact e1
  · simp at e

end
end Go.Aev
