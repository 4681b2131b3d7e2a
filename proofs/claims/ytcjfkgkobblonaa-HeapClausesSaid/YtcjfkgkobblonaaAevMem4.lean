/-
  Stores; new blocks.
-/
import Derived.Test.YtcjfkgkobblonaaAevMem3
set_option linter.unusedSimpArgs false
set_option linter.unusedVariables false
namespace Go.Aev
open Go

section
variable {P : Program} {w w' : World} {A A' : Nat → Prop} {c : Ctx} {ρ : Id → Option Value} {O : Id → Option Nat} {s : St} {cc : Option Bool} {h : Id → Option Blk}

/-! ### Cells that are written -/
theorem cell_setRow {b : Nat} {arr : Array Value} {t : TypeId} {fr : Nat × Nat} (hb : w.heap[b]? = some (.cells arr t fr)) (cs : Array Value) (p : Nat) : (w.setRow b cs).cell? ⟨b, p, none⟩ = cs[p]? := by
  simp only [World.cell?, setRow_heap w b arr cs t fr hb]; rfl
theorem cell_block {b : Nat} {arr : Array Value} {t : TypeId} {fr : Nat × Nat} (hb : w.heap[b]? = some (.cells arr t fr)) (p : Nat) : w.cell? ⟨b, p, none⟩ = arr[p]? := by
  simp only [World.cell?, hb]; rfl
theorem setRow_size (w : World) (b : Nat) (cs : Array Value) : (w.setRow b cs).heap.size = w.heap.size := by simp [World.setRow]

theorem repl_get {α : Type} (off : Nat) (new old : List α) (hl : off + new.length ≤ old.length) (p : Nat) : (repl off new old)[p]? = if off ≤ p ∧ p < off + new.length then new[p - off]? else old[p]? := by
  unfold repl
  rw [List.append_assoc]
  have h1 : (old.take off).length = off := by rw [List.length_take]; omega
  by_cases h : p < off
  · rw [List.getElem?_append_left (by omega), if_neg (by omega), List.getElem?_take, if_pos h]
  · rw [List.getElem?_append_right (by omega), h1]
    by_cases h2 : p < off + new.length
    · rw [List.getElem?_append_left (by omega), if_pos ⟨by omega, h2⟩]
    · rw [List.getElem?_append_right (by omega), if_neg (by omega), List.getElem?_drop]
      congr 1; omega
theorem repl_length {α : Type} (off : Nat) (new old : List α) (hl : off + new.length ≤ old.length) : (repl off new old).length = old.length := by
  simp only [repl, List.length_append, List.length_take, List.length_drop]; omega

theorem RelAt.of_vals {blk : Nat} : ∀ {l : List T} {vs : List Value} {off : Nat}, RelTs w A l vs → (∀ j v, vs[j]? = some v → w.cell? ⟨blk, off + j, none⟩ = some v) → RelAt w A blk off l
  | [], _, _, _, _ => by simp [RelAt]
  | x :: l, vs, off, ⟨v, r, e, h1, h2⟩, hv => by
    subst e
    simp only [RelAt]
    refine ⟨⟨v, by simpa using hv 0 v rfl, h1⟩, RelAt.of_vals h2 fun j u hj => ?_⟩
    have := hv (j + 1) u (by simpa using hj)
    rw [show off + 1 + j = off + (j + 1) by omega]; exact this
theorem RelAt.cells {blk : Nat} (hA : ∀ b, A b → A' b ∧ w'.heap[b]? = w.heap[b]?) : ∀ {cs : List T} {off : Nat}, (∀ j, j < cs.length → w'.cell? ⟨blk, off + j, none⟩ = w.cell? ⟨blk, off + j, none⟩) → RelAt w A blk off cs → RelAt w' A' blk off cs
  | [], _, _, _ => by simp [RelAt]
  | x :: cs, off, hc, hr => by
    simp only [RelAt] at hr ⊢
    obtain ⟨⟨v, h1, h2⟩, h3⟩ := hr
    refine ⟨⟨v, ?_, RelT.mono hA x v h2⟩, RelAt.cells hA (fun j hj => ?_) h3⟩
    · have := hc 0 (by simp); simp only [Nat.add_zero] at this; rw [this]; exact h1
    · have := hc (j + 1) (by simp; omega)
      rw [show off + 1 + j = off + (j + 1) by omega]; exact this
theorem RelAt.append {blk : Nat} : ∀ {a b : List T} {off : Nat}, RelAt w A blk off a → RelAt w A blk (off + a.length) b → RelAt w A blk off (a ++ b)
  | [], b, off, _, h => by simpa using h
  | x :: a, b, off, h, h' => by
    simp only [RelAt, List.cons_append] at h ⊢
    refine ⟨h.1, RelAt.append h.2 ?_⟩
    have : off + 1 + a.length = off + (x :: a).length := by simp; omega
    rw [this]; exact h'
theorem RelAt.take {blk : Nat} : ∀ {cs : List T} {off : Nat}, RelAt w A blk off cs → ∀ n, RelAt w A blk off (cs.take n)
  | _, _, _, 0 => by simp [RelAt]
  | [], _, _, n + 1 => by simp [RelAt]
  | x :: cs, off, h, n + 1 => by
    simp only [RelAt, List.take_succ_cons] at h ⊢
    exact ⟨h.1, RelAt.take h.2 n⟩
theorem RelEls.cells {blk sz : Nat} (hA : ∀ b, A b → A' b ∧ w'.heap[b]? = w.heap[b]?) : ∀ {xs : List (List T)} {off : Nat}, (∀ p, off ≤ p → p < off + xs.length * sz → w'.cell? ⟨blk, p, none⟩ = w.cell? ⟨blk, p, none⟩) → RelEls w A blk sz off xs → RelEls w' A' blk sz off xs
  | [], _, _, _ => by simp [RelEls]
  | cs :: xs, off, hc, hr => by
    simp only [RelEls] at hr ⊢
    have e : (cs :: xs).length * sz = sz + xs.length * sz := by simp [Nat.succ_mul]; omega
    refine ⟨hr.1, RelAt.cells hA (fun j hj => hc _ (by omega) (by rw [e]; omega)) hr.2.1, RelEls.cells hA (fun p h1 h2 => hc p (by omega) (by rw [e]; omega)) hr.2.2⟩
theorem RelEls.set {blk sz : Nat} (hA : ∀ b, A b → A' b ∧ w'.heap[b]? = w.heap[b]?) : ∀ {xs : List (List T)} {off k : Nat} {new : List T}, RelEls w A blk sz off xs → k < xs.length → new.length = sz → RelAt w' A' blk (off + k * sz) new →
    (∀ p, off ≤ p → p < off + xs.length * sz → ¬ (off + k * sz ≤ p ∧ p < off + k * sz + sz) → w'.cell? ⟨blk, p, none⟩ = w.cell? ⟨blk, p, none⟩) → RelEls w' A' blk sz off (xs.set k new)
  | [], _, _, _, _, hk, _, _, _ => by simp at hk
  | cs :: xs, off, 0, new, hr, _, hn, hnew, hc => by
    simp only [RelEls, List.set_cons_zero] at hr ⊢
    have e : (cs :: xs).length * sz = sz + xs.length * sz := by simp [Nat.succ_mul]; omega
    exact ⟨hn, by simpa using hnew, RelEls.cells hA (fun p h1 h2 => hc p (by omega) (by rw [e]; omega) (by omega)) hr.2.2⟩
  | cs :: xs, off, k + 1, new, hr, hk, hn, hnew, hc => by
    simp only [RelEls, List.set_cons_succ] at hr ⊢
    have e : (cs :: xs).length * sz = sz + xs.length * sz := by simp [Nat.succ_mul]; omega
    have e2 : (k + 1) * sz = sz + k * sz := by rw [Nat.succ_mul]; omega
    refine ⟨hr.1, RelAt.cells hA (fun j hj => hc _ (by omega) (by rw [e]; omega) (by rw [e2]; omega)) hr.2.1, RelEls.set hA hr.2.2 (by simpa using hk) hn ?_ (fun p h1 h2 h3 => hc p (by omega) (by rw [e]; omega) (by rw [e2]; omega))⟩
    rw [show off + sz + k * sz = off + (k + 1) * sz by rw [e2]; omega]; exact hnew

theorem RelVs.repl {as l : List AV} {vs us : List Value} (h : RelVs w A ρ as vs) (h' : RelVs w A ρ l us) (off : Nat) : RelVs w A ρ (repl off l as) (repl off us vs) := by
  unfold Aev.repl
  have := h'.length
  rw [this]
  exact ((h.take off).append h').append (h.drop _)
theorem RelAt.repl {blk base off : Nat} {cs l : List T} (h1 : RelAt w A blk base (cs.take off)) (h2 : RelAt w A blk (base + off) l) (h3 : RelAt w A blk (base + off + l.length) (cs.drop (off + l.length))) (hl : off ≤ cs.length) : RelAt w A blk base (repl off l cs) := by
  unfold Aev.repl
  rw [List.append_assoc]
  have lt : (cs.take off).length = off := by rw [List.length_take]; omega
  exact RelAt.append h1 (RelAt.append (by rw [lt]; exact h2) (by rw [lt]; exact h3))

theorem run_storeVar {t : TypeId} (ht : tyOk P t = true) {b off : Nat} {arr : Array Value} {tt : TypeId} {v : Value} (hb : w.heap[b]? = some (.cells arr tt (0, 0))) (hl : v.cells.size = P.cellsOf t) (hfit : off + v.cells.toList.length ≤ arr.size)
    (h1 : ∀ u ∈ v.cells.toList, u.oneCell' = true) : (storeVar t ⟨b, off, none⟩ v).run P w = .ok () (w.setRow b (repl off v.cells.toList arr.toList).toArray) := by
  unfold storeVar
  simp only [Sem.run_bind, run_sizeA ht, Result.andThen_ok, hl, ne_eq, not_true_eq_false, if_false]
  have := run_storeCells_at P b off tt v.cells.toList 0 arr w hb (by simpa using hfit) h1
  simp only [Nat.add_zero] at this
  rw [this]; rfl

theorem refs1_ids {v : AV} {i : Id} (h : refs1 v i) : i ∈ v.ids := by
  rcases h with rfl | ⟨_, _, _, rfl⟩ | ⟨_, rfl⟩ <;> simp [AV.ids]
theorem frz1_ids {v : AV} {p : Id × Blk} (hp : p ∈ frz1 h v) : p.1 ∈ v.ids := by
  unfold frz1 at hp
  split at hp
  · split at hp
    · simp only [List.mem_singleton] at hp; subst hp; simp [AV.ids]
    · cases hp
  · split at hp
    · simp only [List.mem_singleton] at hp; subst hp; simp [AV.ids]
    · cases hp
  · split at hp
    · split at hp
      · simp only [List.mem_singleton] at hp; subst hp; simp [AV.ids]
      · cases hp
    · cases hp
  · cases hp
theorem frzAll_ids : ∀ {vs : List AV} {p : Id × Blk}, p ∈ frzAll h vs → p.1 ∈ idsL vs
  | [], p, hp => by cases hp
  | v :: vs, p, hp => by
    simp only [frzAll, List.mem_append] at hp
    simp only [idsL, List.mem_append]
    rcases hp with hp | hp
    · exact .inl (frz1_ids hp)
    · exact .inr (frzAll_ids hp)
theorem frz_ids {v : AV} {p : Id × Blk} (hp : p ∈ frz h v) : p.1 ∈ v.ids := by
  unfold frz at hp; split at hp
  · simp only [AV.ids]; exact frzAll_ids hp
  · exact frz1_ids hp
theorem updH_other : ∀ {us : Upd} {h : Id → Option Blk} {i : Id}, (∀ p ∈ us, p.1 ≠ i) → updH h us i = h i
  | [], _, _, _ => rfl
  | (j, b) :: us, h, i, hn => by
    rw [updH_cons, updH_other (fun p hp => hn p (List.mem_cons_of_mem _ hp)), upd_ne _ _ (fun e => hn (j, b) List.mem_cons_self e.symm)]
theorem updH_swap : ∀ {us : Upd} {h : Id → Option Blk} {i : Id} {b : Blk}, (∀ p ∈ us, p.1 ≠ i) → updH (upd h i (some b)) us = upd (updH h us) i (some b)
  | [], _, _, _, _ => rfl
  | (j, x) :: us, h, i, b, hn => by
    rw [updH_cons, updH_cons, ← updH_swap (fun p hp => hn p (List.mem_cons_of_mem _ hp))]
    congr 1
    funext k
    have : j ≠ i := fun e => hn (j, x) List.mem_cons_self e
    by_cases e1 : k = j
    · subst e1; rw [upd_same, upd_ne _ _ this, upd_same]
    · by_cases e2 : k = i
      · subst e2; rw [upd_ne _ _ e1, upd_same, upd_same]
      · rw [upd_ne _ _ e1, upd_ne _ _ e2, upd_ne _ _ e2, upd_ne _ _ e1]

theorem HS.freezes' {us : Upd} (hs : HS c w h ρ O) (hok : FrzOk h us) :
    ∃ O', Le w ρ O w ρ O' ∧ HS c w (updH h us) ρ O' ∧ (∀ i, O' i = O i ∨ O' i = none) ∧ (∀ p ∈ us, O' p.1 = none) ∧ ∀ i, (∀ p ∈ us, p.1 ≠ i) → O' i = O i := HS.freezes hs hok

/-- A slice of own slices is shut. -/
theorem HS.shutArr {i : Id} {cs : List AV} {xs : List T} (hs : HS c w h ρ O) (hi : h i = some (.arr cs)) (hx : snapAll h cs = some xs) :
    ∃ O', Le w ρ O w ρ O' ∧ HS c w (updH h (frzAll h cs ++ [(i, .sl true 1 false (xs.map fun x => [x]))])) ρ O' := by
  obtain ⟨b, arr, t, e1, e2, e3, e4, e5⟩ := hs.blk i _ hi
  have hok := frzAll_ok (h := h) cs
  have hnot : ∀ p ∈ frzAll h cs, p.1 ≠ i := by
    intro p hp e
    have := hok p hp
    rw [e, hi] at this
    rcases this with ⟨_, _, _, _, g | g⟩ | ⟨_, _, ⟨_, g, _⟩ | g⟩ <;> simp at g
  obtain ⟨O1, le1, hs1, o1, o2, o3⟩ := HS.freezes' hs hok
  have hv : RelV w (AA c w O) ρ (.agg cs) (.agg arr) := by
    simp only [RelV]; exact ⟨arr.toList, by simp, e4, e5⟩
  obtain ⟨g1, g2⟩ := snap_frozen (v := .agg cs) (xs := xs) hs hv hx le1 o1 o2
  have hi1 : updH h (frzAll h cs) i = some (.arr cs) := by rw [updH_other hnot]; exact hi
  have hO1 : O1 i = some b := by rw [o3 i hnot]; exact e2
  have hlen := g1.length
  have hc := e4.length
  simp only [Value.cells] at g1 hlen
  refine ⟨upd O1 i none, le1.trans Le.release, ?_⟩
  rw [updH_append]
  refine hs1.release _ ?_
  have hA : ∀ b, AA c w O1 b → AA c w (upd O1 i none) b ∧ w.heap[b]? = w.heap[b]? := fun b ha => (Le.release (ρ := ρ) (i := i)).A b ha
  have hb : AA c w (upd O1 i none) b := ⟨.inr (hs1.own i b hO1), hs1.lt i b hO1, fun j hj => by
    by_cases e : j = i
    · subst e; rw [upd_same] at hj; cases hj
    · rw [upd_ne _ _ e] at hj; exact e (hs1.inj j i b hj hO1)⟩
  have key : ∀ (l : List T) (vs : List Value) (off : Nat), RelTs w (AA c w O1) l vs → (∀ j v, vs[j]? = some v → w.cell? ⟨b, off + j, none⟩ = some v) → RelEls w (AA c w (upd O1 i none)) b 1 off (l.map fun x => [x]) := by
    intro l
    induction l with
    | nil => intro vs off _ _; simp [RelEls]
    | cons x l ih =>
      rintro vs off ⟨v, r, rfl, h1, h2⟩ hv
      simp only [List.map_cons, RelEls, RelAt, and_true]
      refine ⟨rfl, ⟨v, by simpa using hv 0 v rfl, RelT.mono hA x v h1⟩, ih r (off + 1) h2 fun j u hj => ?_⟩
      have := hv (j + 1) u (by simpa using hj)
      rw [show off + 1 + j = off + (j + 1) by omega]; exact this
  refine ⟨_, e1, ⟨some ⟨b, 0, none⟩, cs.length, ?_, ?_, by simp, trivial, .inr ⟨b, 0, arr, t, rfl, by simpa using hb, e3, ?_, ?_⟩⟩, fun _ => by simp⟩
  · rw [List.length_map, ← hlen, hc]
  · rw [List.length_map, ← hlen, hc]; omega
  · rw [Array.length_toList] at hc; omega
  · refine key xs _ 0 g1 fun j v hj => ?_
    simp only [World.cell?, e3, Nat.zero_add]
    simpa using hj

theorem setRow_le {b : Nat} {i : Id} (hi : O i = some b) (cs : Array Value) : Le w ρ O (w.setRow b cs) ρ O :=
  Le.write hi rfl rfl rfl (setRow_size w b cs) fun k hk => setRow_other w b k cs hk

theorem storeAV_sound {R : Type} {t : TypeId} {a v : AV} {va vx : Value} {K : Upd → Option R} {r : R} (hs : HS c w s.h ρ O) (ha : RelV w (AA c w O) ρ a va) (hx : RelV w (AA c w O) ρ v vx) (hk : storeAV P s t a v K = some r) :
    ∃ us w' ρ' O', K us = some r ∧ (Instr.storeAt t va vx).run P w = .ok () w' ∧ Le w ρ O w' ρ' O' ∧ HS c w' (updH s.h us) ρ' O' := by
  unfold storeAV at hk
  cases ht : tyOk P t
  · simp [ht] at hk
  simp only [ht, cond_true] at hk
  split at hk
  · rename_i i off
    split at hk
    · rename_i cs hi
      split at hk
      · rename_i hcond
        obtain ⟨c1, c2, c3⟩ := hcond
        obtain ⟨b, arr, t', h1, h2, h3, h4, h5, h6⟩ := box_cells hs hi
        simp only [RelV] at ha
        obtain ⟨b', e1, rfl⟩ := ha
        rw [h1] at e1; simp only [Option.some.injEq, Value.pointer.injEq, Addr.mk.injEq] at e1
        obtain ⟨rfl, _⟩ := e1
        obtain ⟨g1, g2⟩ := cellsAV_sound hs hx c2
        have gl := g1.length
        have hl := h4.length
        have hfit : off + vx.cells.toList.length ≤ arr.size := by rw [gl]; simp only [Array.length_toList] at hl; omega
        have run := run_storeVar (P := P) ht h3 (by rw [← Array.length_toList, gl, c1]) hfit (fun u hu => (g2 u hu).1)
        have le : Le w ρ O (w.setRow b (repl off vx.cells.toList arr.toList).toArray) ρ O := setRow_le h2 _
        refine ⟨_, _, ρ, O, hk, by simpa [Instr.storeAt, Instr.sureAddr] using run, le, ?_⟩
        rw [updH_one]
        refine hs.write h2 le (fun k hk => setRow_other w b k _ hk) _ ?_ (by rw [hi]; simp)
        refine ⟨b, _, t', h1, h2, setRow_heap w b arr _ t' (0, 0) h3, ?_, ?_⟩
        · have m : ∀ (as : List AV) (vs : List Value), RelVs w (AA c w O) ρ as vs → RelVs _ _ ρ as vs := fun as vs hr => RelVs.mono (fun b hb => le.A b hb) le.rho as vs hr
          exact RelVs.repl (m _ _ h4) (m _ _ g1) off
        · intro u hu
          simp only [repl, List.mem_append] at hu
          rcases hu with (hu | hu) | hu
          · exact h5 u (List.mem_of_mem_take hu)
          · exact g2 u hu
          · exact h5 u (List.mem_of_mem_drop hu)
      · simp at hk
    · simp at hk
  · rename_i i sz k off
    split at hk
    · rename_i sz' bb xs hi
      obtain ⟨l, hsn, hk⟩ := Option.bind_eq_some_iff.1 hk
      split at hk
      · rename_i hcond
        obtain ⟨rfl, c1, c2⟩ := hcond
        replace hk := gdK_some hk (.inl rfl); obtain ⟨ys, hy, hk⟩ := hk
        have hnot : ∀ p ∈ frz s.h v, p.1 ≠ i := by
          intro p hp e
          have := frz_ids hp
          rw [e] at this
          simp only [List.contains_eq_mem, decide_eq_false_iff_not] at c2
          exact c2 this
        obtain ⟨O1, le1, hs1, o1, o2, o3⟩ := HS.freezes' hs (frz_ok (h := s.h) v)
        obtain ⟨g1, g2⟩ := snap_frozen hs hx hsn le1 o1 o2
        have hi1 : updH s.h (frz s.h v) i = some (.sl false sz' bb xs) := by rw [updH_other hnot]; exact hi
        obtain ⟨vv, q0, a', cap', q1, q2, q3, q4, q5⟩ := sl_at' hs1 hi1
        simp only [RelV] at ha
        obtain ⟨b, o, L, cap, e1, rfl⟩ := ha
        rw [q0] at e1; simp only [Option.some.injEq] at e1; subst e1
        simp only [Value.slice.injEq] at q1
        obtain ⟨rfl, rfl, rfl⟩ := q1
        unfold storeIn at hy
        cases hkx : xs[k]? with
        | none => simp [hkx] at hy
        | some cs =>
          simp only [hkx] at hy
          split at hy
          · rename_i hfit0
            simp only [Option.some.injEq] at hy; subst hy
            have hlt : k < xs.length := (List.getElem?_eq_some_iff.1 hkx).1
            rcases q5 with q5 | ⟨blk, off', arr, t', q6, q7, q8, q9, q10⟩
            · omega
            · simp only [Option.some.injEq, Addr.mk.injEq] at q6
              obtain ⟨rfl, rfl, _⟩ := q6
              simp only [Bool.false_eq_true, if_false] at q7
              obtain ⟨lcs, hcs⟩ := q10.get hkx
              have gl := g1.length
              have hbnd : (k + 1) * sz' ≤ cap * sz' := Nat.mul_le_mul_right _ (by omega)
              have e2 : (k + 1) * sz' = k * sz' + sz' := Nat.succ_mul _ _
              have hfit : o + k * sz' + off + vx.cells.toList.length ≤ arr.size := by omega
              have run := run_storeVar (P := P) ht q8 (by rw [← Array.length_toList, gl, c1]) hfit (fun u hu => (g2 u hu).1)
              have le2 : Le w ρ O1 (w.setRow b (repl (o + k * sz' + off) vx.cells.toList arr.toList).toArray) ρ O1 := setRow_le q7 _
              refine ⟨_, _, ρ, O1, hk, by simpa [Instr.storeAt, Instr.sureAddr] using run, le1.trans le2, ?_⟩
              rw [updH_cons, updH_swap hnot]
              refine hs1.write q7 le2 (fun k hk => setRow_other w b k _ hk) _ ?_ (by rw [hi1]; simp)
              refine ⟨_, q0, ?_, by simp⟩
              have hl2 : (xs.set k (repl off l cs)).length = xs.length := by simp
              refine ⟨some ⟨b, o, none⟩, cap, by rw [hl2], by rw [hl2]; exact q2, q3, q4, .inr ⟨b, o, _, t', rfl, by simpa using q7, setRow_heap w b arr _ t' (0, 0) q8, ?_, ?_⟩⟩
              · have := repl_length (o + k * sz' + off) vx.cells.toList arr.toList (by simpa using hfit)
                simp only [List.size_toArray]
                rw [this]; simpa using q9
              · have cellAt : ∀ p, (w.setRow b (repl (o + k * sz' + off) vx.cells.toList arr.toList).toArray).cell? ⟨b, p, none⟩ = if o + k * sz' + off ≤ p ∧ p < o + k * sz' + off + vx.cells.toList.length then vx.cells.toList[p - (o + k * sz' + off)]? else w.cell? ⟨b, p, none⟩ := by
                  intro p
                  rw [cell_setRow q8, List.getElem?_toArray, repl_get _ _ _ (by simpa using hfit), cell_block q8]
                  simp
                have hA2 : ∀ b', AA c w O1 b' → AA c (w.setRow b (repl (o + k * sz' + off) vx.cells.toList arr.toList).toArray) O1 b' ∧ (w.setRow b (repl (o + k * sz' + off) vx.cells.toList arr.toList).toArray).heap[b']? = w.heap[b']? := fun b' hb' => le2.A b' hb'
                have lrepl : (repl off l cs).length = sz' := by rw [repl_length off l cs hfit0, lcs]
                refine RelEls.set hA2 q10 hlt lrepl ?_ ?_
                · refine RelAt.repl (RelAt.cells hA2 (fun j hj => ?_) (hcs.take off)) ?_ ?_ (by omega)
                  · have lt : (cs.take off).length = off := by rw [List.length_take]; omega
                    rw [lt] at hj; rw [cellAt, if_neg (by omega)]
                  · refine RelAt.of_vals (RelTs.mono hA2 _ _ g1) (fun j u hj => ?_)
                    have hj' : j < vx.cells.toList.length := (List.getElem?_eq_some_iff.1 hj).1
                    rw [cellAt, if_pos (by omega)]
                    rw [show o + k * sz' + off + j - (o + k * sz' + off) = j by omega]; exact hj
                  · have := hcs.drop (off + l.length)
                    rw [show o + k * sz' + off + l.length = o + k * sz' + (off + l.length) by omega]
                    refine RelAt.cells hA2 (fun j hj => ?_) this
                    rw [cellAt, if_neg (by omega)]
                · intro p h1 h2 h3
                  rw [cellAt, if_neg (by omega)]
          · simp at hy
      · simp at hk
    · rename_i cs hi
      split at hk
      · rename_i hcond
        obtain ⟨rfl, c1, c2, c3⟩ := hcond
        obtain ⟨b, arr, t', h1, h2, h3, h4, h5, h6⟩ := arr_cells hs hi
        simp only [RelV] at ha
        obtain ⟨b', o, L, cap, e1, rfl⟩ := ha
        rw [h1] at e1; simp only [Option.some.injEq, Value.slice.injEq, Addr.mk.injEq] at e1
        obtain ⟨⟨rfl, rfl, _⟩, _⟩ := e1
        obtain ⟨g1, g2⟩ := cellsAV_sound hs hx c2
        have gl := g1.length
        have hl := h4.length
        have hfit : k + off + vx.cells.toList.length ≤ arr.size := by rw [gl]; simp only [Array.length_toList] at hl; omega
        have run := run_storeVar (P := P) ht h3 (by rw [← Array.length_toList, gl, c1]) hfit (fun u hu => (g2 u hu).1)
        have le : Le w ρ O (w.setRow b (repl (k + off) vx.cells.toList arr.toList).toArray) ρ O := setRow_le h2 _
        refine ⟨_, _, ρ, O, hk, ?_, le, ?_⟩
        · have e0 : 0 + k * 1 + off = k + off := by omega
          rw [e0]
          simpa [Instr.storeAt, Instr.sureAddr] using run
        rw [updH_one]
        refine hs.write h2 le (fun k hk => setRow_other w b k _ hk) _ ?_ (by rw [hi]; simp)
        have hln : (repl (k + off) (cellsAV v) cs).length = cs.length := repl_length _ _ _ (by omega)
        refine ⟨b, _, t', by rw [hln]; exact h1, h2, setRow_heap w b arr _ t' (0, 0) h3, ?_, ?_⟩
        · have m : ∀ (as : List AV) (vs : List Value), RelVs w (AA c w O) ρ as vs → RelVs _ _ ρ as vs := fun as vs hr => RelVs.mono (fun b hb => le.A b hb) le.rho as vs hr
          exact RelVs.repl (m _ _ h4) (m _ _ g1) (k + off)
        · intro u hu
          simp only [repl, List.mem_append] at hu
          rcases hu with (hu | hu) | hu
          · exact h5 u (List.mem_of_mem_take hu)
          · exact g2 u hu
          · exact h5 u (List.mem_of_mem_drop hu)
      · simp at hk
    · simp at hk
  · simp at hk

/-! ### New boxes -/
theorem run_newRow (t : TypeId) (cells : Array Value) : (newRow t cells).run P w = .ok ⟨w.heap.size, 0, none⟩ (w.alloc (.cells cells t)) := by
  simp [newRow]
theorem heap_new (o : Obj) : (w.alloc o).heap[w.heap.size]? = some o := by
  show (w.heap.push o)[w.heap.size]? = some o
  simp
theorem HS.newBox {i : Id} (hs : HS c w h ρ O) (hi : h i = none) {cs : List AV} {vs : List Value} (t : TypeId) (hv : RelVs w (AA c w O) ρ cs vs) (h1 : ∀ u ∈ vs, u.oneCell' = true ∧ u.cells = #[u]) :
    Le w ρ O (w.alloc (.cells vs.toArray t)) (upd ρ i (some (.pointer (some ⟨w.heap.size, 0, none⟩)))) (upd O i (some w.heap.size)) ∧
    HS c (w.alloc (.cells vs.toArray t)) (upd h i (some (.box cs))) (upd ρ i (some (.pointer (some ⟨w.heap.size, 0, none⟩)))) (upd O i (some w.heap.size)) := by
  have le := Le.alloc hs hi (.cells vs.toArray t) (.pointer (some ⟨w.heap.size, 0, none⟩)) (some w.heap.size) (.inr rfl)
  refine ⟨le, hs.alloc hi _ _ _ (.inr rfl) _ ⟨w.heap.size, vs.toArray, t, by simp, by simp, heap_new _, ?_, h1⟩⟩
  exact RelVs.mono (fun b hb => le.A b hb) le.rho _ _ hv

theorem HS.newArr {i : Id} (hs : HS c w h ρ O) (hi : h i = none) {cs : List AV} {arr : Array Value} (t : TypeId) (hv : RelVs w (AA c w O) ρ cs arr.toList) (h1 : ∀ u ∈ arr.toList, u.oneCell' = true ∧ u.cells = #[u]) :
    Le w ρ O (w.alloc (.cells arr t)) (upd ρ i (some (.slice (some ⟨w.heap.size, 0, none⟩) cs.length cs.length))) (upd O i (some w.heap.size)) ∧
    HS c (w.alloc (.cells arr t)) (upd h i (some (.arr cs))) (upd ρ i (some (.slice (some ⟨w.heap.size, 0, none⟩) cs.length cs.length))) (upd O i (some w.heap.size)) := by
  have le := Le.alloc hs hi (.cells arr t) (.slice (some ⟨w.heap.size, 0, none⟩) cs.length cs.length) (some w.heap.size) (.inr rfl)
  refine ⟨le, hs.alloc hi _ _ _ (.inr rfl) _ ⟨w.heap.size, arr, t, by simp, by simp, heap_new _, ?_, h1⟩⟩
  exact RelVs.mono (fun b hb => le.A b hb) le.rho _ _ hv

theorem ofVal_rel {u : Value} {x : T} (e : ofVal u = some x) : RelT w A x u := by
  cases u <;> simp only [ofVal, Option.some.injEq, reduceCtorEq] at e
  case slice a l cp =>
    split at e <;> simp_all
    subst e; simp [RelT]
  case pointer a => split at e <;> simp_all; subst e; simp [RelT]
  case map a => split at e <;> simp_all; subst e; simp [RelT]
  all_goals (subst e; simp [RelT])
theorem ofVals_rel : ∀ {us : List Value} {l : List T}, ofVals us = some l → RelTs w A l us
  | [], l, e => by simp only [ofVals, Option.some.injEq] at e; subst e; rfl
  | u :: us, l, e => by
    simp only [ofVals] at e
    obtain ⟨x, h1, e⟩ := Option.bind_eq_some_iff.1 e
    obtain ⟨l', h2, e⟩ := Option.bind_eq_some_iff.1 e
    simp only [Option.some.injEq] at e; subst e
    exact ⟨u, us, rfl, ofVal_rel h1, ofVals_rel h2⟩
theorem zeroC_some {t : TypeId} {l : List T} (e : zeroC P t = some l) : ∃ i z, P.info? t = some i ∧ i.zero = some z ∧ ofVals z.cells.toList = some l := by
  unfold zeroC at e
  split at e
  · rename_i i hi
    split at e
    · rename_i z hz; exact ⟨i, z, hi, hz, e⟩
    · simp at e
  · simp at e

/-! ### Structs and slices that are written out -/
theorem foldl_repl (off : Nat) (v cells : Array Value) (hf : off + v.size ≤ cells.size) : (v.zipIdx.foldl (fun cs (x : Value × Nat) => cs.setIfInBounds (off + x.2) x.1) cells).toList = repl off v.toList cells.toList := by
  obtain ⟨g1, g2⟩ := Go.Great.foldl_set off v.toList 0 cells
  have e : v.zipIdx.foldl (fun cs (x : Value × Nat) => cs.setIfInBounds (off + x.2) x.1) cells = (v.toList.zipIdx 0).foldl (fun cs (x : Value × Nat) => cs.setIfInBounds (off + x.2) x.1) cells := by
    rw [← Array.foldl_toList, Array.toList_zipIdx]
  rw [e]
  apply List.ext_getElem?
  intro p
  rw [Array.getElem?_toList, g2 p, repl_get off v.toList cells.toList (by simpa using hf)]
  simp only [Nat.add_zero, Array.length_toList, Array.getElem?_toList]
  by_cases hp : off ≤ p ∧ p < off + v.size
  · rw [if_pos ⟨hp.1, hp.2, by omega⟩, if_pos hp]
  · rw [if_neg (by omega), if_neg hp]

/-- Parts, as they are named and as they are. -/
inductive Parts (w : World) (A : Nat → Prop) (ρ : Id → Option Value) (place : Nat → Option (Nat × Nat)) : List (Nat × List AV) → List (Nat × Value) → Prop
  | nil : Parts w A ρ place [] []
  | cons {off : Nat} {l : List AV} {f : Nat} {v : Value} {ls : List (Nat × List AV)} {vs : List (Nat × Value)} (hp : place f = some (off, l.length)) (hr : RelVs w A ρ l v.cells.toList) (h1 : ∀ u ∈ v.cells.toList, u.oneCell' = true ∧ u.cells = #[u])
      (rest : Parts w A ρ place ls vs) : Parts w A ρ place ((off, l) :: ls) ((f, v) :: vs)

theorem fill_sound {place : Nat → Option (Nat × Nat)} : ∀ {ls : List (Nat × List AV)} {vs : List (Nat × Value)} {zs out : List AV} {cells : Array Value}, Parts w A ρ place ls vs → layAV ls zs = some out → RelVs w A ρ zs cells.toList → (∀ u ∈ cells.toList, u.oneCell' = true ∧ u.cells = #[u]) →
    ∃ r, Instr.fill place cells vs = some r ∧ RelVs w A ρ out r.toList ∧ ∀ u ∈ r.toList, u.oneCell' = true ∧ u.cells = #[u]
  | [], _, zs, out, cells, .nil, hl, hz, h1 => by
    simp only [layAV, Option.some.injEq] at hl; subst hl
    exact ⟨cells, rfl, hz, h1⟩
  | (off, l) :: ls, (f, v) :: vs, zs, out, cells, .cons hp hr h1' rest, hl, hz, h1 => by
    simp only [layAV] at hl
    split at hl
    · rename_i hfit
      have lv := hr.length
      have lz := hz.length
      simp only [Array.length_toList] at lv lz
      have hfit' : off + v.cells.size ≤ cells.size := by omega
      have hrep := foldl_repl off v.cells cells hfit'
      obtain ⟨r, e1, e2, e3⟩ := fill_sound (cells := v.cells.zipIdx.foldl (fun cs (x : Value × Nat) => cs.setIfInBounds (off + x.2) x.1) cells) rest hl (by
        rw [hrep]; unfold repl
        rw [show v.cells.toList.length = l.length by simpa using lv]
        exact ((hz.take off).append hr).append (hz.drop _)) (by
        intro u hu
        rw [hrep] at hu
        simp only [repl, List.mem_append] at hu
        rcases hu with (hu | hu) | hu
        · exact h1 u (List.mem_of_mem_take hu)
        · exact h1' u hu
        · exact h1 u (List.mem_of_mem_drop hu))
      refine ⟨r, ?_, e2, e3⟩
      unfold Instr.fill
      simp only [hp]
      rw [if_neg (by simp [lv]; omega)]
      exact e1
    · simp at hl

theorem partOf_built {t : TypeId} {f : Nat} {p : Nat × TypeId} (e : partOf P t f = some p) (hok : partsOk P t = true) :
    tyOk P p.2 = true ∧ ((∃ fs, P.underlying t = some (.struct fs) ∧ (fs.toList.map fun x => (x.offset, P.cellsOf x.type))[f]? = some (p.1, P.cellsOf p.2)) ∨
      ∃ n e, P.underlying t = some (.array n e) ∧ p = (f * P.cellsOf e, e)) := by
  unfold partOf at e
  split at e
  · rename_i q hq
    simp only [Option.some.injEq] at e; subst e
    obtain ⟨fs, x, h1, h2, h3, h4⟩ := fieldT_some hq
    refine ⟨h4, .inl ⟨fs, h1, ?_⟩⟩
    rw [List.getElem?_map, Array.getElem?_toList, h2]
    simp [h3]
  · split at e
    · rename_i n u hq
      simp only [Option.some.injEq] at e; subst e
      obtain ⟨h1, h2⟩ := arrT_some hq
      exact ⟨h2, .inr ⟨n, u, h1, rfl⟩⟩
    · simp at e

theorem partsAV_sound {a : Act} {g : Option Gs} {t : TypeId} (hs : HS c w s.h ρ O) (ht : SS w (AA c w O) ρ s.t a.tmps) (hr : Runs a.tmps g) (hok : partsOk P t = true) (place : Nat → Option (Nat × Nat))
    (hplace : ∀ f p, partOf P t f = some p → place f = some (p.1, P.cellsOf p.2)) :
    ∀ {ps : List (Nat × Operand)} {ls : List (Nat × List AV)}, partsAV P t (s.get g) ps = some ls → Parts w (AA c w O) ρ place ls (ps.map fun x => (x.1, a.eval x.2))
  | [], ls, e => by simp only [partsAV, Option.some.injEq] at e; subst e; exact .nil
  | (f, o) :: ps, ls, e => by
    simp only [partsAV] at e
    obtain ⟨p, hp, e⟩ := Option.bind_eq_some_iff.1 e
    split at e
    · rename_i hcond
      obtain ⟨q, hq, e⟩ := Option.bind_eq_some_iff.1 e
      simp only [Option.some.injEq] at e; subst e
      have hv := SS.get (h := s.h) ht hr o
      obtain ⟨g1, g2⟩ := cellsAV_sound hs hv hcond.2
      exact .cons (by rw [hplace f p hp, show (St.get ⟨s.t, s.h⟩ g o) = s.get g o from rfl, hcond.1]) g1 g2 (partsAV_sound hs ht hr hok place hplace hq)
    · simp at e

theorem buildAV_sound {a : Act} {g : Option Gs} {t : TypeId} {ps : Array (Nat × Operand)} {av : AV} (hs : HS c w s.h ρ O) (ht : SS w (AA c w O) ρ s.t a.tmps) (hr : Runs a.tmps g) (e : buildAV P t (s.get g) ps.toList = some av) :
    ∃ v, (Instr.build t (ps.map fun (i, x) => (i, a.eval x))).run P w = .ok v w ∧ RelV w (AA c w O) ρ av v := by
  unfold buildAV at e
  split at e
  · rename_i hok
    obtain ⟨z, hz, e⟩ := Option.bind_eq_some_iff.1 e
    obtain ⟨l, hl, e⟩ := Option.bind_eq_some_iff.1 e
    obtain ⟨cs, hcs, e⟩ := Option.bind_eq_some_iff.1 e
    simp only [Option.some.injEq] at e; subst e
    obtain ⟨i, zv, hi, hzv, hof⟩ := zeroC_some hz
    have hzr : RelTs w (AA c w O) z zv.cells.toList := ofVals_rel hof
    have toL : (ps.map fun (i, x) => (i, a.eval x)).toList = ps.toList.map fun x => (x.1, a.eval x.2) := by simp
    have key : ∀ place : Nat → Option (Nat × Nat), (∀ f p, partOf P t f = some p → place f = some (p.1, P.cellsOf p.2)) → ∃ r, Instr.fill place zv.cells (ps.map fun (i, x) => (i, a.eval x)).toList = some r ∧ RelVs w (AA c w O) ρ cs r.toList ∧ ∀ u ∈ r.toList, u.oneCell' = true ∧ u.cells = #[u] := by
      intro place hplace
      rw [toL]
      exact fill_sound (partsAV_sound hs ht hr hok place hplace hl) hcs (RelVs.of_ts hzr) hzr.one
    have fin : ∀ r : Array Value, P.built t (ps.map fun (i, x) => (i, a.eval x)).toList = some r → RelVs w (AA c w O) ρ cs r.toList → (∀ u ∈ r.toList, u.oneCell' = true ∧ u.cells = #[u]) →
        ∃ v, (Instr.build t (ps.map fun (i, x) => (i, a.eval x))).run P w = .ok v w ∧ RelV w (AA c w O) ρ (.agg cs) v := by
      intro r hb h1 h2
      exact ⟨_, run_build w t _ r hb, by simp only [RelV]; exact ⟨r.toList, by simp, h1, h2⟩⟩
    cases hu : P.underlying t with
    | none => simp [partsOk, hu] at hok
    | some d =>
      cases d <;> simp only [partsOk, hu, Bool.false_eq_true] at hok
      case struct fs =>
        have hplaces : fs.toList.mapM (fun f => (P.info? f.type).map fun i => (f.offset, i.size)) = some (fs.toList.map fun x => (x.offset, P.cellsOf x.type)) := by
          generalize fs.toList = l at hok
          induction l with
          | nil => rfl
          | cons f l ih =>
            simp only [List.all_cons, Bool.and_eq_true] at hok
            obtain ⟨d, hd⟩ := Option.isSome_iff_exists.1 hok.1
            obtain ⟨i, hi, hsz⟩ := info_of_underlying hd
            simp only [List.mapM_cons, hi, Option.map_some, Option.bind_eq_bind, Option.bind_some, ih hok.2, Option.pure_def, List.map_cons, hsz]
        obtain ⟨r, e1, e2, e3⟩ := key ((fs.toList.map fun x => (x.offset, P.cellsOf x.type)).toArray[·]?) (fun f p hp => by
          obtain ⟨_, h | ⟨n, e, h, _⟩⟩ := partOf_built hp (by simp [partsOk, hu, hok])
          · obtain ⟨fs', h1, h2⟩ := h
            rw [hu] at h1; simp only [Option.some.injEq, TypeDesc.struct.injEq] at h1; subst h1
            simpa using h2
          · rw [hu] at h; simp at h)
        refine fin r ?_ e2 e3
        simp only [Program.built, hi, hu, hzv, hplaces]; exact e1
      case array n e =>
        obtain ⟨d, hd⟩ := Option.isSome_iff_exists.1 hok
        obtain ⟨ie, hie, hsz⟩ := info_of_underlying hd
        obtain ⟨r, e1, e2, e3⟩ := key (fun i => some (i * ie.size, ie.size)) (fun f p hp => by
          obtain ⟨_, ⟨fs', h1, _⟩ | ⟨n', e', h, hpe⟩⟩ := partOf_built hp (by simp [partsOk, hu, hok])
          · rw [hu] at h1; simp at h1
          · rw [hu] at h; simp only [Option.some.injEq, TypeDesc.array.injEq] at h
            obtain ⟨rfl, rfl⟩ := h
            subst hpe; simp [hsz])
        refine fin r ?_ e2 e3
        simp only [Program.built, hi, hu, hzv, hie]; exact e1
  · simp at e

end
end Go.Aev
