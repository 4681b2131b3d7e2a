/-
  Memory is read: loads, addresses, lengths, slices of slices; values are snapped.
-/
import Derived.Test.YtmpjdngpblfecaaAevEq
import Derived.Deep.AppendSrc
import Derived.Great.FillDense
set_option linter.unusedSimpArgs false
set_option linter.unusedVariables false
namespace Go.Aev
open Go

section
variable {P : Program} {w w' : World} {A A' : Nat → Prop} {c : Ctx} {ρ : Id → Option Value} {O : Id → Option Nat} {s : St} {cc : Option Bool}

theorem addr_add (b o j : Nat) : (⟨b, o, none⟩ : Addr).add j = ⟨b, o + j, none⟩ := by
  unfold Addr.add; split
  · rename_i h; subst h; rfl
  · rfl

theorem RelAt.vals {blk : Nat} : ∀ {off : Nat} {cs : List T}, RelAt w A blk off cs → ∃ vs, RelTs w A cs vs ∧ ∀ j v, vs[j]? = some v → w.cell? ⟨blk, off + j, none⟩ = some v
  | _, [], _ => ⟨[], rfl, by simp⟩
  | off, x :: cs, h => by
    simp only [RelAt] at h
    obtain ⟨⟨v, hv, hr⟩, h2⟩ := h
    obtain ⟨vs, h3, h4⟩ := RelAt.vals h2
    refine ⟨v :: vs, ⟨v, vs, rfl, hr, h3⟩, ?_⟩
    intro j u hj
    cases j with
    | zero => simp at hj; subst hj; exact hv
    | succ j =>
      have := h4 j u (by simpa using hj)
      have e : off + 1 + j = off + (j + 1) := by omega
      rw [e] at this; exact this
theorem RelTs.one : ∀ {cs : List T} {vs : List Value}, RelTs w A cs vs → ∀ u ∈ vs, u.oneCell' = true ∧ u.cells = #[u]
  | [], vs, h, u, hu => by simp only [RelTs] at h; subst h; cases hu
  | x :: cs, vs, ⟨v, r, e, h1, h2⟩, u, hu => by
    subst e
    rcases List.mem_cons.1 hu with rfl | hu
    · exact h1.oneCell
    · exact RelTs.one h2 u hu

theorem takeK_some {R : Type} (hc : cc = none ∨ cc = some true) : ∀ {n : Nat} {cs : List T} {K : List T → Option R} {r : R}, takeK cc n cs K = some r → ∃ l, l = cs.take n ∧ l.length = n ∧ K l = some r
  | 0, cs, K, r, h => ⟨[], by simp, rfl, h⟩
  | n + 1, cs, K, r, h => by
    simp only [takeK] at h
    replace h := gdK_some h hc; obtain ⟨x, hx, h⟩ := h
    obtain ⟨l, h1, h2, h3⟩ := takeK_some hc h
    cases cs with
    | nil => simp at hx
    | cons y cs =>
      simp only [List.head?_cons, Option.some.injEq] at hx; subst hx
      exact ⟨y :: l, by simp [h1], by simp [h2], h3⟩
theorem takeAV_some : ∀ {n : Nat} {cs l : List AV}, takeAV n cs = some l → l = cs.take n ∧ l.length = n
  | 0, cs, l, h => by simp only [takeAV, Option.some.injEq] at h; subst h; simp
  | n + 1, [], l, h => by simp [takeAV] at h
  | n + 1, x :: cs, l, h => by
    simp only [takeAV] at h
    cases hq : takeAV n cs with
    | none => simp [hq] at h
    | some q =>
      simp only [hq, Option.bind_some, Option.some.injEq] at h; subst h
      obtain ⟨h1, h2⟩ := takeAV_some hq
      exact ⟨by simp [h1], by simp [h2]⟩

theorem run_loadVar_agg {t : TypeId} (ht : tyOk P t = true) (hb : isAggT P t = true) (b off : Nat) (vs : List Value) (hl : vs.length = P.cellsOf t) (h : ∀ j v, vs[j]? = some v → w.cell? ⟨b, off + j, none⟩ = some v) :
    (loadVar t ⟨b, off, none⟩).run P w = .ok (.agg vs.toArray) w := by
  unfold loadVar
  simp only [Sem.run_bind, run_isAggA ht, Result.andThen_ok, hb, if_true, run_sizeA ht, ← hl]
  rw [run_loadCells_list w ⟨b, off, none⟩ vs (fun j v hj => by rw [addr_add]; exact h j v hj)]
  rfl
theorem run_loadVar_one {t : TypeId} (ht : tyOk P t = true) (hb : isAggT P t = false) (b off : Nat) (v : Value) (h : w.cell? ⟨b, off, none⟩ = some v) :
    (loadVar t ⟨b, off, none⟩).run P w = .ok v w := by
  unfold loadVar
  simp only [Sem.run_bind, run_isAggA ht, Result.andThen_ok, hb, Bool.false_eq_true, if_false]
  rw [run_load, h]

theorem typK_sound {R : Type} {k : Ck} {x : T} {v : Value} {K : T → Option R} {r : R} (hc : cc = none ∨ cc = some true) (hr : RelT w A x v) (h : typK k cc x K = some r) :
    ∃ y, K y = some r ∧ RelT w A y v := by
  unfold typK at h
  cases k with
  | i k =>
    simp only at h
    replace h := gdK_some h hc; obtain ⟨n, hn, h⟩ := h
    rw [T.int?_eq hn] at hr; exact ⟨_, h, hr⟩
  | b =>
    simp only at h
    replace h := gdK_some h hc; obtain ⟨n, hn, h⟩ := h
    rw [T.bool?_eq hn] at hr; exact ⟨_, h, hr⟩
  | s =>
    simp only at h
    replace h := gdK_some h hc; obtain ⟨n, hn, h⟩ := h
    rw [T.str?_eq hn] at hr; exact ⟨_, h, hr⟩
  | l sz =>
    simp only at h
    replace h := gdK_some h hc; obtain ⟨p, hp, h⟩ := h
    refine ⟨_, h, ?_⟩
    rcases T.lst?_eq hp with rfl | ⟨rfl, hp2⟩
    · exact hr
    · rw [hp2]
      simp only [RelT] at hr ⊢
      rcases hr with ⟨e1, rfl⟩ | ⟨e1, blk, off, sp, rfl⟩
      · exact .inl ⟨e1, trivial, rfl⟩
      · exact .inr ⟨e1, blk, off, sp, 0, rfl, by simp, .inl trivial, trivial⟩
  | x => exact ⟨_, h, hr⟩
theorem typKs_sound {R : Type} (hc : cc = none ∨ cc = some true) : ∀ {ks : List Ck} {xs : List T} {vs : List Value} {K : List T → Option R} {r : R}, RelTs w A xs vs → typKs cc ks xs K = some r →
    ∃ ys, K ys = some r ∧ RelTs w A ys vs
  | [], xs, vs, K, r, hr, h => ⟨_, h, hr⟩
  | _ :: _, [], vs, K, r, hr, h => ⟨_, h, hr⟩
  | k :: ks, x :: xs, vs, K, r, hr, h => by
    obtain ⟨v, q, rfl, h1, h2⟩ := hr
    simp only [typKs] at h
    obtain ⟨y, h, g1⟩ := typK_sound hc h1 h
    obtain ⟨ys, h, g2⟩ := typKs_sound hc h2 h
    exact ⟨_, h, ⟨v, q, rfl, g1, g2⟩⟩

theorem typK_some {R : Type} {k : Ck} {x : T} {K : T → Option R} {r : R} (hc : cc = none ∨ cc = some true) (h : typK k cc x K = some r) :
    ∃ y, K y = some r ∧ ∀ (w : World) (A : Nat → Prop) (v : Value), RelT w A x v → RelT w A y v := by
  have e : typK k cc x K = (typK k cc x some).bind K := by rw [typK_nat]; rfl
  rw [e] at h
  obtain ⟨y, hy, h⟩ := Option.bind_eq_some_iff.1 h
  refine ⟨y, h, fun w A v hr => ?_⟩
  obtain ⟨z, hz, hr⟩ := typK_sound hc hr hy
  simp only [Option.some.injEq] at hz; subst hz; exact hr
theorem typKs_some {R : Type} {ks : List Ck} {xs : List T} {K : List T → Option R} {r : R} (hc : cc = none ∨ cc = some true) (h : typKs cc ks xs K = some r) :
    ∃ y, K y = some r ∧ ∀ (w : World) (A : Nat → Prop) (vs : List Value), RelTs w A xs vs → RelTs w A y vs := by
  have e : typKs cc ks xs K = (typKs cc ks xs some).bind K := by rw [typKs_nat]; rfl
  rw [e] at h
  obtain ⟨y, hy, h⟩ := Option.bind_eq_some_iff.1 h
  refine ⟨y, h, fun w A v hr => ?_⟩
  obtain ⟨z, hz, hr⟩ := typKs_sound hc hr hy
  simp only [Option.some.injEq] at hz; subst hz; exact hr
theorem typV_some {R : Type} {t : TypeId} {v : AV} {K : AV → Option R} {r : R} (hc : cc = none ∨ cc = some true) (h : typV P cc t v K = some r) :
    ∃ y, K y = some r ∧ ∀ (w : World) (A : Nat → Prop) (ρ : Id → Option Value) (u : Value), RelV w A ρ v u → RelV w A ρ y u := by
  unfold typV at h
  split at h
  · obtain ⟨y, h, g⟩ := typK_some hc h
    exact ⟨_, h, fun w A ρ u hr => by simp only [RelV] at hr ⊢; exact g w A u hr⟩
  · rename_i vs
    split at h
    · rename_i l hl
      obtain ⟨y, h, g⟩ := typKs_some hc h
      refine ⟨_, h, fun w A ρ u hr => ?_⟩
      simp only [RelV] at hr ⊢
      obtain ⟨ws, e, h1, h2⟩ := hr
      exact ⟨ws, e, RelVs.of_ts (g w A ws (RelTs.of_allT hl h1)), h2⟩
    · exact ⟨_, h, fun w A ρ u hr => hr⟩
  · exact ⟨_, h, fun w A ρ u hr => hr⟩
theorem typVs_some {R : Type} (hc : cc = none ∨ cc = some true) : ∀ {ts : List TypeId} {vs : List AV} {K : List AV → Option R} {r : R}, typVs P cc ts vs K = some r →
    ∃ y, K y = some r ∧ ∀ (w : World) (A : Nat → Prop) (ρ : Id → Option Value) (us : List Value), RelVs w A ρ vs us → RelVs w A ρ y us
  | [], vs, K, r, h => ⟨_, h, fun w A ρ u hr => hr⟩
  | _ :: _, [], K, r, h => ⟨_, h, fun w A ρ u hr => hr⟩
  | t :: ts, v :: vs, K, r, h => by
    simp only [typVs] at h
    obtain ⟨y, h, g1⟩ := typV_some hc h
    obtain ⟨ys, h, g2⟩ := typVs_some hc h
    refine ⟨_, h, fun w A ρ us hr => ?_⟩
    simp only [RelVs] at hr ⊢
    obtain ⟨u, q, e, h1, h2⟩ := hr
    exact ⟨u, q, e, g1 w A ρ u h1, g2 w A ρ q h2⟩

theorem loadT_sound {R : Type} {t : TypeId} (ht : tyOk P t = true) {b off : Nat} {cs : List T} {K : AV → Option R} {r : R} (hc : cc = none ∨ cc = some true) (hr : RelAt w A b off cs) (h : loadT P t cc cs K = some r) :
    ∃ av v, K av = some r ∧ (loadVar t ⟨b, off, none⟩).run P w = .ok v w ∧ RelV w A ρ av v := by
  obtain ⟨vs, h1, h2⟩ := hr.vals
  unfold loadT at h
  cases hb : isAggT P t
  · simp only [hb, cond_false] at h
    replace h := gdK_some h hc; obtain ⟨x, hx, h⟩ := h
    cases cs with
    | nil => simp at hx
    | cons y cs =>
      simp only [List.head?_cons, Option.some.injEq] at hx; subst hx
      obtain ⟨v, q, rfl, h3, _⟩ := h1
      obtain ⟨z, h, h3⟩ := typK_sound hc h3 h
      exact ⟨_, v, h, run_loadVar_one ht hb b off v (by simpa using h2 0 v rfl), by simpa [RelV] using h3⟩
  · simp only [hb, cond_true] at h
    obtain ⟨l, hl, hn, h⟩ := takeK_some hc h
    have h3 := h1.take (P.cellsOf t)
    rw [← hl] at h3
    have h4 := h3.length
    obtain ⟨ys, h, h5⟩ := typKs_sound hc h3 h
    refine ⟨_, _, h, run_loadVar_agg ht hb b off _ (by rw [h4, hn]) (fun j v hj => h2 j v ?_), ?_⟩
    · rw [List.getElem?_take] at hj; split at hj
      · exact hj
      · cases hj
    · simp only [RelV]; exact ⟨_, rfl, RelVs.of_ts h5, h3.one⟩

theorem loadV_sound {R : Type} {t : TypeId} (ht : tyOk P t = true) {b off : Nat} {cs : List AV} {vs : List Value} {K : AV → Option R} {r : R} (hr : RelVs w A ρ cs vs) (h1 : ∀ u ∈ vs, u.oneCell' = true ∧ u.cells = #[u])
    (h2 : ∀ j v, vs[j]? = some v → w.cell? ⟨b, off + j, none⟩ = some v) (h : loadV P t cs K = some r) :
    ∃ av v, K av = some r ∧ (loadVar t ⟨b, off, none⟩).run P w = .ok v w ∧ RelV w A ρ av v := by
  unfold loadV at h
  cases hb : isAggT P t
  · simp only [hb, cond_false] at h
    cases cs with
    | nil => simp at h
    | cons y cs =>
      simp only [List.head?_cons, Option.bind_some] at h
      simp only [RelVs] at hr
      obtain ⟨v, q, rfl, h3, _⟩ := hr
      exact ⟨_, v, h, run_loadVar_one ht hb b off v (by simpa using h2 0 v rfl), h3⟩
  · simp only [hb, cond_true] at h
    cases hq : takeAV (P.cellsOf t) cs with
    | none => simp [hq] at h
    | some l =>
      simp only [hq, Option.bind_some] at h
      obtain ⟨hl, hn⟩ := takeAV_some hq
      have h3 := hr.take (P.cellsOf t)
      rw [← hl] at h3
      have h4 := h3.length
      refine ⟨_, _, h, run_loadVar_agg ht hb b off _ (by rw [h4, hn]) (fun j v hj => h2 j v ?_), ?_⟩
      · rw [List.getElem?_take] at hj; split at hj
        · exact hj
        · cases hj
      · simp only [RelV]; exact ⟨_, rfl, h3, fun u hu => h1 u (List.mem_of_mem_take hu)⟩

theorem box_cells {i : Id} {cs : List AV} (hs : HS c w s.h ρ O) (hi : s.h i = some (.box cs)) : ∃ b arr t, ρ i = some (.pointer (some ⟨b, 0, none⟩)) ∧ O i = some b ∧ w.heap[b]? = some (.cells arr t (0, 0)) ∧
    RelVs w (AA c w O) ρ cs arr.toList ∧ (∀ u ∈ arr.toList, u.oneCell' = true ∧ u.cells = #[u]) ∧ ∀ j v, arr.toList[j]? = some v → w.cell? ⟨b, j, none⟩ = some v := by
  obtain ⟨b, arr, t, h1, h2, h3, h4, h5⟩ := hs.blk i _ hi
  refine ⟨b, arr, t, h1, h2, h3, h4, h5, fun j v hj => ?_⟩
  simp only [World.cell?, h3]
  simpa using hj

theorem arr_cells {i : Id} {cs : List AV} (hs : HS c w s.h ρ O) (hi : s.h i = some (.arr cs)) : ∃ b arr t, ρ i = some (.slice (some ⟨b, 0, none⟩) 1 1) ∧ O i = some b ∧ w.heap[b]? = some (.cells arr t (0, 0)) ∧
    RelVs w (AA c w O) ρ cs arr.toList ∧ (∀ u ∈ arr.toList, u.oneCell' = true ∧ u.cells = #[u]) ∧ ∀ j v, arr.toList[j]? = some v → w.cell? ⟨b, j, none⟩ = some v := by
  obtain ⟨b, arr, t, h1, h2, h3, h4, h5⟩ := hs.blk i _ hi
  refine ⟨b, arr, t, h1, h2, h3, h4, h5, fun j v hj => ?_⟩
  simp only [World.cell?, h3]
  simpa using hj

theorem sl_at {i : Id} {fz b : Bool} {sz : Nat} {l : List (List T)} (hs : HS c w s.h ρ O) (hi : s.h i = some (.sl fz sz b l)) : ∃ v, ρ i = some v ∧ SlAt w (AA c w O) sz b l v (fun blk => if fz = true then AA c w O blk else O i = some blk) := by
  obtain ⟨v, h1, h2, _⟩ := hs.blk i _ hi
  exact ⟨v, h1, h2⟩

/-! ### Rows -/
theorem RowsAt.get {i : Id} {blk sz col rsz : Nat} : ∀ {es : List Row} {base k : Nat} {e : Row}, RowsAt w A ρ O i blk sz col rsz base es → es[k]? = some e → RowAt w A ρ O i blk sz col rsz (base + k * sz) e
  | [], _, _, _, _, h => by simp at h
  | x :: es, base, 0, e, hr, h => by
    simp only [List.getElem?_cons_zero, Option.some.injEq] at h; subst h
    simpa using hr.1
  | x :: es, base, k + 1, e, hr, h => by
    have := RowsAt.get hr.2 (k := k) (by simpa using h)
    rw [show base + (k + 1) * sz = base + sz + k * sz by rw [Nat.succ_mul]; omega]; exact this
theorem RowsAt.own {i : Id} {blk sz col rsz n : Nat} {p : Bool × List (List T)} : ∀ {es : List Row} {base : Nat}, RowsAt w A ρ O i blk sz col rsz base es → findR n es = some p → ∃ v, ρ (.g i n) = some v ∧ SlAt w A rsz p.1 p.2 v (fun b => O (.g i n) = some b)
  | [], _, _, h => by simp [findR] at h
  | e :: es, base, hr, h => by
    unfold findR at h
    split at h
    · rename_i en
      obtain ⟨_, _, _, v, _, h5, h7⟩ := hr.1
      rw [h] at h7
      rw [en] at h5 h7
      exact ⟨v, h5, h7⟩
    · exact RowsAt.own hr.2 h
/-- A row of the call's own. -/
theorem row_at {i : Id} {b : Bool} {sz col rsz nx n : Nat} {es : List Row} {p : Bool × List (List T)} (hs : HS c w s.h ρ O) (hi : s.h i = some (.rows b sz col rsz nx es)) (hf : findR n es = some p) :
    ∃ v, ρ (.g i n) = some v ∧ SlAt w (AA c w O) rsz p.1 p.2 v (fun b => O (.g i n) = some b) := by
  obtain ⟨a, cap, h1, h2, h3, h4, h5⟩ := hs.blk i _ hi
  rcases h5 with h5 | ⟨blk, off, arr, t, q1, q2, q3, q4, q5⟩
  · have : es = [] := List.length_eq_zero_iff.1 (by omega)
    subst this; simp [findR] at hf
  · exact q5.own hf
theorem rowK_sound {R : Type} {i : Id} {n : Nat} {K : Nat → Bool → List (List T) → Option R} {r : R} (hs : HS c w s.h ρ O) (hc : cc = none ∨ cc = some true) (h : rowK s.h cc i n K = some r) :
    ∃ rsz b xs v, K rsz b xs = some r ∧ ρ (.g i n) = some v ∧ SlAt w (AA c w O) rsz b xs v (fun blk => O (.g i n) = some blk) := by
  unfold rowK at h
  split at h
  · rename_i hi
    replace h := gdK_some h hc; obtain ⟨p, hp, h⟩ := h
    obtain ⟨v, h1, h2⟩ := row_at hs hi hp
    exact ⟨_, _, _, v, h, h1, h2⟩
  · cases h
/-- The cells of an element that holds a slice of the call's own. -/
theorem RowAt.vals {i : Id} {blk sz col rsz base : Nat} {e : Row} (h : RowAt w A ρ O i blk sz col rsz base e) : ∃ vs : List Value, vs.length = sz ∧ (∀ j v, vs[j]? = some v → w.cell? ⟨blk, base + j, none⟩ = some v) ∧
    (∀ j x v, j ≠ col → e.cs[j]? = some x → vs[j]? = some v → RelT w A x v) ∧ ∃ v, vs[col]? = some v ∧ ρ (.g i e.n) = some v := by
  obtain ⟨h1, h2, h3, v, h4, h5, h7⟩ := h
  have hex : ∀ j, j < sz → ∃ u, w.cell? ⟨blk, base + j, none⟩ = some u := by
    intro j hj
    by_cases e1 : j = col
    · subst e1; exact ⟨v, h4⟩
    · obtain ⟨u, g, _⟩ := h3 j (e.cs[j]'(by omega)) e1 (List.getElem?_eq_getElem _)
      exact ⟨u, g⟩
  have get : ∀ j u, ((List.range sz).map fun j => (w.cell? ⟨blk, base + j, none⟩).getD undef)[j]? = some u → w.cell? ⟨blk, base + j, none⟩ = some u := by
    intro j u hj
    rw [List.getElem?_map] at hj
    obtain ⟨k, hk, hj⟩ := Option.map_eq_some_iff.1 hj
    obtain ⟨hlt, hk⟩ := List.getElem?_eq_some_iff.1 hk
    rw [List.getElem_range] at hk; subst hk
    obtain ⟨u', hu'⟩ := hex j (by simpa using hlt)
    rw [hu'] at hj ⊢
    simpa using hj
  refine ⟨_, by simp, get, fun j x u hj hx hu => ?_, v, ?_, h5⟩
  · obtain ⟨u', g1, g2⟩ := h3 j x hj hx
    rw [get j u hu] at g1; cases g1; exact g2
  · rw [List.getElem?_map, List.getElem?_range h2]
    simp [h4]
theorem RelVs.of_get : ∀ {as : List AV} {vs : List Value}, as.length = vs.length → (∀ (j : Nat) (a : AV) (v : Value), as[j]? = some a → vs[j]? = some v → RelV w A ρ a v) → RelVs w A ρ as vs
  | [], [], _, _ => by simp [RelVs]
  | [], _ :: _, h, _ => by simp at h
  | _ :: _, [], h, _ => by simp at h
  | a :: as, v :: vs, h, hr => by
    simp only [RelVs]
    exact ⟨v, vs, rfl, hr 0 a v rfl rfl, RelVs.of_get (by simpa using h) fun j a v h1 h2 => hr (j + 1) a v (by simpa using h1) (by simpa using h2)⟩
theorem typKs_row {R : Type} (hc : cc = none ∨ cc = some true) : ∀ {ks : List Ck} {xs : List T} {vs : List Value} {col : Nat} {K : List T → Option R} {r : R}, xs.length = vs.length → (∀ (j : Nat) (x : T) (v : Value), j ≠ col → xs[j]? = some x → vs[j]? = some v → RelT w A x v) →
    (∀ k, ks[col]? = some k → k = .x) → typKs cc ks xs K = some r → ∃ ys, K ys = some r ∧ ys.length = vs.length ∧ ∀ j x v, j ≠ col → ys[j]? = some x → vs[j]? = some v → RelT w A x v
  | [], xs, vs, col, K, r, hl, hr, hk, h => ⟨xs, h, hl, hr⟩
  | k :: ks, [], vs, col, K, r, hl, hr, hk, h => ⟨[], h, hl, by simp⟩
  | k :: ks, x :: xs, [], col, K, r, hl, hr, hk, h => by simp at hl
  | k :: ks, x :: xs, v :: vs, 0, K, r, hl, hr, hk, h => by
    simp only [typKs] at h
    have : k = .x := hk k rfl
    subst this
    simp only [typK] at h
    have hts : RelTs w A xs vs := by
      have gen : ∀ (xs : List T) (vs : List Value), xs.length = vs.length → (∀ (j : Nat) (x : T) (v : Value), xs[j]? = some x → vs[j]? = some v → RelT w A x v) → RelTs w A xs vs := by
        intro xs
        induction xs with
        | nil => intro vs hl _; cases vs; rfl; simp at hl
        | cons x xs ih =>
          intro vs hl hr
          cases vs with
          | nil => simp at hl
          | cons v vs => exact ⟨v, vs, rfl, hr 0 x v rfl rfl, ih vs (by simpa using hl) fun j x v h1 h2 => hr (j + 1) x v (by simpa using h1) (by simpa using h2)⟩
      exact gen xs vs (by simpa using hl) fun j x v h1 h2 => hr (j + 1) x v (by omega) (by simpa using h1) (by simpa using h2)
    obtain ⟨ys, h, g⟩ := typKs_sound hc hts h
    have gl := g.length
    refine ⟨_, h, by simp; omega, fun j y u hj hy hu => ?_⟩
    cases j with
    | zero => exact (hj rfl).elim
    | succ j =>
      simp only [List.getElem?_cons_succ] at hy hu
      have : ∀ (ys : List T) (vs : List Value) (j : Nat), RelTs w A ys vs → ys[j]? = some y → vs[j]? = some u → RelT w A y u := by
        intro ys
        induction ys with
        | nil => intro vs j _ h; simp at h
        | cons a ys ih =>
          rintro vs j ⟨v', q, rfl, g1, g2⟩ h1 h2
          cases j with
          | zero => simp at h1 h2; subst h1; subst h2; exact g1
          | succ j => exact ih q j g2 (by simpa using h1) (by simpa using h2)
      exact this ys vs j g hy hu
  | k :: ks, x :: xs, v :: vs, col + 1, K, r, hl, hr, hk, h => by
    simp only [typKs] at h
    obtain ⟨y, h, g1⟩ := typK_sound hc (hr 0 x v (by omega) rfl rfl) h
    obtain ⟨ys, h, g2, g3⟩ := typKs_row hc (col := col) (by simpa using hl) (fun j x v hj h1 h2 => hr (j + 1) x v (by omega) (by simpa using h1) (by simpa using h2)) (fun k hk' => hk k (by simpa using hk')) h
    refine ⟨_, h, by simp [g2], fun j y' u hj hy hu => ?_⟩
    cases j with
    | zero => simp at hy hu; subst hy; subst hu; exact g1
    | succ j => exact g3 j y' u (by omega) (by simpa using hy) (by simpa using hu)
theorem loadR_sound {R : Type} {t : TypeId} {i : Id} {blk sz col rsz base off : Nat} {e : Row} {h : Id → Option Blk} {K : AV → Option R} {r : R} (hs : HS c w h ρ O) (ht : tyOk P t = true) (hc : cc = none ∨ cc = some true) (hr : RowAt w (AA c w O) ρ O i blk sz col rsz base e) (hk : loadR P t cc i sz col off e K = some r) :
    ∃ av v, K av = some r ∧ (loadVar t ⟨blk, base + off, none⟩).run P w = .ok v w ∧ RelV w (AA c w O) ρ av v := by
  unfold loadR at hk
  cases hb : isAggT P t
  · simp only [hb, cond_false] at hk
    split at hk
    · rename_i e1; subst e1
      obtain ⟨_, _, _, v, h4, h5, _⟩ := hr
      exact ⟨_, v, hk, run_loadVar_one ht hb _ _ v h4, by simp only [RelV]; exact h5⟩
    · rename_i hne
      replace hk := gdK_some hk hc; obtain ⟨x, hx, hk⟩ := hk
      have hx' : e.cs[off]? = some x := by rw [List.head?_drop] at hx; exact hx
      obtain ⟨u, g1, g2⟩ := hr.2.2.1 off x hne hx'
      obtain ⟨y, hk, g3⟩ := typK_sound hc g2 hk
      exact ⟨_, u, hk, run_loadVar_one ht hb _ _ u g1, by simp only [RelV]; exact g3⟩
  · simp only [hb, cond_true] at hk
    split at hk
    · rename_i hcond
      obtain ⟨rfl, hsz⟩ := hcond
      obtain ⟨l, hl, hn, hk⟩ := takeK_some hc hk
      have hlen := hr.1
      have hl' : l = e.cs := by rw [hl, List.take_of_length_le (by omega)]
      subst hl'
      obtain ⟨vs, v1, v2, v3, vc, v4, v5⟩ := hr.vals
      have hcol := hr.2.1
      obtain ⟨ys, hk, g1, g2⟩ := typKs_row hc (ks := (aggK P t).set col .x) (col := col) (by omega) v3 (fun k hk => by
        rw [List.getElem?_set] at hk
        simp only [if_true] at hk
        split at hk
        · simpa using hk.symm
        · cases hk) hk
      refine ⟨_, .agg vs.toArray, hk, ?_, ?_⟩
      · rw [Nat.add_zero]
        exact run_loadVar_agg ht hb _ _ vs (by omega) v2
      · simp only [RelV]
        refine ⟨vs, rfl, RelVs.of_get (by simp [g1]) fun j a v ha hv => ?_, fun u hu => ?_⟩
        · rw [List.getElem?_set] at ha
          by_cases e1 : col = j
          · subst e1
            rw [if_pos rfl] at ha
            split at ha
            · simp only [Option.some.injEq] at ha; subst ha
              rw [v4] at hv; cases hv
              simp only [RelV]; exact v5
            · cases ha
          · rw [if_neg e1, List.getElem?_map] at ha
            obtain ⟨x, hx, rfl⟩ := Option.map_eq_some_iff.1 ha
            simp only [RelV]; exact g2 j x v (fun e => e1 e.symm) hx hv
        · obtain ⟨j, hj⟩ := List.mem_iff_getElem?.1 hu
          by_cases e1 : j = col
          · subst e1; rw [v4] at hj; cases hj; exact hs.gone _ _ _ v5
          · have hjl : j < ys.length := by have := (List.getElem?_eq_some_iff.1 hj).1; omega
            exact (g2 j _ u e1 (List.getElem?_eq_getElem hjl) hj).oneCell
    · cases hk
theorem loadAV_sound {R : Type} {t : TypeId} {a : AV} {va : Value} {K : AV → Option R} {r : R} (hs : HS c w s.h ρ O) (hx : RelV w (AA c w O) ρ a va) (hc : cc = none ∨ cc = some true) (h : loadAV P s cc t a K = some r) :
    ∃ av v, K av = some r ∧ (Instr.loadAt t va).run P w = .ok v w ∧ RelV w (AA c w O) ρ av v := by
  unfold loadAV at h
  cases ht : tyOk P t
  · simp [ht] at h
  simp only [ht, cond_true] at h
  split at h
  · rename_i i off
    split at h
    · rename_i cs hi
      obtain ⟨b, arr, t', h1, h2, h3, h4, h5, h6⟩ := box_cells hs hi
      simp only [RelV] at hx
      obtain ⟨b', e1, rfl⟩ := hx
      rw [h1] at e1; simp only [Option.some.injEq, Value.pointer.injEq, Addr.mk.injEq] at e1
      obtain ⟨rfl, _⟩ := e1
      obtain ⟨av, v, g1, g2, g3⟩ := loadV_sound (b := b) (off := off) ht (h4.drop off) (fun u hu => h5 u (List.mem_of_mem_drop hu)) (fun j v hj => h6 _ v (by rw [List.getElem?_drop] at hj; exact hj)) h
      exact ⟨av, v, g1, by simpa [Instr.loadAt, Instr.sureAddr] using g2, g3⟩
    · rename_i l hi
      obtain ⟨b, h1, h2, h3, h4⟩ := hs.blk i _ hi
      simp only [RelV] at hx
      obtain ⟨b', e1, rfl⟩ := hx
      rw [h1] at e1; simp only [Option.some.injEq, Value.pointer.injEq, Addr.mk.injEq] at e1
      obtain ⟨rfl, _⟩ := e1
      have h5 := h4.drop off
      rw [Nat.zero_add] at h5
      obtain ⟨av, v, g1, g2, g3⟩ := loadT_sound ht hc h5 h
      exact ⟨av, v, g1, by simpa [Instr.loadAt, Instr.sureAddr] using g2, g3⟩
    · simp at h
  · rename_i i sz k off
    split at h
    · rename_i fz sz' bb xs hi
      split at h
      · rename_i hsz; subst hsz
        replace h := gdK_some h hc; obtain ⟨cs, hk, h⟩ := h
        obtain ⟨v, h1, h2⟩ := sl_at hs hi
        simp only [RelV] at hx
        obtain ⟨b, o, L, cap, e1, rfl⟩ := hx
        rw [h1] at e1; simp only [Option.some.injEq] at e1; subst e1
        obtain ⟨a', cap', g1, g2, g3, g4, g5⟩ := h2
        simp only [Value.slice.injEq] at g1
        obtain ⟨rfl, rfl, rfl⟩ := g1
        have hlt : k < xs.length := (List.getElem?_eq_some_iff.1 hk).1
        rcases g5 with g5 | ⟨blk, off', arr, t', g6, g7, g8, g9, g10⟩
        · omega
        · simp only [Option.some.injEq, Addr.mk.injEq] at g6
          obtain ⟨rfl, rfl, _⟩ := g6
          obtain ⟨_, g11⟩ := g10.get hk
          obtain ⟨av, v, q1, q2, q3⟩ := loadT_sound (ρ := ρ) ht hc (g11.drop off) h
          exact ⟨av, v, q1, by simpa [Instr.loadAt, Instr.sureAddr] using q2, q3⟩
      · simp at h
    · rename_i bb sz' col rsz nx es hi
      split at h
      · rename_i hsz; subst hsz
        replace h := gdK_some h hc; obtain ⟨e, hk, h⟩ := h
        obtain ⟨a, cap, h1, h2, h3, h4, h5⟩ := hs.blk i _ hi
        simp only [RelV] at hx
        obtain ⟨b, o, L, cap', e1, rfl⟩ := hx
        rw [h1] at e1; simp only [Option.some.injEq, Value.slice.injEq] at e1
        obtain ⟨rfl, rfl, rfl⟩ := e1
        have hlt : k < es.length := (List.getElem?_eq_some_iff.1 hk).1
        rcases h5 with h5 | ⟨blk, off', arr, t', g6, g7, g8, g9, g10⟩
        · omega
        · simp only [Option.some.injEq, Addr.mk.injEq] at g6
          obtain ⟨rfl, rfl, _⟩ := g6
          obtain ⟨av, v, q1, q2, q3⟩ := loadR_sound hs ht hc (g10.get hk) h
          exact ⟨av, v, q1, by simpa [Instr.loadAt, Instr.sureAddr] using q2, q3⟩
      · simp at h
    · simp at h
  · rename_i i sz n k off
    replace h := rowK_sound hs hc h; obtain ⟨rsz, bb, xs, v, h, hv, hsl⟩ := h
    split at h
    · rename_i hsz; subst hsz
      replace h := gdK_some h hc; obtain ⟨cs, hk, h⟩ := h
      simp only [RelV] at hx
      obtain ⟨b, o, L, cap, e1, rfl⟩ := hx
      rw [hv] at e1; simp only [Option.some.injEq] at e1; subst e1
      obtain ⟨a', cap', g1, g2, g3, g4, g5⟩ := hsl
      simp only [Value.slice.injEq] at g1
      obtain ⟨rfl, rfl, rfl⟩ := g1
      have hlt : k < xs.length := (List.getElem?_eq_some_iff.1 hk).1
      rcases g5 with g5 | ⟨blk, off', arr, t', g6, g7, g8, g9, g10⟩
      · omega
      · simp only [Option.some.injEq, Addr.mk.injEq] at g6
        obtain ⟨rfl, rfl, _⟩ := g6
        obtain ⟨_, g11⟩ := g10.get hk
        obtain ⟨av, v, q1, q2, q3⟩ := loadT_sound (ρ := ρ) ht hc (g11.drop off) h
        exact ⟨av, v, q1, by simpa [Instr.loadAt, Instr.sureAddr] using q2, q3⟩
    · simp at h
  · rename_i x
    replace h := gdK_some h hc; obtain ⟨cs, hk, h⟩ := h
    have := T.ptr?_eq hk; subst this
    simp only [RelV, RelT] at hx
    obtain ⟨blk, off, rfl, h1, h2⟩ := hx
    obtain ⟨av, v, q1, q2, q3⟩ := loadT_sound (ρ := ρ) ht hc h2 h
    exact ⟨av, v, q1, by simpa [Instr.loadAt, Instr.sureAddr] using q2, q3⟩
  · simp at h

/-! ### Addresses -/
theorem fieldT_some {t : TypeId} {f : Nat} {p : Nat × TypeId} (h : fieldT P t f = some p) : ∃ fs x, P.underlying t = some (.struct fs) ∧ fs[f]? = some x ∧ p = (x.offset, x.type) ∧ tyOk P p.2 = true := by
  unfold fieldT at h
  split at h
  · rename_i fs hu
    split at h
    · rename_i x hx
      cases ht : tyOk P x.type
      · simp [ht] at h
      · simp only [ht, cond_true, Option.some.injEq] at h
        subst h
        exact ⟨fs, x, hu, hx, rfl, ht⟩
    · simp at h
  · simp at h
theorem elemT_some {t e : TypeId} (h : elemT P t = some e) : P.underlying t = some (.slice e) ∧ tyOk P e = true := by
  unfold elemT at h
  split at h
  · rename_i e' hu
    cases ht : tyOk P e'
    · simp [ht] at h
    · simp only [ht, cond_true, Option.some.injEq] at h; subst h; exact ⟨hu, ht⟩
  · simp at h
theorem arrT_some {t : TypeId} {p : Nat × TypeId} (h : arrT P t = some p) : P.underlying t = some (.array p.1 p.2) ∧ tyOk P p.2 = true := by
  unfold arrT at h
  split at h
  · rename_i n e' hu
    cases ht : tyOk P e'
    · simp [ht] at h
    · simp only [ht, cond_true, Option.some.injEq] at h; subst h; exact ⟨hu, ht⟩
  · simp at h

theorem fieldAddrAV_sound {R : Type} {t : TypeId} {x : AV} {vx : Value} {f : Nat} {K : AV → Option R} {r : R} (hx : RelV w A ρ x vx) (hc : cc = none ∨ cc = some true) (h : fieldAddrAV P cc t x f K = some r) :
    ∃ av v, K av = some r ∧ (Instr.fieldAt t vx f).run P w = .ok v w ∧ RelV w A ρ av v := by
  unfold fieldAddrAV at h
  split at h
  · rename_i off u hf
    obtain ⟨fs, y, h1, h2, h3, h4⟩ := fieldT_some hf
    simp only [Prod.mk.injEq] at h3
    obtain ⟨rfl, rfl⟩ := h3
    split at h
    · simp at h
    · rename_i hz
      have run : ∀ b o, (Instr.fieldAt t (.pointer (some ⟨b, o, none⟩)) f).run P w = .ok (.pointer (some ⟨b, o + y.offset, none⟩)) w := by
        intro b o
        simp [Instr.fieldAt, run_underlying h1, h2, Instr.sureAddr, fieldPlace, run_sizeA h4, hz, addr_add]
      split at h
      · rename_i j o
        simp only [RelV] at hx
        obtain ⟨b, e1, rfl⟩ := hx
        exact ⟨_, _, h, run _ _, by simp only [RelV]; exact ⟨b, e1, rfl⟩⟩
      · rename_i j sz k o
        simp only [RelV] at hx
        obtain ⟨b, o', L, cap, e1, rfl⟩ := hx
        exact ⟨_, _, h, run _ _, by simp only [RelV]; exact ⟨b, o', L, cap, e1, by rw [Nat.add_assoc]⟩⟩
      · rename_i j sz n k o
        simp only [RelV] at hx
        obtain ⟨b, o', L, cap, e1, rfl⟩ := hx
        exact ⟨_, _, h, run _ _, by simp only [RelV]; exact ⟨b, o', L, cap, e1, by rw [Nat.add_assoc]⟩⟩
      · rename_i y'
        replace h := gdK_some h hc; obtain ⟨cs, hk, h⟩ := h
        have := T.ptr?_eq hk; subst this
        simp only [RelV, RelT] at hx
        obtain ⟨blk, o, rfl, g1, g2⟩ := hx
        refine ⟨_, _, h, run _ _, ?_⟩
        simp only [RelV, RelT]
        refine ⟨blk, _, rfl, ?_, g2.drop _⟩
        rcases g1 with rfl | g1
        · exact .inl (by simp)
        · exact .inr g1
      · simp at h
  · simp at h

theorem idxOk_some {R : Type} {i : Int} {n : Nat} {K : Option R} {r : R} (hc : cc = none ∨ cc = some true) (h : idxOk cc i n K = some r) : 0 ≤ i ∧ i < n ∧ K = some r := by
  unfold idxOk at h
  replace h := gdK_some h hc; obtain ⟨_, h1, h⟩ := h
  split at h1
  · rename_i h2; exact ⟨h2.1, h2.2, h⟩
  · simp at h1

theorem indexAddrAV_sound {R : Type} {t : TypeId} {x : AV} {vx : Value} {i : Int} {ki : IntKind} {K : AV → Option R} {r : R} (hs : HS c w s.h ρ O) (hx : RelV w (AA c w O) ρ x vx) (hc : cc = none ∨ cc = some true) (h : indexAddrAV P s cc t x i K = some r) :
    ∃ av v, K av = some r ∧ (Instr.indexAt t vx (.int ki i)).run P w = .ok v w ∧ RelV w (AA c w O) ρ av v := by
  unfold indexAddrAV at h
  split at h
  · rename_i e he
    obtain ⟨hu, hok⟩ := elemT_some he
    have run : ∀ b o len cap, 0 ≤ i → i < (len : Nat) → (Instr.indexAt t (.slice (some ⟨b, o, none⟩) len cap) (.int ki i)).run P w = .ok (.pointer (some ⟨b, o + i.toNat * P.cellsOf e, none⟩)) w := by
      intro b o len cap h0 h1
      simp [Instr.indexAt, asIntOf, run_underlying hu, h0, h1, run_sizeA hok, addr_add]
    split at h
    · rename_i j
      split at h
      · rename_i fz sz bb xs hj
        split at h
        · rename_i hsz; subst hsz
          obtain ⟨h0, h1, h⟩ := idxOk_some hc h
          obtain ⟨v, g1, g2⟩ := sl_at hs hj
          simp only [RelV] at hx
          rw [g1] at hx; simp only [Option.some.injEq] at hx; subst hx
          obtain ⟨a', cap', q1, q2, q3, q4, q5⟩ := g2
          rcases q5 with q5 | ⟨blk, off', arr, t', q6, q7, q8, q9, q10⟩
          · omega
          · subst q6; subst q1
            exact ⟨_, _, h, run _ _ _ _ h0 h1, by simp only [RelV]; exact ⟨blk, off', _, _, g1, by simp⟩⟩
        · simp at h
      · rename_i bb sz col rsz nx es hj
        split at h
        · rename_i hsz; subst hsz
          obtain ⟨h0, h1, h⟩ := idxOk_some hc h
          obtain ⟨a, cap, g1, g2, g3, g4, g5⟩ := hs.blk j _ hj
          simp only [RelV] at hx
          rw [g1] at hx; simp only [Option.some.injEq] at hx; subst hx
          rcases g5 with g5 | ⟨blk, off', arr, t', q6, q7, q8, q9, q10⟩
          · omega
          · subst q6
            exact ⟨_, _, h, run _ _ _ _ h0 h1, by simp only [RelV]; exact ⟨blk, off', _, _, g1, by simp⟩⟩
        · simp at h
      · simp at h
    · rename_i j n
      replace h := rowK_sound hs hc h; obtain ⟨rsz, bb, xs, v, h, hv, hsl⟩ := h
      split at h
      · rename_i hsz; subst hsz
        obtain ⟨h0, h1, h⟩ := idxOk_some hc h
        simp only [RelV] at hx
        rw [hv] at hx; simp only [Option.some.injEq] at hx; subst hx
        obtain ⟨a', cap', q1, q2, q3, q4, q5⟩ := hsl
        rcases q5 with q5 | ⟨blk, off', arr, t', q6, q7, q8, q9, q10⟩
        · omega
        · subst q6; subst q1
          exact ⟨_, _, h, run _ _ _ _ h0 h1, by simp only [RelV]; exact ⟨blk, off', _, _, hv, by simp⟩⟩
      · simp at h
    · rename_i j sz off n
      split at h
      · rename_i fz sz' bb xs hj
        split at h
        · rename_i hsz
          obtain ⟨rfl, rfl⟩ := hsz
          obtain ⟨h0, h1, h⟩ := idxOk_some hc h
          obtain ⟨v, g1, g2⟩ := sl_at hs hj
          simp only [RelV] at hx
          obtain ⟨a, L, cap, a', e1, e2, e3, rfl, e4⟩ := hx
          rw [g1] at e1; simp only [Option.some.injEq] at e1; subst e1
          obtain ⟨a'', cap'', q1, q2, q3, q4, q5⟩ := g2
          simp only [Value.slice.injEq] at q1
          obtain ⟨rfl, rfl, rfl⟩ := q1
          rcases q5 with q5 | ⟨blk, off', arr, t', q6, q7, q8, q9, q10⟩
          · omega
          · subst q6
            have ea : a' = some ⟨blk, off' + off * P.cellsOf e, none⟩ := by
              rcases e4 with ⟨rfl, rfl⟩ | ⟨rfl, _⟩ | ⟨b, o, e5, e6⟩
              · simp
              · omega
              · simp only [Option.some.injEq, Addr.mk.injEq] at e5
                obtain ⟨rfl, rfl, _⟩ := e5
                exact e6
            subst ea
            refine ⟨_, _, h, run _ _ _ _ h0 h1, ?_⟩
            simp only [RelV]
            exact ⟨blk, off', _, _, g1, by congr 3; rw [Nat.add_mul]; omega⟩
        · simp at h
      · simp at h
    · rename_i y
      replace h := gdK_some h hc; obtain ⟨p, hp, h⟩ := h
      obtain ⟨h0, h1, h⟩ := idxOk_some hc h
      replace h := gdK_some h hc; obtain ⟨cs, hk, h⟩ := h
      rcases T.lst?_eq hp with rfl | ⟨rfl, hp2⟩
      · simp only [RelV, RelT] at hx
        rcases hx with ⟨_, e, _⟩ | ⟨_, blk, off, sp, cap, rfl, g1, g2, g3⟩
        · rw [e] at h1; simp at h1; omega
        · rcases g2 with g2 | ⟨rfl, g2⟩
          · rw [g2] at hk; simp at hk
          refine ⟨_, _, h, run _ _ _ _ h0 h1, ?_⟩
          obtain ⟨g4, g5⟩ := g3.get hk
          simp only [RelV, RelT]
          exact ⟨blk, _, rfl, .inr g2, g5⟩
      · rw [hp2] at h1; simp at h1; omega
    · simp at h
  · split at h
    · rename_i n e he
      obtain ⟨hu, hok⟩ := arrT_some he
      obtain ⟨h0, h1, h⟩ := idxOk_some hc h
      have run : ∀ b o, (Instr.indexAt t (.pointer (some ⟨b, o, none⟩)) (.int ki i)).run P w = .ok (.pointer (some ⟨b, o + i.toNat * P.cellsOf e, none⟩)) w := by
        intro b o
        simp [Instr.indexAt, asIntOf, run_underlying hu, Instr.sureAddr, h0, h1, run_sizeA hok, addr_add]
      split at h
      · rename_i j off
        simp only [RelV] at hx
        obtain ⟨b, e1, rfl⟩ := hx
        exact ⟨_, _, h, run _ _, by simp only [RelV]; exact ⟨b, e1, rfl⟩⟩
      · rename_i j sz k off
        simp only [RelV] at hx
        obtain ⟨b, o', L, cap, e1, rfl⟩ := hx
        exact ⟨_, _, h, run _ _, by simp only [RelV]; exact ⟨b, o', L, cap, e1, by rw [Nat.add_assoc]⟩⟩
      · rename_i y
        replace h := gdK_some h hc; obtain ⟨cs, hk, h⟩ := h
        have := T.ptr?_eq hk; subst this
        simp only [RelV, RelT] at hx
        obtain ⟨blk, o, rfl, g1, g2⟩ := hx
        refine ⟨_, _, h, run _ _, ?_⟩
        simp only [RelV, RelT]
        refine ⟨blk, _, rfl, ?_, g2.drop _⟩
        rcases g1 with rfl | g1
        · exact .inl (by simp)
        · exact .inr g1
      · simp at h
    · simp at h

end
end Go.Aev
