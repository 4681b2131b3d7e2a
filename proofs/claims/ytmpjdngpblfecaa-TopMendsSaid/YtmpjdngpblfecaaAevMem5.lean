/-
  Slices that the call makes: written out, made, appended to.
-/
import Derived.Test.YtmpjdngpblfecaaAevMem4
set_option linter.unusedSimpArgs false
set_option linter.unusedVariables false
namespace Go.Aev
open Go

section
variable {P : Program} {w w' : World} {A A' : Nat → Prop} {c : Ctx} {ρ : Id → Option Value} {O : Id → Option Nat} {s : St} {cc : Option Bool} {h : Id → Option Blk}

def RelLs (w : World) (A : Nat → Prop) (sz : Nat) : List (List T) → List (List Value) → Prop
  | [], vss => vss = []
  | cs :: xs, vss => ∃ vs r, vss = vs :: r ∧ cs.length = sz ∧ RelTs w A cs vs ∧ RelLs w A sz xs r

theorem RelLs.mono {sz : Nat} (hA : ∀ b, A b → A' b ∧ w'.heap[b]? = w.heap[b]?) : ∀ {xs : List (List T)} {vss : List (List Value)}, RelLs w A sz xs vss → RelLs w' A' sz xs vss
  | [], _, h => h
  | cs :: xs, vss, ⟨vs, r, e, h1, h2, h3⟩ => ⟨vs, r, e, h1, RelTs.mono hA cs vs h2, RelLs.mono hA h3⟩
theorem RelLs.length {sz : Nat} : ∀ {xs : List (List T)} {vss : List (List Value)}, RelLs w A sz xs vss → vss.length = xs.length ∧ vss.flatten.length = xs.length * sz
  | [], vss, h => by simp only [RelLs] at h; subst h; simp
  | cs :: xs, vss, ⟨vs, r, e, h1, h2, h3⟩ => by
    subst e
    obtain ⟨g1, g2⟩ := RelLs.length h3
    have := h2.length
    refine ⟨by simp [g1], ?_⟩
    simp only [List.flatten_cons, List.length_append, g2, this, h1, List.length_cons, Nat.succ_mul]
    omega
theorem RelLs.one {sz : Nat} : ∀ {xs : List (List T)} {vss : List (List Value)}, RelLs w A sz xs vss → ∀ u ∈ vss.flatten, u.oneCell' = true ∧ u.cells = #[u]
  | [], vss, h, u, hu => by simp only [RelLs] at h; subst h; simp at hu
  | cs :: xs, vss, ⟨vs, r, e, h1, h2, h3⟩, u, hu => by
    subst e
    simp only [List.flatten_cons, List.mem_append] at hu
    rcases hu with hu | hu
    · exact h2.one u hu
    · exact RelLs.one h3 u hu
theorem RelLs.append {sz : Nat} : ∀ {xs ys : List (List T)} {vss uss : List (List Value)}, RelLs w A sz xs vss → RelLs w A sz ys uss → RelLs w A sz (xs ++ ys) (vss ++ uss)
  | [], _, vss, _, h, h' => by simp only [RelLs] at h; subst h; simpa using h'
  | cs :: xs, ys, vss, uss, ⟨vs, r, e, h1, h2, h3⟩, h' => by
    subst e
    exact ⟨vs, r ++ uss, rfl, h1, h2, RelLs.append h3 h'⟩
theorem RelEls.vals {blk sz : Nat} : ∀ {off : Nat} {xs : List (List T)}, RelEls w A blk sz off xs → ∃ vss, RelLs w A sz xs vss ∧ ∀ p v, vss.flatten[p]? = some v → w.cell? ⟨blk, off + p, none⟩ = some v
  | _, [], _ => ⟨[], rfl, by simp⟩
  | off, cs :: xs, h => by
    simp only [RelEls] at h
    obtain ⟨vs, h1, h2⟩ := h.2.1.vals
    obtain ⟨r, h3, h4⟩ := RelEls.vals h.2.2
    refine ⟨vs :: r, ⟨vs, r, rfl, h.1, h1, h3⟩, fun p v hp => ?_⟩
    have hl := h1.length
    rw [h.1] at hl
    rw [List.flatten_cons] at hp
    by_cases hlt : p < sz
    · rw [List.getElem?_append_left (by omega)] at hp
      exact h2 p v hp
    · rw [List.getElem?_append_right (by omega), hl] at hp
      have := h4 _ v hp
      rw [show off + sz + (p - sz) = off + p by omega] at this
      exact this
theorem RelEls.of_vals {blk sz : Nat} : ∀ {off : Nat} {xs : List (List T)} {vss : List (List Value)}, RelLs w A sz xs vss → (∀ p v, vss.flatten[p]? = some v → w.cell? ⟨blk, off + p, none⟩ = some v) → RelEls w A blk sz off xs
  | _, [], _, _, _ => by simp [RelEls]
  | off, cs :: xs, vss, ⟨vs, r, e, h1, h2, h3⟩, hv => by
    subst e
    have hl := h2.length
    rw [h1] at hl
    simp only [RelEls]
    refine ⟨h1, RelAt.of_vals h2 (fun j v hj => hv j v ?_), RelEls.of_vals h3 (fun p v hp => ?_)⟩
    · rw [List.flatten_cons, List.getElem?_append_left (List.getElem?_eq_some_iff.1 hj).1]; exact hj
    · have := hv (sz + p) v (by rw [List.flatten_cons, List.getElem?_append_right (by omega), hl, show sz + p - sz = p by omega]; exact hp)
      rw [show off + sz + p = off + (sz + p) by omega]; exact this

/-! ### A new slice in a new block -/
theorem HS.newSl {i : Id} (hs : HS c w h ρ O) (hi : h i = none) {xs : List (List T)} {vss : List (List Value)} {sz : Nat} (t : TypeId) (cells : Array Value) (cap : Nat) (hr : RelLs w (AA c w O) sz xs vss)
    (hc : ∀ (p : Nat) (v : Value), vss.flatten[p]? = some v → cells[p]? = some v) (hcap : xs.length ≤ cap) (hsz : cap * sz ≤ cells.size) (hrl : i.real = true := by rfl) :
    Le w ρ O (w.alloc (.cells cells t)) (upd ρ i (some (.slice (some ⟨w.heap.size, 0, none⟩) xs.length cap))) (upd O i (some w.heap.size)) ∧
    HS c (w.alloc (.cells cells t)) (upd h i (some (.sl false sz false xs))) (upd ρ i (some (.slice (some ⟨w.heap.size, 0, none⟩) xs.length cap))) (upd O i (some w.heap.size)) := by
  have le := Le.alloc hs hrl hi (.cells cells t) (.slice (some ⟨w.heap.size, 0, none⟩) xs.length cap) (some w.heap.size) (.inr rfl)
  refine ⟨le, hs.alloc hrl hi _ _ _ (.inr rfl) _ ⟨_, by rw [upd_same], ⟨some ⟨w.heap.size, 0, none⟩, cap, rfl, hcap, by simp, trivial, .inr ⟨w.heap.size, 0, cells, t, rfl, by simp, heap_new _, by omega, ?_⟩⟩, by simp⟩⟩
  refine RelEls.of_vals (RelLs.mono (fun b hb => le.A b hb) hr) (fun p v hp => ?_)
  rw [cell_block (heap_new _), Nat.zero_add]; exact hc p v hp

theorem elemsAV_sound {a : Act} {g : Option Gs} {e : TypeId} (hs : HS c w s.h ρ O) (ht : SS w (AA c w O) ρ s.t a.tmps) (hr : Runs a.tmps g) {O' : Id → Option Nat} (le : Le w ρ O w ρ O') (hO' : ∀ i, O' i = O i ∨ O' i = none) :
    ∀ {ps : List (Nat × Operand)} {n : Nat} {q : List (List T) × Upd}, elemsAV P s.h e (s.get g) n ps = some q → (∀ p ∈ q.2, O' p.1 = none) →
      ∃ vs : List Value, (ps.map fun x => (x.1, a.eval x.2)) = ((vs.zipIdx n).map fun x => (x.2, x.1)) ∧ RelLs w (AA c w O') (P.cellsOf e) q.1 (vs.map fun v => v.cells.toList) ∧ (∀ v ∈ vs, v.cells.size = P.cellsOf e)
  | [], n, q, hq, _ => by simp only [elemsAV, Option.some.injEq] at hq; subst hq; exact ⟨[], rfl, by simp [RelLs], by simp⟩
  | (k, o) :: ps, n, q, hq, hf => by
    simp only [elemsAV] at hq
    obtain ⟨l, hl, hq⟩ := Option.bind_eq_some_iff.1 hq
    split at hq
    · rename_i hcond
      obtain ⟨rfl, hlen⟩ := hcond
      obtain ⟨q', hq', hq⟩ := Option.bind_eq_some_iff.1 hq
      simp only [Option.some.injEq] at hq; subst hq
      simp only [List.mem_append] at hf
      obtain ⟨vs, e1, e2, e3⟩ := elemsAV_sound hs ht hr le hO' hq' (fun p hp => hf p (.inr hp))
      have hv := SS.get (h := s.h) ht hr o
      obtain ⟨g1, g2⟩ := snap_frozen hs hv hl le hO' (fun p hp => hf p (.inl hp))
      have gl := g1.length
      refine ⟨a.eval o :: vs, ?_, ⟨_, _, rfl, hlen, g1, e2⟩, ?_⟩
      · simp only [List.map_cons, List.zipIdx_cons, e1]
      · intro v hv'
        rcases List.mem_cons.1 hv' with rfl | hv'
        · rw [← Array.length_toList, gl, hlen]
        · exact e3 v hv'
    · simp at hq
theorem elemsAV_frz {e : TypeId} {ev : Operand → AV} : ∀ {ps : List (Nat × Operand)} {n : Nat} {q : List (List T) × Upd}, elemsAV P h e ev n ps = some q → FrzOk h q.2 ∧ q.1.length = ps.length
  | [], n, q, hq => by simp only [elemsAV, Option.some.injEq] at hq; subst hq; exact ⟨(fun p hp => by cases hp), rfl⟩
  | (k, o) :: ps, n, q, hq => by
    simp only [elemsAV] at hq
    obtain ⟨l, hl, hq⟩ := Option.bind_eq_some_iff.1 hq
    split at hq
    · obtain ⟨q', hq', hq⟩ := Option.bind_eq_some_iff.1 hq
      simp only [Option.some.injEq] at hq; subst hq
      obtain ⟨e1, e2⟩ := elemsAV_frz hq'
      exact ⟨(frz_ok _).append e1, by simp [e2]⟩
    · simp at hq

theorem run_buildSlice {t e : TypeId} {n : Nat} (hu : P.underlying t = some (.slice e)) (hok : tyOk P e = true) (hz : (zeroC P e).isSome = true) (hpos : 0 < P.cellsOf e) (hb : n ≤ 1000 ∧ P.cellsOf e ≤ 1000) (vs : List Value) (hv : ∀ v ∈ vs, v.cells.size = P.cellsOf e) (hn : vs.length = n)
    (ps : Array (Nat × Value)) (hp : ps.toList = (vs.zipIdx 0).map fun x => (x.2, x.1)) :
    (Instr.buildSlice t n ps).run P w = .ok (.slice (some ⟨w.heap.size, 0, none⟩) n n) (w.alloc (.cells (vs.flatMap fun v => v.cells.toList).toArray e)) := by
  obtain ⟨z, hz⟩ := Option.isSome_iff_exists.1 hz
  obtain ⟨i, zv, hi, hzv, _⟩ := zeroC_some hz
  have hle : n * P.cellsOf e ≤ 1000 * 1000 := Nat.mul_le_mul hb.1 hb.2
  have h1 : ¬ (n * P.cellsOf e > 2 ^ 24) := by
    have h24 : (2 : Nat) ^ 24 = 16777216 := by decide
    rw [h24]; omega
  have fw := Go.Great.fill_whole hpos vs
  unfold Instr.buildSlice
  simp only [Sem.run_bind, run_underlying hu, Result.andThen_ok, run_sizeA hok, if_neg h1, Sem.run_ite]
  by_cases h0 : n * P.cellsOf e = 0
  · have hn0 : n = 0 := by rcases Nat.mul_eq_zero.1 h0 with e | e <;> omega
    subst hn0
    have : vs = [] := List.length_eq_zero_iff.1 hn
    subst this
    simp only [Nat.zero_mul, if_true, Sem.run_pure, Result.andThen_ok]
    simp only [List.zipIdx_nil, List.map_nil] at hp
    simp [hp, Instr.fill, newRow, Array.range_zero']
  · simp only [if_neg h0, Sem.run_bind, zeroValue, typeInfo, run_program, Result.andThen_ok, hi, Sem.run_pure, hzv]
    rw [hp, fw _ hv (by simp [hn])]
    simp [newRow]

theorem run_makeSliceA {t e : TypeId} {zs : List T} {n m : Int} {kn km : IntKind} (hu : P.underlying t = some (.slice e)) (hz : zeroC P e = some zs) (hb : P.bytesOf e ≤ 8192) (hlen : zs.length = P.cellsOf e) (h0 : 0 ≤ n) (h1 : n ≤ m) (h2 : m ≤ lim) :
    ∃ zv : Value, RelTs w A zs zv.cells.toList ∧ (Instr.makeSlice t (.int kn n) (.int km m)).run P w = .ok (.slice (some ⟨w.heap.size, 0, none⟩) n.toNat m.toNat) (w.alloc (.cells (madeCells zv.cells (m.toNat * P.cellsOf e)) e)) := by
  obtain ⟨i, zv, hi, hzv, hof⟩ := zeroC_some hz
  have hsz : P.cellsOf e = i.size := by simp [Program.cellsOf, hi]
  have hby : P.bytesOf e = i.bytes := by simp [Program.bytesOf, hi]
  refine ⟨zv, ofVals_rel hof, ?_⟩
  rw [hsz]
  refine run_make w t e i zv hu hi hzv kn km n m h0 h1 ?_ ?_
  · rw [hby] at hb
    have : (i.bytes : Int) * m ≤ 8192 * 4294967296 := by
      have e1 : (i.bytes : Int) ≤ 8192 := by omega
      have e2 : m ≤ 4294967296 := by simpa [lim] using h2
      calc (i.bytes : Int) * m ≤ 8192 * m := Int.mul_le_mul_of_nonneg_right e1 (by omega)
        _ ≤ 8192 * 4294967296 := Int.mul_le_mul_of_nonneg_left e2 (by omega)
    omega
  · have e2 : m ≤ 4294967296 := by simpa [lim] using h2
    omega

theorem made_flat {zv : Array Value} {sz : Nat} (hz : zv.size = sz) (n m : Nat) (hnm : n ≤ m) : ∀ (p : Nat) (v : Value), (List.replicate n zv.toList).flatten[p]? = some v → (madeCells zv (m * sz))[p]? = some v := by
  intro p v hp
  have hlt : p < n * sz := by
    have := (List.getElem?_eq_some_iff.1 hp).1
    simpa [hz] using this
  have hpos : 0 < sz := by
    rcases Nat.eq_zero_or_pos sz with e | e
    · rw [e] at hlt; simp at hlt
    · exact e
  have hm : n * sz ≤ m * sz := Nat.mul_le_mul_right _ hnm
  have key : ∀ n p, p < n * sz → (List.replicate n zv.toList).flatten[p]? = zv[p % sz]? := by
    intro n
    induction n with
    | zero => intro p h; simp at h
    | succ n ih =>
      intro p h
      rw [List.replicate_succ, List.flatten_cons]
      by_cases hp : p < sz
      · rw [List.getElem?_append_left (by simpa [hz] using hp), Nat.mod_eq_of_lt hp]; simp
      · rw [List.getElem?_append_right (by simp [hz]; omega)]
        simp only [Array.length_toList, hz]
        have e2 : (n + 1) * sz = n * sz + sz := Nat.succ_mul _ _
        rw [ih _ (by omega)]
        congr 1
        exact (Nat.mod_eq_sub_mod (by omega)).symm
  rw [key n p hlt] at hp
  have hmod : p % sz < zv.size := by rw [hz]; exact Nat.mod_lt _ hpos
  simp only [madeCells, Array.getElem?_map]
  rw [Array.getElem?_eq_getElem (by simp; omega)]
  simp only [Array.getElem_range, Option.map_some, hz]
  rw [Array.getElem?_eq_getElem hmod] at hp
  rw [getElem!_pos zv _ hmod]
  exact hp

theorem RelLs.replicate {sz : Nat} {zs : List T} {vs : List Value} (hr : RelTs w A zs vs) (hl : zs.length = sz) : ∀ n, RelLs w A sz (List.replicate n zs) (List.replicate n vs)
  | 0 => rfl
  | n + 1 => ⟨vs, List.replicate n vs, rfl, hl, hr, RelLs.replicate hr hl n⟩

end
end Go.Aev
