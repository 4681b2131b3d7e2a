/-
  From a row's reading to trees, and back: the frame of a law. No program is named here.
-/
import Derived.Test.YtmpjdngpblfecaaAevStep
import Derived.Deep.Slices
import Derived.Carry
import Derived.ProofKit
import Derived.OpenShut
import Derived.SizedLaws
set_option linter.unusedSimpArgs false
set_option linter.unusedVariables false
namespace Go.Aev
open Go Go.ChangeShapes Go.WideShapes Go.ChangeAt Go.RowKit

def tileF (P : Program) (go : TypeId → Bool) : List Field → Nat → Option Nat
  | [], off => some off
  | f :: r, off => if f.offset = off ∧ go f.type = true then tileF P go r (off + P.cellsOf f.type) else none
/-- The types of arguments that are read as trees. -/
def okT (P : Program) : Nat → TypeId → Bool
  | 0, _ => false
  | n + 1, t => match P.underlying t with
    | some .bool => true
    | some (.int _) => true
    | some .string => true
    | some (.slice e) => okT P n e && decide (0 < P.cellsOf e)
    | some (.struct fs) => decide (tileF P (okT P n) fs.toList 0 = some (P.cellsOf t))
    | some (.array m e) => okT P n e && decide (P.cellsOf t = m * P.cellsOf e)
    | _ => false

def WtF (W : TypeId → List T → Prop) : List Field → List T → Prop
  | [], ts => ts = []
  | f :: r, ts => ∃ a b, ts = a ++ b ∧ W f.type a ∧ WtF W r b
def WtA (W : List T → Prop) : Nat → List T → Prop
  | 0, ts => ts = []
  | m + 1, ts => ∃ a b, ts = a ++ b ∧ W a ∧ WtA W m b
/-- Trees of a type. -/
def Wt (P : Program) : Nat → TypeId → List T → Prop
  | 0, _, _ => False
  | n + 1, t, ts => match P.underlying t with
    | some .bool => ∃ b, ts = [.bool b]
    | some (.int k) => ∃ m, ts = [.int k m] ∧ (Lit.int k m).wf = true
    | some .string => ∃ s, ts = [.str s] ∧ s.size ≤ maxLen
    | some (.slice e) => ∃ b xs, ts = [.lst (P.cellsOf e) b xs] ∧ (b = true → xs = []) ∧ xs.length ≤ maxLen ∧ (∀ cs ∈ xs, Wt P n e cs) ∧ xs.length * P.bytesOf e ≤ reachBytes
    | some (.struct fs) => WtF (Wt P n) fs.toList ts
    | some (.array m e) => WtA (Wt P n e) m ts
    | _ => False

section
variable {H : Type} {enc : TypeId × Value → H} {P : Program} {w : World} {base : Nat} {sp : Nat → Bool} {held : Bool}

/-- Each string, slice and map of a reading is within the reach. -/
def Fit {H : Type} (P : Program) (t : TypeId) (d : DataW H) : Prop := ∀ k ∈ DataW.weights P t d, k ≤ reachBytes
theorem weightsAll_mem {H : Type} {P : Program} {e : TypeId} : ∀ {l : List (DataW H)} {d : DataW H}, d ∈ l → ∀ k ∈ DataW.weights P e d, k ∈ DataW.weightsAll P e l
  | [], d, h, k, _ => by cases h
  | c :: l, d, h, k, hk => by
    simp only [DataW.weightsAll, List.mem_append]
    rcases List.mem_cons.1 h with rfl | h
    · exact .inl hk
    · exact .inr (weightsAll_mem h k hk)
theorem weightsEach_left {H : Type} {P : Program} {us : List TypeId} {gs : List (DataW H)} {k : Nat} : ∀ {ts : List TypeId} {ds : List (DataW H)}, k ∈ DataW.weightsEach P ts ds → k ∈ DataW.weightsEach P (ts ++ us) (ds ++ gs)
  | [], ds, h => by simp [DataW.weightsEach] at h
  | t :: ts, [], h => by simp [DataW.weightsEach] at h
  | t :: ts, d :: ds, h => by
    simp only [DataW.weightsEach, List.cons_append, List.mem_append] at h ⊢
    exact h.imp id weightsEach_left

theorem RelTs.append' {A : Nat → Prop} : ∀ {a b : List T} {vs us : List Value}, RelTs w A a vs → RelTs w A b us → RelTs w A (a ++ b) (vs ++ us)
  | [], b, vs, us, h, h' => by simp only [RelTs] at h; subst h; simpa using h'
  | c :: a, b, vs, us, ⟨v, r, e, h1, h2⟩, h' => by subst e; exact ⟨v, r ++ us, rfl, h1, RelTs.append' h2 h'⟩

theorem tree_fields {n m : Nat} (ih : ∀ (t : TypeId) (cs : List Value) (x : DataW H × List MemPlace), okT P n t = true → DataW.trod enc P w base sp held m t cs = some x → Fit P t x.1 →
      ∃ ts, RelTs w (fun b => b < w.heap.size) ts cs ∧ Wt P n t ts) (cs : List Value) : ∀ (fs : List Field) (off E : Nat), tileF P (okT P n) fs off = some E → E ≤ cs.length →
      (∀ f ∈ fs, ∃ x, DataW.trod enc P w base sp held m f.type ((cs.drop f.offset).take (P.cellsOf f.type)) = some x ∧ Fit P f.type x.1) →
      off ≤ E ∧ ∃ ts, RelTs w (fun b => b < w.heap.size) ts ((cs.drop off).take (E - off)) ∧ WtF (Wt P n) fs ts
  | [], off, E, ht, hE, _ => by
    simp only [tileF, Option.some.injEq] at ht; subst ht
    exact ⟨Nat.le_refl _, [], by simp [RelTs], rfl⟩
  | f :: fs, off, E, ht, hE, hr => by
    simp only [tileF] at ht
    split at ht
    · rename_i hf
      obtain ⟨e1, e2⟩ := hf
      obtain ⟨x, hx, hfit⟩ := hr f List.mem_cons_self
      obtain ⟨a, ra, wa⟩ := ih _ _ _ e2 hx hfit
      obtain ⟨hle, b, rb, wb⟩ := tree_fields ih cs fs _ E ht hE fun g hg => hr g (List.mem_cons_of_mem _ hg)
      refine ⟨by omega, a ++ b, ?_, ⟨a, b, rfl, wa, wb⟩⟩
      have e : (cs.drop off).take (E - off) = (cs.drop f.offset).take (P.cellsOf f.type) ++ (cs.drop (off + P.cellsOf f.type)).take (E - (off + P.cellsOf f.type)) := by
        rw [e1, ← List.drop_drop]
        have : E - off = P.cellsOf f.type + (E - (off + P.cellsOf f.type)) := by omega
        rw [this, List.take_add]
      rw [e]
      exact RelTs.append' ra rb
    · cases ht

theorem tree_parts {n m e : Nat} (ih : ∀ (t : TypeId) (cs : List Value) (x : DataW H × List MemPlace), okT P n t = true → DataW.trod enc P w base sp held m t cs = some x → Fit P t x.1 →
      ∃ ts, RelTs w (fun b => b < w.heap.size) ts cs ∧ Wt P n t ts) (he : okT P n e = true) : ∀ (k : Nat) (cs : List Value), cs.length = k * P.cellsOf e →
      (∀ i, i < k → ∃ x, DataW.trod enc P w base sp held m e ((cs.drop (i * P.cellsOf e)).take (P.cellsOf e)) = some x ∧ Fit P e x.1) → ∃ ts, RelTs w (fun b => b < w.heap.size) ts cs ∧ WtA (Wt P n e) k ts
  | 0, cs, hl, _ => by
    have : cs = [] := List.length_eq_zero_iff.1 (by simpa using hl)
    subst this
    exact ⟨[], rfl, rfl⟩
  | k + 1, cs, hl, hr => by
    obtain ⟨x, hx, hfit⟩ := hr 0 (Nat.zero_lt_succ _)
    simp only [Nat.zero_mul, List.drop_zero] at hx
    obtain ⟨a, ra, wa⟩ := ih _ _ _ he hx hfit
    obtain ⟨b, rb, wb⟩ := tree_parts ih he k (cs.drop (P.cellsOf e)) (by rw [List.length_drop, hl, Nat.succ_mul]; omega) fun i hi => by
      obtain ⟨y, hy, hfit⟩ := hr (i + 1) (by omega)
      refine ⟨y, ?_, hfit⟩
      rw [List.drop_drop]
      have : P.cellsOf e + i * P.cellsOf e = (i + 1) * P.cellsOf e := by rw [Nat.succ_mul]; omega
      rw [this]; exact hy
    refine ⟨a ++ b, ?_, ⟨a, b, rfl, wa, wb⟩⟩
    have := RelTs.append' ra rb
    rwa [List.take_append_drop] at this

theorem mk_els {A : Nat → Prop} {blk sz : Nat} {n e : Nat} : ∀ (len off : Nat), (∀ i, i < len → ∃ ts cs', ts.length = sz ∧ RelTs w A ts cs' ∧ Wt P n e ts ∧ ∀ j v, cs'[j]? = some v → w.cell? ⟨blk, off + i * sz + j, none⟩ = some v) →
    ∃ xs : List (List T), xs.length = len ∧ RelEls w A blk sz off xs ∧ ∀ cs ∈ xs, Wt P n e cs
  | 0, off, _ => ⟨[], rfl, trivial, (by intro c hc; cases hc)⟩
  | len + 1, off, h => by
    obtain ⟨ts, cs', h1, h2, h3, h4⟩ := h 0 (Nat.zero_lt_succ _)
    obtain ⟨xs, k1, k2, k3⟩ := mk_els (A := A) (blk := blk) (sz := sz) (n := n) (e := e) len (off + sz) fun i hi => by
      obtain ⟨ts, cs', h1, h2, h3, h4⟩ := h (i + 1) (by omega)
      refine ⟨ts, cs', h1, h2, h3, fun j v hj => ?_⟩
      have := h4 j v hj
      have e : off + (i + 1) * sz + j = off + sz + i * sz + j := by rw [Nat.succ_mul]; omega
      rwa [e] at this
    refine ⟨ts :: xs, by simp [k1], ⟨h1, RelAt.of_vals h2 fun j v hj => ?_, k2⟩, fun c hc => ?_⟩
    · have := h4 j v hj
      simpa using this
    · rcases List.mem_cons.1 hc with rfl | hc
      · exact h3
      · exact k3 c hc

theorem trod_tree : ∀ (n : Nat) (m : Nat) (t : TypeId) (cs : List Value) (x : DataW H × List MemPlace), okT P n t = true → DataW.trod enc P w base sp held m t cs = some x → Fit P t x.1 →
    ∃ ts, RelTs w (fun b => b < w.heap.size) ts cs ∧ Wt P n t ts
  | 0, m, t, cs, x, hok, _, _ => by simp [okT] at hok
  | n + 1, m, t, cs, x, hok, h, hfit => by
    simp only [okT] at hok
    split at hok
    · rename_i hu
      obtain ⟨b, rfl, _⟩ := DataW.trod_bool hu h
      exact ⟨[.bool b], ⟨_, [], rfl, rfl, rfl⟩, by simp only [Wt, hu]; exact ⟨b, rfl⟩⟩
    · rename_i k hu
      obtain ⟨z, rfl, _, hw⟩ := DataW.trod_int hu h
      exact ⟨[.int k z], ⟨_, [], rfl, rfl, rfl⟩, by simp only [Wt, hu]; exact ⟨z, rfl, hw⟩⟩
    · rename_i hu
      obtain ⟨s, rfl, _, hw⟩ := DataW.trod_string hu h
      exact ⟨[.str s], ⟨_, [], rfl, rfl, rfl⟩, by simp only [Wt, hu]; exact ⟨s, rfl, hw⟩⟩
    · rename_i e hu
      simp only [Bool.and_eq_true, decide_eq_true_eq] at hok
      obtain ⟨hoke, hpos⟩ := hok
      rcases Go.Deep.open_slice hu h with ⟨rfl, _⟩ | ⟨a, len, cap, k, n', D, Pl, rfl, hb, hl, hm, hk, rfl, hel⟩
      · exact ⟨[.lst (P.cellsOf e) true []], ⟨_, [], rfl, .inl ⟨rfl, rfl, rfl⟩, rfl⟩, by simp only [Wt, hu]; exact ⟨true, [], rfl, fun _ => rfl, by simp, (by intro c hc; cases hc), by simp⟩⟩
      · obtain ⟨blk, off, s⟩ := a
        have hlk : len ≤ k := by rw [hk]; split <;> omega
        dsimp only at hfit
        have hbyt : len * P.bytesOf e ≤ reachBytes := by
          have := hfit ((len + (k - len)) * P.bytesOf e) (by simp [DataW.weights, hu])
          exact Nat.le_trans (Nat.mul_le_mul_right _ (Nat.le_add_right _ _)) this
        have hfitE : ∀ i, i < len → Fit P e (D i) := fun i hi q hq => hfit q (by
          simp only [DataW.weights, hu, List.mem_cons, List.mem_append]
          exact .inr (.inl (weightsAll_mem (List.mem_map.2 ⟨i, List.mem_range.2 hi, rfl⟩) q hq)))
        have spot : 0 < len → s = none ∧ blk < w.heap.size := by
          intro h0
          obtain ⟨cs', hc, _⟩ := hel 0 (by omega)
          obtain ⟨hbase, hlen, hget⟩ := World.cells?_some hc
          have hc0 := World.cells?_block hc hpos
          have hc1 := hget 0 hpos
          have hadd : ((⟨blk, off, s⟩ : Addr).add (0 * P.cellsOf e)).add 0 = ⟨blk, off, s⟩ := by simp [Addr.add]
          rw [hadd] at hc1
          have hc2 : ∃ v, cs'[0]? = some v := ⟨_, List.getElem?_eq_getElem (by omega)⟩
          obtain ⟨v, hv⟩ := hc2
          rw [hv] at hc1
          refine ⟨?_, ?_⟩
          · cases s with
            | none => rfl
            | some z =>
              simp only [World.cell?] at hc1
              split at hc1 <;> simp at hc1
          · have e : ((⟨blk, off, s⟩ : Addr).add (0 * P.cellsOf e)) = ⟨blk, off, s⟩ := by simp [Addr.add]
            rw [e] at hc0
            exact hc0
        obtain ⟨xs, k1, k2, k3⟩ := mk_els (P := P) (w := w) (A := fun b => b < w.heap.size) (blk := blk) (sz := P.cellsOf e) (n := n) (e := e) len off fun i hi => by
          obtain ⟨cs', hc, hd⟩ := hel i (by omega)
          obtain ⟨hs, _⟩ := spot (by omega)
          subst hs
          obtain ⟨ts, r1, r2⟩ := trod_tree n n' e cs' _ hoke hd (hfitE i (by omega))
          obtain ⟨hbase, hlen, hget⟩ := World.cells?_some hc
          refine ⟨ts, cs', by rw [← r1.length, hlen], r1, r2, fun j v hj => ?_⟩
          have hj' : j < P.cellsOf e := by rw [← hlen]; exact (List.getElem?_eq_some_iff.1 hj).1
          have := hget j hj'
          rw [hj, addr_add, addr_add] at this
          exact this
        refine ⟨[.lst (P.cellsOf e) false xs], ⟨_, [], rfl, .inr ⟨rfl, blk, off, s, cap, by rw [k1], by omega, ?_, k2⟩, rfl⟩, by simp only [Wt, hu]; exact ⟨false, xs, rfl, fun h => (by cases h), by omega, k3, by rw [k1]; exact hbyt⟩⟩
        by_cases h0 : len = 0
        · left; exact List.length_eq_zero_iff.1 (by omega)
        · right; exact spot (by omega)
    · rename_i fs hu
      simp only [decide_eq_true_eq] at hok
      obtain ⟨xs, n', rfl, rfl, hl, hsz, hf⟩ := DataW.trod_struct hu h
      dsimp only at hfit
      obtain ⟨_, ts, r1, r2⟩ := tree_fields (fun t cs x => trod_tree n n' t cs x) cs fs.toList 0 _ hok (by omega) fun f hf' => by
        obtain ⟨i, hi, e⟩ := List.getElem_of_mem hf'
        have e' : fs.toList[i]? = some f := by rw [List.getElem?_eq_getElem hi, e]
        have := hf i f (by rw [← Array.getElem?_toList]; exact e')
        rw [this]
        have hx : xs[i]? = some (xs[i]'(by simp at hi; omega)) := List.getElem?_eq_getElem (by simp at hi; omega)
        refine ⟨_, hx, fun q hq => hfit q ?_⟩
        simp only [DataW.weights, hu]
        exact DataW.weights_mem_each (j := i) (by rw [List.getElem?_map, e']; rfl) (by rw [List.getElem?_map, hx]; rfl) q hq
      refine ⟨ts, ?_, by simp only [Wt, hu]; exact r2⟩
      simp only [List.drop_zero, Nat.sub_zero] at r1
      rwa [← hl, List.take_length] at r1
    · rename_i m' e hu
      simp only [Bool.and_eq_true, decide_eq_true_eq] at hok
      obtain ⟨xs, n', rfl, rfl, hl, hsz, hf⟩ := DataW.trod_array hu h
      dsimp only at hfit
      obtain ⟨ts, r1, r2⟩ := tree_parts (fun t cs x => trod_tree n n' t cs x) hok.1 m' cs (by omega) fun i hi => by
        rw [hf i hi]
        refine ⟨_, List.getElem?_eq_getElem (by omega), fun q hq => hfit q ?_⟩
        simp only [DataW.weights, hu]
        exact weightsAll_mem (List.mem_map.2 ⟨_, List.getElem_mem _, rfl⟩) q hq
      exact ⟨ts, r1, by simp only [Wt, hu]; exact r2⟩
    · cases hok
end

/-! ### Arguments -/
def ArgWt (P : Program) (n : Nat) : List TypeId → List AV → Prop
  | [], as => as = []
  | t :: ts, as => ∃ a r, as = a :: r ∧ ((isAggT P t = true ∧ ∃ l, Wt P n t l ∧ a = .agg (l.map .t)) ∨ (isAggT P t = false ∧ ∃ x, Wt P n t [x] ∧ a = .t x)) ∧ ArgWt P n ts r

section
variable {H : Type} {enc : TypeId × Value → H} {P : Program} {W W' : World} {sp : Nat → Bool} {held : Bool}

theorem open_arg {n : Nat} {t : TypeId} {v : Value} {d : DataW H} {ps : List MemPlace} {r : Reach} {b0 base : Nat} (hok : okT P (n + 1) t = true) (hval : Value.okWide P W r b0 t v) (h : DataW.Trod enc P W base sp held t v d ps) (hfit : Fit P t d) :
    ∃ a, ((isAggT P t = true ∧ ∃ l, Wt P (n + 1) t l ∧ a = .agg (l.map .t)) ∨ (isAggT P t = false ∧ ∃ x, Wt P (n + 1) t [x] ∧ a = .t x)) ∧ RelV W (fun b => b < W.heap.size) (fun _ => none) a v := by
  obtain ⟨m, hm⟩ := h
  obtain ⟨ts, r1, r2⟩ := trod_tree (n + 1) m t _ _ hok hm hfit
  have simple : isAggT P t = false → v.cells = #[v] → ∃ a, ((isAggT P t = true ∧ ∃ l, Wt P (n + 1) t l ∧ a = .agg (l.map .t)) ∨ (isAggT P t = false ∧ ∃ x, Wt P (n + 1) t [x] ∧ a = .t x)) ∧ RelV W (fun b => b < W.heap.size) (fun _ => none) a v := by
    intro h1 h2
    rw [h2] at r1
    match ts, r1 with
    | [], r1 => simp [RelTs] at r1
    | [x], ⟨u, q, e, g, _⟩ =>
      simp only [List.cons.injEq] at e
      obtain ⟨rfl, _⟩ := e
      exact ⟨.t x, .inr ⟨h1, x, r2, rfl⟩, by simpa [RelV] using g⟩
    | x :: y :: z, ⟨u, q, e, _, ⟨u', q', e', _⟩⟩ =>
      subst e'
      simp at e
  have agg : isAggT P t = true → (∃ cs, v = .agg cs) → ∃ a, ((isAggT P t = true ∧ ∃ l, Wt P (n + 1) t l ∧ a = .agg (l.map .t)) ∨ (isAggT P t = false ∧ ∃ x, Wt P (n + 1) t [x] ∧ a = .t x)) ∧ RelV W (fun b => b < W.heap.size) (fun _ => none) a v := by
    rintro h1 ⟨cs, rfl⟩
    refine ⟨.agg (ts.map .t), .inl ⟨h1, ts, r2, rfl⟩, ?_⟩
    simp only [RelV]
    exact ⟨cs.toList, by simp, RelVs.of_ts r1, r1.one⟩
  simp only [okT] at hok
  split at hok
  · rename_i hu
    simp only [Value.okWide, hu, Cell.okWide] at hval
    refine simple (by simp [isAggT, hu]) ?_
    cases v <;> first | rfl | (simp [Cell.ok, hu] at hval)
  · rename_i k hu
    simp only [Value.okWide, hu, Cell.okWide] at hval
    refine simple (by simp [isAggT, hu]) ?_
    cases v <;> first | rfl | (simp [Cell.ok, hu] at hval)
  · rename_i hu
    simp only [Value.okWide, hu, Cell.okWide] at hval
    refine simple (by simp [isAggT, hu]) ?_
    cases v <;> first | rfl | (simp [Cell.ok, hu] at hval)
  · rename_i e hu
    simp only [Value.okWide, hu, Cell.okWide] at hval
    refine simple (by simp [isAggT, hu]) ?_
    cases v <;> first | rfl | (simp [Cell.ok, hu] at hval)
  · rename_i fs hu
    simp only [Value.okWide, hu] at hval
    obtain ⟨cs, e, _⟩ := hval
    exact agg (by simp [isAggT, hu]) ⟨cs, e⟩
  · rename_i m' e hu
    simp only [Value.okWide, hu] at hval
    obtain ⟨cs, e, _⟩ := hval
    exact agg (by simp [isAggT, hu]) ⟨cs, e⟩
  · cases hok

theorem open_args {n : Nat} {r : Reach} {b0 base : Nat} : ∀ {ts : List TypeId} {vs : List Value} {ds : List (DataW H)} {ps : List MemPlace}, ts.all (okT P (n + 1)) = true → (∀ (j : Nat) (t : TypeId) (v : Value), ts[j]? = some t → vs[j]? = some v → Value.okWide P W r b0 t v) →
    DataW.TrodAll enc P W base sp held ts vs ds ps → (∀ k ∈ DataW.weightsEach P ts ds, k ≤ reachBytes) → ∃ as, ArgWt P (n + 1) ts as ∧ RelVs W (fun b => b < W.heap.size) (fun _ => none) as vs
  | [], vs, ds, ps, _, _, h, _ => by
    obtain ⟨rfl, _, _⟩ := trodAll_nil h
    exact ⟨[], rfl, by simp [RelVs]⟩
  | t :: ts, vs, ds, ps, hok, hval, h, hfit => by
    simp only [List.all_cons, Bool.and_eq_true] at hok
    obtain ⟨v, vs', d, ds', p, q, rfl, rfl, rfl, h1, h2⟩ := trodAll_cons h
    obtain ⟨a, ha, hr⟩ := open_arg hok.1 (hval 0 t v rfl rfl) h1 (fun k hk => hfit k (by simp only [DataW.weightsEach, List.mem_append]; exact .inl hk))
    obtain ⟨as, has, hrs⟩ := open_args hok.2 (fun j t' v' ht hv => hval (j + 1) t' v' (by simpa using ht) (by simpa using hv)) h2 (fun k hk => hfit k (by simp only [DataW.weightsEach, List.mem_append]; exact .inr hk))
    exact ⟨a :: as, ⟨a, as, rfl, ha, has⟩, by simp only [RelVs]; exact ⟨v, vs', rfl, hr, hrs⟩⟩

theorem shut_args (hl : laidOutB P = true) (hb : Below W.heap.size W W') : ∀ {ts : List TypeId} {vs : List Value} {ds : List (DataW H)} {ps : List MemPlace}, (ts.all fun t => P.readableRec t && decide (t < P.types.size)) = true →
    DataW.TrodAll enc P W 0 (fun _ => true) true ts vs ds ps → (∀ x ∈ ps, x.block < W.heap.size) → DataW.TrodAll enc P W' 0 (fun b => decide (b < W.heap.size)) true ts vs ds ps
  | [], vs, ds, ps, _, h, _ => by
    obtain ⟨rfl, rfl, rfl⟩ := trodAll_nil h
    exact trodAll_mk0
  | t :: ts, vs, ds, ps, hr, h, hlt => by
    simp only [List.all_cons, Bool.and_eq_true, decide_eq_true_eq] at hr
    obtain ⟨v, vs', d, ds', p, q, rfl, rfl, rfl, h1, h2⟩ := trodAll_cons h
    exact trodAll_cons_mk (Below.trod hl hr.1.1 hr.1.2 h1 hb fun x hx => hlt x (List.mem_append_left _ hx)) (shut_args hl hb (by simpa using hr.2) h2 fun x hx => hlt x (List.mem_append_right _ hx))

theorem below_kept (hb : Below W.heap.size W W') (may : MemPlace → Prop) : W.keptBut W' may := by
  refine ⟨hb.os, hb.output, fun i hi => ?_⟩
  rw [hb.block i hi]
  cases W.heap[i]? with
  | none => rfl
  | some o => cases o <;> first | exact ⟨rfl, rfl, rfl, fun _ _ => rfl⟩ | exact .inr ⟨rfl, rfl⟩ | rfl

/-- The frame of a law. -/
theorem law_contract {n : Nat} {fn : Func} {s : ChangeSpec} {An : Ann} {f : FuncId} {tb : TypeId} (hm : P.follows .mixedOrders = true) (hn : (P.funcs.toList.all fun fn => fn.name != "runtime.NumGoroutine") = true) (hl : laidOutB P = true)
    (hfn : P.funcs[f]? = some fn) (hout : An.bref f = none) (hres : resSh P An f 0 fn = [.f .b]) (hub : P.underlying tb = some .bool) (hrt : fn.resultTypes = #[tb])
    (hok : fn.params.toList.all (okT P (n + 1)) = true) (hread : (fn.params.toList.all fun t => P.readableRec t && decide (t < P.types.size)) = true)
    (hvars : s.vars = []) (hspec : ∀ (ds : List (DataW H)), ds.length = fn.params.toList.length → s.fn H ds = { results := [.lit (.bool true)], args := ds })
    (claim : ∀ as, ArgWt P (n + 1) fn.params.toList as → orc P An (.call f) as [] = some [.bool true])
    (W : World) (base : Nat) (args : Array Value) (ds gs : List (DataW H)) (before : List MemPlace) (hval : ∀ (j : Nat) t v, fn.params[j]? = some t → args[j]? = some v → Value.okWide P W .any base t v)
    (hW : DataW.Whole enc P fn.params.toList s.vars false W args.toList ds gs before)
    (hsz : (DataW.weightsEach P (fn.params.toList ++ s.plain.varTypes P) (ds ++ gs)).all (· ≤ reachBytes) = true)
    (hX : ESound P An := by exact Go.Aev.ESound.no fun _ _ _ => rfl) :
    Calls P f args W fun e W' => ∃ v, e = .returned v ∧ s.post enc P fn false true false false W args v W' := by
  have hW' := hW
  obtain ⟨p, q, hA, hV, rfl, hz, hnd⟩ := hW
  rw [hvars] at hV
  obtain ⟨rfl, rfl⟩ := trodVars_none hV
  obtain ⟨as, ha, hr⟩ := open_args hok (fun j t v ht hv => hval j t v (by rw [← Array.getElem?_toList]; exact ht) (by rw [← Array.getElem?_toList]; exact hv)) hA (fun k hk => by simpa using List.all_eq_true.1 hsz k (weightsEach_left hk))
  have hlen : ds.length = fn.params.toList.length := by
    clear hW' hr ha hval hz hnd hV hread hok claim hsz
    generalize fn.params.toList = ts at hA
    generalize args.toList = vs at hA
    induction ts generalizing vs ds p with
    | nil => obtain ⟨_, rfl, _⟩ := trodAll_nil hA; rfl
    | cons t ts ih =>
      obtain ⟨v, vs', d, ds', p', q', _, rfl, _, _, h2⟩ := trodAll_cons hA
      simp [ih _ _ _ h2]
  have hnn : ∀ (f : FuncId) (fn : Func), P.funcs[f]? = some fn → fn.name ≠ "runtime.NumGoroutine" := by
    intro f fn h
    have := List.all_eq_true.1 hn fn (List.mem_of_getElem? (i := f) (by rw [Array.getElem?_toList]; exact h))
    simpa using this
  have := calls_true (w := W) (A0 := fun b => b < W.heap.size) hX hm hnn hfn hout hres (fun _ h => h) hr (claim as ha)
  rw [show args.toList.toArray = args from by simp] at this
  refine this.mono fun e W' ⟨he, hb⟩ => ⟨.bool true, he, ?_⟩
  have hsp := hspec ds hlen
  refine ⟨ds, [], p ++ [], [], p, [], hW', ?_, ?_, ?_, below_kept hb _, fun h => by cases h⟩
  · rw [List.append_nil, hsp, hrt]
    exact trodAll_cons_mk (shut_bool hub true) trodAll_mk0
  · rw [List.append_nil, hsp]
    exact shut_args hl hb hread hA (fun x hx => hW'.lt x (by simpa using hx))
  · rw [List.append_nil, hsp, hvars]
    rfl
end

/-! ### Typed trees, opened -/
section
variable {P : Program} {n : Nat} {t : TypeId} {ts : List T}
theorem wt_int {k : IntKind} (hu : P.underlying t = some (.int k)) (h : Wt P (n + 1) t ts) : ∃ m, ts = [.int k m] ∧ (Lit.int k m).wf = true := by simpa only [Wt, hu] using h
theorem wt_bool (hu : P.underlying t = some .bool) (h : Wt P (n + 1) t ts) : ∃ b, ts = [.bool b] := by simpa only [Wt, hu] using h
theorem wt_string (hu : P.underlying t = some .string) (h : Wt P (n + 1) t ts) : ∃ s, ts = [.str s] ∧ s.size ≤ maxLen := by simpa only [Wt, hu] using h
theorem wt_struct {fs : Array Field} (hu : P.underlying t = some (.struct fs)) (h : Wt P (n + 1) t ts) : WtF (Wt P n) fs.toList ts := by simpa only [Wt, hu] using h
theorem wt_array {m : Nat} {e : TypeId} (hu : P.underlying t = some (.array m e)) (h : Wt P (n + 1) t ts) : WtA (Wt P n e) m ts := by simpa only [Wt, hu] using h
theorem wt_slice {e : TypeId} (hu : P.underlying t = some (.slice e)) (h : Wt P (n + 1) t ts) : ∃ b xs, ts = [.lst (P.cellsOf e) b xs] ∧ (b = true → xs = []) ∧ xs.length ≤ maxLen ∧ (∀ cs ∈ xs, Wt P n e cs) ∧ xs.length * P.bytesOf e ≤ reachBytes := by simpa only [Wt, hu] using h
/-- A slice, all of whose elements are told by a function. -/
theorem wt_listb {α : Type} (g : α → List T) {e : TypeId} (hu : P.underlying t = some (.slice e)) (h : Wt P (n + 1) t ts) (hg : ∀ cs, Wt P n e cs → ∃ a, cs = g a) :
    ∃ b l, ts = [.lst (P.cellsOf e) b (l.map g)] ∧ (b = true → l = []) ∧ l.length ≤ maxLen ∧ l.length * P.bytesOf e ≤ reachBytes := by
  obtain ⟨b, xs, rfl, h1, h2, h3, h4⟩ := wt_slice hu h
  have : ∃ l : List α, xs = l.map g := by
    clear h1 h2 h h4
    induction xs with
    | nil => exact ⟨[], rfl⟩
    | cons c xs ih =>
      obtain ⟨a, ha⟩ := hg c (h3 c List.mem_cons_self)
      obtain ⟨l, hl⟩ := ih fun cs hc => h3 cs (List.mem_cons_of_mem _ hc)
      exact ⟨a :: l, by rw [ha, hl]; rfl⟩
  obtain ⟨l, rfl⟩ := this
  exact ⟨b, l, rfl, fun hb => by simpa using h1 hb, by simpa using h2, by simpa using h4⟩
theorem wt_list {α : Type} (g : α → List T) {e : TypeId} (hu : P.underlying t = some (.slice e)) (h : Wt P (n + 1) t ts) (hg : ∀ cs, Wt P n e cs → ∃ a, cs = g a) :
    ∃ b l, ts = [.lst (P.cellsOf e) b (l.map g)] ∧ (b = true → l = []) ∧ l.length ≤ maxLen := by
  obtain ⟨b, l, h1, h2, h3, _⟩ := wt_listb g hu h hg
  exact ⟨b, l, h1, h2, h3⟩
theorem arg_agg {a : AV} (h : (isAggT P t = true ∧ ∃ l, Wt P n t l ∧ a = .agg (l.map .t)) ∨ (isAggT P t = false ∧ ∃ x, Wt P n t [x] ∧ a = .t x)) (hb : isAggT P t = true) : ∃ l, Wt P n t l ∧ a = .agg (l.map .t) := by
  rcases h with h | h
  · exact h.2
  · rw [hb] at h; cases h.1
theorem arg_one {a : AV} (h : (isAggT P t = true ∧ ∃ l, Wt P n t l ∧ a = .agg (l.map .t)) ∨ (isAggT P t = false ∧ ∃ x, Wt P n t [x] ∧ a = .t x)) (hb : isAggT P t = false) : ∃ x, Wt P n t [x] ∧ a = .t x := by
  rcases h with h | h
  · rw [hb] at h; cases h.1
  · exact h.2
end
end Go.Aev
