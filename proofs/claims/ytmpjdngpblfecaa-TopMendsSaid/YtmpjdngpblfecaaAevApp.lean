/-
  append.
-/
import Derived.Test.YtmpjdngpblfecaaAevRows
set_option linter.unusedSimpArgs false
set_option linter.unusedVariables false
namespace Go.Aev
open Go

section
variable {P : Program} {w w' : World} {A A' : Nat → Prop} {c : Ctx} {ρ : Id → Option Value} {O : Id → Option Nat} {s : St} {cc : Option Bool} {h : Id → Option Blk}

/-- A block is handed on under a new name: the old name is dead. -/
theorem HS.move {i i' : Id} (hs : HS c w h ρ O) (hi : h i ≠ none) (hi' : h i' = none) (v : Value) (ob' : Option Nat) (hos : w'.os = w.os) (ho : w'.output = w.output) (htp : w'.tape = w.tape) (hsz : w.heap.size ≤ w'.heap.size)
    (hkeep : ∀ k, k < w.heap.size → O i ≠ some k → w'.heap[k]? = w.heap[k]?) (hob : ob' = none ∨ ob' = O i ∨ (ob' = some w.heap.size ∧ w.heap.size < w'.heap.size)) (x : Blk)
    (hx : RelB w' (AA c w' (upd (upd O i none) i' ob')) (upd ρ i' (some v)) (upd (upd O i none) i' ob') i' x) (hrl : i'.real = true := by rfl) :
    Le w ρ O w' (upd ρ i' (some v)) (upd (upd O i none) i' ob') ∧ HS c w' (upd (upd h i' (some x)) i (some .dead)) (upd ρ i' (some v)) (upd (upd O i none) i' ob') := by
  have hne : i ≠ i' := fun e => hi (e ▸ hi')
  have lt' : ∀ b, ob' = some b → b < w'.heap.size := by
    intro b hb
    rcases hob with e | e | ⟨e, e2⟩
    · rw [e] at hb; cases hb
    · rw [e] at hb; have := hs.lt i b hb; omega
    · rw [e] at hb; cases hb; exact e2
  have le : Le w ρ O w' (upd ρ i' (some v)) (upd (upd O i none) i' ob') := by
    refine ⟨hos, ho, htp, hsz, fun j u hj => ?_, fun b hb hn => hkeep b hb (hn i), fun j b hj => ?_⟩
    · by_cases e : j = i'
      · subst e; rw [(hs.nodom _ hrl hi').1] at hj; cases hj
      · rw [upd_ne _ _ e]; exact hj
    · by_cases e : j = i'
      · subst e; rw [upd_same] at hj
        rcases hob with e | e | ⟨e, _⟩
        · rw [e] at hj; cases hj
        · rw [e] at hj; exact .inl ⟨i, hj⟩
        · rw [e] at hj; cases hj; exact .inr (Nat.le_refl _)
      · rw [upd_ne _ _ e] at hj
        by_cases e2 : j = i
        · subst e2; rw [upd_same] at hj; cases hj
        · rw [upd_ne _ _ e2] at hj; exact .inl ⟨j, hj⟩
  have hri := hs.real hi
  have gk : GK w ρ O w' (upd ρ i' (some v)) (upd (upd O i none) i' ob') := fun j n => ⟨upd_ne _ _ (real_ne hrl), by rw [upd_ne _ _ (real_ne hrl), upd_ne _ _ (real_ne hri)], fun b hb => hkeep b (hs.lt _ b hb) fun e => real_ne hri (hs.inj _ i b hb e)⟩
  refine ⟨le, hs.go le gk (fun j b' hj => ?_) (fun j hjr hj => ?_) (fun j hj => ?_) (fun j n => by rw [upd_ne _ _ (real_ne hri), upd_ne _ _ (real_ne hrl)]; exact hs.nog j n) (fun j k d hj hk => ?_) (fun j d hj => ?_)⟩
  · by_cases e : j = i
    · subst e; rw [upd_same] at hj; cases hj
      right
      obtain ⟨b, hb⟩ := Option.ne_none_iff_exists'.1 hi
      have hone : ∃ u, ρ j = some u ∧ u.oneCell' = true ∧ u.cells = #[u] := by
        cases hρ : ρ j with
        | none =>
          exfalso
          have := hs.blk j b hb
          cases b with
          | box cs => obtain ⟨b, _, _, h1, _⟩ := this; rw [hρ] at h1; cases h1
          | sl fz sz b xs => obtain ⟨v, h1, _⟩ := this; rw [hρ] at h1; cases h1
          | fbox l => obtain ⟨b, h1, _⟩ := this; rw [hρ] at h1; cases h1
          | mp ag ks vk es => obtain ⟨b, _, _, h1, _⟩ := this; rw [hρ] at h1; cases h1
          | arr cs => obtain ⟨b, _, _, h1, _⟩ := this; rw [hρ] at h1; cases h1
          | rows _ _ _ _ _ _ => obtain ⟨_, _, h1, _⟩ := this; rw [hρ] at h1; cases h1
          | dead => obtain ⟨⟨v, h1, _⟩, _⟩ := this; rw [hρ] at h1; cases h1
        | some u => exact ⟨u, rfl, rho_one hs hρ⟩
      obtain ⟨u, h1, h2⟩ := hone
      exact ⟨⟨u, by rw [upd_ne _ _ hne]; exact h1, h2⟩, by rw [upd_ne _ _ hne, upd_same]⟩
    · rw [upd_ne _ _ e] at hj
      by_cases e2 : j = i'
      · subst e2; rw [upd_same] at hj; cases hj; exact .inr hx
      · rw [upd_ne _ _ e2] at hj
        refine .inl ⟨hj, by rw [upd_ne _ _ e2, upd_ne _ _ e], fun blk hblk => hkeep blk (hs.lt j blk hblk) (fun ho => e (hs.inj j i blk hblk ho))⟩
  · by_cases e : j = i
    · subst e; rw [upd_same] at hj; cases hj
    · rw [upd_ne _ _ e] at hj
      by_cases e2 : j = i'
      · subst e2; rw [upd_same] at hj; cases hj
      · rw [upd_ne _ _ e2] at hj
        rw [upd_ne _ _ e2, upd_ne _ _ e2, upd_ne _ _ e]; exact hs.nodom j hjr hj
  · by_cases e : j = i
    · subst e; rw [upd_same] at hj; cases hj
    · rw [upd_ne _ _ e] at hj
      by_cases e2 : j = i'
      · subst e2; rw [upd_same] at hj; cases hj
      · rw [upd_ne _ _ e2] at hj; exact hj
  · have dec : ∀ j b, upd (upd O i none) i' ob' j = some b → (j = i' ∧ ob' = some b) ∨ (j ≠ i' ∧ j ≠ i ∧ O j = some b) := by
      intro j b hj
      by_cases e : j = i'
      · subst e; rw [upd_same] at hj; exact .inl ⟨rfl, hj⟩
      · rw [upd_ne _ _ e] at hj
        by_cases e2 : j = i
        · subst e2; rw [upd_same] at hj; cases hj
        · rw [upd_ne _ _ e2] at hj; exact .inr ⟨e, e2, hj⟩
    have clash : ∀ k b, ob' = some b → k ≠ i → O k = some b → False := by
      intro k b hb hk ho
      rcases hob with e | e | ⟨e, _⟩
      · rw [e] at hb; cases hb
      · rw [e] at hb; exact hk (hs.inj k i b ho hb)
      · rw [e] at hb; cases hb; exact Nat.lt_irrefl _ (hs.lt k _ ho)
    rcases dec j d hj with ⟨e1, e2⟩ | ⟨e1, e2, e3⟩ <;> rcases dec k d hk with ⟨f1, f2⟩ | ⟨f1, f2, f3⟩
    · rw [e1, f1]
    · exact (clash k d e2 f2 f3).elim
    · exact (clash j d f2 e2 e3).elim
    · exact hs.inj j k d e3 f3
  · by_cases e : j = i'
    · subst e; rw [upd_same] at hj; exact lt' d hj
    · rw [upd_ne _ _ e] at hj
      by_cases e2 : j = i
      · subst e2; rw [upd_same] at hj; cases hj
      · rw [upd_ne _ _ e2] at hj; have := hs.lt j d hj; omega

/-- The elements that a snap shows, as they lie. -/
theorem snapOne_els {v : AV} {x : T} {u : Value} {sz : Nat} {p : Bool × List (List T)} (hs : HS c w h ρ O) (hv : RelV w (AA c w O) ρ v u) (hsn : snapOne h v = some x) (hp : x.lst? sz = some p) :
    (p.2 = [] ∧ (u = .slice none 0 0 ∨ ∃ a cap, u = .slice (some a) 0 cap)) ∨ ∃ blk off cap, u = .slice (some ⟨blk, off, none⟩) p.2.length cap ∧ RelEls w (AA c w O) blk sz off p.2 := by
  have relU : RelT w (fun _ => True) x u := snapOne_sound hs hv hsn (fun _ _ => trivial) (fun _ _ _ _ => trivial)
  have small : p.2 = [] → (u = .slice none 0 0 ∨ ∃ a cap, u = .slice (some a) 0 cap) := by
    intro e
    rcases T.lst?_eq hp with rfl | ⟨rfl, _⟩
    · simp only [RelT] at relU
      rcases relU with ⟨_, _, rfl⟩ | ⟨_, blk, off, sp, cap, rfl, _⟩
      · exact .inl rfl
      · rw [e]; exact .inr ⟨_, _, rfl⟩
    · simp only [RelT] at relU
      rcases relU with ⟨_, rfl⟩ | ⟨_, blk, off, sp, rfl⟩
      · exact .inl rfl
      · exact .inr ⟨_, _, rfl⟩
  by_cases e : p.2 = []
  · exact .inl ⟨e, small e⟩
  right
  have hx : x = .lst sz p.1 p.2 := by
    rcases T.lst?_eq hp with h | ⟨_, h⟩
    · exact h
    · exact absurd h e
  subst hx
  cases v <;> simp only [snapOne, reduceCtorEq, Option.some.injEq] at hsn
  case t y =>
    subst hsn
    simp only [RelV, RelT] at hv
    rcases hv with ⟨_, h, _⟩ | ⟨_, blk, off, sp, cap, rfl, _, g0, g⟩
    · exact absurd h e
    · rcases g0 with g0 | ⟨rfl, _⟩
      · exact absurd g0 e
      exact ⟨blk, off, cap, rfl, g⟩
  case own i =>
    split at hsn
    · rename_i fz sz' b xs hi
      simp only [Option.some.injEq, T.lst.injEq] at hsn
      obtain ⟨rfl, rfl, rfl⟩ := hsn
      obtain ⟨v', g1, a, cap, q1, q2, q3, q4, q5⟩ := sl_at' hs hi
      simp only [RelV] at hv
      rw [g1] at hv; simp only [Option.some.injEq] at hv; subst hv; subst q1
      rcases q5 with q5 | ⟨blk, off, arr, t, q6, q7, q8, q9, q10⟩
      · exact absurd (List.length_eq_zero_iff.1 (by omega)) e
      · subst q6; exact ⟨blk, off, cap, rfl, q10⟩
    · simp at hsn
  case ref i off =>
    split at hsn
    · obtain ⟨l, _, hsn⟩ := Option.bind_eq_some_iff.1 hsn
      simp at hsn
    · simp at hsn
    · simp at hsn
  case part i sz1 off n =>
    split at hsn
    · rename_i fz sz' b xs hi
      split at hsn
      · rename_i hsz; subst hsz
        simp only [Option.some.injEq, T.lst.injEq] at hsn
        obtain ⟨rfl, rfl, hxs⟩ := hsn
        obtain ⟨v', g1, a, cap, q1, q2, q3, q4, q5⟩ := sl_at' hs hi
        simp only [RelV] at hv
        obtain ⟨a1, L, cap1, a', e1, e2, e3, rfl, e4⟩ := hv
        rw [g1] at e1; simp only [Option.some.injEq] at e1; subst e1
        simp only [Value.slice.injEq] at q1
        obtain ⟨rfl, rfl, rfl⟩ := q1
        have hlen : ((xs.drop off).take n).length = n := by simp only [List.length_take, List.length_drop]; omega
        rw [← hxs] at e ⊢
        have hn : n ≠ 0 := fun h => e (by rw [h]; rfl)
        rcases q5 with q5 | ⟨blk, off', arr, t, q6, q7, q8, q9, q10⟩
        · omega
        · subst q6
          have ea : a' = some ⟨blk, off' + off * sz', none⟩ := by
            rcases e4 with ⟨rfl, rfl⟩ | ⟨rfl, _⟩ | ⟨b', o, e5, e6⟩
            · simp
            · omega
            · simp only [Option.some.injEq, Addr.mk.injEq] at e5
              obtain ⟨rfl, rfl, _⟩ := e5
              exact e6
          subst ea
          exact ⟨blk, _, _, by rw [hlen], (q10.drop off).take n⟩
      · simp at hsn
    · simp at hsn

/-- There is room in a block of the call's own. -/
theorem run_append_in {t tx ty e : TypeId} {i : TypeInfo} (ht : P.underlying t = some (.slice e)) (hi : P.info? e = some i) {b off sLen sCap : Nat} {arr : Array Value} {tt : TypeId} (hb : w.heap[b]? = some (.cells arr tt (0, 0))) {x : Value} {n : Nat} {news : List Value}
    (hs : Src P i.size tx x n news w) (hroom : sLen + n ≤ sCap) (hfit : off + sCap * i.size ≤ arr.size) :
    (Builtin.append_ #[t, tx] ty #[.slice (some ⟨b, off, none⟩) sLen sCap, x]).run P w = .ok (.slice (some ⟨b, off, none⟩) (sLen + n) sCap) (w.setRow b (repl (off + sLen * i.size) news arr.toList).toArray) := by
  have hl := hs.newsLen
  have hm : (sLen + n) * i.size ≤ sCap * i.size := Nat.mul_le_mul_right _ hroom
  have e : (sLen + n) * i.size = sLen * i.size + n * i.size := Nat.add_mul _ _ _
  have hst := run_storeCells_at P b (off + sLen * i.size) tt news 0 arr w hb (by omega) hs.one
  simp only [Nat.add_zero] at hst
  rcases hs.kind with ⟨e', hk⟩ | hk <;> simp [Builtin.append_, run_underlying ht, run_underlying hk, sizeOf, typeInfo, hi, hs.len, hroom, hs.cells, addr_add, hst, repl]
theorem run_append_idle {t tx ty e : TypeId} {i : TypeInfo} (ht : P.underlying t = some (.slice e)) (hi : P.info? e = some i) {base : Option Addr} {sLen sCap : Nat} {x : Value} (hs : Src P i.size tx x 0 [] w) (hroom : sLen ≤ sCap) :
    (Builtin.append_ #[t, tx] ty #[.slice base sLen sCap, x]).run P w = .ok (.slice base sLen sCap) w := by
  have hc : ∀ a : Addr, (storeCells a []).run P w = .ok () w := fun a => by simp [storeCells]
  cases base <;> rcases hs.kind with ⟨e', hk⟩ | hk <;> simp [Builtin.append_, run_underlying ht, run_underlying hk, sizeOf, typeInfo, hi, hs.len, hroom, hs.cells, storeCells]


/-- What the second argument of an append yields, as far as the append itself tells. -/
structure Ad (P : Program) (t tx e : TypeId) (i : TypeInfo) (x : Value) (n : Nat) (news : List Value) (w : World) : Prop where
  newsLen : news.length = n * i.size
  one : ∀ u ∈ news, u.oneCell' = true
  idle : n = 0 → ∀ (ty : TypeId) (base : Option Addr) (sLen sCap : Nat), sLen ≤ sCap → (Builtin.append_ #[t, tx] ty #[.slice base sLen sCap, x]).run P w = .ok (.slice base sLen sCap) w
  inn : ∀ (ty : TypeId) (b off sLen sCap : Nat) (arr : Array Value) (tt : TypeId), w.heap[b]? = some (.cells arr tt (0, 0)) → sLen + n ≤ sCap → off + sCap * i.size ≤ arr.size →
    (Builtin.append_ #[t, tx] ty #[.slice (some ⟨b, off, none⟩) sLen sCap, x]).run P w = .ok (.slice (some ⟨b, off, none⟩) (sLen + n) sCap) (w.setRow b (repl (off + sLen * i.size) news arr.toList).toArray)
  grow : ∀ (ty : TypeId) (z : Value) (base : Option Addr) (sLen sCap : Nat) (olds : List Value), i.zero = some z → (Builtin.firstCells i.size sLen (.slice base sLen sCap)).run P w.drew = .ok olds.toArray w.drew → sCap < sLen + n →
    ((sLen + n : Nat) : Int) ≤ 9223372036854775807 → Builtin.nextslicecap (sLen + n) sCap * i.bytes ≤ 281474976710656 →
    (Builtin.append_ #[t, tx] ty #[.slice base sLen sCap, x]).run P w =
      .ok (.slice (some ⟨w.heap.size, 0, none⟩) (sLen + n) (grownCap w (sLen + n) sCap e))
        (w.drew.alloc (.cells ((olds ++ news).toArray ++ Builtin.zeroCells z.cells (grownCap w (sLen + n) sCap e - (sLen + n))) e))

theorem Ad.ofSrc {t tx e : TypeId} {i : TypeInfo} {x : Value} {n : Nat} {news : List Value} (ht : P.underlying t = some (.slice e)) (hi : P.info? e = some i) (hs : Src P i.size tx x n news w) : Ad P t tx e i x n news w where
  newsLen := hs.newsLen
  one := hs.one
  idle := by
    intro h ty base sLen sCap hr
    subst h
    have : news = [] := List.length_eq_zero_iff.1 (by rw [hs.newsLen]; simp)
    subst this
    exact run_append_idle ht hi hs hr
  inn := fun ty b off sLen sCap arr tt hb hr hf => run_append_in ht hi hb hs hr hf
  grow := fun ty z base sLen sCap olds hz ho hg h63 hf => run_append_grow_src w t tx ty e i z ht hi hz base sLen sCap olds ho x n news hs hg h63 hf

theorem zeroCells_toList {z : Array Value} {sz : Nat} (hz : z.size = sz) (n : Nat) : (Builtin.zeroCells z n).toList = (List.replicate n z.toList).flatten := by
  apply List.ext_getElem?
  intro p
  by_cases hp : p < n * sz
  · have h1 : ((List.replicate n z.toList).flatten).length = n * sz := by simp [hz]
    have h2 : ((List.replicate n z.toList).flatten)[p]? = some ((List.replicate n z.toList).flatten[p]'(by omega)) := List.getElem?_eq_getElem _
    rw [h2]
    have h3 := made_flat (zv := z) hz n n (Nat.le_refl _) p _ h2
    rw [← h3, Array.getElem?_toList]
    simp [madeCells, Builtin.zeroCells, hz]
  · have h1 : ((List.replicate n z.toList).flatten).length = n * sz := by simp [hz]
    have h2 : (Builtin.zeroCells z n).toList.length = n * sz := by rw [Array.length_toList, size_zeroCells, hz]
    rw [List.getElem?_eq_none (by omega), List.getElem?_eq_none (by omega)]

theorem ofZ_wrap {n : Int} (h0 : 0 ≤ n) (h1 : n ≤ 4294967296) : IntKind.i64.wrap n = n := by
  rw [IntKind.wrap_i64]; omega

theorem Ad.ofZeros {t tx e : TypeId} {i : TypeInfo} {zv : Value} {ki : IntKind} {n : Int} (ht : P.underlying t = some (.slice e)) (hk : P.underlying tx = some (.int ki)) (hi : P.info? e = some i) (hz : i.zero = some zv) (hzs : zv.cells.size = i.size) (hb : i.bytes ≤ 8192)
    (h0 : 0 ≤ n) (h1 : n ≤ 4294967296) (h1c : ∀ u ∈ zv.cells.toList, u.oneCell' = true) : Ad P t tx e i (.int .i64 n) n.toNat (List.replicate n.toNat zv.cells.toList).flatten w := by
  have hw := ofZ_wrap h0 h1
  have hn0 : ¬ (n < 0) := by omega
  have hbig : ¬ (281474976710656 < n * (i.bytes : Int)) := by
    have e1 : n * (i.bytes : Int) ≤ 4294967296 * 8192 := Int.le_trans (Int.mul_le_mul_of_nonneg_right h1 (by omega)) (Int.mul_le_mul_of_nonneg_left (by omega) (by omega))
    omega
  have nl : (List.replicate n.toNat zv.cells.toList).flatten.length = n.toNat * i.size := by simp [hzs]
  have one : ∀ u ∈ (List.replicate n.toNat zv.cells.toList).flatten, u.oneCell' = true := by
    intro u hu
    obtain ⟨l, hl, hu⟩ := List.mem_flatten.1 hu
    rw [List.mem_replicate] at hl
    obtain ⟨_, rfl⟩ := hl
    exact h1c u hu
  have zc := zeroCells_toList hzs n.toNat
  have zc' : Builtin.zeroCells zv.cells n.toNat = (List.replicate n.toNat zv.cells.toList).flatten.toArray := by rw [← zc]
  have emp : n.toNat * i.size = 0 → (List.replicate n.toNat zv.cells.toList).flatten = [] := fun h => List.length_eq_zero_iff.1 (by rw [nl, h])
  refine ⟨nl, one, ?_, ?_, ?_⟩
  · intro h ty base sLen sCap hr
    have hc : ∀ a : Addr, (storeCells a []).run P w = .ok () w := fun a => by simp [storeCells]
    cases base <;> simp [Builtin.append_, run_underlying ht, run_underlying hk, sizeOf, typeInfo, hi, asInt, asIntOf, hw, hn0, hbig, h, hr, hc]
  · intro ty b off sLen sCap arr tt hbk hroom hfit
    have hm : (sLen + n.toNat) * i.size ≤ sCap * i.size := Nat.mul_le_mul_right _ hroom
    have e : (sLen + n.toNat) * i.size = sLen * i.size + n.toNat * i.size := Nat.add_mul _ _ _
    have hst := run_storeCells_at P b (off + sLen * i.size) tt (List.replicate n.toNat zv.cells.toList).flatten 0 arr w hbk (by omega) one
    simp only [Nat.add_zero] at hst
    by_cases hs0 : n.toNat * i.size = 0
    · have := emp hs0
      rw [this] at hst ⊢
      simp [Builtin.append_, run_underlying ht, run_underlying hk, sizeOf, typeInfo, hi, asInt, asIntOf, hw, hn0, hbig, hroom, hs0, addr_add, hst, repl]
    · simp [Builtin.append_, run_underlying ht, run_underlying hk, sizeOf, typeInfo, zeroValue, hi, hz, asInt, asIntOf, hw, hn0, hbig, hroom, hs0, zc', addr_add, hst, repl]
  · intro ty z base sLen sCap olds hz' hold hg h63 hfit
    rw [hz] at hz'; cases hz'
    have hn : ¬ (sLen + n.toNat ≤ sCap) := by omega
    have h63' : ¬ (9223372036854775807 < ((sLen : Int) + (n.toNat : Int))) := by omega
    have h63m : ¬ (9223372036854775807 < ((sLen : Int) + max n 0)) := by omega
    have h63k : ¬ (IntKind.i64.max < ((sLen : Int) + (n.toNat : Int))) := by simp only [IntKind.max, IntKind.bits, IntKind.signed]; omega
    have h48' : ¬ (281474976710656 < Builtin.nextslicecap (sLen + n.toNat) sCap * i.bytes) := by omega
    by_cases hs0 : n.toNat * i.size = 0
    · have := emp hs0
      rw [this]
      simp [Builtin.append_, run_underlying ht, run_underlying hk, sizeOf, typeInfo, zeroValue, hi, hz, asInt, asIntOf, hw, hn0, hbig, hn, h63', h63m, h63k, h48', Question.forced, hs0, hold, newRow, grownCap]
    · simp [Builtin.append_, run_underlying ht, run_underlying hk, sizeOf, typeInfo, zeroValue, hi, hz, asInt, asIntOf, hw, hn0, hbig, hn, h63', h63m, h63k, h48', Question.forced, hs0, zc', hold, newRow, grownCap]
      congr 2
      apply Array.ext'
      simp [List.append_assoc]

theorem mkOk_some {n m : Int} (h : mkOk n m = some ()) : 0 ≤ n ∧ n ≤ m ∧ m ≤ lim := by
  unfold mkOk at h; split at h
  · assumption
  · simp at h

/-- What append reads, as it lies. -/
theorem appended_sound {R : Type} {t t0 e : TypeId} {sz : Nat} {zs : List T} {ti : TypeInfo} {y : AV} {vy : Value} {K : List (List T) → Option R} {r : R} (hs : HS c w s.h ρ O) (ht : P.underlying t0 = some (.slice e)) (hti : P.info? e = some ti) (hsz : ti.size = sz) (hz : zeroC P e = some zs) (hzl : zs.length = sz) (hby : P.bytesOf e ≤ 8192) (hy : RelV w (AA c w O) ρ y vy) (hk : appended P s t sz zs y K = some r) :
    ∃ ys vss, K ys = some r ∧ Ad P t0 t e ti vy ys.length vss.flatten w ∧ RelLs w (AA c w O) sz ys vss := by
  subst hsz
  unfold appended at hk
  split at hk
  · rename_i e' hu
    obtain ⟨x, hx, hk⟩ := Option.bind_eq_some_iff.1 hk
    replace hk := gdK_some hk (.inl rfl); obtain ⟨p, hp, hk⟩ := hk
    rcases snapOne_els hs hy hx hp with ⟨e, h⟩ | ⟨blk, off, cap, rfl, g⟩
    · rw [e] at hk
      refine ⟨[], [], hk, ?_, rfl⟩
      rcases h with rfl | ⟨a, cap, rfl⟩
      · exact .ofSrc ht hti (Src.ofNil w hu 0)
      · exact .ofSrc ht hti (Src.ofSlice w hu a 0 cap [] (by simp) (by simp) (by simp))
    · obtain ⟨vss, h1, h2⟩ := g.vals
      obtain ⟨l1, l2⟩ := h1.length
      exact ⟨p.2, vss, hk, .ofSrc ht hti (Src.ofSlice w hu ⟨blk, off, none⟩ _ cap _ (by rw [l2]) (fun j u hj => by rw [addr_add]; exact h2 j u hj) (fun u hu => (h1.one u hu).1)), h1⟩
  · rename_i hu
    split at hk
    · rename_i hsz
      obtain ⟨x, hx, hk⟩ := Option.bind_eq_some_iff.1 hk
      replace hk := gdK_some hk (.inl rfl); obtain ⟨b, hb, hk⟩ := hk
      have := T.str?_eq hb; subst this
      rw [AV.t?_eq hx] at hy
      simp only [RelV, RelT] at hy; subst hy
      have flat : ∀ l : List Value, (l.map fun v => [v]).flatten = l := by intro l; induction l <;> simp_all
      refine ⟨_, ((b.data.toList.map fun b => Value.int .u8 b.toNat).map fun v => [v]), hk, ?_, ?_⟩
      · rw [flat, List.length_map]
        have := Src.ofString (P := P) w hu b
        have e : b.data.toList.length = b.size := by rw [Array.length_toList]; rfl
        rw [e]; exact .ofSrc ht hti (by rw [hsz]; exact this)
      · have gen : ∀ l : List UInt8, RelLs w (AA c w O) 1 (l.map fun u => [T.int .u8 u.toNat]) ((l.map fun b => Value.int .u8 b.toNat).map fun v => [v]) := by
          intro l
          induction l with
          | nil => rfl
          | cons u l ih => exact ⟨_, _, rfl, rfl, ⟨_, [], rfl, rel_int _ _ _ _, rfl⟩, ih⟩
        rw [hsz]; exact gen _
    · simp at hk
  · rename_i ki hu
    obtain ⟨x, hx, hk⟩ := Option.bind_eq_some_iff.1 hk
    replace hk := gdK_some hk (.inl rfl); obtain ⟨n, hn, hk⟩ := hk
    replace hk := gdK_some hk (.inl rfl); obtain ⟨_, hb, hk⟩ := hk
    have := T.int?_eq hn; subst this
    obtain ⟨h0, _, h2⟩ := mkOk_some hb
    rw [AV.t?_eq hx] at hy
    simp only [RelV, RelT] at hy; subst hy
    obtain ⟨ti', zv, hti', hzv, hof⟩ := zeroC_some hz
    rw [hti] at hti'; cases hti'
    have hr : RelTs w (AA c w O) zs zv.cells.toList := ofVals_rel hof
    have hzs : zv.cells.size = ti.size := by
      have := hr.length
      rw [Array.length_toList] at this
      omega
    have hrs := RelLs.replicate hr hzl n.toNat
    have hby' : ti.bytes ≤ 8192 := by simpa [Program.bytesOf, hti] using hby
    refine ⟨_, _, hk, ?_, hrs⟩
    rw [List.length_replicate]
    exact .ofZeros ht hu hti hzv hzs hby' h0 (by simpa [lim] using h2) (fun u hu => (hr.one u hu).1)
  · simp at hk

theorem grownCells (z : Array Value) (l : List Value) (k : Nat) : ∀ (p : Nat) (v : Value), l[p]? = some v → (l.toArray ++ Builtin.zeroCells z k)[p]? = some v := by
  intro p v hp
  have hlt := (List.getElem?_eq_some_iff.1 hp).1
  rw [Array.getElem?_append_left (by simpa using hlt)]
  simpa using hp

theorem fits_bytes {bs n : Nat} (h : fits bs n) (hb : bs ≤ 8192) : n * bs ≤ 140737488355328 := by
  rcases h with h | ⟨_, h⟩
  · have : n * bs ≤ 4294967296 * 8192 := Nat.mul_le_mul h hb
    omega
  · exact h
theorem fits_len {bs n : Nat} (h : fits bs n) : n ≤ 140737488355328 := by
  rcases h with h | ⟨h0, h⟩
  · have : n ≤ 4294967296 := h
    omega
  · exact Nat.le_trans (Nat.le_mul_of_pos_right n h0) h

/-- One slice of the call's own, 'xs' of it shown, is appended to. -/
theorem append_own_core {t tx ty e : TypeId} {ti : TypeInfo} {zs : List T} {y : Value} {i i' : Id} {b : Bool} {xs ys : List (List T)} {vss : List (List Value)} {base : Option Addr} {cap : Nat}
    (hs : HS c w h ρ O) (hi : h i ≠ none) (hi' : h i' = none) (ht : P.underlying t = some (.slice e)) (hz : zeroC P e = some zs) (hzl : zs.length = P.cellsOf e) (hby : P.bytesOf e ≤ 8192)
    (hsm : fits (P.bytesOf e) (xs.length + ys.length)) (hcap : xs.length ≤ cap) (hnil : base = none ↔ b = true) (hspot : True)
    (hat : cap = 0 ∨ ∃ blk off arr tt, base = some ⟨blk, off, none⟩ ∧ O i = some blk ∧ w.heap[blk]? = some (.cells arr tt (0, 0)) ∧ off + cap * P.cellsOf e ≤ arr.size ∧ RelEls w (AA c w O) blk (P.cellsOf e) off xs)
    (hti : P.info? e = some ti) (src : Ad P t tx e ti y ys.length vss.flatten w) (hfrz : RelLs w (AA c w O) (P.cellsOf e) ys vss) (hrl : i'.real = true := by rfl) :
    ∃ v w' ρ' O', (Builtin.append_ #[t, tx] ty #[.slice base xs.length cap, y]).run P w = .ok v w' ∧ Le w ρ O w' ρ' O' ∧ ρ' i' = some v ∧
      HS c w' (upd (upd h i' (some (.sl false (P.cellsOf e) (b && ys.isEmpty) (xs ++ ys)))) i (some .dead)) ρ' O' := by
  obtain ⟨ti', zv, hti', hzv, hof⟩ := zeroC_some hz
  rw [hti] at hti'; cases hti'
  have hsz : P.cellsOf e = ti.size := by simp [Program.cellsOf, hti]
  have hne : i' ≠ i := fun e => hi (e ▸ hi')
  obtain ⟨l1, l2⟩ := hfrz.length
  by_cases hroom : xs.length + ys.length ≤ cap
  · rcases hat with hat | ⟨blk, off, arr, tt, rfl, hO, hb, hfit, hels⟩
    · -- no memory at all
      subst hat
      have ex : xs = [] := List.length_eq_zero_iff.1 (by omega)
      have ey : ys = [] := List.length_eq_zero_iff.1 (by omega)
      subst ex; subst ey
      have ev : vss = [] := by simpa using l1
      subst ev
      obtain ⟨g1, g2⟩ := HS.move (hrl := hrl) (w' := w) hs hi hi' (.slice base 0 0) none rfl rfl rfl (Nat.le_refl _) (fun _ _ _ => rfl) (.inl rfl) (.sl false (P.cellsOf e) (b && true) []) (by
        refine ⟨_, by rw [upd_same]; rfl, ⟨base, 0, rfl, by simp, ?_, hspot, .inl rfl⟩, by simp⟩
        simpa using hnil)
      refine ⟨_, w, _, _, ?_, g1, by rw [upd_same], by simpa using g2⟩
      exact src.idle rfl ty base 0 0 (Nat.le_refl _)
    · -- in place
      rw [hsz] at hfit
      have run := src.inn ty blk off xs.length cap arr tt hb hroom hfit
      have hcond : ∀ k, k < w.heap.size → O i ≠ some k → (w.setRow blk (repl (off + xs.length * ti.size) vss.flatten arr.toList).toArray).heap[k]? = w.heap[k]? := fun k _ hk => setRow_other w blk k _ (fun e => hk (e ▸ hO))
      have lfit : off + xs.length * ti.size + vss.flatten.length ≤ arr.toList.length := by
        have l3 : arr.toList.length = arr.size := Array.length_toList
        rw [l2, hsz, l3]
        have hm : (xs.length + ys.length) * ti.size ≤ cap * ti.size := Nat.mul_le_mul_right _ hroom
        rw [Nat.add_mul] at hm; omega
      obtain ⟨g1, g2⟩ := HS.move (hrl := hrl) (w' := w.setRow blk (repl (off + xs.length * ti.size) vss.flatten arr.toList).toArray) hs hi hi' (.slice (some ⟨blk, off, none⟩) (xs.length + ys.length) cap) (O i) rfl rfl rfl (by rw [setRow_size]; exact Nat.le_refl _) hcond (.inr (.inl rfl))
        (.sl false (P.cellsOf e) (b && ys.isEmpty) (xs ++ ys)) (by
          refine ⟨_, by rw [upd_same], ⟨some ⟨blk, off, none⟩, cap, by simp, by simpa using hroom, ?_, hspot, .inr ⟨blk, off, _, tt, rfl, ?_, setRow_heap w blk arr _ tt (0, 0) hb, ?_, ?_⟩⟩, by simp⟩
          · have : b = false := by cases b <;> simp_all
            simp [this]
          · simpa using hO
          · simp only [List.size_toArray]
            rw [repl_length _ _ _ lfit, hsz]; simpa using hfit
          · have cellAt : ∀ p, (w.setRow blk (repl (off + xs.length * ti.size) vss.flatten arr.toList).toArray).cell? ⟨blk, p, none⟩ = if off + xs.length * ti.size ≤ p ∧ p < off + xs.length * ti.size + vss.flatten.length then vss.flatten[p - (off + xs.length * ti.size)]? else w.cell? ⟨blk, p, none⟩ := by
              intro p
              rw [cell_setRow hb, List.getElem?_toArray, repl_get _ _ _ lfit, cell_block hb]
              simp
            have hA : ∀ b', AA c w O b' → AA c (w.setRow blk (repl (off + xs.length * ti.size) vss.flatten arr.toList).toArray) (upd (upd O i none) i' (O i)) b' ∧ (w.setRow blk (repl (off + xs.length * ti.size) vss.flatten arr.toList).toArray).heap[b']? = w.heap[b']? := by
              intro b' hb'
              refine ⟨⟨hb'.1, by rw [setRow_size]; exact hb'.2.1, fun j hj => ?_⟩, setRow_other w blk b' _ (fun e => hb'.2.2 i (e ▸ hO))⟩
              by_cases e1 : j = i'
              · subst e1; rw [upd_same] at hj; exact hb'.2.2 i hj
              · rw [upd_ne _ _ e1] at hj
                by_cases e2 : j = i
                · subst e2; rw [upd_same] at hj; cases hj
                · rw [upd_ne _ _ e2] at hj; exact hb'.2.2 j hj
            refine RelEls.append (RelEls.cells hA (fun p h1 h2 => ?_) hels) ?_
            · rw [hsz] at h2; rw [cellAt, if_neg (by omega)]
            · refine RelEls.of_vals (RelLs.mono hA hfrz) (fun p v hp => ?_)
              have hlt := (List.getElem?_eq_some_iff.1 hp).1
              rw [hsz, cellAt, if_pos (by omega), show off + xs.length * ti.size + p - (off + xs.length * ti.size) = p by omega]
              exact hp)
      exact ⟨_, _, _, _, run, g1, by rw [upd_same], g2⟩
  · -- a new row
    have hneed : (xs.length + ys.length) * ti.bytes ≤ 140737488355328 := by
      have e1 : P.bytesOf e = ti.bytes := by simp [Program.bytesOf, hti]
      rw [← e1]; exact fits_bytes hsm hby
    have hold : ∃ olds : List (List Value), RelLs w (AA c w O) (P.cellsOf e) xs olds ∧ (Builtin.firstCells ti.size xs.length (.slice base xs.length cap)).run P w.drew = .ok olds.flatten.toArray w.drew := by
      rcases hat with hat | ⟨blk, off, arr, tt, rfl, hO, hb, hfit, hels⟩
      · have ex : xs = [] := List.length_eq_zero_iff.1 (by omega)
        subst ex
        refine ⟨[], rfl, ?_⟩
        cases base with
        | none => exact run_firstCells_none w.drew _ _ _ _
        | some a => exact run_firstCells_some w.drew _ 0 a _ _ [] (by simp) (by simp)
      · obtain ⟨olds, k1, k2⟩ := hels.vals
        refine ⟨olds, k1, ?_⟩
        obtain ⟨m1, m2⟩ := k1.length
        exact run_firstCells_some w.drew _ _ _ _ _ _ (by rw [m2, hsz]) (fun j v hj => by rw [addr_add]; simpa using k2 j v hj)
    obtain ⟨olds, ho1, ho2⟩ := hold
    have hgrow : cap < xs.length + ys.length := by omega
    have run := src.grow ty zv base xs.length cap olds.flatten hzv ho2 hgrow (by have := fits_len hsm; omega) (growslice_fits hgrow hneed)
    obtain ⟨m1, m2⟩ := ho1.length
    have hzs : zv.cells.size = ti.size := by
      have := (ofVals_rel (w := w) (A := AA c w O) hof).length
      rw [Array.length_toList] at this
      rw [this, hzl, hsz]
    have ys0 : ys.isEmpty = false := by
      cases ys with
      | nil => simp at hgrow; omega
      | cons => rfl
    have hge := grownCap_ge w (xs.length + ys.length) cap e
    obtain ⟨g1, g2⟩ := HS.move (hrl := hrl) (w' := w.drew.alloc (.cells ((olds.flatten ++ vss.flatten).toArray ++ Builtin.zeroCells zv.cells (grownCap w (xs.length + ys.length) cap e - (xs.length + ys.length))) e)) hs hi hi'
      (.slice (some ⟨w.heap.size, 0, none⟩) (xs.length + ys.length) (grownCap w (xs.length + ys.length) cap e)) (some w.heap.size) rfl rfl rfl (by simp) (fun k hk _ => Go.RowKit.Below.heap_alloc w.drew _ k hk) (.inr (.inr ⟨rfl, by simp⟩))
      (.sl false (P.cellsOf e) (b && ys.isEmpty) (xs ++ ys)) (by
        refine ⟨_, by rw [upd_same], ⟨some ⟨w.heap.size, 0, none⟩, grownCap w (xs.length + ys.length) cap e, by simp, by simpa using hge, by simp [ys0], trivial, .inr ⟨w.heap.size, 0, _, e, rfl, by simp, heap_new (w := w.drew) _, ?_, ?_⟩⟩, by simp⟩
        · simp only [Array.size_append, List.size_toArray, List.length_append, m2, l2, size_zeroCells, hzs, hsz, ← Nat.add_mul, Nat.zero_add]
          exact Nat.mul_le_mul_right _ (by omega)
        · have hA : ∀ b', AA c w O b' → AA c (w.drew.alloc (.cells ((olds.flatten ++ vss.flatten).toArray ++ Builtin.zeroCells zv.cells (grownCap w (xs.length + ys.length) cap e - (xs.length + ys.length))) e)) (upd (upd O i none) i' (some w.heap.size)) b' ∧ (w.drew.alloc (.cells ((olds.flatten ++ vss.flatten).toArray ++ Builtin.zeroCells zv.cells (grownCap w (xs.length + ys.length) cap e - (xs.length + ys.length))) e)).heap[b']? = w.heap[b']? := by
            intro b' hb'
            refine ⟨⟨hb'.1, by have := hb'.2.1; simp; omega, fun j hj => ?_⟩, Go.RowKit.Below.heap_alloc w.drew _ b' hb'.2.1⟩
            by_cases e1 : j = i'
            · subst e1; rw [upd_same] at hj; cases hj; exact Nat.lt_irrefl _ hb'.2.1
            · rw [upd_ne _ _ e1] at hj
              by_cases e2 : j = i
              · subst e2; rw [upd_same] at hj; cases hj
              · rw [upd_ne _ _ e2] at hj; exact hb'.2.2 j hj
          refine RelEls.of_vals (vss := olds ++ vss) (RelLs.append (RelLs.mono hA ho1) (RelLs.mono hA hfrz)) (fun p v hp => ?_)
          refine (cell_block (w := w.drew.alloc _) (b := w.heap.size) (heap_new (w := w.drew) _) _).trans ?_
          rw [Nat.zero_add]
          exact grownCells _ _ _ p v (by simpa using hp))
    exact ⟨_, _, _, _, run, g1, by rw [upd_same], g2⟩

/-- append on what is empty and shared: new memory, or none. -/
theorem append_emp_core {t tx ty e : TypeId} {ti : TypeInfo} {zs : List T} {y vx : Value} {i' : Id} {b : Bool} {ys : List (List T)} {vss : List (List Value)}
    (hs : HS c w h ρ O) (hi' : h i' = none) (ht : P.underlying t = some (.slice e)) (hz : zeroC P e = some zs) (hzl : zs.length = P.cellsOf e) (hby : P.bytesOf e ≤ 8192)
    (hsm : fits (P.bytesOf e) ys.length) (hx : RelT w A (.emp b) vx)
    (hti : P.info? e = some ti) (src : Ad P t tx e ti y ys.length vss.flatten w) (hfrz : RelLs w (AA c w O) (P.cellsOf e) ys vss) (hrl : i'.real = true := by rfl) :
    ∃ v w' ρ' O', (Builtin.append_ #[t, tx] ty #[vx, y]).run P w = .ok v w' ∧ Le w ρ O w' ρ' O' ∧ ρ' i' = some v ∧
      HS c w' (upd h i' (some (.sl false (P.cellsOf e) (b && ys.isEmpty) ys))) ρ' O' := by
  obtain ⟨ti', zv, hti', hzv, hof⟩ := zeroC_some hz
  rw [hti] at hti'; cases hti'
  have hsz : P.cellsOf e = ti.size := by simp [Program.cellsOf, hti]
  obtain ⟨l1, l2⟩ := hfrz.length
  obtain ⟨base, rfl, hnil, hspot⟩ : ∃ base, vx = .slice base 0 0 ∧ (base = none ↔ b = true) ∧ True := by
    simp only [RelT] at hx
    rcases hx with ⟨rfl, rfl⟩ | ⟨rfl, blk, off, sp, rfl⟩
    · exact ⟨none, rfl, by simp, trivial⟩
    · exact ⟨some _, rfl, by simp, trivial⟩
  by_cases hy0 : ys = []
  · subst hy0
    have ev : vss = [] := by simpa using l1
    subst ev
    have le : Le w ρ O w (upd ρ i' (some (.slice base 0 0))) (upd O i' none) := by
      refine ⟨rfl, rfl, rfl, Nat.le_refl _, fun j u hj => ?_, fun b hb hn => rfl, fun j b hj => ?_⟩
      · by_cases e : j = i'
        · subst e; rw [(hs.nodom _ hrl hi').1] at hj; cases hj
        · rw [upd_ne _ _ e]; exact hj
      · by_cases e : j = i'
        · subst e; rw [upd_same] at hj; cases hj
        · rw [upd_ne _ _ e] at hj; exact .inl ⟨j, hj⟩
    refine ⟨.slice base 0 0, w, _, _, src.idle rfl ty base 0 0 (Nat.le_refl _), le, by rw [upd_same], ?_⟩
    have gk : GK w ρ O w (upd ρ i' (some (.slice base 0 0))) (upd O i' none) := fun j n => ⟨upd_ne _ _ (real_ne hrl), upd_ne _ _ (real_ne hrl), fun _ _ => rfl⟩
    refine hs.go le gk (fun j b' hj => ?_) (fun j hjr hj => ?_) (fun j hj => ?_) (fun j n => by rw [upd_ne _ _ (real_ne hrl)]; exact hs.nog j n) (fun j k d hj hk => ?_) (fun j d hj => ?_)
    · by_cases e : j = i'
      · subst e; rw [upd_same] at hj; cases hj
        right
        refine ⟨_, by rw [upd_same]; rfl, ⟨base, 0, rfl, by simp, ?_, hspot, .inl rfl⟩, by simp⟩
        simpa using hnil
      · rw [upd_ne _ _ e] at hj
        exact .inl ⟨hj, upd_ne _ _ e, fun _ _ => rfl⟩
    · by_cases e : j = i'
      · subst e; rw [upd_same] at hj; cases hj
      · rw [upd_ne _ _ e] at hj; rw [upd_ne _ _ e, upd_ne _ _ e]; exact hs.nodom j hjr hj
    · by_cases e : j = i'
      · subst e; rw [upd_same] at hj; cases hj
      · rw [upd_ne _ _ e] at hj; exact hj
    · by_cases e : j = i'
      · subst e; rw [upd_same] at hj; cases hj
      · by_cases e' : k = i'
        · subst e'; rw [upd_same] at hk; cases hk
        · rw [upd_ne _ _ e] at hj; rw [upd_ne _ _ e'] at hk; exact hs.inj j k d hj hk
    · by_cases e : j = i'
      · subst e; rw [upd_same] at hj; cases hj
      · rw [upd_ne _ _ e] at hj; exact hs.lt j d hj
  · have hpos : 0 < ys.length := List.length_pos_iff.2 hy0
    have hneed : (0 + ys.length) * ti.bytes ≤ 140737488355328 := by
      have e1 : P.bytesOf e = ti.bytes := by simp [Program.bytesOf, hti]
      rw [← e1, Nat.zero_add]; exact fits_bytes hsm hby
    have ho2 : (Builtin.firstCells ti.size 0 (.slice base 0 0)).run P w.drew = .ok ([] : List Value).toArray w.drew := by
      cases base with
      | none => exact run_firstCells_none w.drew _ _ _ _
      | some a => exact run_firstCells_some w.drew _ 0 a _ _ [] (by simp) (by simp)
    have run := src.grow ty zv base 0 0 [] hzv ho2 (by omega) (by have := fits_len hsm; omega) (growslice_fits (by omega) hneed)
    have hzs : zv.cells.size = ti.size := by
      have := (ofVals_rel (w := w) (A := AA c w O) hof).length
      rw [Array.length_toList] at this
      rw [this, hzl, hsz]
    have ys0 : ys.isEmpty = false := by
      cases ys with
      | nil => simp at hpos
      | cons => rfl
    have hge := grownCap_ge w (0 + ys.length) 0 e
    have lew : Le w ρ O w.drew ρ O := ⟨rfl, rfl, rfl, Nat.le_refl _, fun _ _ h => h, fun _ _ _ => rfl, fun i b h => .inl ⟨i, h⟩⟩
    have hs' : HS c w.drew h ρ O := hs.world lew fun _ _ _ => rfl
    obtain ⟨g1, g2⟩ := hs'.newSl (hrl := hrl) (sz := P.cellsOf e) hi' e (([] ++ vss.flatten).toArray ++ Builtin.zeroCells zv.cells (grownCap w (0 + ys.length) 0 e - (0 + ys.length))) (grownCap w (0 + ys.length) 0 e) (RelLs.mono (fun b hb => lew.A b hb) hfrz)
      (fun p v hp => grownCells _ _ _ p v (by simpa using hp)) (by omega) (by
        simp only [Array.size_append, List.size_toArray, List.nil_append, l2, size_zeroCells, hzs, hsz, ← Nat.add_mul]
        exact Nat.mul_le_mul_right _ (by omega))
    refine ⟨_, _, _, _, run, lew.trans g1, ?_, ?_⟩
    · rw [upd_same, Nat.zero_add]; rfl
    · simpa [ys0] using g2

theorem updH_two (h : Id → Option Blk) (i j : Id) (a b : Blk) : updH h [(i, a), (j, b)] = upd (upd h i (some a)) j (some b) := rfl

theorem freshAt_mem {d : Nat} {us : Upd} {k : Nat} {b : Blk} (hf : freshAt d h us = true) (hm : (Id.s d k, b) ∈ us) : h (.s d k) = none := by
  have := List.all_eq_true.1 hf _ hm
  simpa using this

set_option maxHeartbeats 1000000 in
theorem pushV_real {i i' x : Id} {nx : Nat} {v vk : Value} (hr : x.real = true) (hx : x ≠ i') : pushV ρ i i' nx v vk x = ρ x := by
  unfold pushV; rw [if_neg hx]
  cases x with
  | g y n => cases hr
  | _ => rfl
theorem pushV_new {i i' : Id} {nx : Nat} {v vk : Value} : pushV ρ i i' nx v vk i' = some v := by unfold pushV; rw [if_pos rfl]
theorem pushV_row {i i' y : Id} {n nx : Nat} {v vk : Value} (hrl : i'.real = true) (hy : y ≠ i') : pushV ρ i i' nx v vk (.g y n) = ρ (.g y n) := by
  unfold pushV; rw [if_neg (real_ne hrl)]; simp only [if_neg hy]
theorem pushO_src {i i' j src : Id} {nx : Nat} {ob : Option Nat} (h : src ≠ i') : pushO O i i' j src nx ob src = none := by
  unfold pushO; rw [if_neg h, if_pos (.inr (.inr rfl))]
theorem pushO_real {i i' j src x : Id} {nx : Nat} {ob : Option Nat} (hr : x.real = true) (hx : x ≠ i') (h1 : x ≠ i) (h2 : x ≠ j) (h3 : x ≠ src) : pushO O i i' j src nx ob x = O x := by
  unfold pushO; rw [if_neg hx, if_neg (by rintro (h | h | h) <;> contradiction)]
  cases x with
  | g y n => cases hr
  | _ => rfl
theorem pushO_row {i i' j src y : Id} {n nx : Nat} {ob : Option Nat} (hri : i.real = true) (hrj : j.real = true) (hrl : i'.real = true) (hy : y ≠ i') (hy2 : y ≠ i) (h3 : Id.g y n ≠ src) : pushO O i i' j src nx ob (.g y n) = O (.g y n) := by
  unfold pushO; rw [if_neg (real_ne hrl), if_neg (by rintro (h | h | h); exact real_ne hri h; exact real_ne hrj h; exact h3 h)]; simp only [if_neg hy, if_neg hy2]
/-- A row goes over: block a is what it was but for it. -/
theorem RelB.gone {i i' j a : Id} {n nx : Nat} {ob : Option Nat} {v vk : Value} {b : Bool} {sz col rsz nx2 : Nat} {es : List Row} {p : Bool × List (List T)} (hs : HS c w h ρ O) (hri : i.real = true) (hrj : j.real = true) (hrl : i'.real = true) (ha : h a = some (.rows b sz col rsz nx2 es)) (hai' : a ≠ i') (hai : a ≠ i) (haj : a ≠ j) (hf : findR n es = some p)
    (hA : ∀ d, AA c w O d → AA c w' (pushO O i i' j (.g a n) nx ob) d ∧ w'.heap[d]? = w.heap[d]?) (hkeep : ∀ x d, x ≠ i → O x = some d → w'.heap[d]? = w.heap[d]?) :
    RelB w' (AA c w' (pushO O i i' j (.g a n) nx ob)) (pushV ρ i i' nx v vk) (pushO O i i' j (.g a n) nx ob) a (.rows b sz col rsz nx2 (setR n none es)) := by
  have hra := hs.real (i := a) (by rw [ha]; simp)
  obtain ⟨k, e, hk, hen, heo, hset⟩ := findR_mem hf
  obtain ⟨a', cap, r1, r2, r3, ⟨n1, n2, n3, n4⟩, r5⟩ := hs.blk a _ ha
  have O1 : ∀ m, m ≠ n → pushO O i i' j (.g a n) nx ob (.g a m) = O (.g a m) := fun m hm => pushO_row hri hrj hrl hai' hai (by intro h; simp only [Id.g.injEq] at h; exact hm h.2)
  have hs' : (.g a n : Id) ≠ i' := real_ne hrl
  rw [hset]
  have hlen : (es.set k { e with own := none }).length = es.length := by simp
  have hmap : (es.set k { e with own := none }).map (·.n) = es.map (·.n) := by
    rw [List.map_set]
    refine List.ext_getElem? fun m => ?_
    rw [List.getElem?_set]
    split
    · rename_i h; subst h
      have := (List.getElem?_eq_some_iff.1 hk).1
      rw [if_pos (by simpa using this)]; simp [hk]
    · rfl
  refine ⟨a', cap, by rw [hlen, pushV_real hra hai']; exact r1, by rw [hlen]; exact r2, r3, ⟨by rw [hmap]; exact n1, fun f hf' => ?_, fun m hm => by rw [pushV_row hrl hai']; exact n3 m hm, fun m d hd => ?_⟩, ?_⟩
  · rcases List.mem_or_eq_of_mem_set hf' with hf' | rfl
    · exact n2 f hf'
    · exact n2 e (List.mem_of_getElem? hk)
  · by_cases hm : m = n
    · subst hm; rw [pushO_src hs'] at hd; cases hd
    · rw [O1 m hm] at hd
      obtain ⟨f, hf', hfn⟩ := n4 m d hd
      have : m ∈ (es.set k { e with own := none }).map (·.n) := by rw [hmap]; exact List.mem_map.2 ⟨f, hf', hfn⟩
      obtain ⟨f', h1, h2⟩ := List.mem_map.1 this
      exact ⟨f', h1, h2⟩
  · rcases r5 with r5 | ⟨blk, off, arr, t, q1, q2, q3, q4, q5⟩
    · exact .inl r5
    · have hbk : w'.heap[blk]? = w.heap[blk]? := hkeep a blk hai q2
      refine .inr ⟨blk, off, arr, t, q1, by rw [pushO_real hra hai' hai haj (real_ne hra).symm]; exact q2, by rw [hbk]; exact q3, q4, ?_⟩
      have hrow := q5.get hk
      refine RowsAt.set hA (List.getElem?_eq_some_iff.1 hk).1 (fun _ _ _ _ => cell_of_block hbk) (fun m f hm hf' => ?_) ?_ q5
      · have hfn : f.n ≠ n := fun h => hm (nodup_at n1 hf' hk (by rw [h, hen]))
        exact ⟨pushV_row hrl hai', O1 _ hfn, fun d hd => hkeep _ d (real_ne hri) hd⟩
      · obtain ⟨a1, a2, a3, u, a4, a5, a7⟩ := hrow
        refine ⟨a1, a2, fun m y hm hy => ?_, u, by rw [cell_of_block hbk]; exact a4, by rw [pushV_row hrl hai']; exact a5, ?_⟩
        · obtain ⟨u', g1, g2⟩ := a3 m y hm hy
          exact ⟨u', by rw [cell_of_block hbk]; exact g1, RelT.mono hA y u' g2⟩
        · simp only
          rw [hen]; exact pushO_src hs'
theorem allT_get : ∀ {cs : List AV} {l : List T}, allT cs = some l → l.length = cs.length ∧ ∀ (j : Nat) (x : T), l[j]? = some x → cs[j]? = some (AV.t x)
  | [], l, h => by simp only [allT, Option.some.injEq] at h; subst h; simp
  | v :: cs, l, h => by
    cases v <;> simp only [allT, reduceCtorEq] at h
    rename_i x
    obtain ⟨l', h1, h⟩ := Option.bind_eq_some_iff.1 h
    simp only [Option.some.injEq] at h; subst h
    obtain ⟨g1, g2⟩ := allT_get h1
    refine ⟨by simp [g1], fun j y hj => ?_⟩
    cases j with
    | zero => simpa using hj
    | succ j => simpa using g2 j y (by simpa using hj)
/-- An element is appended to a slice of rows. -/
theorem appendR_sound {R : Type} {d : Nat} {t ty tr e e' : TypeId} {ti : TypeInfo} {zs : List T} {i j : Id} {b : Bool} {sz col rsz nx : Nat} {es : List Row} {cs : List AV} {vx vy : Value} {K : AV → Upd → Option R} {r : R} (hs : HS c w s.h ρ O)
    (ht : P.underlying t = some (.slice e)) (hty : P.underlying ty = some (.slice e')) (hz : zeroC P e = some zs) (hzl : zs.length = P.cellsOf e) (hby : P.bytesOf e ≤ 8192) (hti : P.info? e = some ti)
    (hi : s.h i = some (.rows b sz col rsz nx es)) (hj : s.h j = some (.arr cs)) (hx : ρ i = some vx) (hy : ρ j = some vy) (hk : appendR P s d e i sz col rsz nx es j cs K = some r) :
    ∃ v us, K v us = some r ∧ (freshAt d s.h us = true → ∃ u w' ρ' O', (Builtin.append_ #[t, ty] tr #[vx, vy]).run P w = .ok u w' ∧ Le w ρ O w' ρ' O' ∧ HS c w' (updH s.h us) ρ' O' ∧ RelV w' (AA c w' O') ρ' v u) := by
  obtain ⟨ti', zv, hti', hzv, hof⟩ := zeroC_some hz
  rw [hti] at hti'; cases hti'
  have hsz : P.cellsOf e = ti.size := by simp [Program.cellsOf, hti]
  unfold appendR at hk
  split at hk
  · rename_i hcond
    obtain ⟨rfl, c1, c2, c3⟩ := hcond
    replace hk := Option.bind_eq_some_iff.1 hk; obtain ⟨l, hl, hk⟩ := hk
    obtain ⟨bj, arrj, tj, h1, h2, h3, h4, h5⟩ := hs.blk j _ hj
    rw [hy] at h1; cases h1
    obtain ⟨a, cap, r1, r2, r3, r4, r5⟩ := hs.blk i _ hi
    rw [hx] at r1; cases r1
    have hri := hs.real (i := i) (by rw [hi]; simp)
    have hrj := hs.real (i := j) (by rw [hj]; simp)
    have hnl : arrj.toList.length = 1 * ti.size := by rw [h4.length, c1, hsz]; omega
    obtain ⟨ll, lg⟩ := allT_get hl
    have src : Ad P t ty e ti (.slice (some ⟨bj, 0, none⟩) 1 1) 1 arrj.toList w := .ofSrc ht hti (Src.ofSlice w hty ⟨bj, 0, none⟩ 1 1 _ hnl (fun p u hp => by
      rw [addr_add, Nat.zero_add, cell_block h3]; simpa using hp) (fun u hu => (h5 u hu).1))
    have smallOf : ∀ n, small (P.bytesOf e) n = some () → fits (P.bytesOf e) n := by
      intro n hn; unfold small at hn; split at hn
      · assumption
      · simp at hn
    -- the cells of the element, and its slice
    have key : ∀ (src0 s0 : Id) (bb : Bool) (xs : List (List T)) (vk : Value) (X : Blk), s.h s0 ≠ none → s0 ≠ i → s0 ≠ j → (src0 = s0 ∨ ∃ n, src0 = .g s0 n) → ρ src0 = some vk → SlAt w (AA c w O) rsz bb xs vk (fun d => O src0 = some d) →
        arrj.toList[col]? = some vk → small (P.bytesOf e) (es.length + 1) = some () → s.h (.s d 0) = none →
        (∀ w' ob v, (∀ d', AA c w O d' → AA c w' (pushO O i (.s d 0) j src0 nx ob) d' ∧ w'.heap[d']? = w.heap[d']?) → (∀ x d', x ≠ i → O x = some d' → w'.heap[d']? = w.heap[d']?) → RelB w' (AA c w' (pushO O i (.s d 0) j src0 nx ob)) (pushV ρ i (.s d 0) nx v vk) (pushO O i (.s d 0) j src0 nx ob) s0 X) →
        ∃ u w' ρ' O', (Builtin.append_ #[t, ty] tr #[.slice a es.length cap, .slice (some ⟨bj, 0, none⟩) 1 1]).run P w = .ok u w' ∧ Le w ρ O w' ρ' O' ∧
          HS c w' (upd (upd (upd (upd s.h i (some .dead)) j (some .dead)) s0 (some X)) (.s d 0) (some (.rows false (P.cellsOf e) col rsz (nx + 1) (es ++ [⟨nx, l, some (bb, xs)⟩])))) ρ' O' ∧ RelV w' (AA c w' O') ρ' (.own (.s d 0)) u := by
      intro src0 s0 bb xs vk X q1 q2 q3 q4 q5 q6 q7 hsm hfree hX
      have hlr : l.length = P.cellsOf e := by rw [ll, List.length_set, c1]
      have hnr : ∀ m x, m ≠ col → l[m]? = some x → ∃ v, arrj.toList[m]? = some v ∧ RelT w (AA c w O) x v := by
        intro m x hm hx
        have := lg m x hx
        rw [List.getElem?_set, if_neg (Ne.symm hm)] at this
        obtain ⟨v, g1, g2⟩ := h4.get this
        exact ⟨v, g1, by simpa [RelV] using g2⟩
      by_cases hroom : es.length + 1 ≤ cap
      · rcases r5 with r5 | ⟨blk, off, arr, t', k1, k2, k3, k4, k5⟩
        · omega
        · subst k1
          have hm : (es.length + 1) * ti.size ≤ cap * ti.size := Nat.mul_le_mul_right _ hroom
          rw [Nat.add_mul] at hm
          rw [hsz] at k4
          have run := src.inn tr blk off es.length cap arr t' k3 hroom k4
          have lfit : off + es.length * ti.size + arrj.toList.length ≤ arr.toList.length := by rw [hnl, Array.length_toList (xs := arr)]; omega
          have cellAt : ∀ p, (w.setRow blk (repl (off + es.length * ti.size) arrj.toList arr.toList).toArray).cell? ⟨blk, p, none⟩ = if off + es.length * ti.size ≤ p ∧ p < off + es.length * ti.size + arrj.toList.length then arrj.toList[p - (off + es.length * ti.size)]? else w.cell? ⟨blk, p, none⟩ := by
            intro p
            rw [cell_setRow k3, List.getElem?_toArray, repl_get _ _ _ lfit, cell_block k3]
            simp
          obtain ⟨g1, g2⟩ := HS.pushRow (i' := .s d 0) (j := j) (src := src0) (s0 := s0) (bb := bb) (xs := xs) (vk := vk) (X := X) (blk := blk) (blk' := blk) (off := off) (off' := off) (cap' := cap) (ob := O i) (news := arrj.toList) (l := l) (w' := w.setRow blk (repl (off + es.length * ti.size) arrj.toList arr.toList).toArray)
            hs hi hfree rfl (by rw [hj]; simp) (Ne.symm c3) q1 q2 q3 q4 q5 q6 rfl rfl rfl (by rw [setRow_size]; exact Nat.le_refl _) (fun k _ hk => setRow_other w blk k _ fun e => hk (e ▸ k2)) (.inl rfl) k2 (setRow_heap w blk arr _ t' (0, 0) k3) (by rw [List.size_toArray, repl_length _ _ _ lfit, hsz]; simpa using k4) hroom k5
            (fun p hp => by rw [hsz] at hp; have hp : p < es.length * ti.size := hp; rw [cellAt, if_neg (by omega)]) c2 hlr (fun p v hp => by
              have hlt := (List.getElem?_eq_some_iff.1 hp).1
              rw [hsz, cellAt, if_pos (by omega), show off + es.length * ti.size + p - (off + es.length * ti.size) = p by omega]; exact hp) hnr q7
            (fun hA => hX _ _ _ hA fun x d' hx hd => setRow_other w blk d' _ fun e => hx (hs.inj x i d' hd (e ▸ k2)))
          exact ⟨_, _, _, _, run, g1, g2, by simp only [RelV]; exact pushV_new⟩
      · have hneed : (es.length + 1) * ti.bytes ≤ 140737488355328 := by
          have e1 : P.bytesOf e = ti.bytes := by simp [Program.bytesOf, hti]
          rw [← e1]; exact fits_bytes (smallOf _ hsm) hby
        have hold : ∃ (olds : List Value) (blk off : Nat), olds.length = es.length * ti.size ∧ (Builtin.firstCells ti.size es.length (.slice a es.length cap)).run P w.drew = .ok olds.toArray w.drew ∧ RowsAt w (AA c w O) ρ O i blk (P.cellsOf e) col rsz off es ∧ ∀ p v, olds[p]? = some v → w.cell? ⟨blk, off + p, none⟩ = some v := by
          rcases r5 with r5 | ⟨blk, off, arr, t', k1, k2, k3, k4, k5⟩
          · have ex : es = [] := List.length_eq_zero_iff.1 (by omega)
            subst ex
            refine ⟨[], 0, 0, by simp, ?_, trivial, by simp⟩
            cases a with
            | none => exact run_firstCells_none w.drew _ _ _ _
            | some a => exact run_firstCells_some w.drew _ 0 a _ _ [] (by simp) (by simp)
          · subst k1
            have hm : es.length * ti.size ≤ cap * ti.size := Nat.mul_le_mul_right _ r2
            rw [hsz] at k4
            have hlen : ((arr.toList.drop off).take (es.length * ti.size)).length = es.length * ti.size := by rw [List.length_take, List.length_drop, Array.length_toList (xs := arr)]; omega
            have hcell : ∀ p v, ((arr.toList.drop off).take (es.length * ti.size))[p]? = some v → w.cell? ⟨blk, off + p, none⟩ = some v := by
              intro p v hp
              rw [List.getElem?_take] at hp
              split at hp
              · rw [List.getElem?_drop] at hp
                rw [cell_block k3]; simpa using hp
              · cases hp
            refine ⟨_, blk, off, hlen, ?_, k5, hcell⟩
            exact run_firstCells_some w.drew _ _ _ _ _ _ hlen (fun p v hp => by rw [addr_add]; simpa using hcell p v hp)
        obtain ⟨olds, blk, off, ho1, ho2, ho3, ho4⟩ := hold
        have hgrow : cap < es.length + 1 := by omega
        have run := src.grow tr zv a es.length cap olds hzv ho2 hgrow (by have := fits_len (smallOf _ hsm); omega) (growslice_fits hgrow hneed)
        have hzs : zv.cells.size = ti.size := by
          have := (ofVals_rel (w := w) (A := AA c w O) hof).length
          rw [Array.length_toList] at this
          rw [this, hzl, hsz]
        have hge := grownCap_ge w (es.length + 1) cap e
        have cellN : ∀ p v, (olds ++ arrj.toList)[p]? = some v → (w.drew.alloc (.cells ((olds ++ arrj.toList).toArray ++ Builtin.zeroCells zv.cells (grownCap w (es.length + 1) cap e - (es.length + 1))) e)).cell? ⟨w.heap.size, p, none⟩ = some v := by
          intro p v hp
          refine (cell_block (w := w.drew.alloc _) (b := w.heap.size) (heap_new (w := w.drew) _) _).trans ?_
          exact grownCells _ _ _ p v hp
        obtain ⟨g1, g2⟩ := HS.pushRow (i' := .s d 0) (j := j) (src := src0) (s0 := s0) (bb := bb) (xs := xs) (vk := vk) (X := X) (blk := blk) (blk' := w.heap.size) (off := off) (off' := 0) (cap' := grownCap w (es.length + 1) cap e) (ob := some w.heap.size) (news := arrj.toList) (l := l)
          (w' := w.drew.alloc (.cells ((olds ++ arrj.toList).toArray ++ Builtin.zeroCells zv.cells (grownCap w (es.length + 1) cap e - (es.length + 1))) e))
          hs hi hfree rfl (by rw [hj]; simp) (Ne.symm c3) q1 q2 q3 q4 q5 q6 rfl rfl rfl (by simp) (fun k hk _ => Go.RowKit.Below.heap_alloc w.drew _ k hk) (.inr ⟨rfl, by simp⟩) rfl (heap_new (w := w.drew) _) (by
            simp only [Array.size_append, List.size_toArray, List.length_append, ho1, hnl, size_zeroCells, hzs, hsz, ← Nat.add_mul, Nat.zero_add]
            exact Nat.mul_le_mul_right _ (by omega)) hge ho3
          (fun p hp => by
            rw [hsz] at hp
            have hp : p < es.length * ti.size := hp
            have hlt : p < olds.length := by omega
            rw [Nat.zero_add, ho4 p _ (List.getElem?_eq_getElem hlt)]
            exact cellN p _ (by rw [List.getElem?_append_left hlt]; exact List.getElem?_eq_getElem hlt)) c2 hlr (fun p v hp => by
            rw [hsz, Nat.zero_add]
            refine cellN _ v ?_
            rw [List.getElem?_append_right (by omega), ho1, show es.length * ti.size + p - es.length * ti.size = p by omega]; exact hp) hnr q7
          (fun hA => hX _ _ _ hA fun x d' hx hd => Go.RowKit.Below.heap_alloc w.drew _ d' (hs.lt x d' hd))
        exact ⟨_, _, _, _, run, g1, g2, by simp only [RelV]; exact pushV_new⟩
    split at hk
    · rename_i j2 hcol
      split at hk
      · rename_i rsz' b' xs hj2
        split at hk
        · rename_i hrsz; subst hrsz
          replace hk := gdK_some hk (.inl rfl); obtain ⟨_, hsm, hk⟩ := hk
          refine ⟨_, _, hk, fun hfree => ?_⟩
          have hfree := freshAt_mem hfree (k := 0) (b := .rows false (P.cellsOf e) col rsz' (nx + 1) (es ++ [⟨nx, l, some (b', xs)⟩])) (by simp)
          obtain ⟨vk, v1, v2⟩ := h4.get hcol
          simp only [RelV] at v2
          obtain ⟨v', s1, s2⟩ := sl_at' hs hj2
          rw [v2] at s1; cases s1
          have hr2 := hs.real (i := j2) (by rw [hj2]; simp)
          have n2 : j2 ≠ .s d 0 := fun e => by rw [e, hfree] at hj2; cases hj2
          obtain ⟨u, w', ρ', O', g1, g2, g3, g4⟩ := key j2 j2 b' xs vk .dead (by rw [hj2]; simp) (fun e => by rw [e, hi] at hj2; cases hj2) (fun e => by rw [e, hj] at hj2; cases hj2) (.inl rfl) v2 (by simpa using s2) v1 (by assumption) hfree
            (fun w' ob v hA hkeep => ⟨⟨vk, by rw [pushV_real hr2 n2]; exact v2, rho_one hs v2⟩, pushO_src n2⟩)
          exact ⟨u, w', ρ', O', g1, g2, by rw [updH_cons, updH_cons, updH_cons, updH_one]; exact g3, g4⟩
        · simp at hk
      · simp at hk
    · rename_i a2 n hcol
      split at hk
      · rename_i b2 sz2 col2 rsz2 nx2 es2 ha2
        split at hk
        · rename_i hc2
          obtain ⟨rfl, hai⟩ := hc2
          replace hk := gdK_some hk (.inl rfl); obtain ⟨p, hp, hk⟩ := hk
          replace hk := gdK_some hk (.inl rfl); obtain ⟨_, hsm, hk⟩ := hk
          refine ⟨_, _, hk, fun hfree => ?_⟩
          have hfree := freshAt_mem hfree (k := 0) (b := .rows false (P.cellsOf e) col rsz2 (nx + 1) (es ++ [⟨nx, l, some p⟩])) (by simp)
          obtain ⟨vk, v1, v2⟩ := h4.get hcol
          simp only [RelV] at v2
          obtain ⟨v', s1, s2⟩ := row_at hs ha2 hp
          rw [v2] at s1; cases s1
          have n2 : a2 ≠ .s d 0 := fun e => by rw [e, hfree] at ha2; cases ha2
          have n3 : a2 ≠ j := fun e => by rw [e, hj] at ha2; cases ha2
          obtain ⟨u, w', ρ', O', g1, g2, g3, g4⟩ := key (.g a2 n) a2 p.1 p.2 vk (.rows b2 sz2 col2 rsz2 nx2 (setR n none es2)) (by rw [ha2]; simp) hai n3 (.inr ⟨n, rfl⟩) v2 s2 v1 (by assumption) hfree
            (fun w' ob v hA hkeep => RelB.gone hs hri hrj rfl ha2 n2 hai n3 hp hA hkeep)
          exact ⟨u, w', ρ', O', g1, g2, by rw [updH_cons, updH_cons, updH_cons, updH_one]; exact g3, g4⟩
        · simp at hk
      · simp at hk
    · simp at hk
  · simp at hk
theorem rowsOf_some {h : Id → Option Blk} {x : AV} {q : Id × Nat × Nat × Nat × Nat × List Row} (e : rowsOf h x = some q) : x = .own q.1 ∧ ∃ b, h q.1 = some (.rows b q.2.1 q.2.2.1 q.2.2.2.1 q.2.2.2.2.1 q.2.2.2.2.2) := by
  unfold rowsOf at e
  split at e
  · split at e
    · rename_i hi; simp only [Option.some.injEq] at e; subst e; exact ⟨rfl, _, hi⟩
    · cases e
  · cases e
theorem oneOf_some {h : Id → Option Blk} {x : AV} {q : Id × List AV} (e : oneOf h x = some q) : x = .own q.1 ∧ h q.1 = some (.arr q.2) := by
  unfold oneOf at e
  split at e
  · split at e
    · rename_i hi; simp only [Option.some.injEq] at e; subst e; exact ⟨rfl, hi⟩
    · cases e
  · cases e
theorem appendAV_sound {R : Type} {d : Nat} {rw : Bool} {t ty tr : TypeId} {x y : AV} {vx vy : Value} {K : AV → Upd → Option R} {r : R} (hs : HS c w s.h ρ O) (hx : RelV w (AA c w O) ρ x vx) (hy : RelV w (AA c w O) ρ y vy)
    (hk : appendAV P s d rw t ty x y K = some r) :
    ∃ v us, K v us = some r ∧ (freshAt d s.h us = true → ∃ u w' ρ' O', (Builtin.append_ #[t, ty] tr #[vx, vy]).run P w = .ok u w' ∧ Le w ρ O w' ρ' O' ∧ HS c w' (updH s.h us) ρ' O' ∧ RelV w' (AA c w' O') ρ' v u) := by
  unfold appendAV at hk
  replace hk := Option.bind_eq_some_iff.1 hk; obtain ⟨e, he, hk⟩ := hk
  replace hk := Option.bind_eq_some_iff.1 hk; obtain ⟨zs, hz, hk⟩ := hk
  obtain ⟨hu, hok⟩ := elemT_some he
  split at hk
  · rename_i hcond
    obtain ⟨hby, hzl⟩ := hcond
    obtain ⟨ti0, _, hti0, _, _⟩ := zeroC_some hz
    split at hk
    · rename_i i sz col rsz nx es j cs e1 e2
      cases rw with
      | false => cases e1
      | true =>
      obtain ⟨rfl, b, hi⟩ := rowsOf_some e1
      obtain ⟨rfl, hj⟩ := oneOf_some e2
      simp only [RelV] at hx hy
      split at hk
      · rename_i e' hu'
        exact appendR_sound hs hu hu' hz hzl hby hti0 hi hj hx hy hk
      · cases hk
    rename_i hnr
    clear hnr
    replace hk := appended_sound hs hu hti0 (by simp [Program.cellsOf, hti0]) hz hzl hby hy hk; obtain ⟨ys, vss, hk, src, hfrz⟩ := hk
    have smallOf : ∀ n, small (P.bytesOf e) n = some () → fits (P.bytesOf e) n := by
      intro n hn; unfold small at hn; split at hn
      · assumption
      · simp at hn
    clear he hok
    revert hk
    rcases x with _ | z | _ | _ | _ | _ | i | ⟨i, sz'', off, n⟩ | _ | _ | _ <;> intro hk <;> (try dsimp only at hk) <;> (try cases hk)
    case own =>
      split at hk
      · rename_i sz' b xs hi
        split at hk
        · rename_i hsz; subst hsz
          replace hk := gdK_some hk (.inl rfl); obtain ⟨_, hb, hk⟩ := hk
          refine ⟨_, _, hk, fun hfree => ?_⟩
          have hfree := freshAt_mem hfree List.mem_cons_self
          obtain ⟨v', g1, a, cap, q1, q2, q3, q4, q5⟩ := sl_at' hs hi
          simp only [RelV] at hx
          rw [g1] at hx; simp only [Option.some.injEq] at hx; subst hx; subst q1
          obtain ⟨v, w', ρ', O', e1, e2, e3, e4⟩ := append_own_core (ty := tr) hs (by rw [hi]; simp) hfree hu hz hzl hby (smallOf _ hb) q2 q3 q4 (by
            rcases q5 with q5 | ⟨blk, off, arr, tt, k1, k2, k3, k4, k5⟩
            · exact .inl q5
            · exact .inr ⟨blk, off, arr, tt, k1, by simpa using k2, k3, k4, k5⟩) hti0 src hfrz
          exact ⟨v, w', ρ', O', e1, e2, by rw [updH_two]; exact e4, by simp only [RelV]; exact e3⟩
        · simp at hk
      · simp at hk
    case part =>
      split at hk
      · rename_i sz' b xs hi
        split at hk
        · rename_i hsz; obtain ⟨rfl, rfl⟩ := hsz
          replace hk := gdK_some hk (.inl rfl); obtain ⟨_, hb, hk⟩ := hk
          refine ⟨_, _, hk, fun hfree => ?_⟩
          have hfree := freshAt_mem hfree List.mem_cons_self
          obtain ⟨v', g1, a, cap, q1, q2, q3, q4, q5⟩ := sl_at' hs hi
          simp only [RelV] at hx
          obtain ⟨a1, L, cap1, a', k1, k2, k3, rfl, k4⟩ := hx
          rw [g1] at k1; simp only [Option.some.injEq] at k1; subst k1
          simp only [Value.slice.injEq] at q1
          obtain ⟨rfl, rfl, rfl⟩ := q1
          have hlen : ((xs.drop off).take n).length = n := by simp only [List.length_take, List.length_drop]; omega
          have hnil : a' = none ↔ b = true := by
            rw [← q3]
            rcases k4 with ⟨_, rfl⟩ | ⟨_, e5, _⟩ | ⟨b', o, rfl, rfl⟩
            · exact Iff.rfl
            · exact e5
            · simp
          have hspot : True := trivial
          obtain ⟨v, w', ρ', O', e1, e2, e3, e4⟩ := append_own_core (ty := tr) (xs := (xs.drop off).take n) (base := a') (cap := cap1 - off) hs (by rw [hi]; simp) hfree hu hz hzl hby (by rw [hlen]; exact smallOf _ hb) (by rw [hlen]; omega) hnil hspot (by
            rcases q5 with q5 | ⟨blk, off', arr, tt, j1, j2, j3, j4, j5⟩
            · exact .inl (by omega)
            · subst j1
              rcases k4 with ⟨rfl, rfl⟩ | ⟨rfl, _⟩ | ⟨b', o, e5, rfl⟩
              · exact .inr ⟨blk, off', arr, tt, rfl, by simpa using j2, j3, by simpa using j4, by simpa using j5.take n⟩
              · exact .inl (by omega)
              · simp only [Option.some.injEq, Addr.mk.injEq] at e5
                obtain ⟨rfl, rfl, _⟩ := e5
                refine .inr ⟨blk, _, arr, tt, rfl, by simpa using j2, j3, ?_, (j5.drop off).take n⟩
                have : (cap1 - off) * P.cellsOf e + off * P.cellsOf e = cap1 * P.cellsOf e := by rw [← Nat.add_mul]; congr 1; omega
                omega) hti0 src hfrz
          rw [hlen] at e1
          exact ⟨v, w', ρ', O', e1, e2, by rw [updH_two]; exact e4, by simp only [RelV]; exact e3⟩
        · simp at hk
      · simp at hk
    case t =>
      have core : ∀ b, RelT w (AA c w O) (.emp b) vx → (gdK none (small (P.bytesOf e) ys.length) fun _ => K (.own (.s d 0)) [(.s d 0, .sl false (P.cellsOf e) (b && ys.isEmpty) ys)]) = some r →
          ∃ v us, K v us = some r ∧ (freshAt d s.h us = true → ∃ u w' ρ' O', (Builtin.append_ #[t, ty] tr #[vx, vy]).run P w = .ok u w' ∧ Le w ρ O w' ρ' O' ∧ HS c w' (updH s.h us) ρ' O' ∧ RelV w' (AA c w' O') ρ' v u) := by
        intro b hx hk
        replace hk := gdK_some hk (.inl rfl); obtain ⟨_, hb, hk⟩ := hk
        refine ⟨_, _, hk, fun hfree => ?_⟩
        have hfree := freshAt_mem hfree List.mem_cons_self
        obtain ⟨v, w', ρ', O', e1, e2, e3, e4⟩ := append_emp_core (ty := tr) hs hfree hu hz hzl hby (smallOf _ hb) hx hti0 src hfrz
        exact ⟨v, w', ρ', O', e1, e2, by rw [updH_one]; exact e4, by simp only [RelV]; exact e3⟩
      simp only [RelV] at hx
      replace hk := Option.bind_eq_some_iff.1 hk; obtain ⟨b, hb, hk⟩ := hk
      refine core b ?_ hk
      unfold nilEmp at hb
      split at hb
      · simp only [Option.some.injEq] at hb; subst hb; exact hx
      · rename_i sz b' xs
        cases h : (b' && xs.isEmpty) with
        | false => rw [h] at hb; simp at hb
        | true =>
          rw [h] at hb
          simp only [cond_true, Option.some.injEq] at hb
          subst hb
          simp only [Bool.and_eq_true, List.isEmpty_iff] at h
          simp only [RelT] at hx ⊢
          rcases hx with ⟨_, _, h1⟩ | ⟨h1, _⟩
          · exact .inl ⟨trivial, h1⟩
          · rw [h.1] at h1; cases h1
      · cases hb
  · simp at hk

theorem made_list {zv : Array Value} {sz : Nat} (hz : zv.size = sz) (n : Nat) : (madeCells zv (n * sz)).toList = (List.replicate n zv.toList).flatten := by
  refine List.ext_getElem? fun p => ?_
  by_cases hp : p < n * sz
  · have h1 : p < (List.replicate n zv.toList).flatten.length := by simpa [hz] using hp
    have := made_flat hz n n (Nat.le_refl _) p _ (List.getElem?_eq_getElem h1)
    rw [Array.getElem?_toList, this, List.getElem?_eq_getElem h1]
  · rw [List.getElem?_eq_none (by simp [madeCells]; omega), List.getElem?_eq_none (by simp [hz]; omega)]
theorem RelVs.reps {cs : List AV} {vs : List Value} (h : RelVs w A ρ cs vs) : ∀ n, RelVs w A ρ (List.replicate n cs).flatten (List.replicate n vs).flatten
  | 0 => by simp [RelVs]
  | n + 1 => by simp only [List.replicate_succ, List.flatten_cons]; exact h.append (RelVs.reps h n)
theorem nilRows_at {rsz : Nat} {i : Id} {blk : Nat} : ∀ {k n base : Nat}, (∀ m, m < n → w.cell? ⟨blk, base + m, none⟩ = some (.slice none 0 0)) → (∀ m, k ≤ m → m < k + n → ρ (.g i m) = some (.slice none 0 0)) →
    RowsAt w A ρ O i blk 1 0 rsz base ((List.range' k n).map fun k => ⟨k, [.nilp], some (true, [])⟩)
  | k, 0, base, _, _ => trivial
  | k, n + 1, base, hc, hr => by
    rw [List.range'_succ, List.map_cons]
    refine ⟨⟨rfl, by omega, fun j x hj hx => ?_, _, hc 0 (by omega), hr k (by omega) (by omega), ⟨none, 0, rfl, by simp, by simp, trivial, .inl rfl⟩⟩, nilRows_at (fun m hm => ?_) (fun m h1 h2 => hr m (by omega) (by omega))⟩
    · have : j < 1 := by simpa using (List.getElem?_eq_some_iff.1 hx).1
      omega
    · have := hc (m + 1) (by omega)
      rw [show base + 1 + m = base + (m + 1) by omega]; exact this
/-- A new slice of rows, all nil. -/
theorem HS.newRows {i : Id} {N cap rsz : Nat} {cells : Array Value} (hs : HS c w h ρ O) (hi : h i = none) (t : TypeId) (hc : ∀ p, p < N → cells[p]? = some (.slice none 0 0)) (hsz : cap ≤ cells.size) (hN : N ≤ cap) (hrl : i.real = true := by rfl) :
    ∃ ρ' O', Le w ρ O (w.alloc (.cells cells t)) ρ' O' ∧ HS c (w.alloc (.cells cells t)) (upd h i (some (.rows false 1 0 rsz N (nilRows N)))) ρ' O' ∧ ρ' i = some (.slice (some ⟨w.heap.size, 0, none⟩) N cap) := by
  let V : Id → Option Value := fun x => if x = i then some (.slice (some ⟨w.heap.size, 0, none⟩) N cap) else match x with
    | .g y n => if y = i then (if n < N then some (.slice none 0 0) else none) else ρ (.g y n)
    | x => ρ x
  have V1 : V i = some (.slice (some ⟨w.heap.size, 0, none⟩) N cap) := by simp only [V, if_true]
  have V2 : ∀ x, x.real = true → x ≠ i → V x = ρ x := by
    intro x hr hx
    simp only [V, if_neg hx]
    cases x with
    | g y n => cases hr
    | _ => rfl
  have V3 : ∀ y n, y ≠ i → V (.g y n) = ρ (.g y n) := by
    intro y n hy
    simp only [V, if_neg (real_ne hrl), if_neg hy]
  have V4 : ∀ n, V (.g i n) = if n < N then some (.slice none 0 0) else none := by
    intro n
    simp only [V, if_neg (real_ne hrl), if_true]
  have hOg : ∀ n, O (.g i n) = none := fun n => (hs.gdom i n hi).2
  have le : Le w ρ O (w.alloc (.cells cells t)) V (upd O i (some w.heap.size)) := by
    refine ⟨rfl, rfl, rfl, by simp, fun x u hx => ?_, fun d hd _ => Go.RowKit.Below.heap_alloc _ _ _ hd, fun x d hx => ?_⟩
    · cases hr : x.real with
      | true =>
        have : x ≠ i := fun e => by rw [e, (hs.nodom i hrl hi).1] at hx; cases hx
        rw [V2 x hr this]; exact hx
      | false =>
        cases x with
        | g y n =>
          have : y ≠ i := fun e => by rw [e, (hs.gdom i n hi).1] at hx; cases hx
          rw [V3 y n this]; exact hx
        | _ => cases hr
    · by_cases e : x = i
      · rw [e, upd_same] at hx; cases hx; exact .inr (Nat.le_refl _)
      · rw [upd_ne _ _ e] at hx; exact .inl ⟨x, hx⟩
  have hnl : (nilRows N).length = N := by simp [nilRows]
  refine ⟨V, _, le, hs.goG le (fun x y hx => ?_) (fun x hr hx => ?_) (fun x n => by rw [upd_ne _ _ (real_ne hrl)]; exact hs.nog x n) (fun x n hx => ?_) (fun x n u hu => ?_) (fun x y d hx hy => ?_) (fun x d hx => ?_), V1⟩
  · by_cases e : x = i
    · subst e; rw [upd_same] at hx; cases hx
      right
      refine ⟨_, cap, by rw [hnl]; exact V1, by rw [hnl]; exact hN, by simp, ⟨?_, fun f hf => ?_, fun n hn => by rw [V4, if_neg (by omega)], fun n d hd => ?_⟩, .inr ⟨w.heap.size, 0, cells, t, rfl, by rw [upd_same], heap_new _, by omega, ?_⟩⟩
      · have : (nilRows N).map (·.n) = List.range N := by
          unfold nilRows
          rw [List.map_map]
          exact List.map_id _
        rw [this]; exact List.nodup_range
      · obtain ⟨k, hk, rfl⟩ := List.mem_map.1 hf
        simpa using hk
      · rw [upd_ne _ _ (real_ne hrl), hOg] at hd; cases hd
      · unfold nilRows
        rw [List.range_eq_range']
        refine nilRows_at (fun m hm => ?_) (fun m _ hm => by rw [V4, if_pos (by omega)])
        rw [cell_block (heap_new _), Nat.zero_add]; exact hc m hm
    · rw [upd_ne _ _ e] at hx
      have hrx := hs.real (i := x) (by rw [hx]; simp)
      exact .inl ⟨hx, upd_ne _ _ e, fun d hd => Go.RowKit.Below.heap_alloc _ _ _ (hs.lt x d hd), fun n => ⟨V3 x n e, upd_ne _ _ (real_ne hrl), fun d hd => Go.RowKit.Below.heap_alloc _ _ _ (hs.lt _ d hd)⟩⟩
  · have hne : x ≠ i := fun e => by rw [e, upd_same] at hx; cases hx
    rw [upd_ne _ _ hne] at hx
    rw [V2 x hr hne, upd_ne _ _ hne]; exact hs.nodom x hr hx
  · have hne : x ≠ i := fun e => by rw [e, upd_same] at hx; cases hx
    rw [upd_ne _ _ hne] at hx
    rw [V3 x n hne, upd_ne _ _ (real_ne hrl)]; exact hs.gdom x n hx
  · by_cases hne : x = i
    · subst hne
      rw [V4] at hu
      split at hu
      · simp only [Option.some.injEq] at hu; subst hu; exact ⟨rfl, rfl⟩
      · cases hu
    · rw [V3 x n hne] at hu; exact hs.gone x n u hu
  · by_cases e : x = i <;> by_cases e' : y = i
    · rw [e, e']
    · rw [e, upd_same] at hx; cases hx; rw [upd_ne _ _ e'] at hy; exact absurd (hs.lt _ _ hy) (Nat.lt_irrefl _)
    · rw [e', upd_same] at hy; cases hy; rw [upd_ne _ _ e] at hx; exact absurd (hs.lt _ _ hx) (Nat.lt_irrefl _)
    · rw [upd_ne _ _ e] at hx; rw [upd_ne _ _ e'] at hy; exact hs.inj x y d hx hy
  · by_cases e : x = i
    · rw [e, upd_same] at hx; cases hx; simp
    · rw [upd_ne _ _ e] at hx; have := hs.lt x d hx; simp; omega
theorem makeAV_sound {R : Type} {d : Nat} {t : TypeId} {ns : Nat} {n m : T} {vn vm : Value} {K : AV → Upd → Option R} {r : R} (hs : HS c w s.h ρ O) (hn : RelV w (AA c w O) ρ (.t n) vn) (hm : RelV w (AA c w O) ρ (.t m) vm)
    (hk : makeAV P d t ns n m K = some r) :
    ∃ v us, K v us = some r ∧ (freshAt d s.h us = true → ∃ u w' ρ' O', (Instr.makeSlice t vn vm).run P w = .ok u w' ∧ Le w ρ O w' ρ' O' ∧ HS c w' (updH s.h us) ρ' O' ∧ RelV w' (AA c w' O') ρ' v u) := by
  unfold makeAV at hk
  replace hk := Option.bind_eq_some_iff.1 hk; obtain ⟨e, he, hk⟩ := hk
  replace hk := Option.bind_eq_some_iff.1 hk; obtain ⟨zs, hz, hk⟩ := hk
  obtain ⟨hu, hok⟩ := elemT_some he
  replace hk := gdK_some hk (.inl rfl); obtain ⟨n', hn', hk⟩ := hk
  replace hk := gdK_some hk (.inl rfl); obtain ⟨m', hm', hk⟩ := hk
  have := T.int?_eq hn'; subst this
  have := T.int?_eq hm'; subst this
  simp only [RelV, RelT] at hn hm; subst hn; subst hm
  split at hk
  · rename_i hcond
    obtain ⟨hby, hzl⟩ := hcond
    replace hk := gdK_some hk (.inl rfl); obtain ⟨_, hb, hk⟩ := hk
    obtain ⟨h0, h1, h2⟩ := mkOk_some hb
    cases hns : (ns == 2) with
    | true =>
      simp only [hns, cond_true] at hk
      split at hk
      · rename_i u hue
        split at hk
        · rename_i hc1
          refine ⟨_, _, hk, fun hfree => ?_⟩
          have hfree := freshAt_mem hfree List.mem_cons_self
          obtain ⟨zv, hzr, run⟩ := run_makeSliceA (w := w) (A := AA c w O) (kn := .i64) (km := .i64) hu hz hby hzl h0 h1 h2
          have hzs : zv.cells.size = P.cellsOf e := by have := hzr.length; rw [Array.length_toList] at this; omega
          have hzc : zv.cells.toList = [.slice none 0 0] := by
            obtain ⟨v, q, e1, g1, g2⟩ := hzr
            simp only [RelTs] at g2
            rw [e1, g2]
            simp only [RelT] at g1
            rcases g1 with ⟨_, g1⟩ | ⟨g1, _⟩
            · rw [g1]
            · cases g1
          have hcells : ∀ p, p < n'.toNat → (madeCells zv.cells (m'.toNat * P.cellsOf e))[p]? = some (.slice none 0 0) := by
            intro p hp
            rw [← Array.getElem?_toList, made_list hzs, hzc]
            have : (List.replicate m'.toNat [Value.slice none 0 0]).flatten = List.replicate m'.toNat (.slice none 0 0) := by
              induction m'.toNat with
              | zero => rfl
              | succ k ih => rw [List.replicate_succ, List.flatten_cons, ih]; rfl
            rw [this, List.getElem?_replicate, if_pos (by omega)]
          obtain ⟨ρ', O', g1, g2, g3⟩ := hs.newRows (i := .s d 0) (rsz := P.cellsOf u) hfree e hcells (cap := m'.toNat) (by simp [madeCells, hc1]) (by omega)
          refine ⟨_, _, ρ', O', run, g1, ?_, ?_⟩
          · rw [updH_one]; with_reducible exact g2
          · simp only [RelV]
            exact g3
        · simp at hk
      · simp at hk
    | false =>
    simp only [hns, cond_false] at hk
    refine ⟨_, _, hk, fun hfree => ?_⟩
    have hfree := freshAt_mem hfree List.mem_cons_self
    obtain ⟨zv, hzr, run⟩ := run_makeSliceA (w := w) (A := AA c w O) (kn := .i64) (km := .i64) hu hz hby hzl h0 h1 h2
    have hzs : zv.cells.size = P.cellsOf e := by have := hzr.length; rw [Array.length_toList] at this; omega
    obtain ⟨g1, g2⟩ := hs.newSl (i := .s d 0) (sz := P.cellsOf e) hfree e (madeCells zv.cells (m'.toNat * P.cellsOf e)) m'.toNat (RelLs.replicate hzr hzl n'.toNat)
      (made_flat hzs _ _ (by omega)) (by simp; omega) (by simp [madeCells])
    refine ⟨_, _, _, _, run, g1, by rw [updH_one]; exact g2, ?_⟩
    simp only [RelV]
    rw [upd_same, List.length_replicate]
  · simp at hk

end
end Go.Aev
