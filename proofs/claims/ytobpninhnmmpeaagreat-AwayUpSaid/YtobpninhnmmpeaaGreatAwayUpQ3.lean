import Derived.Test.YtobpninhnmmpeaaGreatAwayUpQ2
set_option linter.unusedSimpArgs false
set_option linter.unusedVariables false
namespace Go.Aev
open Go

section
variable {P : Program} {w w' : World} {A A' : Nat → Prop} {c : Ctx} {ρ : Id → Option Value} {O : Id → Option Nat} {s : St} {cc : Option Bool} {h : Id → Option Blk}

/-- A block is handed on under a new name: the old name is dead. -/
theorem HS.move {i i' : Id} (hs : HS c w h ρ O) (hi : h i ≠ none) (hi' : h i' = none) (v : Value) (ob' : Option Nat) (hos : w'.os = w.os) (ho : w'.output = w.output) (htp : w'.tape = w.tape) (hsz : w.heap.size ≤ w'.heap.size)
    (hkeep : ∀ k, k < w.heap.size → O i ≠ some k → w'.heap[k]? = w.heap[k]?) (hob : ob' = none ∨ ob' = O i ∨ (ob' = some w.heap.size ∧ w.heap.size < w'.heap.size)) (x : Blk)
    (hx : RelB w' (AA c w' (upd (upd O i none) i' ob')) (upd ρ i' (some v)) (upd (upd O i none) i' ob') i' x) :
    Le w ρ O w' (upd ρ i' (some v)) (upd (upd O i none) i' ob') ∧ HS c w' (upd (upd h i' (some x)) i (some .dead)) (upd ρ i' (some v)) (upd (upd O i none) i' ob') := by
  have hne : i ≠ i' := fun e => hi (e ▸ hi')
  have lt' : ∀ b, ob' = some b → b < w'.heap.size := by
    intro b hb
    rcases hob with e | e | ⟨e, e2⟩
    · rw [e] at hb; cases hb
    · rw [e] at hb; have := hs.lt i b hb; omega
    · rw [e] at hb; cases hb; exact e2
  have le : Le w ρ O w' (upd ρ i' (some v)) (upd (upd O i none) i' ob') := by
    refine ⟨hos, ho, htp, hsz, fun j u hj => ?_, fun b hb hn => hkeep b hb (hn i), fun j b hj => ?_⟩
    · by_cases e : j = i'
      · subst e; rw [(hs.nodom _ hi').1] at hj; cases hj
      · rw [upd_ne _ _ e]; exact hj
    · by_cases e : j = i'
      · subst e; rw [upd_same] at hj
        rcases hob with e | e | ⟨e, _⟩
        · rw [e] at hj; cases hj
        · rw [e] at hj; exact .inl ⟨i, hj⟩
        · rw [e] at hj; cases hj; exact .inr (Nat.le_refl _)
      · rw [upd_ne _ _ e] at hj
        by_cases e2 : j = i
        · subst e2; rw [upd_same] at hj; cases hj
        · rw [upd_ne _ _ e2] at hj; exact .inl ⟨j, hj⟩
  refine ⟨le, hs.go le (fun j b' hj => ?_) (fun j hj => ?_) (fun j k d hj hk => ?_) (fun j d hj => ?_)⟩
  · by_cases e : j = i
    · subst e; rw [upd_same] at hj; cases hj
      right
      obtain ⟨b, hb⟩ := Option.ne_none_iff_exists'.1 hi
      have hone : ∃ u, ρ j = some u ∧ u.oneCell' = true ∧ u.cells = #[u] := by
        cases hρ : ρ j with
        | none =>
          exfalso
          have := hs.blk j b hb
          cases b with
          | box cs => obtain ⟨b, _, _, h1, _⟩ := this; rw [hρ] at h1; cases h1
          | sl fz sz b xs => obtain ⟨v, h1, _⟩ := this; rw [hρ] at h1; cases h1
          | fbox l => obtain ⟨b, h1, _⟩ := this; rw [hρ] at h1; cases h1
          | dead => obtain ⟨⟨v, h1, _⟩, _⟩ := this; rw [hρ] at h1; cases h1
        | some u => exact ⟨u, rfl, rho_one hs hρ⟩
      obtain ⟨u, h1, h2⟩ := hone
      exact ⟨⟨u, by rw [upd_ne _ _ hne]; exact h1, h2⟩, by rw [upd_ne _ _ hne, upd_same]⟩
    · rw [upd_ne _ _ e] at hj
      by_cases e2 : j = i'
      · subst e2; rw [upd_same] at hj; cases hj; exact .inr hx
      · rw [upd_ne _ _ e2] at hj
        refine .inl ⟨hj, by rw [upd_ne _ _ e2, upd_ne _ _ e], fun blk hblk => hkeep blk (hs.lt j blk hblk) (fun ho => e (hs.inj j i blk hblk ho))⟩
  · by_cases e : j = i
    · subst e; rw [upd_same] at hj; cases hj
    · rw [upd_ne _ _ e] at hj
      by_cases e2 : j = i'
      · subst e2; rw [upd_same] at hj; cases hj
      · rw [upd_ne _ _ e2] at hj
        rw [upd_ne _ _ e2, upd_ne _ _ e2, upd_ne _ _ e]; exact hs.nodom j hj
  · have dec : ∀ j b, upd (upd O i none) i' ob' j = some b → (j = i' ∧ ob' = some b) ∨ (j ≠ i' ∧ j ≠ i ∧ O j = some b) := by
      intro j b hj
      by_cases e : j = i'
      · subst e; rw [upd_same] at hj; exact .inl ⟨rfl, hj⟩
      · rw [upd_ne _ _ e] at hj
        by_cases e2 : j = i
        · subst e2; rw [upd_same] at hj; cases hj
        · rw [upd_ne _ _ e2] at hj; exact .inr ⟨e, e2, hj⟩
    have clash : ∀ k b, ob' = some b → k ≠ i → O k = some b → False := by
      intro k b hb hk ho
      rcases hob with e | e | ⟨e, _⟩
      · rw [e] at hb; cases hb
      · rw [e] at hb; exact hk (hs.inj k i b ho hb)
      · rw [e] at hb; cases hb; exact Nat.lt_irrefl _ (hs.lt k _ ho)
    rcases dec j d hj with ⟨e1, e2⟩ | ⟨e1, e2, e3⟩ <;> rcases dec k d hk with ⟨f1, f2⟩ | ⟨f1, f2, f3⟩
    · rw [e1, f1]
    · exact (clash k d e2 f2 f3).elim
    · exact (clash j d f2 e2 e3).elim
    · exact hs.inj j k d e3 f3
  · by_cases e : j = i'
    · subst e; rw [upd_same] at hj; exact lt' d hj
    · rw [upd_ne _ _ e] at hj
      by_cases e2 : j = i
      · subst e2; rw [upd_same] at hj; cases hj
      · rw [upd_ne _ _ e2] at hj; have := hs.lt j d hj; omega

/-- The elements that a snap shows, as they lie. -/
theorem snapOne_els {v : AV} {x : T} {u : Value} {sz : Nat} {p : Bool × List (List T)} (hs : HS c w h ρ O) (hv : RelV w (AA c w O) ρ v u) (hsn : snapOne h v = some x) (hp : x.lst? sz = some p) :
    (p.2 = [] ∧ (u = .slice none 0 0 ∨ ∃ a cap, u = .slice (some a) 0 cap)) ∨ ∃ blk off cap, u = .slice (some ⟨blk, off, none⟩) p.2.length cap ∧ RelEls w (AA c w O) blk sz off p.2 := by
  have relU : RelT w (fun _ => True) x u := snapOne_sound hs hv hsn (fun _ _ => trivial) (fun _ _ _ _ => trivial)
  have small : p.2 = [] → (u = .slice none 0 0 ∨ ∃ a cap, u = .slice (some a) 0 cap) := by
    intro e
    rcases T.lst?_eq hp with rfl | ⟨rfl, _⟩
    · simp only [RelT] at relU
      rcases relU with ⟨_, _, rfl⟩ | ⟨_, blk, off, sp, cap, rfl, _⟩
      · exact .inl rfl
      · rw [e]; exact .inr ⟨_, _, rfl⟩
    · simp only [RelT] at relU
      rcases relU with ⟨_, rfl⟩ | ⟨_, blk, off, sp, rfl⟩
      · exact .inl rfl
      · exact .inr ⟨_, _, rfl⟩
  by_cases e : p.2 = []
  · exact .inl ⟨e, small e⟩
  right
  have hx : x = .lst sz p.1 p.2 := by
    rcases T.lst?_eq hp with h | ⟨_, h⟩
    · exact h
    · exact absurd h e
  subst hx
  cases v <;> simp only [snapOne, reduceCtorEq, Option.some.injEq] at hsn
  case t y =>
    subst hsn
    simp only [RelV, RelT] at hv
    rcases hv with ⟨_, h, _⟩ | ⟨_, blk, off, sp, cap, rfl, _, g0, g⟩
    · exact absurd h e
    · rcases g0 with g0 | ⟨rfl, _⟩
      · exact absurd g0 e
      exact ⟨blk, off, cap, rfl, g⟩
  case own i =>
    split at hsn
    · rename_i fz sz' b xs hi
      simp only [Option.some.injEq, T.lst.injEq] at hsn
      obtain ⟨rfl, rfl, rfl⟩ := hsn
      obtain ⟨v', g1, a, cap, q1, q2, q3, q4, q5⟩ := sl_at' hs hi
      simp only [RelV] at hv
      rw [g1] at hv; simp only [Option.some.injEq] at hv; subst hv; subst q1
      rcases q5 with q5 | ⟨blk, off, arr, t, q6, q7, q8, q9, q10⟩
      · exact absurd (List.length_eq_zero_iff.1 (by omega)) e
      · subst q6; exact ⟨blk, off, cap, rfl, q10⟩
    · simp at hsn
  case ref i off =>
    split at hsn
    · obtain ⟨l, _, hsn⟩ := Option.bind_eq_some_iff.1 hsn
      simp at hsn
    · simp at hsn
    · simp at hsn
  case part i sz1 off n =>
    split at hsn
    · rename_i fz sz' b xs hi
      split at hsn
      · rename_i hsz; subst hsz
        simp only [Option.some.injEq, T.lst.injEq] at hsn
        obtain ⟨rfl, rfl, hxs⟩ := hsn
        obtain ⟨v', g1, a, cap, q1, q2, q3, q4, q5⟩ := sl_at' hs hi
        simp only [RelV] at hv
        obtain ⟨a1, L, cap1, a', e1, e2, e3, rfl, e4⟩ := hv
        rw [g1] at e1; simp only [Option.some.injEq] at e1; subst e1
        simp only [Value.slice.injEq] at q1
        obtain ⟨rfl, rfl, rfl⟩ := q1
        have hlen : ((xs.drop off).take n).length = n := by simp only [List.length_take, List.length_drop]; omega
        rw [← hxs] at e ⊢
        have hn : n ≠ 0 := fun h => e (by rw [h]; rfl)
        rcases q5 with q5 | ⟨blk, off', arr, t, q6, q7, q8, q9, q10⟩
        · omega
        · subst q6
          have ea : a' = some ⟨blk, off' + off * sz', none⟩ := by
            rcases e4 with ⟨rfl, rfl⟩ | ⟨rfl, _⟩ | ⟨b', o, e5, e6⟩
            · simp
            · omega
            · simp only [Option.some.injEq, Addr.mk.injEq] at e5
              obtain ⟨rfl, rfl, _⟩ := e5
              exact e6
          subst ea
          exact ⟨blk, _, _, by rw [hlen], (q10.drop off).take n⟩
      · simp at hsn
    · simp at hsn

/-- There is room in a block of the call's own. -/
theorem run_append_in {t tx ty e : TypeId} {i : TypeInfo} (ht : P.underlying t = some (.slice e)) (hi : P.info? e = some i) {b off sLen sCap : Nat} {arr : Array Value} {tt : TypeId} (hb : w.heap[b]? = some (.cells arr tt (0, 0))) {x : Value} {n : Nat} {news : List Value}
    (hs : Src P i.size tx x n news w) (hroom : sLen + n ≤ sCap) (hfit : off + sCap * i.size ≤ arr.size) :
    (Builtin.append_ #[t, tx] ty #[.slice (some ⟨b, off, none⟩) sLen sCap, x]).run P w = .ok (.slice (some ⟨b, off, none⟩) (sLen + n) sCap) (w.setRow b (repl (off + sLen * i.size) news arr.toList).toArray) := by
  have hl := hs.newsLen
  have hm : (sLen + n) * i.size ≤ sCap * i.size := Nat.mul_le_mul_right _ hroom
  have e : (sLen + n) * i.size = sLen * i.size + n * i.size := Nat.add_mul _ _ _
  have hst := run_storeCells_at P b (off + sLen * i.size) tt news 0 arr w hb (by omega) hs.one
  simp only [Nat.add_zero] at hst
  rcases hs.kind with ⟨e', hk⟩ | hk <;> simp [Builtin.append_, run_underlying ht, run_underlying hk, sizeOf, typeInfo, hi, hs.len, hroom, hs.cells, addr_add, hst, repl]
theorem run_append_idle {t tx ty e : TypeId} {i : TypeInfo} (ht : P.underlying t = some (.slice e)) (hi : P.info? e = some i) {base : Option Addr} {sLen sCap : Nat} {x : Value} (hs : Src P i.size tx x 0 [] w) (hroom : sLen ≤ sCap) :
    (Builtin.append_ #[t, tx] ty #[.slice base sLen sCap, x]).run P w = .ok (.slice base sLen sCap) w := by
  have hc : ∀ a : Addr, (storeCells a []).run P w = .ok () w := fun a => by simp [storeCells]
  cases base <;> rcases hs.kind with ⟨e', hk⟩ | hk <;> simp [Builtin.append_, run_underlying ht, run_underlying hk, sizeOf, typeInfo, hi, hs.len, hroom, hs.cells, storeCells]


/-- What the second argument of an append yields, as far as the append itself tells. -/
structure Ad (P : Program) (t tx e : TypeId) (i : TypeInfo) (x : Value) (n : Nat) (news : List Value) (w : World) : Prop where
  newsLen : news.length = n * i.size
  one : ∀ u ∈ news, u.oneCell' = true
  idle : n = 0 → ∀ (ty : TypeId) (base : Option Addr) (sLen sCap : Nat), sLen ≤ sCap → (Builtin.append_ #[t, tx] ty #[.slice base sLen sCap, x]).run P w = .ok (.slice base sLen sCap) w
  inn : ∀ (ty : TypeId) (b off sLen sCap : Nat) (arr : Array Value) (tt : TypeId), w.heap[b]? = some (.cells arr tt (0, 0)) → sLen + n ≤ sCap → off + sCap * i.size ≤ arr.size →
    (Builtin.append_ #[t, tx] ty #[.slice (some ⟨b, off, none⟩) sLen sCap, x]).run P w = .ok (.slice (some ⟨b, off, none⟩) (sLen + n) sCap) (w.setRow b (repl (off + sLen * i.size) news arr.toList).toArray)
  grow : ∀ (ty : TypeId) (z : Value) (base : Option Addr) (sLen sCap : Nat) (olds : List Value), i.zero = some z → (Builtin.firstCells i.size sLen (.slice base sLen sCap)).run P w.drew = .ok olds.toArray w.drew → sCap < sLen + n →
    ((sLen + n : Nat) : Int) ≤ 9223372036854775807 → Builtin.nextslicecap (sLen + n) sCap * i.bytes ≤ 281474976710656 →
    (Builtin.append_ #[t, tx] ty #[.slice base sLen sCap, x]).run P w =
      .ok (.slice (some ⟨w.heap.size, 0, none⟩) (sLen + n) (grownCap w (sLen + n) sCap e))
        (w.drew.alloc (.cells ((olds ++ news).toArray ++ Builtin.zeroCells z.cells (grownCap w (sLen + n) sCap e - (sLen + n))) e))

theorem Ad.ofSrc {t tx e : TypeId} {i : TypeInfo} {x : Value} {n : Nat} {news : List Value} (ht : P.underlying t = some (.slice e)) (hi : P.info? e = some i) (hs : Src P i.size tx x n news w) : Ad P t tx e i x n news w where
  newsLen := hs.newsLen
  one := hs.one
  idle := by
    intro h ty base sLen sCap hr
    subst h
    have : news = [] := List.length_eq_zero_iff.1 (by rw [hs.newsLen]; simp)
    subst this
    exact run_append_idle ht hi hs hr
  inn := fun ty b off sLen sCap arr tt hb hr hf => run_append_in ht hi hb hs hr hf
  grow := fun ty z base sLen sCap olds hz ho hg h63 hf => run_append_grow_src w t tx ty e i z ht hi hz base sLen sCap olds ho x n news hs hg h63 hf

theorem zeroCells_toList {z : Array Value} {sz : Nat} (hz : z.size = sz) (n : Nat) : (Builtin.zeroCells z n).toList = (List.replicate n z.toList).flatten := by
  apply List.ext_getElem?
  intro p
  by_cases hp : p < n * sz
  · have h1 : ((List.replicate n z.toList).flatten).length = n * sz := by simp [hz]
    have h2 : ((List.replicate n z.toList).flatten)[p]? = some ((List.replicate n z.toList).flatten[p]'(by omega)) := List.getElem?_eq_getElem _
    rw [h2]
    have h3 := made_flat (zv := z) hz n n (Nat.le_refl _) p _ h2
    rw [← h3, Array.getElem?_toList]
    simp [madeCells, Builtin.zeroCells, hz]
  · have h1 : ((List.replicate n z.toList).flatten).length = n * sz := by simp [hz]
    have h2 : (Builtin.zeroCells z n).toList.length = n * sz := by rw [Array.length_toList, size_zeroCells, hz]
    rw [List.getElem?_eq_none (by omega), List.getElem?_eq_none (by omega)]

theorem ofZ_wrap {n : Int} (h0 : 0 ≤ n) (h1 : n ≤ 4294967296) : IntKind.i64.wrap n = n := by
  rw [IntKind.wrap_i64]; omega

theorem Ad.ofZeros {t tx e : TypeId} {i : TypeInfo} {zv : Value} {ki : IntKind} {n : Int} (ht : P.underlying t = some (.slice e)) (hk : P.underlying tx = some (.int ki)) (hi : P.info? e = some i) (hz : i.zero = some zv) (hzs : zv.cells.size = i.size) (hb : i.bytes ≤ 8192)
    (h0 : 0 ≤ n) (h1 : n ≤ 4294967296) (h1c : ∀ u ∈ zv.cells.toList, u.oneCell' = true) : Ad P t tx e i (.int .i64 n) n.toNat (List.replicate n.toNat zv.cells.toList).flatten w := by
  have hw := ofZ_wrap h0 h1
  have hn0 : ¬ (n < 0) := by omega
  have hbig : ¬ (281474976710656 < n * (i.bytes : Int)) := by
    have e1 : n * (i.bytes : Int) ≤ 4294967296 * 8192 := Int.le_trans (Int.mul_le_mul_of_nonneg_right h1 (by omega)) (Int.mul_le_mul_of_nonneg_left (by omega) (by omega))
    omega
  have nl : (List.replicate n.toNat zv.cells.toList).flatten.length = n.toNat * i.size := by simp [hzs]
  have one : ∀ u ∈ (List.replicate n.toNat zv.cells.toList).flatten, u.oneCell' = true := by
    intro u hu
    obtain ⟨l, hl, hu⟩ := List.mem_flatten.1 hu
    rw [List.mem_replicate] at hl
    obtain ⟨_, rfl⟩ := hl
    exact h1c u hu
  have zc := zeroCells_toList hzs n.toNat
  have zc' : Builtin.zeroCells zv.cells n.toNat = (List.replicate n.toNat zv.cells.toList).flatten.toArray := by rw [← zc]
  have emp : n.toNat * i.size = 0 → (List.replicate n.toNat zv.cells.toList).flatten = [] := fun h => List.length_eq_zero_iff.1 (by rw [nl, h])
  refine ⟨nl, one, ?_, ?_, ?_⟩
  · intro h ty base sLen sCap hr
    have hc : ∀ a : Addr, (storeCells a []).run P w = .ok () w := fun a => by simp [storeCells]
    cases base <;> simp [Builtin.append_, run_underlying ht, run_underlying hk, sizeOf, typeInfo, hi, asInt, asIntOf, hw, hn0, hbig, h, hr, hc]
  · intro ty b off sLen sCap arr tt hbk hroom hfit
    have hm : (sLen + n.toNat) * i.size ≤ sCap * i.size := Nat.mul_le_mul_right _ hroom
    have e : (sLen + n.toNat) * i.size = sLen * i.size + n.toNat * i.size := Nat.add_mul _ _ _
    have hst := run_storeCells_at P b (off + sLen * i.size) tt (List.replicate n.toNat zv.cells.toList).flatten 0 arr w hbk (by omega) one
    simp only [Nat.add_zero] at hst
    by_cases hs0 : n.toNat * i.size = 0
    · have := emp hs0
      rw [this] at hst ⊢
      simp [Builtin.append_, run_underlying ht, run_underlying hk, sizeOf, typeInfo, hi, asInt, asIntOf, hw, hn0, hbig, hroom, hs0, addr_add, hst, repl]
    · simp [Builtin.append_, run_underlying ht, run_underlying hk, sizeOf, typeInfo, zeroValue, hi, hz, asInt, asIntOf, hw, hn0, hbig, hroom, hs0, zc', addr_add, hst, repl]
  · intro ty z base sLen sCap olds hz' hold hg h63 hfit
    rw [hz] at hz'; cases hz'
    have hn : ¬ (sLen + n.toNat ≤ sCap) := by omega
    have h63' : ¬ (9223372036854775807 < ((sLen : Int) + (n.toNat : Int))) := by omega
    have h63m : ¬ (9223372036854775807 < ((sLen : Int) + max n 0)) := by omega
    have h63k : ¬ (IntKind.i64.max < ((sLen : Int) + (n.toNat : Int))) := by simp only [IntKind.max, IntKind.bits, IntKind.signed]; omega
    have h48' : ¬ (281474976710656 < Builtin.nextslicecap (sLen + n.toNat) sCap * i.bytes) := by omega
    by_cases hs0 : n.toNat * i.size = 0
    · have := emp hs0
      rw [this]
      simp [Builtin.append_, run_underlying ht, run_underlying hk, sizeOf, typeInfo, zeroValue, hi, hz, asInt, asIntOf, hw, hn0, hbig, hn, h63', h63m, h63k, h48', Question.forced, hs0, hold, newRow, grownCap]
    · simp [Builtin.append_, run_underlying ht, run_underlying hk, sizeOf, typeInfo, zeroValue, hi, hz, asInt, asIntOf, hw, hn0, hbig, hn, h63', h63m, h63k, h48', Question.forced, hs0, zc', hold, newRow, grownCap]
      congr 2
      apply Array.ext'
      simp [List.append_assoc]

theorem mkOk_some {n m : Int} (h : mkOk n m = some ()) : 0 ≤ n ∧ n ≤ m ∧ m ≤ lim := by
  unfold mkOk at h; split at h
  · assumption
  · simp at h

/-- What append reads, as it lies. -/
theorem appended_sound {R : Type} {t t0 e : TypeId} {sz : Nat} {zs : List T} {ti : TypeInfo} {y : AV} {vy : Value} {K : List (List T) → Option R} {r : R} (hs : HS c w s.h ρ O) (ht : P.underlying t0 = some (.slice e)) (hti : P.info? e = some ti) (hsz : ti.size = sz) (hz : zeroC P e = some zs) (hzl : zs.length = sz) (hby : P.bytesOf e ≤ 8192) (hy : RelV w (AA c w O) ρ y vy) (hk : appended P s t sz zs y K = some r) :
    ∃ ys vss, K ys = some r ∧ Ad P t0 t e ti vy ys.length vss.flatten w ∧ RelLs w (AA c w O) sz ys vss := by
  subst hsz
  unfold appended at hk
  split at hk
  · rename_i e' hu
    obtain ⟨x, hx, hk⟩ := Option.bind_eq_some_iff.1 hk
    replace hk := gdK_some hk (.inl rfl); obtain ⟨p, hp, hk⟩ := hk
    rcases snapOne_els hs hy hx hp with ⟨e, h⟩ | ⟨blk, off, cap, rfl, g⟩
    · rw [e] at hk
      refine ⟨[], [], hk, ?_, rfl⟩
      rcases h with rfl | ⟨a, cap, rfl⟩
      · exact .ofSrc ht hti (Src.ofNil w hu 0)
      · exact .ofSrc ht hti (Src.ofSlice w hu a 0 cap [] (by simp) (by simp) (by simp))
    · obtain ⟨vss, h1, h2⟩ := g.vals
      obtain ⟨l1, l2⟩ := h1.length
      exact ⟨p.2, vss, hk, .ofSrc ht hti (Src.ofSlice w hu ⟨blk, off, none⟩ _ cap _ (by rw [l2]) (fun j u hj => by rw [addr_add]; exact h2 j u hj) (fun u hu => (h1.one u hu).1)), h1⟩
  · rename_i hu
    split at hk
    · rename_i hsz
      obtain ⟨x, hx, hk⟩ := Option.bind_eq_some_iff.1 hk
      replace hk := gdK_some hk (.inl rfl); obtain ⟨b, hb, hk⟩ := hk
      have := T.str?_eq hb; subst this
      rw [AV.t?_eq hx] at hy
      simp only [RelV, RelT] at hy; subst hy
      have flat : ∀ l : List Value, (l.map fun v => [v]).flatten = l := by intro l; induction l <;> simp_all
      refine ⟨_, ((b.data.toList.map fun b => Value.int .u8 b.toNat).map fun v => [v]), hk, ?_, ?_⟩
      · rw [flat, List.length_map]
        have := Src.ofString (P := P) w hu b
        have e : b.data.toList.length = b.size := by rw [Array.length_toList]; rfl
        rw [e]; exact .ofSrc ht hti (by rw [hsz]; exact this)
      · have gen : ∀ l : List UInt8, RelLs w (AA c w O) 1 (l.map fun u => [T.int .u8 u.toNat]) ((l.map fun b => Value.int .u8 b.toNat).map fun v => [v]) := by
          intro l
          induction l with
          | nil => rfl
          | cons u l ih => exact ⟨_, _, rfl, rfl, ⟨_, [], rfl, rel_int _ _ _ _, rfl⟩, ih⟩
        rw [hsz]; exact gen _
    · simp at hk
  · rename_i ki hu
    obtain ⟨x, hx, hk⟩ := Option.bind_eq_some_iff.1 hk
    replace hk := gdK_some hk (.inl rfl); obtain ⟨n, hn, hk⟩ := hk
    replace hk := gdK_some hk (.inl rfl); obtain ⟨_, hb, hk⟩ := hk
    have := T.int?_eq hn; subst this
    obtain ⟨h0, _, h2⟩ := mkOk_some hb
    rw [AV.t?_eq hx] at hy
    simp only [RelV, RelT] at hy; subst hy
    obtain ⟨ti', zv, hti', hzv, hof⟩ := zeroC_some hz
    rw [hti] at hti'; cases hti'
    have hr : RelTs w (AA c w O) zs zv.cells.toList := ofVals_rel hof
    have hzs : zv.cells.size = ti.size := by
      have := hr.length
      rw [Array.length_toList] at this
      omega
    have hrs := RelLs.replicate hr hzl n.toNat
    have hby' : ti.bytes ≤ 8192 := by simpa [Program.bytesOf, hti] using hby
    refine ⟨_, _, hk, ?_, hrs⟩
    rw [List.length_replicate]
    exact .ofZeros ht hu hti hzv hzs hby' h0 (by simpa [lim] using h2) (fun u hu => (hr.one u hu).1)
  · simp at hk

theorem grownCells (z : Array Value) (l : List Value) (k : Nat) : ∀ (p : Nat) (v : Value), l[p]? = some v → (l.toArray ++ Builtin.zeroCells z k)[p]? = some v := by
  intro p v hp
  have hlt := (List.getElem?_eq_some_iff.1 hp).1
  rw [Array.getElem?_append_left (by simpa using hlt)]
  simpa using hp

theorem fits_bytes {bs n : Nat} (h : fits bs n) (hb : bs ≤ 8192) : n * bs ≤ 140737488355328 := by
  rcases h with h | ⟨_, h⟩
  · have : n * bs ≤ 4294967296 * 8192 := Nat.mul_le_mul h hb
    omega
  · exact h
theorem fits_len {bs n : Nat} (h : fits bs n) : n ≤ 140737488355328 := by
  rcases h with h | ⟨h0, h⟩
  · have : n ≤ 4294967296 := h
    omega
  · exact Nat.le_trans (Nat.le_mul_of_pos_right n h0) h

/-- One slice of the call's own, 'xs' of it shown, is appended to. -/
theorem append_own_core {t tx ty e : TypeId} {ti : TypeInfo} {zs : List T} {y : Value} {i i' : Id} {b : Bool} {xs ys : List (List T)} {vss : List (List Value)} {base : Option Addr} {cap : Nat}
    (hs : HS c w h ρ O) (hi : h i ≠ none) (hi' : h i' = none) (ht : P.underlying t = some (.slice e)) (hz : zeroC P e = some zs) (hzl : zs.length = P.cellsOf e) (hby : P.bytesOf e ≤ 8192)
    (hsm : fits (P.bytesOf e) (xs.length + ys.length)) (hcap : xs.length ≤ cap) (hnil : base = none ↔ b = true) (hspot : True)
    (hat : cap = 0 ∨ ∃ blk off arr tt, base = some ⟨blk, off, none⟩ ∧ O i = some blk ∧ w.heap[blk]? = some (.cells arr tt (0, 0)) ∧ off + cap * P.cellsOf e ≤ arr.size ∧ RelEls w (AA c w O) blk (P.cellsOf e) off xs)
    (hti : P.info? e = some ti) (src : Ad P t tx e ti y ys.length vss.flatten w) (hfrz : RelLs w (AA c w O) (P.cellsOf e) ys vss) :
    ∃ v w' ρ' O', (Builtin.append_ #[t, tx] ty #[.slice base xs.length cap, y]).run P w = .ok v w' ∧ Le w ρ O w' ρ' O' ∧ ρ' i' = some v ∧
      HS c w' (upd (upd h i' (some (.sl false (P.cellsOf e) (b && ys.isEmpty) (xs ++ ys)))) i (some .dead)) ρ' O' := by
  obtain ⟨ti', zv, hti', hzv, hof⟩ := zeroC_some hz
  rw [hti] at hti'; cases hti'
  have hsz : P.cellsOf e = ti.size := by simp [Program.cellsOf, hti]
  have hne : i' ≠ i := fun e => hi (e ▸ hi')
  obtain ⟨l1, l2⟩ := hfrz.length
  by_cases hroom : xs.length + ys.length ≤ cap
  · rcases hat with hat | ⟨blk, off, arr, tt, rfl, hO, hb, hfit, hels⟩
    · -- no memory at all
      subst hat
      have ex : xs = [] := List.length_eq_zero_iff.1 (by omega)
      have ey : ys = [] := List.length_eq_zero_iff.1 (by omega)
      subst ex; subst ey
      have ev : vss = [] := by simpa using l1
      subst ev
      obtain ⟨g1, g2⟩ := HS.move (w' := w) hs hi hi' (.slice base 0 0) none rfl rfl rfl (Nat.le_refl _) (fun _ _ _ => rfl) (.inl rfl) (.sl false (P.cellsOf e) (b && true) []) (by
        refine ⟨_, by rw [upd_same]; rfl, ⟨base, 0, rfl, by simp, ?_, hspot, .inl rfl⟩, by simp⟩
        simpa using hnil)
      refine ⟨_, w, _, _, ?_, g1, by rw [upd_same], by simpa using g2⟩
      exact src.idle rfl ty base 0 0 (Nat.le_refl _)
    · -- in place
      rw [hsz] at hfit
      have run := src.inn ty blk off xs.length cap arr tt hb hroom hfit
      have hcond : ∀ k, k < w.heap.size → O i ≠ some k → (w.setRow blk (repl (off + xs.length * ti.size) vss.flatten arr.toList).toArray).heap[k]? = w.heap[k]? := fun k _ hk => setRow_other w blk k _ (fun e => hk (e ▸ hO))
      have lfit : off + xs.length * ti.size + vss.flatten.length ≤ arr.toList.length := by
        have l3 : arr.toList.length = arr.size := Array.length_toList
        rw [l2, hsz, l3]
        have hm : (xs.length + ys.length) * ti.size ≤ cap * ti.size := Nat.mul_le_mul_right _ hroom
        rw [Nat.add_mul] at hm; omega
      obtain ⟨g1, g2⟩ := HS.move (w' := w.setRow blk (repl (off + xs.length * ti.size) vss.flatten arr.toList).toArray) hs hi hi' (.slice (some ⟨blk, off, none⟩) (xs.length + ys.length) cap) (O i) rfl rfl rfl (by rw [setRow_size]; exact Nat.le_refl _) hcond (.inr (.inl rfl))
        (.sl false (P.cellsOf e) (b && ys.isEmpty) (xs ++ ys)) (by
          refine ⟨_, by rw [upd_same], ⟨some ⟨blk, off, none⟩, cap, by simp, by simpa using hroom, ?_, hspot, .inr ⟨blk, off, _, tt, rfl, ?_, setRow_heap w blk arr _ tt (0, 0) hb, ?_, ?_⟩⟩, by simp⟩
          · have : b = false := by cases b <;> simp_all
            simp [this]
          · simpa using hO
          · simp only [List.size_toArray]
            rw [repl_length _ _ _ lfit, hsz]; simpa using hfit
          · have cellAt : ∀ p, (w.setRow blk (repl (off + xs.length * ti.size) vss.flatten arr.toList).toArray).cell? ⟨blk, p, none⟩ = if off + xs.length * ti.size ≤ p ∧ p < off + xs.length * ti.size + vss.flatten.length then vss.flatten[p - (off + xs.length * ti.size)]? else w.cell? ⟨blk, p, none⟩ := by
              intro p
              rw [cell_setRow hb, List.getElem?_toArray, repl_get _ _ _ lfit, cell_block hb]
              simp
            have hA : ∀ b', AA c w O b' → AA c (w.setRow blk (repl (off + xs.length * ti.size) vss.flatten arr.toList).toArray) (upd (upd O i none) i' (O i)) b' ∧ (w.setRow blk (repl (off + xs.length * ti.size) vss.flatten arr.toList).toArray).heap[b']? = w.heap[b']? := by
              intro b' hb'
              refine ⟨⟨hb'.1, by rw [setRow_size]; exact hb'.2.1, fun j hj => ?_⟩, setRow_other w blk b' _ (fun e => hb'.2.2 i (e ▸ hO))⟩
              by_cases e1 : j = i'
              · subst e1; rw [upd_same] at hj; exact hb'.2.2 i hj
              · rw [upd_ne _ _ e1] at hj
                by_cases e2 : j = i
                · subst e2; rw [upd_same] at hj; cases hj
                · rw [upd_ne _ _ e2] at hj; exact hb'.2.2 j hj
            refine RelEls.append (RelEls.cells hA (fun p h1 h2 => ?_) hels) ?_
            · rw [hsz] at h2; rw [cellAt, if_neg (by omega)]
            · refine RelEls.of_vals (RelLs.mono hA hfrz) (fun p v hp => ?_)
              have hlt := (List.getElem?_eq_some_iff.1 hp).1
              rw [hsz, cellAt, if_pos (by omega), show off + xs.length * ti.size + p - (off + xs.length * ti.size) = p by omega]
              exact hp)
      exact ⟨_, _, _, _, run, g1, by rw [upd_same], g2⟩
  · -- a new row
    have hneed : (xs.length + ys.length) * ti.bytes ≤ 140737488355328 := by
      have e1 : P.bytesOf e = ti.bytes := by simp [Program.bytesOf, hti]
      rw [← e1]; exact fits_bytes hsm hby
    have hold : ∃ olds : List (List Value), RelLs w (AA c w O) (P.cellsOf e) xs olds ∧ (Builtin.firstCells ti.size xs.length (.slice base xs.length cap)).run P w.drew = .ok olds.flatten.toArray w.drew := by
      rcases hat with hat | ⟨blk, off, arr, tt, rfl, hO, hb, hfit, hels⟩
      · have ex : xs = [] := List.length_eq_zero_iff.1 (by omega)
        subst ex
        refine ⟨[], rfl, ?_⟩
        cases base with
        | none => exact run_firstCells_none w.drew _ _ _ _
        | some a => exact run_firstCells_some w.drew _ 0 a _ _ [] (by simp) (by simp)
      · obtain ⟨olds, k1, k2⟩ := hels.vals
        refine ⟨olds, k1, ?_⟩
        obtain ⟨m1, m2⟩ := k1.length
        exact run_firstCells_some w.drew _ _ _ _ _ _ (by rw [m2, hsz]) (fun j v hj => by rw [addr_add]; simpa using k2 j v hj)
    obtain ⟨olds, ho1, ho2⟩ := hold
    have hgrow : cap < xs.length + ys.length := by omega
    have run := src.grow ty zv base xs.length cap olds.flatten hzv ho2 hgrow (by have := fits_len hsm; omega) (growslice_fits hgrow hneed)
    obtain ⟨m1, m2⟩ := ho1.length
    have hzs : zv.cells.size = ti.size := by
      have := (ofVals_rel (w := w) (A := AA c w O) hof).length
      rw [Array.length_toList] at this
      rw [this, hzl, hsz]
    have ys0 : ys.isEmpty = false := by
      cases ys with
      | nil => simp at hgrow; omega
      | cons => rfl
    have hge := grownCap_ge w (xs.length + ys.length) cap e
    obtain ⟨g1, g2⟩ := HS.move (w' := w.drew.alloc (.cells ((olds.flatten ++ vss.flatten).toArray ++ Builtin.zeroCells zv.cells (grownCap w (xs.length + ys.length) cap e - (xs.length + ys.length))) e)) hs hi hi'
      (.slice (some ⟨w.heap.size, 0, none⟩) (xs.length + ys.length) (grownCap w (xs.length + ys.length) cap e)) (some w.heap.size) rfl rfl rfl (by simp) (fun k hk _ => Go.RowKit.Below.heap_alloc w.drew _ k hk) (.inr (.inr ⟨rfl, by simp⟩))
      (.sl false (P.cellsOf e) (b && ys.isEmpty) (xs ++ ys)) (by
        refine ⟨_, by rw [upd_same], ⟨some ⟨w.heap.size, 0, none⟩, grownCap w (xs.length + ys.length) cap e, by simp, by simpa using hge, by simp [ys0], trivial, .inr ⟨w.heap.size, 0, _, e, rfl, by simp, heap_new (w := w.drew) _, ?_, ?_⟩⟩, by simp⟩
        · simp only [Array.size_append, List.size_toArray, List.length_append, m2, l2, size_zeroCells, hzs, hsz, ← Nat.add_mul, Nat.zero_add]
          exact Nat.mul_le_mul_right _ (by omega)
        · have hA : ∀ b', AA c w O b' → AA c (w.drew.alloc (.cells ((olds.flatten ++ vss.flatten).toArray ++ Builtin.zeroCells zv.cells (grownCap w (xs.length + ys.length) cap e - (xs.length + ys.length))) e)) (upd (upd O i none) i' (some w.heap.size)) b' ∧ (w.drew.alloc (.cells ((olds.flatten ++ vss.flatten).toArray ++ Builtin.zeroCells zv.cells (grownCap w (xs.length + ys.length) cap e - (xs.length + ys.length))) e)).heap[b']? = w.heap[b']? := by
            intro b' hb'
            refine ⟨⟨hb'.1, by have := hb'.2.1; simp; omega, fun j hj => ?_⟩, Go.RowKit.Below.heap_alloc w.drew _ b' hb'.2.1⟩
            by_cases e1 : j = i'
            · subst e1; rw [upd_same] at hj; cases hj; exact Nat.lt_irrefl _ hb'.2.1
            · rw [upd_ne _ _ e1] at hj
              by_cases e2 : j = i
              · subst e2; rw [upd_same] at hj; cases hj
              · rw [upd_ne _ _ e2] at hj; exact hb'.2.2 j hj
          refine RelEls.of_vals (vss := olds ++ vss) (RelLs.append (RelLs.mono hA ho1) (RelLs.mono hA hfrz)) (fun p v hp => ?_)
          refine (cell_block (w := w.drew.alloc _) (b := w.heap.size) (heap_new (w := w.drew) _) _).trans ?_
          rw [Nat.zero_add]
          exact grownCells _ _ _ p v (by simpa using hp))
    exact ⟨_, _, _, _, run, g1, by rw [upd_same], g2⟩

/-- append on what is empty and shared: new memory, or none. -/
theorem append_emp_core {t tx ty e : TypeId} {ti : TypeInfo} {zs : List T} {y vx : Value} {i' : Id} {b : Bool} {ys : List (List T)} {vss : List (List Value)}
    (hs : HS c w h ρ O) (hi' : h i' = none) (ht : P.underlying t = some (.slice e)) (hz : zeroC P e = some zs) (hzl : zs.length = P.cellsOf e) (hby : P.bytesOf e ≤ 8192)
    (hsm : fits (P.bytesOf e) ys.length) (hx : RelT w A (.emp b) vx)
    (hti : P.info? e = some ti) (src : Ad P t tx e ti y ys.length vss.flatten w) (hfrz : RelLs w (AA c w O) (P.cellsOf e) ys vss) :
    ∃ v w' ρ' O', (Builtin.append_ #[t, tx] ty #[vx, y]).run P w = .ok v w' ∧ Le w ρ O w' ρ' O' ∧ ρ' i' = some v ∧
      HS c w' (upd h i' (some (.sl false (P.cellsOf e) (b && ys.isEmpty) ys))) ρ' O' := by
  obtain ⟨ti', zv, hti', hzv, hof⟩ := zeroC_some hz
  rw [hti] at hti'; cases hti'
  have hsz : P.cellsOf e = ti.size := by simp [Program.cellsOf, hti]
  obtain ⟨l1, l2⟩ := hfrz.length
  obtain ⟨base, rfl, hnil, hspot⟩ : ∃ base, vx = .slice base 0 0 ∧ (base = none ↔ b = true) ∧ True := by
    simp only [RelT] at hx
    rcases hx with ⟨rfl, rfl⟩ | ⟨rfl, blk, off, sp, rfl⟩
    · exact ⟨none, rfl, by simp, trivial⟩
    · exact ⟨some _, rfl, by simp, trivial⟩
  by_cases hy0 : ys = []
  · subst hy0
    have ev : vss = [] := by simpa using l1
    subst ev
    have le : Le w ρ O w (upd ρ i' (some (.slice base 0 0))) (upd O i' none) := by
      refine ⟨rfl, rfl, rfl, Nat.le_refl _, fun j u hj => ?_, fun b hb hn => rfl, fun j b hj => ?_⟩
      · by_cases e : j = i'
        · subst e; rw [(hs.nodom _ hi').1] at hj; cases hj
        · rw [upd_ne _ _ e]; exact hj
      · by_cases e : j = i'
        · subst e; rw [upd_same] at hj; cases hj
        · rw [upd_ne _ _ e] at hj; exact .inl ⟨j, hj⟩
    refine ⟨.slice base 0 0, w, _, _, src.idle rfl ty base 0 0 (Nat.le_refl _), le, by rw [upd_same], ?_⟩
    refine hs.go le (fun j b' hj => ?_) (fun j hj => ?_) (fun j k d hj hk => ?_) (fun j d hj => ?_)
    · by_cases e : j = i'
      · subst e; rw [upd_same] at hj; cases hj
        right
        refine ⟨_, by rw [upd_same]; rfl, ⟨base, 0, rfl, by simp, ?_, hspot, .inl rfl⟩, by simp⟩
        simpa using hnil
      · rw [upd_ne _ _ e] at hj
        exact .inl ⟨hj, upd_ne _ _ e, fun _ _ => rfl⟩
    · by_cases e : j = i'
      · subst e; rw [upd_same] at hj; cases hj
      · rw [upd_ne _ _ e] at hj; rw [upd_ne _ _ e, upd_ne _ _ e]; exact hs.nodom j hj
    · by_cases e : j = i'
      · subst e; rw [upd_same] at hj; cases hj
      · by_cases e' : k = i'
        · subst e'; rw [upd_same] at hk; cases hk
        · rw [upd_ne _ _ e] at hj; rw [upd_ne _ _ e'] at hk; exact hs.inj j k d hj hk
    · by_cases e : j = i'
      · subst e; rw [upd_same] at hj; cases hj
      · rw [upd_ne _ _ e] at hj; exact hs.lt j d hj
  · have hpos : 0 < ys.length := List.length_pos_iff.2 hy0
    have hneed : (0 + ys.length) * ti.bytes ≤ 140737488355328 := by
      have e1 : P.bytesOf e = ti.bytes := by simp [Program.bytesOf, hti]
      rw [← e1, Nat.zero_add]; exact fits_bytes hsm hby
    have ho2 : (Builtin.firstCells ti.size 0 (.slice base 0 0)).run P w.drew = .ok ([] : List Value).toArray w.drew := by
      cases base with
      | none => exact run_firstCells_none w.drew _ _ _ _
      | some a => exact run_firstCells_some w.drew _ 0 a _ _ [] (by simp) (by simp)
    have run := src.grow ty zv base 0 0 [] hzv ho2 (by omega) (by have := fits_len hsm; omega) (growslice_fits (by omega) hneed)
    have hzs : zv.cells.size = ti.size := by
      have := (ofVals_rel (w := w) (A := AA c w O) hof).length
      rw [Array.length_toList] at this
      rw [this, hzl, hsz]
    have ys0 : ys.isEmpty = false := by
      cases ys with
      | nil => simp at hpos
      | cons => rfl
    have hge := grownCap_ge w (0 + ys.length) 0 e
    have lew : Le w ρ O w.drew ρ O := ⟨rfl, rfl, rfl, Nat.le_refl _, fun _ _ h => h, fun _ _ _ => rfl, fun i b h => .inl ⟨i, h⟩⟩
    have hs' : HS c w.drew h ρ O := hs.world lew fun _ _ _ => rfl
    obtain ⟨g1, g2⟩ := hs'.newSl (sz := P.cellsOf e) hi' e (([] ++ vss.flatten).toArray ++ Builtin.zeroCells zv.cells (grownCap w (0 + ys.length) 0 e - (0 + ys.length))) (grownCap w (0 + ys.length) 0 e) (RelLs.mono (fun b hb => lew.A b hb) hfrz)
      (fun p v hp => grownCells _ _ _ p v (by simpa using hp)) (by omega) (by
        simp only [Array.size_append, List.size_toArray, List.nil_append, l2, size_zeroCells, hzs, hsz, ← Nat.add_mul]
        exact Nat.mul_le_mul_right _ (by omega))
    refine ⟨_, _, _, _, run, lew.trans g1, ?_, ?_⟩
    · rw [upd_same, Nat.zero_add]; rfl
    · simpa [ys0] using g2

theorem updH_two (h : Id → Option Blk) (i j : Id) (a b : Blk) : updH h [(i, a), (j, b)] = upd (upd h i (some a)) j (some b) := rfl

theorem freshAt_mem {d : Nat} {us : Upd} {k : Nat} {b : Blk} (hf : freshAt d h us = true) (hm : (Id.s d k, b) ∈ us) : h (.s d k) = none := by
  have := List.all_eq_true.1 hf _ hm
  simpa using this

set_option maxHeartbeats 1000000 in
theorem appendAV_sound {R : Type} {d : Nat} {t ty tr : TypeId} {x y : AV} {vx vy : Value} {K : AV → Upd → Option R} {r : R} (hs : HS c w s.h ρ O) (hx : RelV w (AA c w O) ρ x vx) (hy : RelV w (AA c w O) ρ y vy)
    (hk : appendAV P s d t ty x y K = some r) :
    ∃ v us, K v us = some r ∧ (freshAt d s.h us = true → ∃ u w' ρ' O', (Builtin.append_ #[t, ty] tr #[vx, vy]).run P w = .ok u w' ∧ Le w ρ O w' ρ' O' ∧ HS c w' (updH s.h us) ρ' O' ∧ RelV w' (AA c w' O') ρ' v u) := by
  unfold appendAV at hk
  replace hk := Option.bind_eq_some_iff.1 hk; obtain ⟨e, he, hk⟩ := hk
  replace hk := Option.bind_eq_some_iff.1 hk; obtain ⟨zs, hz, hk⟩ := hk
  obtain ⟨hu, hok⟩ := elemT_some he
  split at hk
  · rename_i hcond
    obtain ⟨hby, hzl⟩ := hcond
    obtain ⟨ti0, _, hti0, _, _⟩ := zeroC_some hz
    replace hk := appended_sound hs hu hti0 (by simp [Program.cellsOf, hti0]) hz hzl hby hy hk; obtain ⟨ys, vss, hk, src, hfrz⟩ := hk
    have smallOf : ∀ n, small (P.bytesOf e) n = some () → fits (P.bytesOf e) n := by
      intro n hn; unfold small at hn; split at hn
      · assumption
      · simp at hn
    clear he hok
    revert hk
    rcases x with _ | z | _ | _ | _ | _ | i | ⟨i, sz'', off, n⟩ | _ <;> intro hk <;> (try dsimp only at hk) <;> (try cases hk)
    case own =>
      split at hk
      · rename_i sz' b xs hi
        split at hk
        · rename_i hsz; subst hsz
          replace hk := gdK_some hk (.inl rfl); obtain ⟨_, hb, hk⟩ := hk
          refine ⟨_, _, hk, fun hfree => ?_⟩
          have hfree := freshAt_mem hfree List.mem_cons_self
          obtain ⟨v', g1, a, cap, q1, q2, q3, q4, q5⟩ := sl_at' hs hi
          simp only [RelV] at hx
          rw [g1] at hx; simp only [Option.some.injEq] at hx; subst hx; subst q1
          obtain ⟨v, w', ρ', O', e1, e2, e3, e4⟩ := append_own_core (ty := tr) hs (by rw [hi]; simp) hfree hu hz hzl hby (smallOf _ hb) q2 q3 q4 (by
            rcases q5 with q5 | ⟨blk, off, arr, tt, k1, k2, k3, k4, k5⟩
            · exact .inl q5
            · exact .inr ⟨blk, off, arr, tt, k1, by simpa using k2, k3, k4, k5⟩) hti0 src hfrz
          exact ⟨v, w', ρ', O', e1, e2, by rw [updH_two]; exact e4, by simp only [RelV]; exact e3⟩
        · simp at hk
      · simp at hk
    case part =>
      split at hk
      · rename_i sz' b xs hi
        split at hk
        · rename_i hsz; obtain ⟨rfl, rfl⟩ := hsz
          replace hk := gdK_some hk (.inl rfl); obtain ⟨_, hb, hk⟩ := hk
          refine ⟨_, _, hk, fun hfree => ?_⟩
          have hfree := freshAt_mem hfree List.mem_cons_self
          obtain ⟨v', g1, a, cap, q1, q2, q3, q4, q5⟩ := sl_at' hs hi
          simp only [RelV] at hx
          obtain ⟨a1, L, cap1, a', k1, k2, k3, rfl, k4⟩ := hx
          rw [g1] at k1; simp only [Option.some.injEq] at k1; subst k1
          simp only [Value.slice.injEq] at q1
          obtain ⟨rfl, rfl, rfl⟩ := q1
          have hlen : ((xs.drop off).take n).length = n := by simp only [List.length_take, List.length_drop]; omega
          have hnil : a' = none ↔ b = true := by
            rw [← q3]
            rcases k4 with ⟨_, rfl⟩ | ⟨_, e5, _⟩ | ⟨b', o, rfl, rfl⟩
            · exact Iff.rfl
            · exact e5
            · simp
          have hspot : True := trivial
          obtain ⟨v, w', ρ', O', e1, e2, e3, e4⟩ := append_own_core (ty := tr) (xs := (xs.drop off).take n) (base := a') (cap := cap1 - off) hs (by rw [hi]; simp) hfree hu hz hzl hby (by rw [hlen]; exact smallOf _ hb) (by rw [hlen]; omega) hnil hspot (by
            rcases q5 with q5 | ⟨blk, off', arr, tt, j1, j2, j3, j4, j5⟩
            · exact .inl (by omega)
            · subst j1
              rcases k4 with ⟨rfl, rfl⟩ | ⟨rfl, _⟩ | ⟨b', o, e5, rfl⟩
              · exact .inr ⟨blk, off', arr, tt, rfl, by simpa using j2, j3, by simpa using j4, by simpa using j5.take n⟩
              · exact .inl (by omega)
              · simp only [Option.some.injEq, Addr.mk.injEq] at e5
                obtain ⟨rfl, rfl, _⟩ := e5
                refine .inr ⟨blk, _, arr, tt, rfl, by simpa using j2, j3, ?_, (j5.drop off).take n⟩
                have : (cap1 - off) * P.cellsOf e + off * P.cellsOf e = cap1 * P.cellsOf e := by rw [← Nat.add_mul]; congr 1; omega
                omega) hti0 src hfrz
          rw [hlen] at e1
          exact ⟨v, w', ρ', O', e1, e2, by rw [updH_two]; exact e4, by simp only [RelV]; exact e3⟩
        · simp at hk
      · simp at hk
    case t =>
      cases z <;> simp only [reduceCtorEq] at hk
      rename_i b
      replace hk := gdK_some hk (.inl rfl); obtain ⟨_, hb, hk⟩ := hk
      refine ⟨_, _, hk, fun hfree => ?_⟩
      have hfree := freshAt_mem hfree List.mem_cons_self
      simp only [RelV] at hx
      obtain ⟨v, w', ρ', O', e1, e2, e3, e4⟩ := append_emp_core (ty := tr) hs hfree hu hz hzl hby (smallOf _ hb) hx hti0 src hfrz
      exact ⟨v, w', ρ', O', e1, e2, by rw [updH_one]; exact e4, by simp only [RelV]; exact e3⟩
  · simp at hk

theorem makeAV_sound {R : Type} {d : Nat} {t : TypeId} {n m : T} {vn vm : Value} {K : AV → Upd → Option R} {r : R} (hs : HS c w s.h ρ O) (hn : RelV w (AA c w O) ρ (.t n) vn) (hm : RelV w (AA c w O) ρ (.t m) vm)
    (hk : makeAV P d t n m K = some r) :
    ∃ v us, K v us = some r ∧ (freshAt d s.h us = true → ∃ u w' ρ' O', (Instr.makeSlice t vn vm).run P w = .ok u w' ∧ Le w ρ O w' ρ' O' ∧ HS c w' (updH s.h us) ρ' O' ∧ RelV w' (AA c w' O') ρ' v u) := by
  unfold makeAV at hk
  replace hk := Option.bind_eq_some_iff.1 hk; obtain ⟨e, he, hk⟩ := hk
  replace hk := Option.bind_eq_some_iff.1 hk; obtain ⟨zs, hz, hk⟩ := hk
  obtain ⟨hu, hok⟩ := elemT_some he
  replace hk := gdK_some hk (.inl rfl); obtain ⟨n', hn', hk⟩ := hk
  replace hk := gdK_some hk (.inl rfl); obtain ⟨m', hm', hk⟩ := hk
  have := T.int?_eq hn'; subst this
  have := T.int?_eq hm'; subst this
  simp only [RelV, RelT] at hn hm; subst hn; subst hm
  split at hk
  · rename_i hcond
    obtain ⟨hby, hzl⟩ := hcond
    replace hk := gdK_some hk (.inl rfl); obtain ⟨_, hb, hk⟩ := hk
    obtain ⟨h0, h1, h2⟩ := mkOk_some hb
    refine ⟨_, _, hk, fun hfree => ?_⟩
    have hfree := freshAt_mem hfree List.mem_cons_self
    obtain ⟨zv, hzr, run⟩ := run_makeSliceA (w := w) (A := AA c w O) (kn := .i64) (km := .i64) hu hz hby hzl h0 h1 h2
    have hzs : zv.cells.size = P.cellsOf e := by have := hzr.length; rw [Array.length_toList] at this; omega
    obtain ⟨g1, g2⟩ := hs.newSl (i := .s d 0) (sz := P.cellsOf e) hfree e (madeCells zv.cells (m'.toNat * P.cellsOf e)) m'.toNat (RelLs.replicate hzr hzl n'.toNat)
      (made_flat hzs _ _ (by omega)) (by simp; omega) (by simp [madeCells])
    refine ⟨_, _, _, _, run, g1, by rw [updH_one]; exact g2, ?_⟩
    simp only [RelV]
    rw [upd_same, List.length_replicate]
  · simp at hk

end
open Go

section
variable {P : Program} {w w' : World} {A A' : Nat → Prop} {c : Ctx} {ρ : Id → Option Value} {O : Id → Option Nat} {s : St} {cc : Option Bool} {h : Id → Option Blk}

theorem isNil_sound {t : TypeId} {x : AV} {vx : Value} {b : Bool} (hs : HS c w s.h ρ O) (hx : RelV w (AA c w O) ρ x vx) (h : isNilAV P s t x = some b) (o : Operand) (ho : nilC P t o = true) (a : Act) (ox oy : Operand) :
    ((eqGuard .eql t ox oy vx (a.eval o)).run P w = .ok () w ∧ (binOp .eql t vx (a.eval o)).run P w = .ok (.bool b) w) ∧
    ((eqGuard .neq t ox oy vx (a.eval o)).run P w = .ok () w ∧ (binOp .neq t vx (a.eval o)).run P w = .ok (.bool (!b)) w) ∧
    ((eqGuard .eql t ox oy (a.eval o) vx).run P w = .ok () w ∧ (binOp .eql t (a.eval o) vx).run P w = .ok (.bool b) w) ∧
    ((eqGuard .neq t ox oy (a.eval o) vx).run P w = .ok () w ∧ (binOp .neq t (a.eval o) vx).run P w = .ok (.bool (!b)) w) := by
  unfold nilC at ho
  split at ho
  · rename_i e hu
    have key : ∃ p l cp, vx = .slice p l cp ∧ p.isNone = b := by
      unfold isNilAV at h
      rw [hu] at h
      dsimp only at h
      split at h
      · rename_i sz b' xs
        simp only [Option.some.injEq] at h; subst h
        simp only [RelV, RelT] at hx
        rcases hx with ⟨rfl, _, rfl⟩ | ⟨rfl, _, _, _, _, rfl, _⟩
        · exact ⟨_, _, _, rfl, rfl⟩
        · exact ⟨_, _, _, rfl, rfl⟩
      · simp only [Option.some.injEq] at h; subst h
        simp only [RelV, RelT] at hx
        rcases hx with ⟨rfl, rfl⟩ | ⟨rfl, _, _, _, rfl⟩
        · exact ⟨_, _, _, rfl, rfl⟩
        · exact ⟨_, _, _, rfl, rfl⟩
      · split at h
        · rename_i hi
          simp only [Option.some.injEq] at h; subst h
          obtain ⟨v', g1, a, cap, q1, q2, q3, q4, q5⟩ := sl_at' hs hi
          simp only [RelV] at hx
          rw [g1] at hx; simp only [Option.some.injEq] at hx; subst hx; subst q1
          refine ⟨_, _, _, rfl, ?_⟩
          cases a with
          | none => simpa using q3
          | some a => have : ¬ (_ = true) := fun e => by have := q3.2 e; simp at this
                      simpa using this
        · simp at h
      · simp at h
    obtain ⟨p, l, cp, rfl, rfl⟩ := key
    simp only [Act.eval]
    have E1 : (Op.equal t (.slice p l cp) (.slice none 0 0)).run P w = .ok p.isNone w := by
      have : ∀ d, (Op.equalIn (d + 1) t (.slice p l cp) (.slice none 0 0)).run P w = .ok p.isNone w := by intro d; cases p <;> simp [Op.equalIn, run_underlying hu]
      exact this 9999
    have E2 : (Op.equal t (.slice none 0 0) (.slice p l cp)).run P w = .ok p.isNone w := by
      have : ∀ d, (Op.equalIn (d + 1) t (.slice none 0 0) (.slice p l cp)).run P w = .ok p.isNone w := by intro d; simp [Op.equalIn, run_underlying hu]
      exact this 9999
    refine ⟨⟨by simp [eqGuard], ?_⟩, ⟨by simp [eqGuard], ?_⟩, ⟨by simp [eqGuard], ?_⟩, ⟨by simp [eqGuard], ?_⟩⟩ <;> simp only [binOp] <;> simp [E1, E2]
  · rename_i e hu
    have key : ∃ p, vx = .pointer p ∧ p.isNone = b := by
      unfold isNilAV at h
      rw [hu] at h
      dsimp only at h
      split at h
      · simp only [Option.some.injEq] at h; subst h
        simp only [RelV, RelT] at hx
        obtain ⟨_, _, rfl, _⟩ := hx
        exact ⟨_, rfl, rfl⟩
      · simp only [Option.some.injEq] at h; subst h
        simp only [RelV, RelT] at hx; subst hx
        exact ⟨_, rfl, rfl⟩
      · simp only [Option.some.injEq] at h; subst h
        simp only [RelV] at hx
        obtain ⟨_, _, rfl⟩ := hx
        exact ⟨_, rfl, rfl⟩
      · simp only [Option.some.injEq] at h; subst h
        simp only [RelV] at hx
        obtain ⟨_, _, _, _, _, rfl⟩ := hx
        exact ⟨_, rfl, rfl⟩
      · simp at h
    obtain ⟨p, rfl, rfl⟩ := key
    simp only [Act.eval]
    have E1 : (Op.equal t (.pointer p) (.pointer none)).run P w = .ok p.isNone w := by
      have : ∀ d, (Op.equalIn (d + 1) t (.pointer p) (.pointer none)).run P w = .ok p.isNone w := by intro d; cases p <;> simp [Op.equalIn, run_underlying hu]
      exact this 9999
    have E2 : (Op.equal t (.pointer none) (.pointer p)).run P w = .ok p.isNone w := by
      have : ∀ d, (Op.equalIn (d + 1) t (.pointer none) (.pointer p)).run P w = .ok p.isNone w := by intro d; simp [Op.equalIn, run_underlying hu]
      exact this 9999
    refine ⟨⟨by simp [eqGuard], ?_⟩, ⟨by simp [eqGuard], ?_⟩, ⟨by simp [eqGuard], ?_⟩, ⟨by simp [eqGuard], ?_⟩⟩ <;> simp only [binOp] <;> simp [E1, E2]
  · rename_i hu
    have key : (vx = .nilFunc ∧ b = true) ∨ (∃ f x y, vx = .func f x y ∧ b = false) := by
      unfold isNilAV at h
      rw [hu] at h
      dsimp only at h
      split at h
      · simp only [Option.some.injEq] at h; subst h
        simp only [RelV, RelT] at hx
        exact .inl ⟨hx, rfl⟩
      · simp only [Option.some.injEq] at h; subst h
        simp only [RelV] at hx
        obtain ⟨_, _, rfl, _⟩ := hx
        exact .inr ⟨_, _, _, rfl, rfl⟩
      · simp at h
    simp only [Act.eval]
    have E : (Op.equal t vx .nilFunc).run P w = .ok b w ∧ (Op.equal t .nilFunc vx).run P w = .ok b w := by
      constructor
      · have : ∀ d, (Op.equalIn (d + 1) t vx .nilFunc).run P w = .ok b w := by intro d; rcases key with ⟨rfl, rfl⟩ | ⟨f, x, y, rfl, rfl⟩ <;> simp [Op.equalIn, run_underlying hu]
        exact this 9999
      · have : ∀ d, (Op.equalIn (d + 1) t .nilFunc vx).run P w = .ok b w := by intro d; rcases key with ⟨rfl, rfl⟩ | ⟨f, x, y, rfl, rfl⟩ <;> simp [Op.equalIn, run_underlying hu]
        exact this 9999
    rcases key with ⟨rfl, rfl⟩ | ⟨f, x, y, rfl, rfl⟩ <;>
    refine ⟨⟨by simp [eqGuard], ?_⟩, ⟨by simp [eqGuard], ?_⟩, ⟨by simp [eqGuard], ?_⟩, ⟨by simp [eqGuard], ?_⟩⟩ <;> simp only [binOp] <;> simp [E.1, E.2]
  · rename_i hu
    have key : vx = .map none ∧ b = true := by
      unfold isNilAV at h
      rw [hu] at h
      dsimp only at h
      split at h
      · simp only [Option.some.injEq] at h; subst h
        simp only [RelV, RelT] at hx
        exact ⟨hx, rfl⟩
      · simp at h
    simp only [Act.eval]
    obtain ⟨rfl, rfl⟩ := key
    have E : (Op.equal t (.map none) (.map none)).run P w = .ok true w := by
      have : ∀ d, (Op.equalIn (d + 1) t (.map none) (.map none)).run P w = .ok true w := by intro d; simp [Op.equalIn, run_underlying hu]
      exact this 9999
    refine ⟨⟨by simp [eqGuard], ?_⟩, ⟨by simp [eqGuard], ?_⟩, ⟨by simp [eqGuard], ?_⟩, ⟨by simp [eqGuard], ?_⟩⟩ <;> simp only [binOp] <;> simp [E]
  · simp at ho

theorem convT_sound {R : Type} {src dst : TypeId} {x : T} {vx : Value} {K : T → Option R} {r : R} (hc : cc = none ∨ cc = some true) (hx : RelT w A x vx) (hk : convT P cc src dst x K = some r) :
    ∃ z v, K z = some r ∧ (convert src dst vx).run P w = .ok v w ∧ RelT w A z v := by
  unfold convT at hk
  split at hk
  · rename_i k k' hu hu'
    replace hk := gdK_some hk hc; obtain ⟨n, hn, hk⟩ := hk
    have := T.int?_eq hn; subst this
    simp only [RelT] at hx; subst hx
    exact ⟨_, _, hk, by simp [convert, run_underlying hu, run_underlying hu', Conv.intToInt], rel_int _ _ _ _⟩
  · rename_i hu hu'
    replace hk := gdK_some hk hc; obtain ⟨n, hn, hk⟩ := hk
    have := T.str?_eq hn; subst this
    simp only [RelT] at hx; subst hx
    exact ⟨_, _, hk, by simp [convert, run_underlying hu, run_underlying hu'], rel_str _ _ _⟩
  · simp at hk

theorem bytesOf_some : ∀ {xs : List (List T)} {l : List UInt8} {vss : List (List Value)}, bytesOf xs = some l → RelLs w A 1 xs vss → ∃ ns : List Int, vss.flatten = ns.map (Value.int .u8) ∧ l = ns.map (fun n => UInt8.ofNat n.toNat)
  | [], l, vss, e, h => by
    simp only [RelLs] at h; subst h
    simp only [bytesOf, Option.some.injEq] at e; subst e
    exact ⟨[], rfl, rfl⟩
  | cs :: xs, l, vss, e, ⟨vs, r, e1, e2, e3, e4⟩ => by
    subst e1
    simp only [bytesOf] at e
    obtain ⟨x, hx, e⟩ := Option.bind_eq_some_iff.1 e
    obtain ⟨n, hn, e⟩ := Option.bind_eq_some_iff.1 e
    obtain ⟨q, hq, e⟩ := Option.bind_eq_some_iff.1 e
    simp only [Option.some.injEq] at e; subst e
    obtain ⟨ns, g1, g2⟩ := bytesOf_some hq e4
    have := T.int?_eq hn; subst this
    cases cs with
    | nil => simp at e2
    | cons y cs =>
      simp only [List.head?_cons, Option.some.injEq] at hx; subst hx
      have : cs = [] := List.length_eq_zero_iff.1 (by simpa using e2)
      subst this
      obtain ⟨v, q', rfl, h3, h4⟩ := e3
      simp only [RelTs] at h4; subst h4
      simp only [RelT] at h3; subst h3
      exact ⟨n :: ns, by simp [g1], by simp [g2]⟩

theorem push_bytes : ∀ (ns : List Int) (b : ByteArray), ns.foldl (fun r n => r.push (UInt8.ofNat n.toNat)) b = ⟨b.data ++ (ns.map (fun n => UInt8.ofNat n.toNat)).toArray⟩
  | [], b => by simp
  | n :: ns, b => by
    rw [List.foldl_cons, push_bytes ns]
    simp [ByteArray.push]

theorem bytes_sound {src dst e : TypeId} {x : AV} {y : T} {vx : Value} {p : Bool × List (List T)} {l : List UInt8} (hs : HS c w s.h ρ O) (hu : P.underlying src = some (.slice e)) (hu' : P.underlying dst = some .string) (he : P.underlying e = some (.int .u8))
    (hx : RelV w (AA c w O) ρ x vx) (hy : snapOne s.h x = some y) (hp : y.lst? 1 = some p) (hl : bytesOf p.2 = some l) : (convert src dst vx).run P w = .ok (.string ⟨l.toArray⟩) w := by
  rcases snapOne_els hs hx hy hp with ⟨e1, rfl | ⟨a, cap, rfl⟩⟩ | ⟨blk, off, cap, rfl, hels⟩
  · rw [e1] at hl; simp only [bytesOf, Option.some.injEq] at hl; subst hl
    rw [run_convert_bytes_string w src dst e _ _ _ hu he hu']
    simp [Conv.bytesToString]; rfl
  · rw [e1] at hl; simp only [bytesOf, Option.some.injEq] at hl; subst hl
    rw [run_convert_bytes_string w src dst e _ _ _ hu he hu', run_bytesToString w a 0 cap [] (run_loadCells_list (P := P) w a [] (by simp))]
    rfl
  · obtain ⟨vss, h1, h2⟩ := hels.vals
    obtain ⟨l1, l2⟩ := h1.length
    obtain ⟨ns, g1, g2⟩ := bytesOf_some hl h1
    rw [run_convert_bytes_string w src dst e _ _ _ hu he hu', run_bytesToString w _ _ cap ns ?_, push_bytes]
    · rw [g2]; simp
    · rw [← g1]
      have hl2 := run_loadCells_list (P := P) w ⟨blk, off, none⟩ vss.flatten (fun j v hj => by rw [addr_add]; exact h2 j v hj)
      rw [l2, Nat.mul_one] at hl2
      exact hl2

theorem loadV_part {R : Type} {t : TypeId} (ht : tyOk P t = true) {cs : List AV} {arr : Array Value} {off : Nat} {K : AV → Option R} {r : R} (hr : RelVs w A ρ cs (arr.toList.drop off)) (h1 : ∀ u ∈ arr.toList, u.oneCell' = true ∧ u.cells = #[u]) (h : loadV P t cs K = some r) :
    ∃ av v, K av = some r ∧ (part t arr off).run P w = .ok v w ∧ RelV w A ρ av v := by
  unfold loadV at h
  unfold part
  simp only [Sem.run_bind, run_isAggA ht, Result.andThen_ok]
  cases hb : isAggT P t
  · simp only [hb, cond_false] at h
    cases cs with
    | nil => simp at h
    | cons y cs =>
      simp only [List.head?_cons, Option.bind_some] at h
      simp only [RelVs] at hr
      obtain ⟨v, q, e, h3, _⟩ := hr
      have hlt : off < arr.toList.length := by
        rcases Nat.lt_or_ge off arr.toList.length with g | g
        · exact g
        · rw [List.drop_eq_nil_of_le g] at e; simp at e
      rw [List.drop_eq_getElem_cons hlt] at e
      simp only [List.cons.injEq] at e
      have : arr[off]? = some v := by
        rw [Array.getElem?_eq_getElem (by simpa using hlt)]
        rw [← e.1]; simp
      simp only [Bool.false_eq_true, if_false, this]
      exact ⟨_, v, h, by simp, h3⟩
  · simp only [hb, cond_true] at h
    cases hq : takeAV (P.cellsOf t) cs with
    | none => simp [hq] at h
    | some l =>
      simp only [hq, Option.bind_some] at h
      obtain ⟨hl, hn⟩ := takeAV_some hq
      have h3 := hr.take (P.cellsOf t)
      rw [← hl] at h3
      refine ⟨_, .agg (arr.extract off (off + P.cellsOf t)), h, by simp only [if_true, Sem.run_bind, run_sizeA ht, Result.andThen_ok, Sem.run_pure], ?_⟩
      simp only [RelV]
      refine ⟨_, ?_, h3, fun u hu => h1 u (List.mem_of_mem_drop (List.mem_of_mem_take hu))⟩
      congr 1
      apply Array.ext'
      simp [Array.toList_extract, List.extract_eq_take_drop]

theorem fieldAV_sound {R : Type} {t : TypeId} {x : AV} {vx : Value} {f : Nat} {K : AV → Option R} {r : R} (hx : RelV w A ρ x vx) (h : fieldAV P t x f K = some r) :
    ∃ av v, K av = some r ∧ (Instr.field t vx f).run P w = .ok v w ∧ RelV w A ρ av v := by
  unfold fieldAV at h
  split at h
  · rename_i off u hf
    obtain ⟨fs, y, h1, h2, h3, h4⟩ := fieldT_some hf
    simp only [Prod.mk.injEq] at h3
    obtain ⟨rfl, rfl⟩ := h3
    split at h
    · rename_i vs
      simp only [RelV] at hx
      obtain ⟨ws, rfl, g1, g2⟩ := hx
      obtain ⟨av, v, k1, k2, k3⟩ := loadV_part (arr := ws.toArray) h4 (by simpa using g1.drop y.offset) (by simpa using g2) h
      exact ⟨av, v, k1, by simp [Instr.field, run_underlying h1, h2, asAgg, k2], k3⟩
    · simp at h
  · simp at h

theorem loadT_part {R : Type} {t : TypeId} (ht : tyOk P t = true) {cs : List T} {arr : Array Value} {off : Nat} {K : AV → Option R} {r : R} (hc : cc = none ∨ cc = some true) (hr : RelTs w A cs (arr.toList.drop off)) (h : loadT P t cc cs K = some r) :
    ∃ av v, K av = some r ∧ (part t arr off).run P w = .ok v w ∧ RelV w A ρ av v := by
  unfold loadT at h
  unfold part
  simp only [Sem.run_bind, run_isAggA ht, Result.andThen_ok]
  cases hb : isAggT P t
  · simp only [hb, cond_false] at h
    replace h := gdK_some h hc; obtain ⟨x, hx, h⟩ := h
    cases cs with
    | nil => simp at hx
    | cons y cs =>
      simp only [List.head?_cons, Option.some.injEq] at hx; subst hx
      obtain ⟨v, q, e, h3, _⟩ := hr
      have hlt : off < arr.toList.length := by
        rcases Nat.lt_or_ge off arr.toList.length with g | g
        · exact g
        · rw [List.drop_eq_nil_of_le g] at e; simp at e
      rw [List.drop_eq_getElem_cons hlt] at e
      simp only [List.cons.injEq] at e
      have : arr[off]? = some v := by
        rw [Array.getElem?_eq_getElem (by simpa using hlt)]
        rw [← e.1]; simp
      simp only [Bool.false_eq_true, if_false, this]
      obtain ⟨z, h, h3⟩ := typK_sound hc h3 h
      exact ⟨_, v, h, by simp, by simpa [RelV] using h3⟩
  · simp only [hb, cond_true] at h
    obtain ⟨l, hl, hn, h⟩ := takeK_some hc h
    have h3 := hr.take (P.cellsOf t)
    rw [← hl] at h3
    obtain ⟨ys, h, h5⟩ := typKs_sound hc h3 h
    refine ⟨_, .agg (arr.extract off (off + P.cellsOf t)), h, by simp only [if_true, Sem.run_bind, run_sizeA ht, Result.andThen_ok, Sem.run_pure], ?_⟩
    simp only [RelV]
    refine ⟨_, ?_, RelVs.of_ts h5, h3.one⟩
    congr 1
    apply Array.ext'
    simp [Array.toList_extract, List.extract_eq_take_drop]

theorem minT_sound {R : Type} {k : IntKind} (hc : cc = none ∨ cc = some true) (isMax : Bool) : ∀ {l : List T} {a : Int} {vs : List Value} {K : T → Option R} {r : R}, RelTs w A l vs → minT k cc isMax a l K = some r →
    ∃ n, K (.int k n) = some r ∧ (vs.foldlM (cond isMax Builtin.max2 Builtin.min2) (.int k a)).run P w = .ok (.int k n) w
  | [], a, vs, K, r, hv, h => by
    simp only [RelTs] at hv; subst hv
    exact ⟨a, h, by simp⟩
  | y :: l, a, vs, K, r, ⟨v, q, e, h1, h2⟩, h => by
    subst e
    simp only [minT] at h
    replace h := gdK_some h hc; obtain ⟨b, hb, h⟩ := h
    have := T.int?_eq hb; subst this
    simp only [RelT] at h1; subst h1
    obtain ⟨n, e1, e2⟩ := minT_sound hc isMax h2 h
    refine ⟨n, e1, ?_⟩
    rw [List.foldlM_cons]
    have : ((cond isMax Builtin.max2 Builtin.min2) (.int k a) (.int k b)).run P w = .ok (.int k (mm isMax a b)) w := by
      cases isMax <;> simp [Builtin.max2, Builtin.min2, mm]
    simp only [Sem.run_bind, this, Result.andThen_ok]
    exact e2

end
open Go

def Owned (O : Id → Option Nat) (b : Nat) : Prop := ∃ i, O i = some b
/-- The blocks that a call begins with. -/
def blkH (blks : List Blk) : Id → Option Blk
  | .c j => blks[j]?
  | .s _ _ => none

section
variable {P : Program} {w w' : World} {A A' : Nat → Prop} {c : Ctx} {ρ : Id → Option Value} {O : Id → Option Nat} {s s' : St} {h : Id → Option Blk}

def idsB : Option Blk → List Id
  | some (.box cs) => idsL cs
  | _ => []
theorem reach_sound : ∀ {n : Nat} {todo seen0 seen : List Id}, reach h n todo seen0 = some seen → seen0.Nodup → (∀ i ∈ seen0, h i ≠ none) → (∀ i ∈ seen0, ∀ j ∈ idsB (h i), j ∈ seen0 ∨ j ∈ todo) →
    seen.Nodup ∧ (∀ i ∈ seen0, i ∈ seen) ∧ (∀ i ∈ todo, i ∈ seen) ∧ (∀ i ∈ seen, h i ≠ none) ∧ ∀ i ∈ seen, ∀ j ∈ idsB (h i), j ∈ seen
  | 0, todo, seen0, seen, e, _, _, _ => by simp [reach] at e
  | n + 1, [], seen0, seen, e, hn, hd, hc => by
    simp only [reach, Option.some.injEq] at e; subst e
    exact ⟨hn, fun _ h => h, by simp, hd, fun i hi j hj => by rcases hc i hi j hj with h | h; exact h; cases h⟩
  | n + 1, i :: todo, seen0, seen, e, hn, hd, hc => by
    simp only [reach] at e
    cases hin : seen0.contains i with
    | true =>
      rw [hin, cond_true] at e
      have hi : i ∈ seen0 := by simpa using hin
      obtain ⟨g1, g2, g3, g4, g5⟩ := reach_sound e hn hd (fun k hk j hj => by
        rcases hc k hk j hj with h | h
        · exact .inl h
        · rcases List.mem_cons.1 h with rfl | h
          · exact .inl hi
          · exact .inr h)
      refine ⟨g1, g2, fun k hk => ?_, g4, g5⟩
      rcases List.mem_cons.1 hk with rfl | hk
      · exact g2 _ hi
      · exact g3 k hk
    | false =>
      rw [hin, cond_false] at e
      have hni : i ∉ seen0 := by intro hm; have : seen0.contains i = true := by simpa using hm
                                 rw [this] at hin; cases hin
      have hn' : (seen0 ++ [i]).Nodup := List.nodup_append.2 ⟨hn, by simp, fun a ha b hb hab => by simp only [List.mem_singleton] at hb; exact hni (by rw [← hb, ← hab]; exact ha)⟩
      have go : ∀ more : List Id, h i ≠ none → idsB (h i) = more → reach h n (todo ++ more) (seen0 ++ [i]) = some seen → _ := fun more hne hm e =>
        reach_sound e hn' (fun k hk => by
          rcases List.mem_append.1 hk with hk | hk
          · exact hd k hk
          · simp only [List.mem_singleton] at hk; subst hk; exact hne) (fun k hk j hj => by
          rcases List.mem_append.1 hk with hk | hk
          · rcases hc k hk j hj with h | h
            · exact .inl (List.mem_append_left _ h)
            · rcases List.mem_cons.1 h with rfl | h
              · exact .inl (List.mem_append_right _ (List.mem_singleton.2 rfl))
              · exact .inr (List.mem_append_left _ h)
          · simp only [List.mem_singleton] at hk; subst hk
            rw [hm] at hj; exact .inr (List.mem_append_right _ hj))
      have fin : ∀ more : List Id, (seen.Nodup ∧ (∀ k ∈ seen0 ++ [i], k ∈ seen) ∧ (∀ k ∈ todo ++ more, k ∈ seen) ∧ (∀ k ∈ seen, h k ≠ none) ∧ ∀ k ∈ seen, ∀ j ∈ idsB (h k), j ∈ seen) →
          seen.Nodup ∧ (∀ i ∈ seen0, i ∈ seen) ∧ (∀ k ∈ i :: todo, k ∈ seen) ∧ (∀ i ∈ seen, h i ≠ none) ∧ ∀ i ∈ seen, ∀ j ∈ idsB (h i), j ∈ seen := by
        rintro more ⟨g1, g2, g3, g4, g5⟩
        refine ⟨g1, fun k hk => g2 k (List.mem_append_left _ hk), fun k hk => ?_, g4, g5⟩
        rcases List.mem_cons.1 hk with rfl | hk
        · exact g2 _ (List.mem_append_right _ (List.mem_singleton.2 rfl))
        · exact g3 k (List.mem_append_left _ hk)
      split at e
      · rename_i cs hi
        exact fin _ (go (idsL cs) (by rw [hi]; simp) (by rw [hi]; rfl) e)
      · rename_i b hb hi
        refine fin [] (go [] (by rw [hi]; simp) ?_ (by simpa using e))
        rw [hi]
        cases b with
        | box cs => exact (hb cs rfl).elim
        | _ => rfl
      · simp at e

def rnρ {α : Type} (m : List Id) (f : Id → Option α) : Id → Option α
  | .c j => (m[j]?).bind f
  | .s _ _ => none
theorem rnρ_idx {α : Type} {m : List Id} {f : Id → Option α} {i : Id} (hi : i ∈ m) : rnρ m f (.c (m.idxOf i)) = f i := by
  simp only [rnρ]
  have : m.idxOf i < m.length := List.idxOf_lt_length_iff.2 hi
  rw [List.getElem?_eq_getElem this]
  simp

mutual
theorem RelV.rn {m : List Id} (hA : ∀ b, A b → A' b) : ∀ (v : AV) (u : Value), (∀ i ∈ v.ids, i ∈ m) → RelV w A ρ v u → RelV w A' (rnρ m ρ) (v.rn m) u
  | .top, _, _, _ => by simp [AV.rn, RelV]
  | .t x, u, _, hv => by
    simp only [AV.rn, RelV] at hv ⊢
    exact RelT.mono (fun b hb => ⟨hA b hb, rfl⟩) x u hv
  | .tup vs, u, hi, hv => by
    simp only [AV.rn, RelV] at hv ⊢
    obtain ⟨ws, e, h1⟩ := hv
    exact ⟨ws, e, RelVs.rn hA vs ws (by simpa [AV.ids] using hi) h1⟩
  | .agg vs, u, hi, hv => by
    simp only [AV.rn, RelV] at hv ⊢
    obtain ⟨ws, e, h1, h2⟩ := hv
    exact ⟨ws, e, RelVs.rn hA vs ws (by simpa [AV.ids] using hi) h1, h2⟩
  | .ref i off, u, hi, hv => by
    simp only [AV.rn, RelV] at hv ⊢
    rw [rnρ_idx (hi i (by simp [AV.ids]))]; exact hv
  | .el i sz k off, u, hi, hv => by
    simp only [AV.rn, RelV] at hv ⊢
    rw [rnρ_idx (hi i (by simp [AV.ids]))]; exact hv
  | .own i, u, hi, hv => by
    simp only [AV.rn, RelV] at hv ⊢
    rw [rnρ_idx (hi i (by simp [AV.ids]))]; exact hv
  | .part i sz off n, u, hi, hv => by
    simp only [AV.rn, RelV] at hv ⊢
    rw [rnρ_idx (hi i (by simp [AV.ids]))]; exact hv
  | .fn f a b, u, hi, hv => by
    simp only [AV.rn, RelV] at hv ⊢
    obtain ⟨x', y', e, h1, h2⟩ := hv
    simp only [AV.ids, List.mem_append] at hi
    exact ⟨x', y', e, RelVs.rn hA a x' (fun i h => hi i (.inl h)) h1, RelVs.rn hA b y' (fun i h => hi i (.inr h)) h2⟩
theorem RelVs.rn {m : List Id} (hA : ∀ b, A b → A' b) : ∀ (vs : List AV) (us : List Value), (∀ i ∈ idsL vs, i ∈ m) → RelVs w A ρ vs us → RelVs w A' (rnρ m ρ) (rnL m vs) us
  | [], us, _, hv => by simpa [rnL, RelVs] using hv
  | v :: vs, us, hi, hv => by
    simp only [rnL, RelVs] at hv ⊢
    obtain ⟨u, r, e, h1, h2⟩ := hv
    simp only [idsL, List.mem_append] at hi
    exact ⟨u, r, e, RelV.rn hA v u (fun i h => hi i (.inl h)) h1, RelVs.rn hA vs r (fun i h => hi i (.inr h)) h2⟩
end

theorem rn_owned {seen : List Id} {b : Nat} (h : Owned (rnρ seen O) b) : ∃ k ∈ seen, O k = some b := by
  obtain ⟨i, hi⟩ := h
  cases i with
  | c j =>
    simp only [rnρ] at hi
    obtain ⟨k, hj, hk⟩ := Option.bind_eq_some_iff.1 hi
    exact ⟨k, List.mem_of_getElem? hj, hk⟩
  | s d j => simp [rnρ] at hi
theorem HS.rnC {c' : Ctx} {seen : List Id} (hs : HS c w h ρ O) (hn : seen.Nodup) (hd : ∀ i ∈ seen, h i ≠ none) (hc : ∀ i ∈ seen, ∀ j ∈ idsB (h i), j ∈ seen)
    (hA : ∀ b, AA c w O b → AA c' w (rnρ seen O) b) (hM : ∀ b, Owned (rnρ seen O) b → c'.MO b) (hN : c'.N0 ≤ w.heap.size) : HS c' w (blkH (seen.map fun i => rnB seen (h i))) (rnρ seen ρ) (rnρ seen O) := by
  have hsub : ∀ b, Owned (rnρ seen O) b → Owned O b := fun b h => let ⟨k, _, hk⟩ := rn_owned h; ⟨k, hk⟩
  refine ⟨fun i b hb => ?_, fun i hi => ?_, fun i j b hi hj => ?_, fun i b hi => ?_, fun i b hi => ?_, hN⟩
  · cases i with
    | s d j => simp [blkH] at hb
    | c j =>
      simp only [blkH, List.getElem?_map, Option.map_eq_some_iff] at hb
      obtain ⟨i, hi, e⟩ := hb
      have hmem : i ∈ seen := List.mem_of_getElem? hi
      have hρ : rnρ seen ρ (.c j) = ρ i := by simp [rnρ, hi]
      have hO : rnρ seen O (.c j) = O i := by simp [rnρ, hi]
      cases hhi : h i with
      | none => exact (hd i hmem hhi).elim
      | some x =>
        have hx := hs.blk i x hhi
        have hcl := hc i hmem
        rw [hhi] at e hcl
        cases x with
        | box cs =>
          simp only [rnB] at e; subst e
          obtain ⟨bk, arr, t, e1, e2, e3, e4, e5⟩ := hx
          exact ⟨bk, arr, t, by rw [hρ]; exact e1, by rw [hO]; exact e2, e3, RelVs.rn hA cs _ (fun k hk => hcl k (by simpa [idsB] using hk)) e4, e5⟩
        | sl fz sz bb xs =>
          simp only [rnB] at e; subst e
          obtain ⟨v, e1, e2, e3⟩ := hx
          refine ⟨v, by rw [hρ]; exact e1, e2.mono (fun b hb => ⟨hA b hb, rfl⟩) (fun b hb => ⟨?_, rfl⟩), by rw [hO]; exact e3⟩
          cases fz
          · simp only [Bool.false_eq_true, if_false] at hb ⊢; rw [hO]; exact hb
          · simp only [if_true] at hb ⊢; exact hA b hb
        | fbox l =>
          simp only [rnB] at e; subst e
          obtain ⟨bk, e1, e2, e3, e4⟩ := hx
          exact ⟨bk, by rw [hρ]; exact e1, by rw [hO]; exact e2, hA bk e3, RelAt.mono (fun b hb => ⟨hA b hb, rfl⟩) bk e3 0 l e4⟩
        | dead =>
          simp only [rnB] at e; subst e
          obtain ⟨e1, e2⟩ := hx
          exact ⟨by rw [hρ]; exact e1, by rw [hO]; exact e2⟩
  · cases i with
    | s d j => exact ⟨rfl, rfl⟩
    | c j =>
      simp only [blkH, List.getElem?_map, Option.map_eq_none_iff] at hi
      simp [rnρ, hi]
  · have key : ∀ i b, rnρ seen O i = some b → ∃ j k, i = .c j ∧ seen[j]? = some k ∧ O k = some b := by
      intro i b hi
      cases i with
      | s d j => simp [rnρ] at hi
      | c j =>
        simp only [rnρ] at hi
        obtain ⟨k, h1, h2⟩ := Option.bind_eq_some_iff.1 hi
        exact ⟨j, k, rfl, h1, h2⟩
    obtain ⟨j1, k1, rfl, a1, b1⟩ := key i b hi
    obtain ⟨j2, k2, rfl, a2, b2⟩ := key j b hj
    have := hs.inj k1 k2 b b1 b2
    subst this
    obtain ⟨l1, e1⟩ := List.getElem?_eq_some_iff.1 a1
    obtain ⟨l2, e2⟩ := List.getElem?_eq_some_iff.1 a2
    congr 1
    exact (List.getElem_inj hn).1 (e1.trans e2.symm)
  · obtain ⟨k, hk⟩ := hsub b ⟨i, hi⟩; exact hs.lt k b hk
  · exact hM b ⟨i, hi⟩
theorem HS.rn {seen : List Id} (hs : HS c w h ρ O) (hn : seen.Nodup) (hd : ∀ i ∈ seen, h i ≠ none) (hc : ∀ i ∈ seen, ∀ j ∈ idsB (h i), j ∈ seen) :
    HS c w (blkH (seen.map fun i => rnB seen (h i))) (rnρ seen ρ) (rnρ seen O) ∧ (∀ b, Owned (rnρ seen O) b → Owned O b) := by
  have hsub : ∀ b, Owned (rnρ seen O) b → Owned O b := fun b h => let ⟨k, _, hk⟩ := rn_owned h; ⟨k, hk⟩
  refine ⟨hs.rnC hn hd hc (fun b hb => ⟨hb.1, hb.2.1, fun i hi => ?_⟩) (fun b hb => ?_) hs.size, hsub⟩
  · obtain ⟨k, hk⟩ := hsub b ⟨i, hi⟩
    exact hb.2.2 k hk
  · obtain ⟨k, hk⟩ := hsub b hb
    exact hs.own k b hk

/-- The first names are those that are asked for first. -/
theorem reach_grows : ∀ {n : Nat} {todo seen0 seen : List Id}, reach h n todo seen0 = some seen → seen0 <+: seen
  | 0, todo, seen0, seen, e => by simp [reach] at e
  | n + 1, [], seen0, seen, e => by simp only [reach, Option.some.injEq] at e; subst e; exact List.prefix_refl _
  | n + 1, i :: todo, seen0, seen, e => by
    simp only [reach] at e
    cases hin : seen0.contains i with
    | true => rw [hin, cond_true] at e; exact reach_grows e
    | false =>
      rw [hin, cond_false] at e
      split at e
      · exact (List.prefix_append _ _).trans (reach_grows e)
      · exact (List.prefix_append _ _).trans (reach_grows e)
      · simp at e
theorem reach_first : ∀ {l : List Id} {n : Nat} {todo seen0 seen : List Id}, reach h n (l ++ todo) seen0 = some seen → l.Nodup → (∀ i ∈ l, i ∉ seen0) → (seen0 ++ l) <+: seen
  | [], n, todo, seen0, seen, e, _, _ => by rw [List.append_nil]; exact reach_grows e
  | i :: l, 0, todo, seen0, seen, e, _, _ => by simp [reach] at e
  | i :: l, n + 1, todo, seen0, seen, e, hn, hd => by
    obtain ⟨n1, n2⟩ := List.nodup_cons.1 hn
    simp only [List.cons_append, reach] at e
    have hin : seen0.contains i = false := by
      have := hd i List.mem_cons_self
      simpa using this
    rw [hin, cond_false] at e
    have go : ∀ more : List Id, reach h n (l ++ todo ++ more) (seen0 ++ [i]) = some seen → (seen0 ++ i :: l) <+: seen := by
      intro more e
      rw [List.append_assoc] at e
      have := reach_first e n2 (fun j hj hm => by
        rcases List.mem_append.1 hm with hm | hm
        · exact hd j (List.mem_cons_of_mem _ hj) hm
        · simp only [List.mem_singleton] at hm; subst hm; exact n1 hj)
      simpa using this
    split at e
    · exact go _ e
    · exact go [] (by simpa using e)
    · simp at e

theorem HS.someRho (hs : HS c w h ρ O) {i : Id} {b : Blk} (hi : h i = some b) : ∃ v, ρ i = some v ∧ v.oneCell' = true ∧ v.cells = #[v] := by
  cases hρ : ρ i with
  | some u => exact ⟨u, rfl, rho_one hs hρ⟩
  | none =>
    exfalso
    have := hs.blk i b hi
    cases b with
    | box cs => obtain ⟨b, _, _, h1, _⟩ := this; rw [hρ] at h1; cases h1
    | sl fz sz b xs => obtain ⟨v, h1, _⟩ := this; rw [hρ] at h1; cases h1
    | fbox l => obtain ⟨b, h1, _⟩ := this; rw [hρ] at h1; cases h1
    | dead => obtain ⟨⟨v, h1, _⟩, _⟩ := this; rw [hρ] at h1; cases h1
theorem RelVs.set : ∀ {as : List AV} {us : List Value} {k : Nat} {v : AV} {u : Value}, RelVs w A ρ as us → us[k]? = some u → RelV w A ρ v u → RelVs w A ρ (as.set k v) us
  | [], us, k, v, u, h, hk, hv => by simp only [RelVs] at h; subst h; simp at hk
  | a :: as, us, 0, v, u, h, hk, hv => by
    simp only [RelVs] at h; obtain ⟨x, r, rfl, h1, h2⟩ := h
    simp only [List.getElem?_cons_zero, Option.some.injEq] at hk; subst hk
    simp only [List.set_cons_zero, RelVs]; exact ⟨_, _, rfl, hv, h2⟩
  | a :: as, us, k + 1, v, u, h, hk, hv => by
    simp only [RelVs] at h; obtain ⟨x, r, rfl, h1, h2⟩ := h
    simp only [List.getElem?_cons_succ] at hk
    simp only [List.set_cons_succ, RelVs]; exact ⟨_, _, rfl, h1, RelVs.set h2 hk hv⟩

theorem emp_slAt {b : Bool} {sz : Nat} {u : Value} {Q : Nat → Prop} (h : RelT w A (.emp b) u) : SlAt w A sz b [] u Q := by
  simp only [RelT] at h
  rcases h with ⟨rfl, rfl⟩ | ⟨rfl, blk, off, sp, rfl⟩
  · exact ⟨none, 0, rfl, by simp, by simp, by simp, .inl rfl⟩
  · exact ⟨some ⟨blk, off, sp⟩, 0, rfl, by simp, by simp, trivial, .inl rfl⟩
theorem ownCell_sound {new i : Id} {k sz : Nat} {us : Upd} (hs : HS c w h ρ O) (e : ownCell h new i k sz = some us) : ∃ ρ' O', Le w ρ O w ρ' O' ∧ HS c w (updH h us) ρ' O' := by
  unfold ownCell at e
  split at e
  · rename_i cs hi
    obtain ⟨b, arr, t, h1, h2, h3, h4, h5⟩ := hs.blk i _ hi
    have fresh0 : ∀ {b : Bool}, cs[k]? = some (.t (.emp b)) ∨ (cs[k]? = some (.t (.lst sz true [])) ∧ b = true) ∨ (∃ z, cs[k]? = some (.t (.lst z true [])) ∧ b = true) → (cond (h new).isNone (some [(new, Blk.sl false sz b []), (i, Blk.box (cs.set k (.own new)))]) none) = some us →
        ∃ ρ' O', Le w ρ O w ρ' O' ∧ HS c w (updH h us) ρ' O' := by
      intro bb hk e
      cases hf : h new with
      | some x => rw [hf] at e; simp at e
      | none =>
        rw [hf] at e
        simp only [Option.isNone_none, cond_true, Option.some.injEq] at e; subst e
        have hu : ∃ u, arr.toList[k]? = some u ∧ RelT w (AA c w O) (.emp bb) u := by
          rcases hk with hk | ⟨hk, rfl⟩ | ⟨z, hk, rfl⟩
          · obtain ⟨u, g1, g2⟩ := h4.get hk; exact ⟨u, g1, by simpa [RelV] using g2⟩
          · obtain ⟨u, g1, g2⟩ := h4.get hk
            refine ⟨u, g1, ?_⟩
            simp only [RelV, RelT] at g2 ⊢
            rcases g2 with ⟨_, _, g⟩ | ⟨g, _⟩
            · exact .inl ⟨trivial, g⟩
            · cases g
          · obtain ⟨u, g1, g2⟩ := h4.get hk
            refine ⟨u, g1, ?_⟩
            simp only [RelV, RelT] at g2 ⊢
            rcases g2 with ⟨_, _, g⟩ | ⟨g, _⟩
            · exact .inl ⟨trivial, g⟩
            · cases g
        obtain ⟨u, g1, g2⟩ := hu
        obtain ⟨n1, n2⟩ := hs.nodom new hf
        have hne : i ≠ new := fun e => by rw [e, hf] at hi; cases hi
        have le : Le w ρ O w (upd ρ new (some u)) O := ⟨rfl, rfl, rfl, Nat.le_refl _, fun j v hj => by
          by_cases e : j = new
          · subst e; rw [n1] at hj; cases hj
          · rw [upd_ne _ _ e]; exact hj, fun _ _ _ => rfl, fun j b h => .inl ⟨j, h⟩⟩
        refine ⟨_, O, le, ?_⟩
        rw [updH_cons, updH_one]
        refine hs.go le (fun j x hj => ?_) (fun j hj => ?_) hs.inj hs.lt
        · by_cases e : j = i
          · subst e; rw [upd_same] at hj; cases hj
            right
            refine ⟨b, arr, t, le.rho _ _ h1, h2, h3, RelVs.set (RelVs.mono (fun b hb => le.A b hb) le.rho _ _ h4) g1 ?_, h5⟩
            simp only [RelV]; exact upd_same _ _ _
          · rw [upd_ne _ _ e] at hj
            by_cases e2 : j = new
            · subst e2; rw [upd_same] at hj; cases hj
              exact .inr ⟨u, upd_same _ _ _, emp_slAt g2, by simp⟩
            · rw [upd_ne _ _ e2] at hj
              exact .inl ⟨hj, rfl, fun _ _ => rfl⟩
        · by_cases e : j = i
          · subst e; rw [upd_same] at hj; cases hj
          · rw [upd_ne _ _ e] at hj
            by_cases e2 : j = new
            · subst e2; rw [upd_same] at hj; cases hj
            · rw [upd_ne _ _ e2] at hj
              rw [upd_ne _ _ e2]; exact hs.nodom j hj
    split at e
    · simp only [Option.some.injEq] at e; subst e
      exact ⟨ρ, O, Le.refl, hs⟩
    · rename_i bb hk
      exact fresh0 (.inl hk) e
    · rename_i z hk
      exact fresh0 (.inr (.inr ⟨z, hk, rfl⟩)) e
    · rename_i j sz' n hk
      split at e
      · rename_i sz'' bb xs hj0
        split at e
        · rename_i hcond
          obtain ⟨rfl, rfl, hji⟩ := hcond
          cases hf : h new with
          | some x => rw [hf] at e; simp at e
          | none =>
            rw [hf] at e
            simp only [Option.isNone_none, cond_true, Option.some.injEq] at e; subst e
            obtain ⟨u, g1, g2⟩ := h4.get hk
            obtain ⟨n1, n2⟩ := hs.nodom new hf
            have hne : i ≠ new := fun e => by rw [e, hf] at hi; cases hi
            have hnj : j ≠ new := fun e => by rw [e, hf] at hj0; cases hj0
            obtain ⟨v, f1, ⟨a, cap, rfl, f2, f3, _, f4⟩, _⟩ := hs.blk j _ hj0
            simp only [RelV] at g2
            obtain ⟨a1, L, cap1, a', e1, e2, e3, rfl, e4⟩ := g2
            rw [f1] at e1; simp only [Option.some.injEq, Value.slice.injEq] at e1
            obtain ⟨rfl, rfl, rfl⟩ := e1
            have hlen : (xs.take n).length = n := by rw [List.length_take]; omega
            have ha : a' = none ↔ a = none := by
              rcases e4 with ⟨_, rfl⟩ | ⟨_, h, _⟩ | ⟨_, _, rfl, rfl⟩
              · exact Iff.rfl
              · exact h
              · simp
            have le : Le w ρ O w (upd ρ new (some (.slice a' n (cap - 0)))) (upd (upd O j none) new (O j)) := by
              refine ⟨rfl, rfl, rfl, Nat.le_refl _, fun k v hk => ?_, fun _ _ _ => rfl, fun k b hk => ?_⟩
              · by_cases e : k = new
                · subst e; rw [n1] at hk; cases hk
                · rw [upd_ne _ _ e]; exact hk
              · by_cases e : k = new
                · subst e; rw [upd_same] at hk; exact .inl ⟨j, hk⟩
                · rw [upd_ne _ _ e] at hk
                  by_cases e2 : k = j
                  · subst e2; rw [upd_same] at hk; cases hk
                  · rw [upd_ne _ _ e2] at hk; exact .inl ⟨k, hk⟩
            have dec : ∀ k b, upd (upd O j none) new (O j) k = some b → (k = new ∧ O j = some b) ∨ (k ≠ new ∧ k ≠ j ∧ O k = some b) := by
              intro k b hk
              by_cases e : k = new
              · subst e; rw [upd_same] at hk; exact .inl ⟨rfl, hk⟩
              · rw [upd_ne _ _ e] at hk
                by_cases e2 : k = j
                · subst e2; rw [upd_same] at hk; cases hk
                · rw [upd_ne _ _ e2] at hk; exact .inr ⟨e, e2, hk⟩
            refine ⟨_, _, le, ?_⟩
            rw [updH_cons, updH_cons, updH_one]
            refine hs.go le (fun k x hk => ?_) (fun k hk => ?_) (fun k k' b hk hk' => ?_) (fun k b hk => ?_)
            · by_cases e : k = i
              · subst e; rw [upd_same] at hk; cases hk
                right
                refine ⟨b, arr, t, le.rho _ _ h1, by rw [upd_ne _ _ hne, upd_ne _ _ (Ne.symm hji)]; exact h2, h3, RelVs.set (RelVs.mono (fun b hb => le.A b hb) le.rho _ _ h4) g1 ?_, h5⟩
                simp only [RelV]; exact upd_same _ _ _
              · rw [upd_ne _ _ e] at hk
                by_cases e2 : k = new
                · subst e2; rw [upd_same] at hk; cases hk
                  right
                  refine ⟨_, upd_same _ _ _, ⟨a', cap, by rw [hlen]; rfl, by rw [hlen]; omega, by rw [ha]; exact f3, trivial, ?_⟩, by simp⟩
                  rcases f4 with f4 | ⟨blk, off, arr', t', q1, q2, q3, q4, q5⟩
                  · exact .inl f4
                  · by_cases hc0 : cap = 0
                    · exact .inl hc0
                    · right
                      subst q1
                      have : a' = some ⟨blk, off, none⟩ := by
                        rcases e4 with ⟨_, rfl⟩ | ⟨h, _⟩ | ⟨b', o, e5, rfl⟩
                        · rfl
                        · exact absurd h.symm hc0
                        · simp only [Option.some.injEq, Addr.mk.injEq] at e5
                          obtain ⟨rfl, rfl, _⟩ := e5
                          simp
                      refine ⟨blk, off, arr', t', this, ?_, q3, q4, (RelEls.mono' (fun b hb => le.A b hb) blk _ rfl off xs q5).take n⟩
                      simp only [Bool.false_eq_true, if_false] at q2 ⊢; rw [upd_same]; exact q2
                · rw [upd_ne _ _ e2] at hk
                  by_cases e3 : k = j
                  · subst e3; rw [upd_same] at hk; cases hk
                    exact .inr ⟨⟨_, le.rho _ _ f1, rfl, rfl⟩, by rw [upd_ne _ _ hnj, upd_same]⟩
                  · rw [upd_ne _ _ e3] at hk
                    exact .inl ⟨hk, by rw [upd_ne _ _ e2, upd_ne _ _ e3], fun _ _ => rfl⟩
            · by_cases e : k = i
              · subst e; rw [upd_same] at hk; cases hk
              · rw [upd_ne _ _ e] at hk
                by_cases e2 : k = new
                · subst e2; rw [upd_same] at hk; cases hk
                · rw [upd_ne _ _ e2] at hk
                  by_cases e3 : k = j
                  · subst e3; rw [upd_same] at hk; cases hk
                  · rw [upd_ne _ _ e3] at hk
                    rw [upd_ne _ _ e2, upd_ne _ _ e2, upd_ne _ _ e3]; exact hs.nodom k hk
            · rcases dec k b hk with ⟨rfl, p1⟩ | ⟨p0, p1, p2⟩ <;> rcases dec k' b hk' with ⟨rfl, q1⟩ | ⟨q0, q1, q2⟩
              · rfl
              · exact (q1 (hs.inj k' j b q2 p1)).elim
              · exact (p1 (hs.inj k j b p2 q1)).elim
              · exact hs.inj k k' b p2 q2
            · rcases dec k b hk with ⟨rfl, p1⟩ | ⟨p0, p1, p2⟩
              · exact hs.lt j b p1
              · exact hs.lt k b p2
        · simp at e
      · simp at e
    · simp at e
  · simp at e
theorem ownCell_none {new i x : Id} {k sz : Nat} {us : Upd} (e : ownCell h new i k sz = some us) (hx : h x = none) (hn : x ≠ new) : updH h us x = none := by
  unfold ownCell at e
  split at e
  · rename_i cs hi
    have hxi : x ≠ i := fun e => by rw [e, hi] at hx; cases hx
    have fin : ∀ {b : Bool}, (cond (h new).isNone (some [(new, Blk.sl false sz b []), (i, Blk.box (cs.set k (.own new)))]) none) = some us → updH h us x = none := by
      intro b e
      cases hf : (h new).isNone with
      | false => rw [hf] at e; simp at e
      | true =>
        rw [hf] at e
        simp only [cond_true, Option.some.injEq] at e; subst e
        rw [updH_cons, updH_one, upd_ne _ _ hxi, upd_ne _ _ hn]; exact hx
    split at e
    · simp only [Option.some.injEq] at e; subst e; exact hx
    · exact fin e
    · exact fin e
    · rename_i j sz' n hk
      split at e
      · rename_i sz'' bb xs hj0
        have hxj : x ≠ j := fun e => by rw [e, hj0] at hx; cases hx
        split at e
        · cases hf : (h new).isNone with
          | false => rw [hf] at e; simp at e
          | true =>
            rw [hf] at e
            simp only [cond_true, Option.some.injEq] at e; subst e
            rw [updH_cons, updH_cons, updH_one, upd_ne _ _ hxi, upd_ne _ _ hn, upd_ne _ _ hxj]; exact hx
        · simp at e
      · simp at e
    · simp at e
  · simp at e
theorem prep_sound {nm : Nat} : ∀ {l : List (Id × Nat × Nat)} {j : Nat} {h : Id → Option Blk} {ρ : Id → Option Value} {O : Id → Option Nat} {us : Upd}, HS c w h ρ O → prep nm j h l = some us → ∃ ρ' O', Le w ρ O w ρ' O' ∧ HS c w (updH h us) ρ' O'
  | [], j, h, ρ, O, us, hs, e => by simp only [prep, Option.some.injEq] at e; subst e; exact ⟨ρ, O, Le.refl, hs⟩
  | (i, k, sz) :: l, j, h, ρ, O, us, hs, e => by
    simp only [prep] at e
    obtain ⟨u1, e1, e⟩ := Option.bind_eq_some_iff.1 e
    obtain ⟨u2, e2, e⟩ := Option.bind_eq_some_iff.1 e
    simp only [Option.some.injEq] at e; subst e
    obtain ⟨ρ1, O1, le1, hs1⟩ := ownCell_sound hs e1
    obtain ⟨ρ2, O2, le2, hs2⟩ := prep_sound hs1 e2
    exact ⟨ρ2, O2, le1.trans le2, by rw [updH_append]; exact hs2⟩
theorem prep_none {nm : Nat} {x : Id} (hn : ∀ k, x ≠ .s nm k) : ∀ {l : List (Id × Nat × Nat)} {j : Nat} {h : Id → Option Blk} {us : Upd}, prep nm j h l = some us → h x = none → updH h us x = none
  | [], j, h, us, e, hx => by simp only [prep, Option.some.injEq] at e; subst e; exact hx
  | (i, k, sz) :: l, j, h, us, e, hx => by
    simp only [prep] at e
    obtain ⟨u1, e1, e⟩ := Option.bind_eq_some_iff.1 e
    obtain ⟨u2, e2, e⟩ := Option.bind_eq_some_iff.1 e
    simp only [Option.some.injEq] at e; subst e
    rw [updH_append]
    exact prep_none hn e2 (ownCell_none e1 hx (hn j))

end
open Go

section
variable (B : Nat → Option Value) (w : World) (A : Nat → Prop)
/-- B: the values of the blocks that were handed in. -/
def RelR1 : RSh → T → Value → Option Nat → Prop
  | .f _, x, v, ob => x.flat? = some () ∧ RelT w A x v ∧ ob = none
  | .t _, x, v, ob => RelT w A x v ∧ ob = none
  | .own sz, x, v, ob => ∃ p, x.lst? sz = some p ∧ SlAt w A sz p.1 p.2 v (fun blk => ob = some blk)
  | .ref k off, _, v, ob => (∃ b, B k = some (.pointer (some ⟨b, 0, none⟩)) ∧ v = .pointer (some ⟨b, off, none⟩)) ∧ ob = none
  | .no, _, v, ob => (v.oneCell' = true ∧ v.cells = #[v]) ∧ ob = none
  | .agg _, _, _, _ => False
def RelRL : List RSh → List T → List Value → List Nat → Prop
  | [], xs, vs, own => xs = [] ∧ vs = [] ∧ own = []
  | r :: rs, xs, vs, own => ∃ x xs' v vs' ob own', xs = x :: xs' ∧ vs = v :: vs' ∧ own = ob.toList ++ own' ∧ RelR1 B w A r x v ob ∧ RelRL rs xs' vs' own'
def RelRs : List RSh → List T → List Value → List Nat → Prop
  | [], xs, vs, own => xs = [] ∧ vs = [] ∧ own = []
  | .agg l :: rs, xs, vs, own => ∃ x1 x2 ws vs' o1 o2, xs = x1 ++ x2 ∧ vs = .agg ws.toArray :: vs' ∧ own = o1 ++ o2 ∧ RelRL B w A l x1 ws o1 ∧ RelRs rs x2 vs' o2
  | r :: rs, xs, vs, own => ∃ x xs' v vs' ob own', xs = x :: xs' ∧ vs = v :: vs' ∧ own = ob.toList ++ own' ∧ RelR1 B w A r x v ob ∧ RelRs rs xs' vs' own'
/-- What has become of the blocks that were handed in. -/
def RelOs : Nat → List BSh → List T → List Nat → Prop
  | _, [], xs, own => xs = [] ∧ own = []
  | j, .box l :: r, xs, own => ∃ x1 x2 b arr t o1 o2, xs = x1 ++ x2 ∧ own = b :: (o1 ++ o2) ∧ B j = some (.pointer (some ⟨b, 0, none⟩)) ∧ w.heap[b]? = some (.cells arr t (0, 0)) ∧
      RelRL B w A l x1 arr.toList o1 ∧ RelOs (j + 1) r x2 o2
  | j, .sl sz :: r, xs, own => ∃ bb l x2 ob v o2, xs = .lst sz bb l :: x2 ∧ own = ob.toList ++ o2 ∧ B j = some v ∧ SlAt w A sz bb l v (fun blk => ob = some blk) ∧ RelOs (j + 1) r x2 o2
  | j, .dead :: r, xs, own => RelOs (j + 1) r xs own
end

def resV : List Value → Value
  | [v] => v
  | vs => .tuple vs.toArray

structure Keep (w w' : World) : Prop where
  os : w'.os = w.os
  output : w'.output = w.output
  tape : w'.tape = w.tape
  size : w.heap.size ≤ w'.heap.size
  blk : ∀ k, k < w.heap.size → w'.heap[k]? = w.heap[k]?
structure KeepO (w w' : World) (Own : Nat → Prop) : Prop where
  os : w'.os = w.os
  output : w'.output = w.output
  tape : w'.tape = w.tape
  size : w.heap.size ≤ w'.heap.size
  blk : ∀ k, k < w.heap.size → ¬ Own k → w'.heap[k]? = w.heap[k]?
/-- The values of the blocks that a call begins with. -/
def inB0 (m : Nat) (ρ : Id → Option Value) (j : Nat) : Option Value := if j < m then ρ (.c j) else none

def CallOk (P : Program) (A : Ann) (f : FuncId) (fn : Func) (vals : List AV) (blks : List Blk) (xs : List T) : Prop :=
  ∀ (c : Ctx) (w : World) (ρ : Id → Option Value) (O : Id → Option Nat) (args : List Value), c.N0 = w.heap.size → HS c w (blkH blks) ρ O → RelVs w (AA c w O) ρ vals args →
    Calls P f args.toArray w fun e w' => ∃ rs x1 x2 o1 o2, e = .returned (resV rs) ∧ KeepO w w' (Owned O) ∧ xs = x1 ++ x2 ∧ (o1 ++ o2).Nodup ∧ (∀ b ∈ o1 ++ o2, c.MO b ∧ b < w'.heap.size) ∧
      RelRs (inB0 blks.length ρ) w' (fun b => (c.A0 b ∨ c.MO b) ∧ b < w'.heap.size ∧ b ∉ o1 ++ o2) (resSh P A f (disc blks.head?) fn) x1 rs o1 ∧
      RelOs (inB0 blks.length ρ) w' (fun b => (c.A0 b ∨ c.MO b) ∧ b < w'.heap.size ∧ b ∉ o1 ++ o2) 0 (outSh A f (disc blks.head?)) x2 o2

def OSound (P : Program) (A : Ann) (O : Orc) : Prop := ∀ f vals blks xs, O (.call f) vals blks = some xs →
  ∃ fn body, P.funcs[f]? = some fn ∧ fn.body = some body ∧ fn.name ≠ "runtime.NumGoroutine" ∧ CallOk P A f fn vals blks xs

/-- A call by values alone. -/
theorem CallOk.values {P : Program} {A : Ann} {f : FuncId} {fn : Func} {vals : List AV} {xs : List T} (h : CallOk P A f fn vals [] xs) (hb : A.bref f = none) (A0 : Nat → Prop) (w : World) (args : List Value) (hA : ∀ b, A0 b → b < w.heap.size)
    (hv : RelVs w A0 (fun _ => none) vals args) :
    Calls P f args.toArray w fun e w' => ∃ rs own, e = .returned (resV rs) ∧ Keep w w' ∧ own.Nodup ∧ (∀ b ∈ own, w.heap.size ≤ b ∧ b < w'.heap.size) ∧
      RelRs (fun _ => none) w' (fun b => (A0 b ∨ w.heap.size ≤ b) ∧ b < w'.heap.size ∧ b ∉ own) (resSh P A f 0 fn) xs rs own := by
  let c : Ctx := { A0 := A0, M := fun _ => False, N0 := w.heap.size }
  have hs : HS c w (blkH []) (fun _ => none) (fun _ => none) := ⟨fun i b hb => by cases i <;> simp [blkH] at hb, fun i _ => ⟨rfl, rfl⟩, (by intro i j b hi; cases hi), (by intro i b hi; cases hi), (by intro i b hi; cases hi), Nat.le_refl _⟩
  have hA' : ∀ b, A0 b → AA c w (fun _ => none) b ∧ w.heap[b]? = w.heap[b]? := fun b hb => ⟨⟨.inl hb, hA b hb, fun i hi => by cases hi⟩, rfl⟩
  refine (h c w _ _ args rfl hs (RelVs.mono hA' (fun _ _ h => h) _ _ hv)).mono ?_
  rintro e w' ⟨rs, x1, x2, o1, o2, he, kp, hx, hnd, hown, hr, ho⟩
  have hout : outSh A f (disc ([] : List Blk).head?) = [] := by simp [outSh, hb]
  rw [hout] at ho
  obtain ⟨rfl, rfl⟩ := ho
  rw [List.append_nil] at hx hnd; subst hx
  have hres : resSh P A f (disc ([] : List Blk).head?) fn = resSh P A f 0 fn := rfl
  have e0 : inB0 ([] : List Blk).length (fun _ => none) = fun _ => none := by funext j; simp [inB0]
  rw [hres, e0] at hr
  refine ⟨rs, o1, he, ⟨kp.os, kp.output, kp.tape, kp.size, fun k hk => kp.blk k hk (by rintro ⟨i, hi⟩; cases hi)⟩, hnd, fun b hb => ?_, ?_⟩
  · obtain ⟨h1, h2⟩ := hown b (by simpa using hb)
    rcases h1 with h1 | h1
    · exact h1.elim
    · exact ⟨h1, h2⟩
  · have e1 : (fun b => (c.A0 b ∨ c.MO b) ∧ b < w'.heap.size ∧ b ∉ o1 ++ []) = fun b => (A0 b ∨ w.heap.size ≤ b) ∧ b < w'.heap.size ∧ b ∉ o1 := by
      funext b
      simp only [List.append_nil]
      refine propext ⟨?_, ?_⟩
      · rintro ⟨h1 | h1 | h1, h2⟩
        · exact ⟨.inl h1, h2⟩
        · exact h1.elim
        · exact ⟨.inr h1, h2⟩
      · rintro ⟨h1 | h1, h2⟩
        · exact ⟨.inl h1, h2⟩
        · exact ⟨.inr (.inr h1), h2⟩
    rw [e1] at hr
    exact hr

structure HSA (c : Ctx) (w : World) (A : Nat → Prop) (h : Id → Option Blk) (ρ : Id → Option Value) (O : Id → Option Nat) : Prop where
  blk : ∀ i b, h i = some b → RelB w A ρ O i b
  nodom : ∀ i, h i = none → ρ i = none ∧ O i = none
  inj : ∀ i j b, O i = some b → O j = some b → i = j
  lt : ∀ i b, O i = some b → b < w.heap.size
  own : ∀ i b, O i = some b → c.MO b
  size : c.N0 ≤ w.heap.size

section
variable {P : Program} {B : Nat → Option Value} {ids : List Id} {w w' : World} {A A' : Nat → Prop} {c : Ctx} {ρ : Id → Option Value} {O : Id → Option Nat} {s : St} {cc : Option Bool} {h : Id → Option Blk}

theorem HSA.toHS (hs : HSA c w A h ρ O) (e : ∀ b, A b ↔ AA c w O b) : HS c w h ρ O := by
  have : A = AA c w O := funext fun b => propext (e b)
  subst this
  exact ⟨hs.blk, hs.nodom, hs.inj, hs.lt, hs.own, hs.size⟩

theorem HSA.adopt {i : Id} (hs : HSA c w A h ρ O) (hi : h i = none) (v : Value) (ob : Option Nat) (hob : ∀ b, ob = some b → b < w.heap.size ∧ c.MO b ∧ ∀ j, O j ≠ some b) (x : Blk)
    (hx : RelB w A (upd ρ i (some v)) (upd O i ob) i x) : HSA c w A (upd h i (some x)) (upd ρ i (some v)) (upd O i ob) := by
  refine ⟨fun j b hj => ?_, fun j hj => ?_, fun j k b hj hk => ?_, fun j b hj => ?_, fun j b hj => ?_, hs.size⟩
  · by_cases e : j = i
    · subst e; rw [upd_same] at hj; cases hj; exact hx
    · rw [upd_ne _ _ e] at hj
      refine RelB.mono (fun b hb => ⟨hb, rfl⟩) (fun k u hk => ?_) (upd_ne _ _ e) (fun _ _ => rfl) (hs.blk j b hj)
      by_cases e2 : k = i
      · subst e2; rw [(hs.nodom _ hi).1] at hk; cases hk
      · rw [upd_ne _ _ e2]; exact hk
  · by_cases e : j = i
    · subst e; rw [upd_same] at hj; cases hj
    · rw [upd_ne _ _ e] at hj; rw [upd_ne _ _ e, upd_ne _ _ e]; exact hs.nodom j hj
  · by_cases e : j = i <;> by_cases e' : k = i
    · rw [e, e']
    · subst e; rw [upd_same] at hj; rw [upd_ne _ _ e'] at hk; exact ((hob b hj).2.2 k hk).elim
    · subst e'; rw [upd_same] at hk; rw [upd_ne _ _ e] at hj; exact ((hob b hk).2.2 j hj).elim
    · rw [upd_ne _ _ e] at hj; rw [upd_ne _ _ e'] at hk; exact hs.inj j k b hj hk
  · by_cases e : j = i
    · subst e; rw [upd_same] at hj; exact (hob b hj).1
    · rw [upd_ne _ _ e] at hj; exact hs.lt j b hj
  · by_cases e : j = i
    · subst e; rw [upd_same] at hj; exact (hob b hj).2.1
    · rw [upd_ne _ _ e] at hj; exact hs.own j b hj

theorem HSA.revive {i : Id} (hs : HSA c w A h ρ O) (hi : h i = some .dead) (ob : Option Nat) (hob : ∀ b, ob = some b → b < w.heap.size ∧ c.MO b ∧ ∀ j, O j ≠ some b) (x : Blk)
    (hx : RelB w A ρ (upd O i ob) i x) : HSA c w A (upd h i (some x)) ρ (upd O i ob) := by
  refine ⟨fun j b hj => ?_, fun j hj => ?_, fun j k b hj hk => ?_, fun j b hj => ?_, fun j b hj => ?_, hs.size⟩
  · by_cases e : j = i
    · subst e; rw [upd_same] at hj; cases hj; exact hx
    · rw [upd_ne _ _ e] at hj
      exact RelB.mono (fun b hb => ⟨hb, rfl⟩) (fun k u hk => hk) (upd_ne _ _ e) (fun _ _ => rfl) (hs.blk j b hj)
  · by_cases e : j = i
    · subst e; rw [upd_same] at hj; cases hj
    · rw [upd_ne _ _ e] at hj; rw [upd_ne _ _ e]; exact hs.nodom j hj
  · by_cases e : j = i <;> by_cases e' : k = i
    · rw [e, e']
    · subst e; rw [upd_same] at hj; rw [upd_ne _ _ e'] at hk; exact ((hob b hj).2.2 k hk).elim
    · subst e'; rw [upd_same] at hk; rw [upd_ne _ _ e] at hj; exact ((hob b hk).2.2 j hj).elim
    · rw [upd_ne _ _ e] at hj; rw [upd_ne _ _ e'] at hk; exact hs.inj j k b hj hk
  · by_cases e : j = i
    · subst e; rw [upd_same] at hj; exact (hob b hj).1
    · rw [upd_ne _ _ e] at hj; exact hs.lt j b hj
  · by_cases e : j = i
    · subst e; rw [upd_same] at hj; exact (hob b hj).2.1
    · rw [upd_ne _ _ e] at hj; exact hs.own j b hj

/-- The names of the blocks that were handed in bear their values. -/
def Bears (B : Nat → Option Value) (ids : List Id) (ρ : Id → Option Value) : Prop := ∀ k i v, ids[k]? = some i → B k = some v → ρ i = some v

/-- What comes back is taken in. -/
def Taken (B : Nat → Option Value) (ids : List Id) (c : Ctx) (w : World) (A : Nat → Prop) (us : Upd) (own : List Nat) (Q : (Id → Option Value) → Prop) : Prop :=
  ∀ h ρ O, Bears B ids ρ → HSA c w A h ρ O → own.Nodup → (∀ b ∈ own, b < w.heap.size ∧ c.MO b ∧ ∀ i, O i ≠ some b) → (∀ p ∈ us, h p.1 = none) →
    ∃ ρ' O', (∀ i u, ρ i = some u → ρ' i = some u) ∧ HSA c w A (updH h us) ρ' O' ∧ Q ρ' ∧ ∀ b, (∃ i, O' i = some b) ↔ ((∃ i, O i = some b) ∨ b ∈ own)

def Names (d j j' : Nat) (us : Upd) : Prop := ∀ p ∈ us, ∃ k, j ≤ k ∧ k < j' ∧ p.1 = .s d k

theorem Taken.nil {Q : (Id → Option Value) → Prop} (hq : ∀ ρ, Bears B ids ρ → Q ρ) : Taken B ids c w A [] [] Q := by
  intro h ρ O hbr hs _ _ _
  exact ⟨ρ, O, fun _ _ h => h, hs, hq ρ hbr, fun b => by simp⟩

theorem Taken.append {d j j1 j2 : Nat} {us vs : Upd} {o1 o2 : List Nat} {Q1 Q2 Q : (Id → Option Value) → Prop} (h1 : Taken B ids c w A us o1 Q1) (h2 : Taken B ids c w A vs o2 Q2) (n1 : Names d j j1 us) (n2 : Names d j1 j2 vs)
    (hq : ∀ ρ ρ', (∀ i u, ρ i = some u → ρ' i = some u) → Q1 ρ → Q2 ρ' → Q ρ') : Taken B ids c w A (us ++ vs) (o1 ++ o2) Q := by
  intro h ρ O hbr hs hnd hown hfree
  obtain ⟨nd1, nd2, nd3⟩ := List.nodup_append.1 hnd
  obtain ⟨ρ1, O1, m1, hs1, q1, r1⟩ := h1 h ρ O hbr hs nd1 (fun b hb => hown b (List.mem_append_left _ hb)) (fun p hp => hfree p (List.mem_append_left _ hp))
  obtain ⟨ρ2, O2, m2, hs2, q2, r2⟩ := h2 (updH h us) ρ1 O1 (fun k i v e1 e2 => m1 i v (hbr k i v e1 e2)) hs1 nd2 (fun b hb => by
    obtain ⟨g1, g2, g3⟩ := hown b (List.mem_append_right _ hb)
    refine ⟨g1, g2, fun i hi => ?_⟩
    rcases (r1 b).1 ⟨i, hi⟩ with ⟨k, hk⟩ | hk
    · exact g3 k hk
    · exact nd3 b hk b hb rfl) (fun p hp => by
    rw [updH_other (fun q hq e => ?_)]
    · exact hfree p (List.mem_append_right _ hp)
    · obtain ⟨k, _, k2, k3⟩ := n1 q hq
      obtain ⟨k', k1', _, k3'⟩ := n2 p hp
      rw [k3, k3'] at e
      simp only [Id.s.injEq] at e
      omega)
  refine ⟨ρ2, O2, fun i u hi => m2 i u (m1 i u hi), by rw [updH_append]; exact hs2, hq ρ1 ρ2 m2 q1 q2, fun b => ?_⟩
  rw [r2 b, r1 b, List.mem_append, or_assoc]

theorem decR_sound {R : Type} {d j : Nat} {r : RSh} {x : T} {v : Value} {ob : Option Nat} {K : AV → Upd → Nat → Option R} {res : R} (hc : cc = none ∨ cc = some true) (hrel : RelR1 B w A r x v ob) (hk : decR ids d cc j r x K = some res) :
    ∃ av us j', K av us j' = some res ∧ j ≤ j' ∧ Names d j j' us ∧ Taken B ids c w A us ob.toList (fun ρ => RelV w A ρ av v) := by
  unfold decR at hk
  cases r with
  | f k =>
    obtain ⟨_, h1, rfl⟩ := hrel
    simp only at hk
    obtain ⟨y, hk, h1⟩ := typK_sound hc h1 hk
    exact ⟨_, _, _, hk, Nat.le_refl _, (by intro p hp; cases hp), Taken.nil fun ρ _ => by simpa [RelV] using h1⟩
  | t k =>
    obtain ⟨h1, rfl⟩ := hrel
    simp only at hk
    obtain ⟨y, hk, h1⟩ := typK_sound hc h1 hk
    exact ⟨_, _, _, hk, Nat.le_refl _, (by intro p hp; cases hp), Taken.nil fun ρ _ => by simpa [RelV] using h1⟩
  | own sz =>
    obtain ⟨p, hp, hsl⟩ := hrel
    cases cc with
    | some b => simp at hk
    | none =>
      dsimp only at hk
      replace hk := gdK_some hk (.inl rfl); obtain ⟨q, hq, hk⟩ := hk
      rw [hp] at hq; simp only [Option.some.injEq] at hq; subst hq
      refine ⟨_, _, _, hk, Nat.le_succ _, ?_, ?_⟩
      · intro q hq; simp only [List.mem_singleton] at hq; subst hq; exact ⟨j, Nat.le_refl _, Nat.lt_succ_self _, rfl⟩
      · intro h ρ O hbr hs hnd hown hfree
        have hi : h (.s d j) = none := hfree _ (List.mem_singleton.2 rfl)
        refine ⟨upd ρ (.s d j) (some v), upd O (.s d j) ob, fun i u hi' => ?_, ?_, by simp [RelV], fun b => ⟨fun ⟨i, hb⟩ => ?_, fun hb => ?_⟩⟩
        · by_cases e : i = .s d j
          · subst e; rw [(hs.nodom _ hi).1] at hi'; cases hi'
          · rw [upd_ne _ _ e]; exact hi'
        · rw [updH_one]
          refine hs.adopt hi v ob (fun b hb => hown b (by simp [hb])) _ ⟨v, upd_same _ _ _, ?_, by simp⟩
          simpa using hsl
        · by_cases e : i = .s d j
          · subst e; rw [upd_same] at hb; right; simp [hb]
          · rw [upd_ne _ _ e] at hb; exact .inl ⟨i, hb⟩
        · rcases hb with ⟨i, hb⟩ | hb
          · by_cases e : i = .s d j
            · subst e; rw [(hs.nodom _ hi).2] at hb; cases hb
            · exact ⟨i, by rw [upd_ne _ _ e]; exact hb⟩
          · exact ⟨.s d j, by rw [upd_same]; simpa using hb⟩
  | ref k off =>
    obtain ⟨⟨b, h1, rfl⟩, rfl⟩ := hrel
    dsimp only at hk
    split at hk
    · rename_i i hi
      exact ⟨_, _, _, hk, Nat.le_refl _, (by intro p hp; cases hp), Taken.nil fun ρ hbr => by
        simp only [RelV]
        exact ⟨b, hbr k i _ hi h1, rfl⟩⟩
    · simp at hk
  | no =>
    obtain ⟨_, rfl⟩ := hrel
    dsimp only at hk
    exact ⟨_, _, _, hk, Nat.le_refl _, (by intro p hp; cases hp), Taken.nil fun ρ _ => by simp [RelV]⟩
  | agg l => simp at hk

theorem decL1_sound {R : Type} {d : Nat} (hc : cc = none ∨ cc = some true) : ∀ {rs : List RSh} {j : Nat} {x1 x2 : List T} {vs : List Value} {own : List Nat} {K : List AV → Upd → Nat → Option R} {res : R}, RelRL B w A rs x1 vs own → decL1 ids d cc j rs (x1 ++ x2) K = some res →
    ∃ av us j', K av us j' = some res ∧ j ≤ j' ∧ Names d j j' us ∧ Taken B ids c w A us own (fun ρ => RelVs w A ρ av vs)
  | [], j, x1, x2, vs, own, K, res, hrel, hk => by
    obtain ⟨rfl, rfl, rfl⟩ := hrel
    exact ⟨_, _, _, hk, Nat.le_refl _, (by intro p hp; cases hp), Taken.nil fun ρ _ => by simp [RelVs]⟩
  | r :: rs, j, x1, x2, vs, own, K, res, hrel, hk => by
    obtain ⟨x, xs', v, vs', ob, own', rfl, rfl, rfl, h1, h2⟩ := hrel
    simp only [decL1, List.cons_append, List.head?_cons, List.tail_cons] at hk
    replace hk := gdK_some hk hc; obtain ⟨y, hy, hk⟩ := hk
    simp only [Option.some.injEq] at hy; subst hy
    obtain ⟨av, us, j1, hk, l1, n1, t1⟩ := decR_sound (c := c) hc h1 hk
    obtain ⟨avs, us', j2, hk, l2, n2, t2⟩ := decL1_sound hc h2 hk
    refine ⟨_, _, _, hk, Nat.le_trans l1 l2, ?_, t1.append t2 n1 n2 fun ρ ρ' m q1 q2 => ?_⟩
    · intro p hp
      rcases List.mem_append.1 hp with hp | hp
      · obtain ⟨k, k1, k2, k3⟩ := n1 p hp; exact ⟨k, k1, by omega, k3⟩
      · obtain ⟨k, k1, k2, k3⟩ := n2 p hp; exact ⟨k, by omega, k2, k3⟩
    · simp only [RelVs]
      exact ⟨v, vs', rfl, RelV.mono (fun b hb => ⟨hb, rfl⟩) m _ _ q1, q2⟩

theorem RelR1.one {r : RSh} {x : T} {v : Value} {ob : Option Nat} (h : RelR1 B w A r x v ob) : v.oneCell' = true ∧ v.cells = #[v] := by
  cases r with
  | f k => exact h.2.1.oneCell
  | t k => exact h.1.oneCell
  | own sz => obtain ⟨p, _, a, cap, rfl, _⟩ := h; exact ⟨rfl, rfl⟩
  | ref k off => obtain ⟨⟨b, _, rfl⟩, _⟩ := h; exact ⟨rfl, rfl⟩
  | no => exact h.1
  | agg l => exact h.elim
theorem RelRL.one : ∀ {rs : List RSh} {xs : List T} {vs : List Value} {own : List Nat}, RelRL B w A rs xs vs own → ∀ u ∈ vs, u.oneCell' = true ∧ u.cells = #[u]
  | [], _, _, _, ⟨_, rfl, _⟩, u, hu => by cases hu
  | r :: rs, xs, vs, own, h, u, hu => by
    obtain ⟨x, xs', v, vs', ob, own', rfl, rfl, rfl, h1, h2⟩ := h
    rcases List.mem_cons.1 hu with rfl | hu
    · exact h1.one
    · exact RelRL.one h2 u hu
theorem RelRL.length : ∀ {rs : List RSh} {xs : List T} {vs : List Value} {own : List Nat}, RelRL B w A rs xs vs own → xs.length = rs.length
  | [], _, _, _, ⟨rfl, _, _⟩ => rfl
  | r :: rs, xs, vs, own, h => by
    obtain ⟨x, xs', v, vs', ob, own', rfl, rfl, rfl, h1, h2⟩ := h
    simp [RelRL.length h2]

theorem decL_sound {R : Type} {d : Nat} (hc : cc = none ∨ cc = some true) : ∀ {rs : List RSh} {j : Nat} {xs : List T} {vs : List Value} {own : List Nat} {K : List AV → Upd → Nat → Option R} {res : R}, RelRs B w A rs xs vs own → decL ids d cc j rs xs K = some res →
    ∃ av us j', K av us j' = some res ∧ j ≤ j' ∧ Names d j j' us ∧ Taken B ids c w A us own (fun ρ => RelVs w A ρ av vs)
  | [], j, xs, vs, own, K, res, hrel, hk => by
    obtain ⟨rfl, rfl, rfl⟩ := hrel
    exact ⟨_, _, _, hk, Nat.le_refl _, (by intro p hp; cases hp), Taken.nil fun ρ _ => by simp [RelVs]⟩
  | r :: rs, j, xs, vs, own, K, res, hrel, hk => by
    have simple : (∃ x xs' v vs' ob own', xs = x :: xs' ∧ vs = v :: vs' ∧ own = ob.toList ++ own' ∧ RelR1 B w A r x v ob ∧ RelRs B w A rs xs' vs' own') →
        (gdK cc xs.head? fun x => decR ids d cc j r x fun v u j => decL ids d cc j rs xs.tail fun vs us j => K (v :: vs) (u ++ us) j) = some res →
        ∃ av us j', K av us j' = some res ∧ j ≤ j' ∧ Names d j j' us ∧ Taken B ids c w A us own (fun ρ => RelVs w A ρ av vs) := by
      intro hrel hk
      obtain ⟨x, xs', v, vs', ob, own', rfl, rfl, rfl, h1, h2⟩ := hrel
      simp only [List.head?_cons, List.tail_cons] at hk
      replace hk := gdK_some hk hc; obtain ⟨y, hy, hk⟩ := hk
      simp only [Option.some.injEq] at hy; subst hy
      obtain ⟨av, us, j1, hk, l1, n1, t1⟩ := decR_sound (c := c) hc h1 hk
      obtain ⟨avs, us', j2, hk, l2, n2, t2⟩ := decL_sound hc h2 hk
      refine ⟨_, _, _, hk, Nat.le_trans l1 l2, ?_, t1.append t2 n1 n2 fun ρ ρ' m q1 q2 => ?_⟩
      · intro p hp
        rcases List.mem_append.1 hp with hp | hp
        · obtain ⟨k, k1, k2, k3⟩ := n1 p hp; exact ⟨k, k1, by omega, k3⟩
        · obtain ⟨k, k1, k2, k3⟩ := n2 p hp; exact ⟨k, by omega, k2, k3⟩
      · simp only [RelVs]
        exact ⟨v, vs', rfl, RelV.mono (fun b hb => ⟨hb, rfl⟩) m _ _ q1, q2⟩
    cases r with
    | f k => exact simple hrel hk
    | t k => exact simple hrel hk
    | own sz => exact simple hrel hk
    | ref k off => exact simple hrel hk
    | no => exact simple hrel hk
    | agg l =>
      obtain ⟨x1, x2, ws, vs', o1, o2, rfl, rfl, rfl, h1, h2⟩ := hrel
      simp only [decL] at hk
      obtain ⟨av, us, j1, hk, l1, n1, t1⟩ := decL1_sound (c := c) hc h1 hk
      have hl := h1.length
      rw [← hl, List.drop_left] at hk
      obtain ⟨avs, us', j2, hk, l2, n2, t2⟩ := decL_sound hc h2 hk
      refine ⟨_, _, _, hk, Nat.le_trans l1 l2, ?_, t1.append t2 n1 n2 fun ρ ρ' m q1 q2 => ?_⟩
      · intro p hp
        rcases List.mem_append.1 hp with hp | hp
        · obtain ⟨k, k1, k2, k3⟩ := n1 p hp; exact ⟨k, k1, by omega, k3⟩
        · obtain ⟨k, k1, k2, k3⟩ := n2 p hp; exact ⟨k, by omega, k2, k3⟩
      · simp only [RelVs]
        refine ⟨_, vs', rfl, ?_, q2⟩
        simp only [RelV]
        exact ⟨ws, rfl, RelVs.mono (fun b hb => ⟨hb, rfl⟩) m _ _ q1, h1.one⟩

theorem resAV_sound {vs : List AV} {rs : List Value} (h : RelVs w A ρ vs rs) : RelV w A ρ (resAV vs) (resV rs) := by
  match vs, rs, h with
  | [], rs, h => simp only [RelVs] at h; subst h; simp only [resAV, resV, RelV]; exact ⟨[], rfl, by simp [RelVs]⟩
  | [v], rs, h =>
    simp only [RelVs] at h
    obtain ⟨u, r, rfl, h1, rfl⟩ := h
    exact h1
  | v :: v' :: vs, rs, h =>
    have hl := h.length
    match rs, hl with
    | u :: u' :: rs, _ => simp only [resAV, resV, RelV]; exact ⟨_, rfl, h⟩

theorem arg1_flat {dp : Bool} {v : AV} {u : Value} {q : T × Upd} (hs : HS c w h ρ O) (hv : RelV w (AA c w O) ρ v u) (hq : arg1 true dp h v = some q) : q.2 = [] ∧ RelT w (fun b => b < w.heap.size) q.1 u := by
  have hA : ∀ b, AA c w O b → b < w.heap.size := fun b hb => hb.2.1
  have gen : ∀ x : T, snapOne h v = some x → RelT w (fun b => b < w.heap.size) x u := fun x hx => snapOne_sound hs hv hx hA (fun i blk _ ho => hs.lt i blk ho)
  cases v
  case ref i off =>
    simp only [arg1, cond_true] at hq
    split at hq
    · rename_i cs hi
      obtain ⟨l, hl, hq⟩ := Option.bind_eq_some_iff.1 hq
      simp only [Option.some.injEq] at hq; subst hq
      obtain ⟨b, arr, t, h1, h2, h3, h4, h5⟩ := hs.blk i _ hi
      simp only [RelV] at hv
      obtain ⟨b', e1, rfl⟩ := hv
      rw [h1] at e1; simp only [Option.some.injEq, Value.pointer.injEq, Addr.mk.injEq] at e1
      obtain ⟨rfl, _⟩ := e1
      refine ⟨rfl, ?_⟩
      simp only [RelT]
      have hts : RelTs w (fun b => b < w.heap.size) l (arr.toList.drop off) := by
        cases dp with
        | true => exact snapAll_sound hs hA (h4.drop off) hl (fun i blk _ ho => hs.lt i blk ho)
        | false => exact RelTs.mono (fun b hb => ⟨hA b hb, rfl⟩) _ _ (RelTs.of_allT hl (h4.drop off))
      refine ⟨b, off, rfl, .inr (hs.lt i b h2), RelAt.of_vals hts (fun j v hj => ?_)⟩
      rw [List.getElem?_drop] at hj
      simp only [World.cell?, h3]
      simpa using hj
    · rename_i l hi
      simp only [Option.some.injEq] at hq; subst hq
      exact ⟨rfl, gen _ (by simp [snapOne, hi])⟩
    · simp at hq
  all_goals
    simp only [arg1] at hq
    obtain ⟨x, hx, hq⟩ := Option.bind_eq_some_iff.1 hq
    simp only [cond_true, Option.some.injEq] at hq; subst hq
    exact ⟨rfl, gen _ hx⟩

theorem arg1_frz {dp : Bool} {v : AV} {u : Value} {q : T × Upd} (hs : HS c w h ρ O) (hv : RelV w (AA c w O) ρ v u) (hq : arg1 false dp h v = some q) :
    FrzOk h q.2 ∧ ∀ O', Le w ρ O w ρ O' → (∀ i, O' i = O i ∨ O' i = none) → (∀ p ∈ q.2, O' p.1 = none) → RelT w (AA c w O') q.1 u := by
  have gen : ∀ x : T, snapOne h v = some x → q = (x, frz1 h v) → FrzOk h q.2 ∧ ∀ O', Le w ρ O w ρ O' → (∀ i, O' i = O i ∨ O' i = none) → (∀ p ∈ q.2, O' p.1 = none) → RelT w (AA c w O') q.1 u := by
    intro x hx e; subst e
    refine ⟨frz1_ok v, fun O' le hO' hf => snapOne_sound hs hv hx (fun b hb => (le.A b hb).1) (fun i blk hi ho => ?_)⟩
    obtain ⟨p, hp, e⟩ := frz1_covers hs hx hi ho
    refine ⟨.inr (hs.own i blk ho), hs.lt i blk ho, fun j hj => ?_⟩
    rcases hO' j with e1 | e1
    · rw [e1] at hj
      have := hs.inj j i blk hj ho
      subst this
      have := hf p hp
      rw [e, e1, hj] at this; cases this
    · rw [e1] at hj; cases hj
  cases v
  case ref i off =>
    simp only [arg1, cond_false] at hq
    obtain ⟨x, hx, hq⟩ := Option.bind_eq_some_iff.1 hq
    simp only [Option.some.injEq] at hq
    exact gen x hx hq.symm
  all_goals
    simp only [arg1] at hq
    obtain ⟨x, hx, hq⟩ := Option.bind_eq_some_iff.1 hq
    simp only [cond_false, Option.some.injEq] at hq
    exact gen x hx hq.symm

/-- Both ways at once: what is handed in, over the ground on which the callee stands. -/
def ArgOk (c : Ctx) (w : World) (h : Id → Option Blk) (ρ : Id → Option Value) (O : Id → Option Nat) (fl : Bool) (us : Upd) (Q : (Nat → Prop) → Prop) : Prop :=
  (fl = true → us = [] ∧ Q (fun b => b < w.heap.size)) ∧
  (fl = false → FrzOk h us ∧ ∀ O', Le w ρ O w ρ O' → (∀ i, O' i = O i ∨ O' i = none) → (∀ p ∈ us, O' p.1 = none) → Q (AA c w O'))
theorem arg1_ok {fl dp : Bool} {v : AV} {u : Value} {q : T × Upd} (hs : HS c w h ρ O) (hv : RelV w (AA c w O) ρ v u) (hq : arg1 fl dp h v = some q) : ArgOk c w h ρ O fl q.2 (fun A => RelT w A q.1 u) :=
  ⟨fun e => by subst e; exact arg1_flat hs hv hq, fun e => by subst e; exact arg1_frz hs hv hq⟩
theorem ArgOk.append {fl : Bool} {us vs : Upd} {Q1 Q2 Q : (Nat → Prop) → Prop} (h1 : ArgOk c w h ρ O fl us Q1) (h2 : ArgOk c w h ρ O fl vs Q2) (hq : ∀ A, Q1 A → Q2 A → Q A) : ArgOk c w h ρ O fl (us ++ vs) Q := by
  refine ⟨fun e => ?_, fun e => ?_⟩
  · obtain ⟨a1, a2⟩ := h1.1 e
    obtain ⟨b1, b2⟩ := h2.1 e
    exact ⟨by rw [a1, b1]; rfl, hq _ a2 b2⟩
  · obtain ⟨a1, a2⟩ := h1.2 e
    obtain ⟨b1, b2⟩ := h2.2 e
    exact ⟨a1.append b1, fun O' le hO hf => hq _ (a2 O' le hO (fun p hp => hf p (List.mem_append_left _ hp))) (b2 O' le hO (fun p hp => hf p (List.mem_append_right _ hp)))⟩
theorem ArgOk.nil {fl : Bool} {Q : (Nat → Prop) → Prop} (hq : ∀ A, Q A) : ArgOk c w h ρ O fl [] Q := ⟨fun _ => ⟨rfl, hq _⟩, fun _ => ⟨(by intro p hp; cases hp), fun _ _ _ _ => hq _⟩⟩
theorem ArgOk.imp {fl : Bool} {us : Upd} {Q1 Q : (Nat → Prop) → Prop} (h1 : ArgOk c w h ρ O fl us Q1) (hq : ∀ A, Q1 A → Q A) : ArgOk c w h ρ O fl us Q :=
  ⟨fun e => ⟨(h1.1 e).1, hq _ (h1.1 e).2⟩, fun e => ⟨(h1.2 e).1, fun O' le hO hf => hq _ ((h1.2 e).2 O' le hO hf)⟩⟩

theorem argL_ok {fl dp : Bool} (hs : HS c w h ρ O) : ∀ {vs : List AV} {us : List Value} {q : List T × Upd}, RelVs w (AA c w O) ρ vs us → argL fl dp h vs = some q → ArgOk c w h ρ O fl q.2 (fun A => RelTs w A q.1 us)
  | [], us, q, hv, hq => by
    simp only [RelVs] at hv; subst hv
    simp only [argL, Option.some.injEq] at hq; subst hq
    exact ArgOk.nil fun _ => rfl
  | v :: vs, us, q, hv, hq => by
    simp only [RelVs] at hv; obtain ⟨u, r, rfl, h1, h2⟩ := hv
    simp only [argL] at hq
    obtain ⟨p, hp, hq⟩ := Option.bind_eq_some_iff.1 hq
    obtain ⟨p', hp', hq⟩ := Option.bind_eq_some_iff.1 hq
    simp only [Option.some.injEq] at hq; subst hq
    exact (arg1_ok hs h1 hp).append (argL_ok hs h2 hp') fun A a b => ⟨u, r, rfl, a, b⟩

theorem argV_ok {fl dp : Bool} (hs : HS c w h ρ O) {v : AV} {u : Value} {q : AV × Upd} (hv : RelV w (AA c w O) ρ v u) (hq : argV fl dp h v = some q) : ArgOk c w h ρ O fl q.2 (fun A => RelV w A (fun _ => none) q.1 u) := by
  cases v
  case fn f a b =>
    simp only [RelV] at hv
    obtain ⟨x', y', rfl, h1, h2⟩ := hv
    simp only [argV] at hq
    obtain ⟨p, hp, hq⟩ := Option.bind_eq_some_iff.1 hq
    obtain ⟨p', hp', hq⟩ := Option.bind_eq_some_iff.1 hq
    simp only [Option.some.injEq] at hq; subst hq
    refine (argL_ok hs h1 hp).append (argL_ok hs h2 hp') fun A a b => ?_
    simp only [RelV]
    exact ⟨x', y', rfl, RelVs.of_ts a, RelVs.of_ts b⟩
  case agg vs =>
    simp only [RelV] at hv
    obtain ⟨ws, rfl, h1, h2⟩ := hv
    simp only [argV] at hq
    obtain ⟨p, hp, hq⟩ := Option.bind_eq_some_iff.1 hq
    simp only [Option.some.injEq] at hq; subst hq
    refine (argL_ok hs h1 hp).imp fun A a => ?_
    simp only [RelV]
    exact ⟨ws, rfl, RelVs.of_ts a, h2⟩
  all_goals
    simp only [argV] at hq
    obtain ⟨p, hp, hq⟩ := Option.bind_eq_some_iff.1 hq
    simp only [Option.some.injEq] at hq; subst hq
    refine (arg1_ok hs hv hp).imp fun A a => ?_
    simpa [RelV] using a

theorem argVs_ok {fl dp : Bool} (hs : HS c w h ρ O) : ∀ {vs : List AV} {us : List Value} {q : List AV × Upd}, RelVs w (AA c w O) ρ vs us → argVs fl dp h vs = some q → ArgOk c w h ρ O fl q.2 (fun A => RelVs w A (fun _ => none) q.1 us)
  | [], us, q, hv, hq => by
    simp only [RelVs] at hv; subst hv
    simp only [argVs, Option.some.injEq] at hq; subst hq
    exact ArgOk.nil fun _ => by simp [RelVs]
  | v :: vs, us, q, hv, hq => by
    simp only [RelVs] at hv; obtain ⟨u, r, rfl, h1, h2⟩ := hv
    simp only [argVs] at hq
    obtain ⟨p, hp, hq⟩ := Option.bind_eq_some_iff.1 hq
    obtain ⟨p', hp', hq⟩ := Option.bind_eq_some_iff.1 hq
    simp only [Option.some.injEq] at hq; subst hq
    refine (argV_ok hs h1 hp).append (argVs_ok hs h2 hp') fun A a b => ?_
    simp only [RelVs]
    exact ⟨u, r, rfl, a, b⟩

theorem RelT.flat {x : T} {v : Value} (hf : x.flat? = some ()) (h : RelT w A x v) : RelT w A' x v := by
  cases x <;> simp only [T.flat?, reduceCtorEq] at hf <;> simpa [RelT] using h
theorem RelRL.flat : ∀ {rs : List RSh} {xs : List T} {vs : List Value} {own : List Nat}, (rs.all fun r => match r with | .f _ => true | _ => false) = true → RelRL B w A rs xs vs own → RelRL B w A' rs xs vs own ∧ own = []
  | [], _, _, _, _, h => ⟨h, h.2.2⟩
  | r :: rs, xs, vs, own, hf, h => by
    simp only [List.all_cons, Bool.and_eq_true] at hf
    obtain ⟨x, xs', v, vs', ob, own', rfl, rfl, rfl, h1, h2⟩ := h
    obtain ⟨g1, rfl⟩ := RelRL.flat hf.2 h2
    cases r <;> simp only [Bool.false_eq_true, false_and] at hf
    obtain ⟨k1, k2, rfl⟩ := h1
    exact ⟨⟨x, xs', v, vs', none, [], rfl, rfl, rfl, ⟨k1, k2.flat k1, rfl⟩, g1⟩, rfl⟩
theorem RelRs.flat : ∀ {rs : List RSh} {xs : List T} {vs : List Value} {own : List Nat}, rs.all flatSh = true → RelRs B w A rs xs vs own → RelRs B w A' rs xs vs own ∧ own = []
  | [], _, _, _, _, h => ⟨h, h.2.2⟩
  | r :: rs, xs, vs, own, hf, h => by
    simp only [List.all_cons, Bool.and_eq_true] at hf
    cases r <;> simp only [flatSh, Bool.false_eq_true, false_and] at hf
    case f =>
      obtain ⟨x, xs', v, vs', ob, own', rfl, rfl, rfl, h1, h2⟩ := h
      obtain ⟨g1, rfl⟩ := RelRs.flat hf.2 h2
      obtain ⟨k1, k2, rfl⟩ := h1
      exact ⟨⟨x, xs', v, vs', none, [], rfl, rfl, rfl, ⟨k1, k2.flat k1, rfl⟩, g1⟩, rfl⟩
    case agg l =>
      obtain ⟨x1, x2, ws, vs', o1, o2, rfl, rfl, rfl, h1, h2⟩ := h
      obtain ⟨g1, rfl⟩ := RelRs.flat hf.2 h2
      obtain ⟨g2, rfl⟩ := RelRL.flat hf.1 h1
      exact ⟨⟨x1, x2, ws, vs', [], [], rfl, rfl, rfl, g2, g1⟩, rfl⟩
theorem RelR1.mono {r : RSh} {x : T} {v : Value} {ob : Option Nat} (hA : ∀ b, A b → A' b) (h : RelR1 B w A r x v ob) : RelR1 B w A' r x v ob := by
  have mT : ∀ x v, RelT w A x v → RelT w A' x v := fun x v => RelT.mono (fun b hb => ⟨hA b hb, rfl⟩) x v
  cases r with
  | f k => exact ⟨h.1, mT _ _ h.2.1, h.2.2⟩
  | t k => exact ⟨mT _ _ h.1, h.2⟩
  | own sz => obtain ⟨p, h1, h2⟩ := h; exact ⟨p, h1, h2.mono (fun b hb => ⟨hA b hb, rfl⟩) (fun b hb => ⟨hb, rfl⟩)⟩
  | ref k off => exact h
  | no => exact h
  | agg l => exact h.elim
theorem RelRL.mono (hA : ∀ b, A b → A' b) : ∀ {rs : List RSh} {xs : List T} {vs : List Value} {own : List Nat}, RelRL B w A rs xs vs own → RelRL B w A' rs xs vs own
  | [], _, _, _, h => h
  | r :: rs, xs, vs, own, h => by
    obtain ⟨x, xs', v, vs', ob, own', rfl, rfl, rfl, h1, h2⟩ := h
    exact ⟨x, xs', v, vs', ob, own', rfl, rfl, rfl, h1.mono hA, RelRL.mono hA h2⟩
theorem RelRs.mono (hA : ∀ b, A b → A' b) : ∀ {rs : List RSh} {xs : List T} {vs : List Value} {own : List Nat}, RelRs B w A rs xs vs own → RelRs B w A' rs xs vs own
  | [], _, _, _, h => h
  | r :: rs, xs, vs, own, h => by
    cases r with
    | agg l =>
      obtain ⟨x1, x2, ws, vs', o1, o2, rfl, rfl, rfl, h1, h2⟩ := h
      exact ⟨x1, x2, ws, vs', o1, o2, rfl, rfl, rfl, h1.mono hA, RelRs.mono hA h2⟩
    | _ =>
      obtain ⟨x, xs', v, vs', ob, own', rfl, rfl, rfl, h1, h2⟩ := h
      exact ⟨x, xs', v, vs', ob, own', rfl, rfl, rfl, h1.mono hA, RelRs.mono hA h2⟩

/-- Behind a call that keeps all that was there: what comes back is taken in. -/
theorem taken_in {R : Type} {d : Nat} {rs : List RSh} {xs : List T} {vals : List Value} {own : List Nat} {K : List AV → Upd → Nat → Option R} {res : R} (hc : cc = none ∨ cc = some true) (hs : HS c w h ρ O) (kp : Keep w w') (hnd : own.Nodup) (hown : ∀ b ∈ own, w.heap.size ≤ b ∧ b < w'.heap.size)
    (hrel : RelRs (fun _ => none) w' (fun b => (c.A0 b ∨ c.MO b) ∧ b < w'.heap.size ∧ b ∉ own ∧ ∀ i, O i ≠ some b) rs xs vals own) (hk : decL [] d cc 0 rs xs K = some res) :
    ∃ avs us j, K avs us j = some res ∧ Names d 0 j us ∧ ((∀ p ∈ us, h p.1 = none) → ∃ ρ' O', Le w ρ O w' ρ' O' ∧ HS c w' (updH h us) ρ' O' ∧ RelVs w' (AA c w' O') ρ' avs vals) := by
  obtain ⟨avs, us, j, hk, _, names, tk⟩ := decL_sound (c := c) hc hrel hk
  refine ⟨avs, us, j, hk, names, fun hfree => ?_⟩
  have hA : ∀ b, AA c w O b → ((c.A0 b ∨ c.MO b) ∧ b < w'.heap.size ∧ b ∉ own ∧ ∀ i, O i ≠ some b) ∧ w'.heap[b]? = w.heap[b]? := by
    intro b hb
    refine ⟨⟨hb.1, Nat.lt_of_lt_of_le hb.2.1 kp.size, fun hm => ?_, hb.2.2⟩, kp.blk b hb.2.1⟩
    have := (hown b hm).1; have := hb.2.1; omega
  have hsa : HSA c w' (fun b => (c.A0 b ∨ c.MO b) ∧ b < w'.heap.size ∧ b ∉ own ∧ ∀ i, O i ≠ some b) h ρ O :=
    ⟨fun i b hb => RelB.mono hA (fun _ _ h => h) rfl (fun b hb => kp.blk b (hs.lt i b hb)) (hs.blk i b hb), hs.nodom, hs.inj, fun i b hb => Nat.lt_of_lt_of_le (hs.lt i b hb) kp.size, hs.own, Nat.le_trans hs.size kp.size⟩
  obtain ⟨ρ', O', m, hs', q, rng⟩ := tk h ρ O (by intro k i v hk; simp at hk) hsa hnd (fun b hb => ⟨(hown b hb).2, .inr (Nat.le_trans hs.size (hown b hb).1), fun i hi => by have := hs.lt i b hi; have := (hown b hb).1; omega⟩) hfree
  have hAA : ∀ b, ((c.A0 b ∨ c.MO b) ∧ b < w'.heap.size ∧ b ∉ own ∧ ∀ i, O i ≠ some b) ↔ AA c w' O' b := by
    intro b
    constructor
    · rintro ⟨h1, h2, h3, h4⟩
      refine ⟨h1, h2, fun i hi => ?_⟩
      rcases (rng b).1 ⟨i, hi⟩ with ⟨k, hk⟩ | hk
      · exact h4 k hk
      · exact h3 hk
    · rintro ⟨h1, h2, h3⟩
      refine ⟨h1, h2, fun hm => ?_, fun i hi => ?_⟩
      · obtain ⟨i, hi⟩ := (rng b).2 (.inr hm); exact h3 i hi
      · obtain ⟨k, hk⟩ := (rng b).2 (.inl ⟨i, hi⟩); exact h3 k hk
  refine ⟨ρ', O', ⟨kp.os, kp.output, kp.tape, kp.size, m, fun k hk _ => kp.blk k hk, fun i b hi => ?_⟩, hs'.toHS hAA, ?_⟩
  · rcases (rng b).1 ⟨i, hi⟩ with hk | hk
    · exact .inl hk
    · exact .inr (hown b hk).1
  · exact RelVs.mono (fun b hb => ⟨(hAA b).1 hb, rfl⟩) (fun _ _ h => h) _ _ q

theorem drop_at {α : Type} {a b : List α} {n : Nat} (h : a.length = n) : (a ++ b).drop n = b := by rw [← h, List.drop_left]

/-- What has become of the blocks that were handed in is taken in. -/
theorem decOuts_sound {R : Type} {all : List Id} {d : Nat} : ∀ {outs : List BSh} {is : List Id} {j jj : Nat} {xs : List T} {own : List Nat} {K : Upd → Option R} {res : R}, RelOs B w A jj outs xs own → decOuts all d j is outs xs K = some res →
    ∃ us, K us = some res ∧ (∀ p ∈ us, (∃ k, j ≤ k ∧ p.1 = .s d k) ∨ p.1 ∈ is) ∧
      ∀ h ρ O, Bears B all ρ → (∀ k i, is[k]? = some i → h i = some .dead ∧ ∀ v, B (jj + k) = some v → ρ i = some v) → HSA c w A h ρ O → own.Nodup → (∀ b ∈ own, b < w.heap.size ∧ c.MO b ∧ ∀ i, O i ≠ some b) → is.Nodup →
        (∀ i ∈ is, ∀ k, i ≠ .s d k) → (∀ p ∈ us, ∀ k, p.1 = .s d k → h p.1 = none) →
        ∃ ρ' O', (∀ i u, ρ i = some u → ρ' i = some u) ∧ HSA c w A (updH h us) ρ' O' ∧ ∀ b, (∃ i, O' i = some b) ↔ ((∃ i, O i = some b) ∨ b ∈ own)
  | [], [], j, jj, xs, own, K, res, hrel, hk => by
    obtain ⟨rfl, rfl⟩ := hrel
    simp only [decOuts] at hk
    exact ⟨[], hk, (by intro p hp; cases hp), fun h ρ O _ _ hs _ _ _ _ _ => ⟨ρ, O, fun _ _ h => h, hs, fun b => by simp⟩⟩
  | [], _ :: _, j, jj, xs, own, K, res, hrel, hk => by simp [decOuts] at hk
  | r :: outs, [], j, jj, xs, own, K, res, hrel, hk => by cases r <;> simp [decOuts] at hk
  | .dead :: outs, i :: is, j, jj, xs, own, K, res, hrel, hk => by
    simp only [decOuts] at hk
    obtain ⟨us, hk, names, tk⟩ := decOuts_sound (jj := jj + 1) hrel hk
    refine ⟨us, hk, fun p hp => (names p hp).imp id (List.mem_cons_of_mem _), fun h ρ O hbr hd hs hnd hown hnod hns hfree => ?_⟩
    exact tk h ρ O hbr (fun k i hk => by
      have := hd (k + 1) i (by simpa using hk)
      rw [show jj + (k + 1) = jj + 1 + k by omega] at this
      exact this) hs hnd hown (List.nodup_cons.1 hnod).2 (fun i hi => hns i (List.mem_cons_of_mem _ hi)) hfree
  | .sl sz :: outs, i :: is, j, jj, xs, own, K, res, hrel, hk => by
    obtain ⟨bb, l, x2, ob, v, o2, rfl, rfl, hB, hsl, hrest⟩ := hrel
    simp only [decOuts, List.head?_cons, Option.bind_some, List.tail_cons] at hk
    replace hk := gdK_some hk (.inl rfl); obtain ⟨p, hp, hk⟩ := hk
    simp only [T.lst?, if_true, Option.some.injEq] at hp; subst hp
    obtain ⟨us, hk, names, tk⟩ := decOuts_sound (jj := jj + 1) hrest hk
    refine ⟨_, hk, fun p hp => ?_, fun h ρ O hbr hd hs hnd hown hnod hns hfree => ?_⟩
    · rcases List.mem_cons.1 hp with rfl | hp
      · exact .inr List.mem_cons_self
      · exact (names p hp).imp id (List.mem_cons_of_mem _)
    obtain ⟨n1, n2⟩ := List.nodup_cons.1 hnod
    obtain ⟨d1, d2⟩ := hd 0 i rfl
    obtain ⟨k1, k2, k3⟩ := List.nodup_append.1 hnd
    have hs1 := hs.revive d1 ob (fun b hb => hown b (List.mem_append_left _ (by simp [hb]))) (.sl false sz bb l) ⟨v, d2 v (by simpa using hB), by simpa using hsl, by simp⟩
    have hO0 : O i = none := (hs.blk i _ d1).2
    have rng1 : ∀ b, (∃ k, upd O i ob k = some b) ↔ ((∃ k, O k = some b) ∨ b ∈ ob.toList) := by
      intro b
      constructor
      · rintro ⟨k, hk⟩
        by_cases e : k = i
        · rw [e, upd_same] at hk; right; simp [hk]
        · rw [upd_ne _ _ e] at hk; exact .inl ⟨k, hk⟩
      · rintro (⟨k, hk⟩ | hk)
        · by_cases e : k = i
          · rw [e, hO0] at hk; cases hk
          · exact ⟨k, by rw [upd_ne _ _ e]; exact hk⟩
        · exact ⟨i, by rw [upd_same]; simpa using hk⟩
    have own2 : ∀ b ∈ o2, b < w.heap.size ∧ c.MO b ∧ ∀ k, upd O i ob k ≠ some b := by
      intro b hb
      obtain ⟨g1, g2, g3⟩ := hown b (List.mem_append_right _ hb)
      refine ⟨g1, g2, fun i' hi' => ?_⟩
      rcases (rng1 b).1 ⟨i', hi'⟩ with ⟨k, hk⟩ | hk
      · exact g3 k hk
      · exact k3 b hk b hb rfl
    have free2 : ∀ p ∈ us, ∀ k, p.1 = .s d k → upd h i (some (.sl false sz bb l)) p.1 = none := by
      intro p hp k e
      have hne : p.1 ≠ i := fun e' => hns i List.mem_cons_self k (by rw [← e', e])
      rw [upd_ne _ _ hne]
      exact hfree p (List.mem_cons_of_mem _ hp) k e
    obtain ⟨ρ', O', m, hs', rng⟩ := tk (upd h i (some (.sl false sz bb l))) ρ (upd O i ob) hbr (fun k i' hk => by
        have := hd (k + 1) i' (by simpa using hk)
        rw [show jj + (k + 1) = jj + 1 + k by omega] at this
        refine ⟨?_, this.2⟩
        have hne : i' ≠ i := fun e => n1 (by rw [← e]; exact List.mem_of_getElem? hk)
        rw [upd_ne _ _ hne]
        exact this.1) hs1 k2 own2 n2 (fun i hi => hns i (List.mem_cons_of_mem _ hi)) free2
    refine ⟨ρ', O', m, hs', fun b => ?_⟩
    rw [rng b, rng1 b, List.mem_append, or_assoc]
  | .box l :: outs, i :: is, j, jj, xs, own, K, res, hrel, hk => by
    obtain ⟨x1, x2, b0, arr, t, o1, o2, rfl, rfl, hB, hheap, hL, hrest⟩ := hrel
    simp only [decOuts] at hk
    obtain ⟨av, us1, j1, hk, hj, n1', t1⟩ := decL1_sound (c := c) (ids := all) (.inl rfl) hL hk
    rw [drop_at hL.length] at hk
    obtain ⟨us2, hk, names, tk⟩ := decOuts_sound (jj := jj + 1) hrest hk
    refine ⟨_, hk, fun p hp => ?_, fun h ρ O hbr hd hs hnd hown hnod hns hfree => ?_⟩
    · rcases List.mem_append.1 hp with hp | hp
      · obtain ⟨k, g1, g2, g3⟩ := n1' p hp
        exact .inl ⟨k, g1, g3⟩
      · rcases List.mem_cons.1 hp with rfl | hp
        · exact .inr List.mem_cons_self
        · rcases names p hp with ⟨k, g1, g2⟩ | g
          · exact .inl ⟨k, by omega, g2⟩
          · exact .inr (List.mem_cons_of_mem _ g)
    obtain ⟨n1, n2⟩ := List.nodup_cons.1 hnod
    obtain ⟨d1, d2⟩ := hd 0 i rfl
    obtain ⟨q1, q2⟩ := List.nodup_cons.1 hnd
    obtain ⟨k1, k2, k3⟩ := List.nodup_append.1 q2
    have not1 : ∀ x, (∀ k, x ≠ .s d k) → updH h us1 x = h x := fun x hx => updH_other fun p hp e => by
      obtain ⟨k, _, _, g3⟩ := n1' p hp
      exact hx k (by rw [← e, g3])
    obtain ⟨ρ1, O1, m1, hs1, v1, rng1⟩ := t1 h ρ O hbr hs k1 (fun b hb => hown b (List.mem_cons_of_mem _ (List.mem_append_left _ hb))) (fun p hp => by
      obtain ⟨k, _, _, g3⟩ := n1' p hp
      exact hfree p (List.mem_append_left _ hp) k g3)
    have hdi : updH h us1 i = some .dead := by rw [not1 i (hns i List.mem_cons_self)]; exact d1
    have fresh0 : ∀ k, O1 k ≠ some b0 := by
      intro k hk
      rcases (rng1 b0).1 ⟨k, hk⟩ with ⟨k', hk'⟩ | hk'
      · exact (hown b0 List.mem_cons_self).2.2 k' hk'
      · exact q1 (List.mem_append_left _ hk')
    have hs2 := hs1.revive hdi (some b0) (fun b hb => by
      simp only [Option.some.injEq] at hb; subst hb
      obtain ⟨g1, g2, _⟩ := hown b0 List.mem_cons_self
      exact ⟨g1, g2, fresh0⟩) (.box av) ⟨b0, arr, t, m1 _ _ (d2 _ (by simpa using hB)), upd_same _ _ _, hheap, v1, hL.one⟩
    have hO0 : O1 i = none := (hs1.blk i _ hdi).2
    have rng2 : ∀ b, (∃ k, upd O1 i (some b0) k = some b) ↔ ((∃ k, O k = some b) ∨ b ∈ b0 :: o1) := by
      intro b
      constructor
      · rintro ⟨k, hk⟩
        by_cases e : k = i
        · rw [e, upd_same] at hk; cases hk; exact .inr List.mem_cons_self
        · rw [upd_ne _ _ e] at hk
          rcases (rng1 b).1 ⟨k, hk⟩ with g | g
          · exact .inl g
          · exact .inr (List.mem_cons_of_mem _ g)
      · intro hk
        have lift : (∃ k, O1 k = some b) → ∃ k, upd O1 i (some b0) k = some b := by
          rintro ⟨k, hk⟩
          by_cases e : k = i
          · rw [e, hO0] at hk; cases hk
          · exact ⟨k, by rw [upd_ne _ _ e]; exact hk⟩
        rcases hk with hk | hk
        · exact lift ((rng1 b).2 (.inl hk))
        · rcases List.mem_cons.1 hk with rfl | hk
          · exact ⟨i, upd_same _ _ _⟩
          · exact lift ((rng1 b).2 (.inr hk))
    have own2 : ∀ b ∈ o2, b < w.heap.size ∧ c.MO b ∧ ∀ k, upd O1 i (some b0) k ≠ some b := by
      intro b hb
      obtain ⟨g1, g2, g3⟩ := hown b (List.mem_cons_of_mem _ (List.mem_append_right _ hb))
      refine ⟨g1, g2, fun i' hi' => ?_⟩
      rcases (rng2 b).1 ⟨i', hi'⟩ with ⟨k, hk⟩ | hk
      · exact g3 k hk
      · rcases List.mem_cons.1 hk with rfl | hk
        · exact q1 (List.mem_append_right _ hb)
        · exact k3 b hk b hb rfl
    have free2 : ∀ p ∈ us2, ∀ k, p.1 = .s d k → upd (updH h us1) i (some (.box av)) p.1 = none := by
      intro p hp k e
      have hne : p.1 ≠ i := fun e' => hns i List.mem_cons_self k (by rw [← e', e])
      rw [upd_ne _ _ hne]
      rw [updH_other (fun p' hp' e' => ?_)]
      · exact hfree p (List.mem_append_right _ (List.mem_cons_of_mem _ hp)) k e
      · obtain ⟨k', g1, g2, g3⟩ := n1' p' hp'
        rcases names p hp with ⟨k'', g4, g5⟩ | g
        · rw [g3, g5] at e'
          simp only [Id.s.injEq] at e'
          omega
        · exact hns p.1 (List.mem_cons_of_mem _ g) k e
    obtain ⟨ρ', O', m, hs', rng⟩ := tk (upd (updH h us1) i (some (.box av))) ρ1 (upd O1 i (some b0)) (fun k i v e1 e2 => m1 i v (hbr k i v e1 e2)) (fun k i' hk => by
        have hm := List.mem_of_getElem? hk
        have := hd (k + 1) i' (by simpa using hk)
        rw [show jj + (k + 1) = jj + 1 + k by omega] at this
        refine ⟨?_, fun v hv => m1 _ _ (this.2 v hv)⟩
        have hne : i' ≠ i := fun e => n1 (by rw [← e]; exact hm)
        rw [upd_ne _ _ hne, not1 i' (hns i' (List.mem_cons_of_mem _ hm))]
        exact this.1) hs2 k2 own2 n2 (fun i hi => hns i (List.mem_cons_of_mem _ hi)) free2
    refine ⟨ρ', O', fun i u hi => m i u (m1 i u hi), by rw [updH_append, updH_cons]; exact hs', fun b => ?_⟩
    rw [rng b, rng2 b, List.mem_cons, List.mem_cons, List.mem_append]
    simp only [or_assoc]

/-- Arguments, some of which are handed in as they are. -/
theorem argRs_ok {keep : List Id} (hs : HS c w h ρ O) : ∀ {fl : List Bool} {vs : List AV} {us : List Value} {q : List AV × Upd}, RelVs w (AA c w O) ρ vs us → argRs h keep fl vs = some q →
    FrzOk h q.2 ∧ ∀ O', Le w ρ O w ρ O' → (∀ i, O' i = O i ∨ O' i = none) → (∀ p ∈ q.2, O' p.1 = none) → RelVs w (AA c w O') ρ q.1 us
  | fl, [], us, q, hv, hq => by
    simp only [RelVs] at hv; subst hv
    simp only [argRs, Option.some.injEq] at hq; subst hq
    exact ⟨(by intro p hp; cases hp), fun _ _ _ _ => by simp [RelVs]⟩
  | fl, v :: vs, us, q, hv, hq => by
    simp only [RelVs] at hv; obtain ⟨u, r, rfl, h1, h2⟩ := hv
    simp only [argRs] at hq
    obtain ⟨p, hp, hq⟩ := Option.bind_eq_some_iff.1 hq
    obtain ⟨p', hp', hq⟩ := Option.bind_eq_some_iff.1 hq
    simp only [Option.some.injEq] at hq; subst hq
    obtain ⟨g1, g2⟩ := argRs_ok hs h2 hp'
    have one : FrzOk h p.2 ∧ ∀ O', Le w ρ O w ρ O' → (∀ i, O' i = O i ∨ O' i = none) → (∀ x ∈ p.2, O' x.1 = none) → RelV w (AA c w O') ρ p.1 u := by
      unfold argR at hp
      cases hcond : (fl.headD false || (!v.ids.isEmpty && v.ids.all keep.contains)) with
      | true =>
        rw [hcond] at hp
        simp only [cond_true, Option.some.injEq] at hp; subst hp
        exact ⟨(by intro p hp; cases hp), fun O' le _ _ => RelV.mono (fun b hb => le.A b hb) (fun _ _ h => h) _ _ h1⟩
      | false =>
        rw [hcond] at hp
        simp only [cond_false] at hp
        obtain ⟨k1, k2⟩ := (argV_ok hs h1 hp).2 rfl
        exact ⟨k1, fun O' le hO hf => RelV.mono (fun b hb => ⟨hb, rfl⟩) (by intro i v h; cases h) _ _ (k2 O' le hO hf)⟩
    refine ⟨one.1.append g1, fun O' le hO hf => ?_⟩
    simp only [RelVs]
    exact ⟨u, r, rfl, one.2 O' le hO (fun x hx => hf x (List.mem_append_left _ hx)), g2 O' le hO (fun x hx => hf x (List.mem_append_right _ hx))⟩

theorem RelRs.length : ∀ {rs : List RSh} {xs : List T} {vs : List Value} {own : List Nat}, RelRs B w A rs xs vs own → xs.length = sizes rs
  | [], _, _, _, ⟨rfl, _, _⟩ => rfl
  | r :: rs, xs, vs, own, h => by
    cases r with
    | agg l =>
      obtain ⟨x1, x2, ws, vs', o1, o2, rfl, rfl, rfl, h1, h2⟩ := h
      simp [sizes, RSh.size, h1.length, RelRs.length h2]
    | _ =>
      obtain ⟨x, xs', v, vs', ob, own', rfl, rfl, rfl, h1, h2⟩ := h
      simp [sizes, RSh.size, RelRs.length h2]; omega
theorem decL_more {R : Type} {d : Nat} : ∀ {rs : List RSh} {x1 x2 : List T} {j : Nat} {vs : List Value} {own : List Nat} {K : List AV → Upd → Nat → Option R}, RelRs B w A rs x1 vs own →
    decL ids d cc j rs (x1 ++ x2) K = decL ids d cc j rs x1 K := by
  have one : ∀ {l : List RSh} {x1 x2 : List T} {j : Nat} {vs : List Value} {own : List Nat} {K : List AV → Upd → Nat → Option R}, RelRL B w A l x1 vs own → decL1 ids d cc j l (x1 ++ x2) K = decL1 ids d cc j l x1 K := by
    intro l
    induction l with
    | nil => intro x1 x2 j vs own K h; rfl
    | cons r l ih =>
      intro x1 x2 j vs own K h
      obtain ⟨x, xs', v, vs', ob, own', rfl, rfl, rfl, h1, h2⟩ := h
      simp only [decL1, List.cons_append, List.head?_cons, List.tail_cons]
      congr 1; funext y; congr 1; funext v u j; exact ih h2
  intro rs
  induction rs with
  | nil => intro x1 x2 j vs own K h; rfl
  | cons r rs ih =>
    intro x1 x2 j vs own K h
    have simple : (∃ x xs' v vs' ob own', x1 = x :: xs' ∧ vs = v :: vs' ∧ own = ob.toList ++ own' ∧ RelR1 B w A r x v ob ∧ RelRs B w A rs xs' vs' own') →
        (gdK cc (x1 ++ x2).head? fun x => decR ids d cc j r x fun v u j => decL ids d cc j rs (x1 ++ x2).tail fun vs us j => K (v :: vs) (u ++ us) j) =
        gdK cc x1.head? fun x => decR ids d cc j r x fun v u j => decL ids d cc j rs x1.tail fun vs us j => K (v :: vs) (u ++ us) j := by
      rintro ⟨x, xs', v, vs', ob, own', rfl, rfl, rfl, h1, h2⟩
      simp only [List.cons_append, List.head?_cons, List.tail_cons]
      congr 1; funext y; congr 1; funext v u j; exact ih h2
    cases r with
    | agg l =>
      obtain ⟨y1, y2, ws, vs', o1, o2, rfl, rfl, rfl, h1, h2⟩ := h
      simp only [decL]
      have hl := h1.length
      rw [List.append_assoc, one h1, one (x2 := y2) h1]
      congr 1; funext v u j
      rw [drop_at hl, drop_at hl]
      exact ih h2
    | f k => exact simple h
    | t k => exact simple h
    | own sz => exact simple h
    | ref k off => exact simple h
    | no => exact simple h

theorem deads_get {l : List Id} {h : Id → Option Blk} {i : Id} (hi : i ∈ l) : updH h (deads l) i = some .dead := by
  induction l generalizing h with
  | nil => cases hi
  | cons j l ih =>
    show updH (upd h j (some .dead)) (deads l) i = some .dead
    by_cases hm : i ∈ l
    · exact ih hm
    · have : i = j := by
        rcases List.mem_cons.1 hi with h | h
        · exact h
        · exact (hm h).elim
      subst this
      rw [updH_other (fun p hp e => ?_), upd_same]
      obtain ⟨k, hk, rfl⟩ := List.mem_map.1 hp
      exact hm (e ▸ hk)
theorem deads_other {l : List Id} {h : Id → Option Blk} {i : Id} (hi : i ∉ l) : updH h (deads l) i = h i := by
  refine updH_other fun p hp e => ?_
  obtain ⟨k, hk, rfl⟩ := List.mem_map.1 hp
  exact hi (e ▸ hk)
theorem notOf_spec {d : Nat} {l : List Id} (h : notOf d l = true) : ∀ i ∈ l, ∀ k, i ≠ .s d k := by
  intro i hi k e
  have := List.all_eq_true.1 h i hi
  subst e
  simp at this

theorem callAV_sound {R : Type} {An : Ann} {Or : Orc} (hO : OSound P An Or) {d : Nat} {f : FuncId} {args : List AV} {vals : List Value} {K : AV → Upd → Option R} {r : R} (hc : cc = none ∨ cc = some true) (hs : HS c w s.h ρ O) (hv : RelVs w (AA c w O) ρ args vals)
    (hk : callAV P An Or s d cc f args K = some r) :
    ∃ v us fn body, K v us = some r ∧ P.funcs[f]? = some fn ∧ fn.body = some body ∧ fn.name ≠ "runtime.NumGoroutine" ∧
      (freshAt d s.h us = true → Calls P f vals.toArray w fun e w' => ∃ x, e = .returned x ∧ ∃ ρ' O', Le w ρ O w' ρ' O' ∧ HS c w' (updH s.h us) ρ' O' ∧ RelV w' (AA c w' O') ρ' v x) := by
  unfold callAV at hk
  split at hk
  · simp at hk
  rename_i fn hfn
  split at hk
  · rename_i hbref
    replace hk := Option.bind_eq_some_iff.1 hk; obtain ⟨p, hp, hk⟩ := hk
    obtain ⟨pt, hk, htyp⟩ := typVs_some hc hk
    replace hk := gdK_some hk (.inl rfl); obtain ⟨xs, hxs, hk⟩ := hk
    replace hxs : Or (.call f) pt [] = some xs := by rcases hc with rfl | rfl <;> exact hxs
    obtain ⟨fn', body, e1, hbody, hname, hcall⟩ := hO f pt [] xs hxs
    rw [hfn] at e1; simp only [Option.some.injEq] at e1; subst e1
    have hcall := hcall.values hbref
    have ok := argVs_ok hs hv hp
    rw [show decL [] d cc 0 (resSh P An f 0 fn) xs (fun vs u _ => K (resAV vs) (p.2 ++ u)) = (decL [] d cc 0 (resSh P An f 0 fn) xs (fun vs u j => some (vs, u, j))).bind (fun q => K (resAV q.1) (p.2 ++ q.2.1)) from by rw [decL_nat]; rfl] at hk
    replace hk := Option.bind_eq_some_iff.1 hk; obtain ⟨q, hq, hk⟩ := hk
    refine ⟨_, _, fn, body, hk, hfn, hbody, hname, fun hfree => ?_⟩
    have hfree' : ∀ k, (∃ b, (Id.s d k, b) ∈ q.2.1) → s.h (.s d k) = none := by
      rintro k ⟨b, hb⟩
      have := List.all_eq_true.1 hfree _ (List.mem_append_right _ hb)
      simpa using this
    cases hfl : (resSh P An f 0 fn).all flatSh with
    | true =>
      obtain ⟨hp2, hrel⟩ := ok.1 hfl
      refine (hcall _ w vals (fun b hb => hb) (htyp _ _ _ _ hrel)).mono fun e w' hpost => ?_
      obtain ⟨rs, own, rfl, kp, hnd, hown, hr⟩ := hpost
      obtain ⟨hr, rfl⟩ := hr.flat (A' := fun b => (c.A0 b ∨ c.MO b) ∧ b < w'.heap.size ∧ b ∉ ([] : List Nat) ∧ ∀ i, O i ≠ some b) hfl
      obtain ⟨avs, us, j, hq', names, tk⟩ := taken_in hc hs kp hnd hown hr hq
      simp only [Option.some.injEq] at hq'; subst hq'
      obtain ⟨ρ', O', le, hs', hv'⟩ := tk (fun p hp => by
        obtain ⟨k, _, _, e⟩ := names p hp
        rw [e]; exact hfree' k ⟨p.2, by rw [← e]; exact hp⟩)
      refine ⟨_, rfl, ρ', O', le, ?_, resAV_sound hv'⟩
      rw [hp2]; exact hs'
    | false =>
      obtain ⟨hfz, hrel⟩ := ok.2 hfl
      obtain ⟨O1, le1, hs1, hO1, hf1, _⟩ := hs.freezes' hfz
      refine (hcall _ w vals (fun b hb => hb.2.1) (htyp _ _ _ _ (hrel O1 le1 hO1 hf1))).mono fun e w' hpost => ?_
      obtain ⟨rs, own, rfl, kp, hnd, hown, hr⟩ := hpost
      have hr := hr.mono (A' := fun b => (c.A0 b ∨ c.MO b) ∧ b < w'.heap.size ∧ b ∉ own ∧ ∀ i, O1 i ≠ some b) (by
        rintro b ⟨h1 | h1, h2, h3⟩
        · exact ⟨h1.1, h2, h3, h1.2.2⟩
        · exact ⟨.inr (.inr (Nat.le_trans hs.size h1)), h2, h3, fun i hi => by have := hs1.lt i b hi; omega⟩)
      obtain ⟨avs, us, j, hq', names, tk⟩ := taken_in hc hs1 kp hnd hown hr hq
      simp only [Option.some.injEq] at hq'; subst hq'
      obtain ⟨ρ', O', le, hs', hv'⟩ := tk (fun p' hp' => by
        obtain ⟨k, _, _, e⟩ := names p' hp'
        have hn := hfree' k ⟨p'.2, by rw [← e]; exact hp'⟩
        rw [updH_other (fun x hx ex => ?_), e]
        · exact hn
        · have h2 := hfz x hx
          rw [ex, e, hn] at h2
          rcases h2 with ⟨sz, b, l, _, h2⟩ | ⟨l, _, h2⟩ <;> simp at h2)
      exact ⟨_, rfl, ρ', O', le1.trans le, by rw [updH_append]; exact hs', resAV_sound hv'⟩
  · rename_i fl hbref
    cases cc with
    | some b => simp at hk
    | none =>
    dsimp only at hk
    replace hk := Option.bind_eq_some_iff.1 hk; obtain ⟨p, hp, hk⟩ := hk
    replace hk := Option.bind_eq_some_iff.1 hk; obtain ⟨us, hus, hk⟩ := hk
    replace hk := Option.bind_eq_some_iff.1 hk; obtain ⟨seen, hseen, hk⟩ := hk
    generalize hn0 : disc ((idsL p.1).head?.bind (updH s.h p.2)) = n0 at hk hus
    cases hnot' : (notOf d seen && Nat.beq (disc (seen.map fun i => rnB seen (updH (updH s.h p.2) us i)).head?) n0) with
    | false => rw [hnot'] at hk; simp at hk
    | true =>
    rw [hnot', cond_true] at hk
    simp only [Bool.and_eq_true] at hnot'
    obtain ⟨hnot, hd0⟩ := hnot'
    replace hd0 := Nat.eq_of_beq_eq_true hd0
    have hns := notOf_spec hnot
    obtain ⟨pt, hk, htyp⟩ := typVs_some (.inl rfl) hk
    replace hk := gdK_some hk (.inl rfl); obtain ⟨xs, hxs, hk⟩ := hk
    obtain ⟨fn', body, e1, hbody, hname, hcall⟩ := hO f pt _ xs hxs
    rw [hfn] at e1; simp only [Option.some.injEq] at e1; subst e1
    -- the state in which the callee is entered
    obtain ⟨hfz, hrel⟩ := argRs_ok hs hv hp
    obtain ⟨O1, le1, hs1, hO1, hf1, _⟩ := hs.freezes' hfz
    have hv1 := hrel O1 le1 hO1 hf1
    obtain ⟨ρ2, O2, le2, hs2⟩ := prep_sound hs1 hus
    have hv2 := RelVs.mono (fun b hb => le2.A b hb) le2.rho _ _ hv1
    obtain ⟨g1, _, g3, g4, g5⟩ := reach_sound hseen List.nodup_nil (by simp) (by simp)
    let c' : Ctx := { A0 := AA c w O2, M := fun b => ∃ i ∈ seen, O2 i = some b, N0 := w.heap.size }
    have hA3 : ∀ b, AA c w O2 b → AA c' w (rnρ seen O2) b := fun b hb => ⟨.inl hb, hb.2.1, fun i hi => by
      obtain ⟨k, _, hk⟩ := rn_owned ⟨i, hi⟩
      exact hb.2.2 k hk⟩
    have hs3 := hs2.rnC (c' := c') g1 g4 g5 hA3 (fun b hb => .inl (rn_owned hb)) (Nat.le_refl _)
    have hv3 := htyp _ _ _ _ (RelVs.rn (m := seen) hA3 _ _ (fun i hi => g3 i hi) hv2)
    have hcall := hcall c' w _ _ vals rfl hs3 hv3
    rw [hd0] at hcall
    obtain ⟨blks, hblks⟩ : ∃ blks, blks = seen.map fun i => rnB seen (updH (updH s.h p.2) us i) := ⟨_, rfl⟩
    obtain ⟨h2, hh2⟩ : ∃ h2, h2 = updH (updH s.h p.2) us := ⟨_, rfl⟩
    rw [← hblks] at hcall
    rw [← hh2] at hs2 g4 g5
    -- what comes back
    rw [show (decL seen d none 0 (resSh P An f n0 fn) xs fun vs u j => decOuts seen d j seen (outSh An f n0) (xs.drop (sizes (resSh P An f n0 fn))) fun q => K (resAV vs) (p.2 ++ us ++ deads seen ++ u ++ q)) =
      ((decL seen d none 0 (resSh P An f n0 fn) xs fun vs u j => some (vs, u, j)).bind fun q0 => (decOuts seen d q0.2.2 seen (outSh An f n0) (xs.drop (sizes (resSh P An f n0 fn))) some).bind fun q => K (resAV q0.1) (p.2 ++ us ++ deads seen ++ q0.2.1 ++ q)) from by
        rw [decL_nat]; congr 1; funext vs u j; simp only [Option.bind_some]; rw [decOuts_nat]; rfl] at hk
    replace hk := Option.bind_eq_some_iff.1 hk; obtain ⟨⟨avs, u0, j0⟩, hq0, hk⟩ := hk
    replace hk := Option.bind_eq_some_iff.1 hk; obtain ⟨qs, hqs, hk⟩ := hk
    dsimp only at hqs hk
    refine ⟨_, _, fn, body, hk, hfn, hbody, hname, fun hfree => ?_⟩
    refine hcall.mono ?_
    rintro e w' ⟨rs, x1, x2, o1, o2, rfl, kp, rfl, hnd, hown, hr, ho⟩
    refine ⟨_, rfl, ?_⟩
    rw [drop_at hr.length] at hqs
    rw [decL_more hr] at hq0
    obtain ⟨n1, n2, n3⟩ := List.nodup_append.1 hnd
    have inMO : ∀ b, c'.MO b → c.MO b := by
      rintro b (⟨i, _, hi⟩ | hb)
      · exact hs2.own i b hi
      · exact .inr (Nat.le_trans hs2.size hb)
    have keep : ∀ b, b < w.heap.size → (∀ i ∈ seen, O2 i ≠ some b) → w'.heap[b]? = w.heap[b]? := fun b hb hn => kp.blk b hb fun ho => by
      obtain ⟨k, hk, e⟩ := rn_owned ho
      exact hn k hk e
    have out : ∀ b ∈ o1 ++ o2, ∀ i, i ∉ seen → O2 i ≠ some b := by
      intro b hb i hi e
      rcases (hown b hb).1 with ⟨k, hk, hkb⟩ | hN
      · exact hi (hs2.inj k i b hkb e ▸ hk)
      · have := hs2.lt i b e
        exact absurd hN (Nat.not_le_of_lt this)
    let A1 : Nat → Prop := fun b => (c'.A0 b ∨ c'.MO b) ∧ b < w'.heap.size ∧ b ∉ o1 ++ o2
    let OD : Id → Option Nat := fun i => if i ∈ seen then none else O2 i
    have hOD : ∀ i b, OD i = some b → i ∉ seen ∧ O2 i = some b := by
      intro i b h
      simp only [OD] at h
      split at h
      · cases h
      · rename_i hi; exact ⟨hi, h⟩
    have hA4 : ∀ b, AA c w O2 b → A1 b ∧ w'.heap[b]? = w.heap[b]? := by
      intro b hb
      refine ⟨⟨.inl hb, Nat.lt_of_lt_of_le hb.2.1 kp.size, fun hm => ?_⟩, keep b hb.2.1 fun i _ => hb.2.2 i⟩
      rcases (hown b hm).1 with ⟨k, _, hkb⟩ | hN
      · exact hb.2.2 k hkb
      · exact absurd hN (Nat.not_le_of_lt hb.2.1)
    have hsa : HSA c w' A1 (updH h2 (deads seen)) ρ2 OD := by
      refine ⟨fun i x hx => ?_, fun i hi => ?_, fun i j b hi hj => ?_, fun i b hi => ?_, fun i b hi => ?_, Nat.le_trans hs2.size kp.size⟩
      · by_cases hm : i ∈ seen
        · rw [deads_get hm] at hx; cases hx
          obtain ⟨y, hy⟩ := Option.ne_none_iff_exists'.1 (g4 i hm)
          exact ⟨hs2.someRho hy, by simp [OD, hm]⟩
        · rw [deads_other hm] at hx
          refine RelB.mono hA4 (fun _ _ h => h) (by simp [OD, hm]) (fun b hb => keep b (hs2.lt i b hb) fun k hk e => ?_) (hs2.blk i x hx)
          exact hm (hs2.inj k i b e hb ▸ hk)
      · by_cases hm : i ∈ seen
        · rw [deads_get hm] at hi; cases hi
        · rw [deads_other hm] at hi
          obtain ⟨a1, a2⟩ := hs2.nodom i hi
          exact ⟨a1, by simp [OD, hm, a2]⟩
      · exact hs2.inj i j b (hOD i b hi).2 (hOD j b hj).2
      · exact Nat.lt_of_lt_of_le (hs2.lt i b (hOD i b hi).2) kp.size
      · exact hs2.own i b (hOD i b hi).2
    have hbr : Bears (inB0 blks.length (rnρ seen ρ2)) seen ρ2 := by
      intro k i v hk hB
      simp only [inB0] at hB
      split at hB
      · simpa [rnρ, hk] using hB
      · cases hB
    -- names of what is new
    have hnew : ∀ k, (∃ b, (Id.s d k, b) ∈ u0 ∨ (Id.s d k, b) ∈ qs) → s.h (.s d k) = none := by
      rintro k ⟨b, hb⟩
      have hm : (Id.s d k, b) ∈ p.2 ++ us ++ deads seen ++ u0 ++ qs := by
        rcases hb with hb | hb
        · exact List.mem_append_left _ (List.mem_append_right _ hb)
        · exact List.mem_append_right _ hb
      have := List.all_eq_true.1 hfree _ hm
      simpa using this
    have hnone : ∀ k, s.h (.s d k) = none → updH h2 (deads seen) (.s d k) = none := by
      intro k hk
      rw [deads_other fun hm => hns _ hm k rfl, hh2]
      refine prep_none (fun k' e => ?_) hus ?_
      · simp only [Id.s.injEq] at e; omega
      · rw [updH_other fun x hx ex => ?_]
        · exact hk
        · have h2 := hfz x hx
          rw [ex, hk] at h2
          rcases h2 with ⟨sz, b, l, _, h2⟩ | ⟨l, _, h2⟩ <;> simp at h2
    obtain ⟨avs', u0', j0', hq0', _, names0, tk0⟩ := decL_sound (c := c) (ids := seen) (.inl rfl) hr hq0
    simp only [Option.some.injEq, Prod.mk.injEq] at hq0'
    obtain ⟨rfl, rfl, rfl⟩ := hq0'
    obtain ⟨ρ3, O3, m3, hs4, v3, rng3⟩ := tk0 _ ρ2 OD hbr hsa n1 (fun b hb => ⟨(hown b (List.mem_append_left _ hb)).2, inMO b (hown b (List.mem_append_left _ hb)).1, fun i hi => out b (List.mem_append_left _ hb) i (hOD i b hi).1 (hOD i b hi).2⟩)
      (fun x hx => by
        obtain ⟨k, _, _, e⟩ := names0 x hx
        rw [e]; exact hnone k (hnew k ⟨x.2, .inl (by rw [← e]; exact hx)⟩))
    obtain ⟨qs', hqs', names1, tk1⟩ := decOuts_sound (c := c) ho hqs
    simp only [Option.some.injEq] at hqs'; subst hqs'
    have notin0 : ∀ x, (∀ k, x ≠ .s d k) → updH (updH h2 (deads seen)) u0' x = updH h2 (deads seen) x := fun x hx => updH_other fun y hy e => by
      obtain ⟨k, _, _, g⟩ := names0 y hy
      exact hx k (by rw [← e, g])
    obtain ⟨ρ4, O4, m4, hs5, rng4⟩ := tk1 _ ρ3 O3 (fun k i v e1 e2 => m3 i v (hbr k i v e1 e2)) (fun k i hk => by
        have hm := List.mem_of_getElem? hk
        refine ⟨by rw [notin0 i (hns i hm), deads_get hm], fun v hv => ?_⟩
        rw [Nat.zero_add] at hv
        exact m3 i v (hbr k i v hk hv)) hs4 n2 (fun b hb => ⟨(hown b (List.mem_append_right _ hb)).2, inMO b (hown b (List.mem_append_right _ hb)).1, fun i hi => by
        rcases (rng3 b).1 ⟨i, hi⟩ with ⟨k, hk⟩ | hk
        · exact out b (List.mem_append_right _ hb) k (hOD k b hk).1 (hOD k b hk).2
        · exact n3 b hk b hb rfl⟩) g1 (fun i hi k => hns i hi k) (fun x hx k e => by
        rw [updH_other (fun y hy ey => ?_), e]
        · exact hnone k (hnew k ⟨x.2, .inr (by rw [← e]; exact hx)⟩)
        · obtain ⟨k', _, g2, g⟩ := names0 y hy
          rcases names1 x hx with ⟨k'', g6, g7⟩ | g6
          · rw [g, g7] at ey
            simp only [Id.s.injEq] at ey
            omega
          · exact hns _ g6 k e)
    have rng : ∀ b, (∃ i, O4 i = some b) ↔ (∃ i, OD i = some b) ∨ b ∈ o1 ++ o2 := by
      intro b; rw [rng4 b, rng3 b, List.mem_append, or_assoc]
    have hAA : ∀ b, A1 b ↔ AA c w' O4 b := by
      intro b
      constructor
      · rintro ⟨a1, a2, a3⟩
        refine ⟨?_, a2, fun i hi => ?_⟩
        · rcases a1 with a1 | a1
          · exact a1.1
          · exact .inr (inMO b a1)
        · rcases (rng b).1 ⟨i, hi⟩ with ⟨k, hk⟩ | hk
          · obtain ⟨k1, k2⟩ := hOD k b hk
            rcases a1 with a1 | ⟨k', hk', e⟩ | a1
            · exact a1.2.2 k k2
            · exact k1 (hs2.inj k' k b e k2 ▸ hk')
            · exact absurd a1 (Nat.not_le_of_lt (hs2.lt k b k2))
          · exact a3 hk
      · rintro ⟨a1, a2, a3⟩
        refine ⟨?_, a2, fun hm => ?_⟩
        · by_cases hb : b < w.heap.size
          · by_cases hex : ∃ i, O2 i = some b
            · obtain ⟨i, hi⟩ := hex
              by_cases hm : i ∈ seen
              · exact .inr (.inl ⟨i, hm, hi⟩)
              · obtain ⟨k, hk⟩ := (rng b).2 (.inl ⟨i, by simp only [OD, if_neg hm]; exact hi⟩)
                exact (a3 k hk).elim
            · exact .inl ⟨a1, hb, fun i hi => hex ⟨i, hi⟩⟩
          · exact .inr (.inr (Nat.le_of_not_lt hb))
        · obtain ⟨k, hk⟩ := (rng b).2 (.inr hm)
          exact a3 k hk
    have le3 : Le w ρ2 O2 w' ρ4 O4 := by
      refine ⟨kp.os, kp.output, kp.tape, kp.size, fun i v hi => m4 i v (m3 i v hi), fun b hb hn => keep b hb fun i _ => hn i, fun i b hi => ?_⟩
      rcases (rng b).1 ⟨i, hi⟩ with ⟨k, hk⟩ | hk
      · exact .inl ⟨k, (hOD k b hk).2⟩
      · rcases (hown b hk).1 with ⟨k, _, hkb⟩ | hN
        · exact .inl ⟨k, hkb⟩
        · exact .inr hN
    refine ⟨ρ4, O4, le1.trans (le2.trans le3), ?_, resAV_sound (RelVs.mono (fun b hb => ⟨(hAA b).1 hb, rfl⟩) m4 _ _ v3)⟩
    have := hs5.toHS hAA
    rw [hh2] at this
    simp only [updH_append]
    exact this

end
open Go

section
variable {P : Program} {An : Ann} {Or : Orc} {w w' : World} {A A' : Nat → Prop} {c : Ctx} {ρ : Id → Option Value} {O : Id → Option Nat} {s : St} {cc : Option Bool} {h : Id → Option Blk}

def Good (P : Program) (c : Ctx) (w : World) (s : St) (ρ : Id → Option Value) (O : Id → Option Nat) (o : Oper) (a : Act) (v : AV) (us : Upd) : Prop :=
  OpRes P o a w fun x w' => ∃ ρ' O', Le w ρ O w' ρ' O' ∧ HS c w' (updH s.h us) ρ' O' ∧ RelV w' (AA c w' O') ρ' v x

theorem Good.pure {o : Oper} {a : Act} {v : AV} {x : Value} (hs : HS c w s.h ρ O) (hrun : (execOp a.eval o).run P w = .ok (.value x) w) (hv : RelV w (AA c w O) ρ v x) : Good P c w s ρ O o a v [] := by
  unfold Good OpRes
  rw [hrun]
  exact ⟨ρ, O, Le.refl, hs, hv⟩
theorem Good.val {o : Oper} {a : Act} {v : AV} {us : Upd} {x : Value} {ρ' : Id → Option Value} {O' : Id → Option Nat} (hrun : (execOp a.eval o).run P w = .ok (.value x) w') (le : Le w ρ O w' ρ' O') (hs : HS c w' (updH s.h us) ρ' O') (hv : RelV w' (AA c w' O') ρ' v x) : Good P c w s ρ O o a v us := by
  unfold Good OpRes
  rw [hrun]
  exact ⟨ρ', O', le, hs, hv⟩

theorem evs_rel {a : Act} {g : Option Gs} (ht : SS w A ρ s.t a.tmps) (hr : Runs a.tmps g) : ∀ (xs : List Operand), RelVs w A ρ (xs.map (s.get g)) (xs.map a.eval)
  | [] => by simp [RelVs]
  | x :: xs => by
    simp only [List.map_cons, RelVs]
    exact ⟨_, _, rfl, SS.get (h := s.h) ht hr x, evs_rel ht hr xs⟩

theorem eqGuard_other {op : BinOp} (h : op ≠ .eql ∧ op ≠ .neq) {t : TypeId} {x y : Operand} {a b : Value} : (eqGuard op t x y a b).run P w = .ok () w := by
  cases op <;> simp_all [eqGuard]

set_option maxHeartbeats 2000000 in
theorem aop_sound (hO : OSound P An Or) {o : Oper} {a : Act} {g : Option Gs} {v : AV} {us : Upd} (hs : HS c w s.h ρ O) (ht : SS w (AA c w O) ρ s.t a.tmps) (hr : Runs a.tmps g) (hk : aopD P An Or g o s = some (v, us)) (hfree : freshAt (o.dst.getD 0) s.h us = true) :
    Good P c w s ρ O o a v us := by
  have hc := hr.cond
  have ev : ∀ x, RelV w (AA c w O) ρ (s.get g x) (a.eval x) := fun x => SS.get (h := s.h) ht hr x
  have tt : ∀ x y, (s.get g x).t? = some y → RelT w (AA c w O) y (a.eval x) := by
    intro x y e
    have := ev x
    rw [AV.t?_eq e] at this
    simpa [RelV] using this
  have fin : ∀ {v' : AV} {us' : Upd}, some (v', us') = some (v, us) → v' = v ∧ us' = us := by
    intro v' us' e; simpa using e
  unfold aopD aop at hk
  cases hop : o.op <;> rw [hop] at hk <;> dsimp only at hk
  case move x =>
    obtain ⟨rfl, rfl⟩ := fin hk
    exact Good.pure hs (by simp [execOp, hop]) (ev x)
  case assign x =>
    obtain ⟨rfl, rfl⟩ := fin hk
    exact Good.pure hs (by simp [execOp, hop]) (ev x)
  case pick k x y =>
    replace hk := Option.bind_eq_some_iff.1 hk; obtain ⟨k', hk', hk⟩ := hk
    have hkv := tt k k' hk'
    replace hk := gdK_some hk hc; obtain ⟨kb, hkb, hk⟩ := hk
    have := T.bool?_eq hkb; subst this
    simp only [RelT] at hkv
    replace hk := Option.bind_eq_some_iff.1 hk; obtain ⟨tx, htx, hk⟩ := hk
    replace hk := gdK_any hk; obtain ⟨xb, hk, hxb⟩ := hk
    replace hk := Option.bind_eq_some_iff.1 hk; obtain ⟨ty, hty, hk⟩ := hk
    replace hk := gdK_any hk; obtain ⟨yb, hk, hyb⟩ := hk
    obtain ⟨rfl, rfl⟩ := fin hk
    have hg : ∀ b, gAnd (g.map (·.c)) b = some b := by
      intro b; unfold gAnd
      rcases hc with e | e <;> rw [e] <;> rfl
    refine Good.pure (x := .bool (cond kb xb yb)) hs ?_ (by simp [RelV, RelT])
    simp only [execOp, hop, hkv]
    cases kb with
    | true =>
      have arm := SS.getArm (h := s.h) ht hr k x true hkv
      rw [AV.t?_eq htx] at arm
      rcases hxb with e | ⟨_, e⟩
      · have := T.bool?_eq e; subst this
        simp only [RelV, RelT] at arm
        simp [asBool, arm]
      · rw [hg] at e; cases e
    | false =>
      have arm := SS.getArm (h := s.h) ht hr k y false hkv
      rw [AV.t?_eq hty] at arm
      rcases hyb with e | ⟨_, e⟩
      · have := T.bool?_eq e; subst this
        simp only [RelV, RelT] at arm
        simp [asBool, arm]
      · rw [hg] at e; cases e
  case alloc t =>
    cases hcc : g.map (·.c) with
    | some b => simp [hcc] at hk
    | none =>
      simp only [hcc] at hk
      replace hk := Option.bind_eq_some_iff.1 hk; obtain ⟨l, hl, hk⟩ := hk
      obtain ⟨rfl, rfl⟩ := fin hk
      obtain ⟨i, z, hi, hz, hof⟩ := zeroC_some hl
      have hzr : RelTs w (AA c w O) l z.cells.toList := ofVals_rel hof
      obtain ⟨g1, g2⟩ := hs.newBox (i := .s (o.dst.getD 0) 0) (freshAt_mem hfree (List.mem_singleton.2 rfl)) t (RelVs.of_ts (ρ := ρ) hzr) hzr.one
      refine Good.val (x := .pointer (some ⟨w.heap.size, 0, none⟩)) (w' := w.alloc (.cells z.cells.toList.toArray t)) ?_ g1 (by rw [updH_one]; exact g2) (by simp [RelV])
      simp [execOp, hop, Instr.alloc, zeroValue, typeInfo, hi, hz, newVar, run_newRow]
  case box t x =>
    cases hcc : g.map (·.c) with
    | some b => simp [hcc] at hk
    | none =>
      simp only [hcc] at hk
      split at hk
      · rename_i hcell
        obtain ⟨rfl, rfl⟩ := fin hk
        obtain ⟨g1, g2⟩ := cellsAV_sound hs (ev x) hcell
        obtain ⟨k1, k2⟩ := hs.newBox (i := .s (o.dst.getD 0) 0) (freshAt_mem hfree (List.mem_singleton.2 rfl)) t g1 g2
        refine Good.val (x := .pointer (some ⟨w.heap.size, 0, none⟩)) (w' := w.alloc (.cells (a.eval x).cells.toList.toArray t)) ?_ k1 (by rw [updH_one]; exact k2) (by simp [RelV])
        simp [execOp, hop, Instr.box, newVar, run_newRow]
      · simp at hk
  case build t ps =>
    replace hk := Option.bind_eq_some_iff.1 hk; obtain ⟨v', hv', hk⟩ := hk
    obtain ⟨rfl, rfl⟩ := fin hk
    obtain ⟨x, h1, h2⟩ := buildAV_sound hs ht hr hv'
    exact Good.pure hs (by simp only [execOp, hop, Sem.run_bind, h1, Result.andThen_ok, Sem.run_pure]) h2
  case buildSlice t n ps =>
    replace hk := Option.bind_eq_some_iff.1 hk; obtain ⟨e, he, hk⟩ := hk
    obtain ⟨hu, hok⟩ := elemT_some he
    split at hk
    · rename_i hcond
      obtain ⟨hn, hn1, hn2, hpos, hz⟩ := hcond
      split at hk
      · rename_i h0
        obtain ⟨h00, _⟩ := h0
        obtain ⟨rfl, rfl⟩ := fin hk
        have hps : ps.toList = [] := List.length_eq_zero_iff.1 (by rw [Array.length_toList]; omega)
        have run := run_buildSlice (w := w) hu hok hz hpos ⟨hn1, hn2⟩ [] (by simp) (by simp [h00]) (ps.map fun (i, x) => (i, a.eval x)) (by simp [Array.toList_map, hps])
        have exec : (execOp a.eval o).run P w = .ok (.value (.slice (some ⟨w.heap.size, 0, none⟩) n n)) (w.alloc (.cells (([] : List Value).flatMap fun v => v.cells.toList).toArray e)) := by
          simp only [execOp, hop, Sem.run_bind, run, Result.andThen_ok, Sem.run_pure]
        have lew : Le w ρ O (w.alloc (.cells (([] : List Value).flatMap fun v => v.cells.toList).toArray e)) ρ O := ⟨rfl, rfl, rfl, by simp, fun _ _ h => h, fun b hb _ => Go.RowKit.Below.heap_alloc _ _ _ hb, fun i b h => .inl ⟨i, h⟩⟩
        have hs2 := hs.world lew fun i blk hi => Go.RowKit.Below.heap_alloc _ _ _ (hs.lt i blk hi)
        refine Good.val exec lew hs2 ?_
        simp only [RelV, RelT]
        exact .inr ⟨trivial, _, _, _, by rw [h00]⟩
      replace hk := Option.bind_eq_some_iff.1 hk; obtain ⟨q, hq, hk⟩ := hk
      obtain ⟨hfz, hlen⟩ := elemsAV_frz hq
      obtain ⟨O1, le1, hs1, hO1, hf1, hkeep⟩ := hs.freezes' hfz
      obtain ⟨vs, e1, e2, e3⟩ := elemsAV_sound hs ht hr le1 hO1 hq hf1
      have hvl : vs.length = n := by
        have := congrArg List.length e1
        simp only [List.length_map, List.length_zipIdx] at this
        rw [← this, Array.length_toList, hn]
      have run := run_buildSlice (w := w) hu hok hz hpos ⟨hn1, hn2⟩ vs e3 hvl (ps.map fun (i, x) => (i, a.eval x)) (by simp only [Array.toList_map]; exact e1)
      have hq1 : q.1.length = n := by have := e2.length.1; simp only [List.length_map] at this; omega
      have fl : (vs.map fun v => v.cells.toList).flatten = vs.flatMap fun v => v.cells.toList := rfl
      have exec : (execOp a.eval o).run P w = .ok (.value (.slice (some ⟨w.heap.size, 0, none⟩) n n)) (w.alloc (.cells (vs.flatMap fun v => v.cells.toList).toArray e)) := by
        simp only [execOp, hop, Sem.run_bind, run, Result.andThen_ok, Sem.run_pure]
      cases hcc : g.map (·.c) with
      | some b =>
        simp only [hcc] at hk
        obtain ⟨rfl, rfl⟩ := fin hk
        -- as a tree
        have lew : Le w ρ O1 (w.alloc (.cells (vs.flatMap fun v => v.cells.toList).toArray e)) ρ O1 := ⟨rfl, rfl, rfl, by simp, fun _ _ h => h, fun b hb _ => Go.RowKit.Below.heap_alloc _ _ _ hb, fun i b h => .inl ⟨i, h⟩⟩
        have hs2 := hs1.world lew fun i blk hi => Go.RowKit.Below.heap_alloc _ _ _ (hs1.lt i blk hi)
        refine Good.val exec (le1.trans lew) hs2 ?_
        simp only [RelV, RelT]
        right
        refine ⟨trivial, w.heap.size, 0, none, n, by rw [hq1], by omega, ?_, ?_⟩
        · right; refine ⟨rfl, ?_⟩
          refine ⟨.inr (.inr hs.size), by simp, fun i hi => Nat.lt_irrefl _ (hs1.lt i _ hi)⟩
        · refine RelEls.of_vals (RelLs.mono (fun b hb => lew.A b hb) e2) (fun p v hp => ?_)
          rw [cell_block (heap_new _), Nat.zero_add, ← fl]
          simpa using hp
      | none =>
        simp only [hcc] at hk
        obtain ⟨rfl, rfl⟩ := fin hk
        have hi : s.h (.s (o.dst.getD 0) 0) = none := freshAt_mem hfree List.mem_cons_self
        have hi1 : updH s.h q.2 (.s (o.dst.getD 0) 0) = none := by
          rw [updH_other (fun p hp e => ?_)]
          · exact hi
          · have h2 := hfz p hp
            rw [e, hi] at h2
            rcases h2 with ⟨sz, b, l, _, h2⟩ | ⟨l, _, h2⟩ <;> simp at h2
        obtain ⟨k1, k2⟩ := hs1.newSl (sz := P.cellsOf e) hi1 e (vs.flatMap fun v => v.cells.toList).toArray n e2 (fun p v hp => by rw [← fl]; simpa using hp) (by omega) (by
          have := e2.length.2
          simp only [List.size_toArray]
          rw [← fl, this, hq1]; exact Nat.le_refl _)
        rw [hq1] at k1 k2
        refine Good.val exec (le1.trans k1) ?_ ?_
        · rw [updH_cons]
          have : updH (upd s.h (.s (o.dst.getD 0) 0) (some (.sl false (P.cellsOf e) false q.1))) q.2 = upd (updH s.h q.2) (.s (o.dst.getD 0) 0) (some (.sl false (P.cellsOf e) false q.1)) := by
            refine updH_swap (fun p hp e => ?_)
            have h2 := hfz p hp
            rw [e, hi] at h2
            rcases h2 with ⟨sz, b, l, _, h2⟩ | ⟨l, _, h2⟩ <;> simp at h2
          rw [this]; exact k2
        · simp [RelV]
    · simp at hk
  case load t x =>
    obtain ⟨av, y, e, run, hv⟩ := loadAV_sound hs (ev x) hc hk
    obtain ⟨rfl, rfl⟩ := fin e
    exact Good.pure (x := y) hs (by simp only [execOp, hop, Sem.run_bind, run, Result.andThen_ok, Sem.run_pure]) hv
  case store t x y =>
    cases hcc : g.map (·.c) with
    | some b => simp [hcc] at hk
    | none =>
      simp only [hcc] at hk
      obtain ⟨us', w', ρ', O', e, run, le, hs'⟩ := storeAV_sound hs (ev x) (ev y) hk
      obtain ⟨rfl, rfl⟩ := fin e
      unfold Good OpRes
      simp only [execOp, hop, Sem.run_bind, run, Result.andThen_ok, Sem.run_pure]
      exact ⟨ρ', O', le, hs', by simp [RelV]⟩
  case nilCheck x =>
    have hv := ev x
    split at hk
    · rename_i i k e
      obtain ⟨rfl, rfl⟩ := fin hk
      rw [e] at hv
      have hv' := hv
      simp only [RelV] at hv'
      obtain ⟨b, _, e2⟩ := hv'
      exact Good.pure hs (by simp [execOp, hop, e2]) hv
    · rename_i i sz k off e
      obtain ⟨rfl, rfl⟩ := fin hk
      rw [e] at hv
      have hv' := hv
      simp only [RelV] at hv'
      obtain ⟨b, o', L, cap, _, e2⟩ := hv'
      exact Good.pure hs (by simp [execOp, hop, e2]) hv
    · rename_i y e
      replace hk := gdK_some hk hc; obtain ⟨cs, hcs, hk⟩ := hk
      obtain ⟨rfl, rfl⟩ := fin hk
      have := T.ptr?_eq hcs; subst this
      rw [e] at hv
      have hv' := hv
      simp only [RelV, RelT] at hv'
      obtain ⟨b, o', e2, _⟩ := hv'
      exact Good.pure hs (by simp [execOp, hop, e2]) hv
    · rename_i f x' y' e
      obtain ⟨rfl, rfl⟩ := fin hk
      rw [e] at hv
      have hv' := hv
      simp only [RelV] at hv'
      obtain ⟨_, _, e2, _⟩ := hv'
      exact Good.pure hs (by simp [execOp, hop, e2]) hv
    · simp at hk
  case binOp op t x y ty =>
    have nilx : ∀ b, nilC P t y = true → isNilAV P s t (s.get g x) = some b → _ := fun b h1 h2 => isNil_sound (P := P) hs (ev x) h2 y h1 a x y
    have nily : ∀ b, nilC P t x = true → isNilAV P s t (s.get g y) = some b → _ := fun b h1 h2 => isNil_sound (P := P) hs (ev y) h2 x h1 a x y
    have go : ∀ (z : Value), (eqGuard op t x y (a.eval x) (a.eval y)).run P w = .ok () w → (binOp op t (a.eval x) (a.eval y)).run P w = .ok z w → (execOp a.eval o).run P w = .ok (.value z) w := by
      intro z h1 h2
      simp only [execOp, hop, Sem.run_bind, h1, h2, Result.andThen_ok, Sem.run_pure]
    split at hk
    · rename_i h1
      replace hk := Option.bind_eq_some_iff.1 hk; obtain ⟨b, hb, hk⟩ := hk
      obtain ⟨rfl, rfl⟩ := fin hk
      obtain ⟨g1, g2⟩ := (nilx b h1 hb).1
      exact Good.pure hs (go _ g1 g2) (by simp [RelV, RelT])
    · rename_i h1
      replace hk := Option.bind_eq_some_iff.1 hk; obtain ⟨b, hb, hk⟩ := hk
      obtain ⟨rfl, rfl⟩ := fin hk
      obtain ⟨g1, g2⟩ := (nilx b h1 hb).2.1
      exact Good.pure hs (go _ g1 g2) (by simp [RelV, RelT])
    · rename_i h1 _
      replace hk := Option.bind_eq_some_iff.1 hk; obtain ⟨b, hb, hk⟩ := hk
      obtain ⟨rfl, rfl⟩ := fin hk
      obtain ⟨g1, g2⟩ := (nily b h1 hb).2.2.1
      exact Good.pure hs (go _ g1 g2) (by simp [RelV, RelT])
    · rename_i h1 _
      replace hk := Option.bind_eq_some_iff.1 hk; obtain ⟨b, hb, hk⟩ := hk
      obtain ⟨rfl, rfl⟩ := fin hk
      obtain ⟨g1, g2⟩ := (nily b h1 hb).2.2.2
      exact Good.pure hs (go _ g1 g2) (by simp [RelV, RelT])
    · obtain ⟨b, e, ⟨g1, g2⟩, _⟩ := eqAV_sound (P := P) hc (ev x) (ev y) hk x y
      obtain ⟨rfl, rfl⟩ := fin e
      exact Good.pure hs (go _ g1 g2) (by simp [RelV, RelT])
    · obtain ⟨b, e, _, ⟨g1, g2⟩⟩ := eqAV_sound (P := P) hc (ev x) (ev y) hk x y
      obtain ⟨rfl, rfl⟩ := fin e
      exact Good.pure hs (go _ g1 g2) (by simp [RelV, RelT])
    · replace hk := Option.bind_eq_some_iff.1 hk; obtain ⟨x', hx', hk⟩ := hk
      replace hk := Option.bind_eq_some_iff.1 hk; obtain ⟨y', hy', hk⟩ := hk
      obtain ⟨hne, z, vz, e, hv, run⟩ := binT_sound (P := P) hc (tt x x' hx') (tt y y' hy') hk
      obtain ⟨rfl, rfl⟩ := fin e
      exact Good.pure hs (go _ (eqGuard_other hne) run) (by simpa [RelV] using hv _ _)
  case unOp op t x =>
    replace hk := Option.bind_eq_some_iff.1 hk; obtain ⟨x', hx', hk⟩ := hk
    obtain ⟨z, y, e, hv, run⟩ := unT0_sound (P := P) hc (tt x x' hx') hk
    obtain ⟨rfl, rfl⟩ := fin e
    exact Good.pure (x := y) hs (by simp only [execOp, hop, Sem.run_bind, run, Result.andThen_ok, Sem.run_pure]) (by simpa [RelV] using hv _ _)
  case convert src dst x =>
    split at hk
    · rename_i e hu hu'
      split at hk
      · rename_i he
        unfold intK at he
        split at he
        · rename_i k he'
          simp only [Option.some.injEq] at he; subst he
          replace hk := Option.bind_eq_some_iff.1 hk; obtain ⟨y, hy, hk⟩ := hk
          replace hk := gdK_some hk hc; obtain ⟨l, hl, hk⟩ := hk
          replace hl := Option.bind_eq_some_iff.1 hl; obtain ⟨p, hp, hl⟩ := hl
          obtain ⟨rfl, rfl⟩ := fin hk
          have run := bytes_sound hs hu hu' he' (ev x) hy hp hl
          exact Good.pure (x := .string ⟨l.toArray⟩) hs (by simp only [execOp, hop, Sem.run_bind, run, Result.andThen_ok, Sem.run_pure]) (by simp [RelV, RelT])
        · simp at he
      · simp at hk
    · replace hk := Option.bind_eq_some_iff.1 hk; obtain ⟨x', hx', hk⟩ := hk
      obtain ⟨z, y, e, run, hv⟩ := convT_sound hc (tt x x' hx') hk
      obtain ⟨rfl, rfl⟩ := fin e
      exact Good.pure (x := y) hs (by simp only [execOp, hop, Sem.run_bind, run, Result.andThen_ok, Sem.run_pure]) (by simpa [RelV] using hv)
  case makeFunc fn fst caps =>
    cases fn with
    | func f =>
      dsimp only at hk
      obtain ⟨rfl, rfl⟩ := fin hk
      refine Good.pure (x := .func (.func f) (fst.map a.eval) (caps.map a.eval)) hs (by simp only [execOp, hop, Instr.makeFunc, Sem.run_bind, Sem.run_pure, Result.andThen_ok]) ?_
      simp only [RelV]
      refine ⟨fst.toList.map a.eval, caps.toList.map a.eval, ?_, evs_rel ht hr _, evs_rel ht hr _⟩
      rw [show (fst.toList.map a.eval).toArray = fst.map a.eval from Array.ext' (by simp), show (caps.toList.map a.eval).toArray = caps.map a.eval from Array.ext' (by simp)]
    | _ => simp at hk
  case makeSlice t l m =>
    cases hcc : g.map (·.c) with
    | some b => simp [hcc] at hk
    | none =>
      simp only [hcc] at hk
      replace hk := Option.bind_eq_some_iff.1 hk; obtain ⟨n, hn, hk⟩ := hk
      replace hk := Option.bind_eq_some_iff.1 hk; obtain ⟨k, hk', hk⟩ := hk
      obtain ⟨v', us', e, hg⟩ := makeAV_sound (vn := a.eval l) (vm := a.eval m) hs (by simpa [RelV] using tt l n hn) (by simpa [RelV] using tt m k hk') hk
      obtain ⟨rfl, rfl⟩ := fin e
      obtain ⟨u, w', ρ', O', run, le, hs', hv⟩ := hg hfree
      exact Good.val (x := u) (by simp only [execOp, hop, Sem.run_bind, run, Result.andThen_ok, Sem.run_pure]) le hs' hv
  case slice t x lo hi mx =>
    obtain ⟨blo, hk, h1⟩ := boundAV_sound ht hr hc hk
    obtain ⟨bhi, hk, h2⟩ := boundAV_sound ht hr hc hk
    obtain ⟨bmx, hk, h3⟩ := boundAV_sound ht hr hc hk
    obtain ⟨av, y, e, run, hv⟩ := sliceAV_sound (P := P) hs (ev x) hc h1 h2 h3 hk
    obtain ⟨rfl, rfl⟩ := fin e
    exact Good.pure (x := y) hs (by simp only [execOp, hop, Sem.run_bind, run, Result.andThen_ok, Sem.run_pure]) hv
  case fieldAddr t x f =>
    obtain ⟨av, y, e, run, hv⟩ := fieldAddrAV_sound (P := P) (ev x) hc hk
    obtain ⟨rfl, rfl⟩ := fin e
    exact Good.pure (x := y) hs (by simp only [execOp, hop, Sem.run_bind, run, Result.andThen_ok, Sem.run_pure]) hv
  case field t x f =>
    obtain ⟨av, y, e, run, hv⟩ := fieldAV_sound (P := P) (ev x) hk
    obtain ⟨rfl, rfl⟩ := fin e
    exact Good.pure (x := y) hs (by simp only [execOp, hop, Sem.run_bind, run, Result.andThen_ok, Sem.run_pure]) hv
  case indexAddr t x i =>
    unfold int1 at hk
    replace hk := Option.bind_eq_some_iff.1 hk; obtain ⟨i', hi', hk⟩ := hk
    replace hk := gdK_some hk hc; obtain ⟨n, hn, hk⟩ := hk
    obtain ⟨k, rfl⟩ := anyInt_eq hn
    have hiv := tt i _ hi'
    simp only [RelT] at hiv
    obtain ⟨av, y, e, run, hv⟩ := indexAddrAV_sound (P := P) (ki := k) hs (ev x) hc hk
    obtain ⟨rfl, rfl⟩ := fin e
    exact Good.pure (x := y) hs (by simp only [execOp, hop, hiv, Sem.run_bind, run, Result.andThen_ok, Sem.run_pure]) hv
  case index t x i =>
    unfold int1 at hk
    replace hk := Option.bind_eq_some_iff.1 hk; obtain ⟨i', hi', hk⟩ := hk
    replace hk := gdK_some hk hc; obtain ⟨n, hn, hk⟩ := hk
    obtain ⟨k, rfl⟩ := anyInt_eq hn
    have hiv := tt i _ hi'
    simp only [RelT] at hiv
    have hv := ev x
    split at hk
    · rename_i hu
      replace hk := Option.bind_eq_some_iff.1 hk; obtain ⟨y, hy, hk⟩ := hk
      replace hk := gdK_some hk hc; obtain ⟨b, hb, hk⟩ := hk
      have := T.str?_eq hb; subst this
      have hxv := tt x _ hy
      simp only [RelT] at hxv
      obtain ⟨h0, h1, hk⟩ := idxOk_some hc hk
      replace hk := gdK_some hk hc; obtain ⟨u, hu', hk⟩ := hk
      obtain ⟨rfl, rfl⟩ := fin hk
      have hb : b[n.toNat]? = some u := by
        have hl : n.toNat < b.data.toList.length := (List.getElem?_eq_some_iff.1 hu').1
        have hlt : n.toNat < b.size := by simpa using hl
        rw [getElem?_pos b n.toNat hlt]
        have := (List.getElem?_eq_some_iff.1 hu').2
        rw [← this]
        simp [ByteArray.getElem_eq_getElem_data]
      exact Good.pure (x := .int .u8 u.toNat) hs (by simp [execOp, hop, hiv, hxv, Instr.index, asIntOf, run_underlying hu, h0, hb]) (by simp [RelV, RelT])
    · rename_i m e hu
      split at hk
      · rename_i vs ex
        cases hok : tyOk P e
        · simp [hok] at hk
        simp only [hok, cond_true] at hk
        replace hk := Option.bind_eq_some_iff.1 hk; obtain ⟨l, hl, hk⟩ := hk
        obtain ⟨h0, h1, hk⟩ := idxOk_some hc hk
        rw [ex] at hv
        simp only [RelV] at hv
        obtain ⟨ws, e2, g1, g2⟩ := hv
        obtain ⟨av, y, e, run, hv⟩ := loadT_part (P := P) (arr := ws.toArray) (off := n.toNat * P.cellsOf e) (ρ := ρ) hok hc ((RelTs.of_allT hl g1).drop _) hk
        obtain ⟨rfl, rfl⟩ := fin e
        exact Good.pure (x := y) hs (by simp [execOp, hop, hiv, e2, Instr.index, asIntOf, run_underlying hu, h0, h1, run_sizeA hok, run]) hv
      · simp at hk
    · simp at hk
  case extract x k =>
    have hv := ev x
    split at hk
    · rename_i vs e
      replace hk := Option.bind_eq_some_iff.1 hk; obtain ⟨y, hy, hk⟩ := hk
      obtain ⟨rfl, rfl⟩ := fin hk
      rw [e] at hv
      simp only [RelV] at hv
      obtain ⟨ws, e2, h1⟩ := hv
      obtain ⟨u, h2, h3⟩ := h1.get hy
      exact Good.pure hs (by simp [execOp, hop, e2, Instr.extract, h2]) h3
    · simp at hk
  case call cl =>
    have run0 : ∀ f, cl.callee = f → (execOp a.eval o).run P w = ((resolve a.eval cl o.type).run P w).andThen fun d w => (invoke d.target d.args).run P w := by
      intro f _; simp only [execOp, hop, Sem.run_bind]
    split at hk
    · rename_i hcal
      split at hk
      · rename_i x t ts hx htys
        obtain ⟨av, y, e, run, hv⟩ := lenAV_sound (P := P) (ts := cl.argTypes) (ty := o.type) hs (ev x) hc hk (by rw [← Array.getElem?_toList, htys]; rfl)
        obtain ⟨rfl, rfl⟩ := fin e
        have hargs : cl.args.map a.eval = #[a.eval x] := by apply Array.ext'; simp [hx]
        exact Good.pure (x := y) hs (by simp only [execOp, hop, resolve, hcal, hargs, Sem.run_bind, Sem.run_pure, Result.andThen_ok, invoke, builtin, run]) hv
      · simp at hk
    · rename_i hcal
      split at hk
      · rename_i x y t u hgc hx htys
        obtain ⟨v', us', e, hg⟩ := appendAV_sound (P := P) (tr := o.type) hs (ev x) (ev y) hk
        obtain ⟨rfl, rfl⟩ := fin e
        have hargs : cl.args.map a.eval = #[a.eval x, a.eval y] := by apply Array.ext'; simp [hx]
        have htys' : cl.argTypes = #[t, u] := by apply Array.ext'; simp [htys]
        obtain ⟨z, w', ρ', O', run, le, hs', hv⟩ := hg hfree
        exact Good.val (x := z) (by simp only [execOp, hop, resolve, hcal, hargs, htys', Sem.run_bind, Sem.run_pure, Result.andThen_ok, invoke, builtin, run]) le hs' hv
      · simp at hk
    · rename_i hcal
      split at hk
      · rename_i k hik
        replace hk := Option.bind_eq_some_iff.1 hk; obtain ⟨l, hl, hk⟩ := hk
        split at hk
        · rename_i x r
          replace hk := gdK_some hk hc; obtain ⟨n, hn, hk⟩ := hk
          have := T.int?_eq hn; subst this
          obtain ⟨v0, vs, e0, h1, h2⟩ := RelTs.of_allT hl (evs_rel ht hr cl.args.toList)
          simp only [RelT] at h1; subst h1
          obtain ⟨m, e, run⟩ := minT_sound (P := P) (w := w) hc true h2 hk
          obtain ⟨rfl, rfl⟩ := fin e
          have hargs : (cl.args.map a.eval).toList = .int k n :: vs := by simp [e0]
          exact Good.pure (x := .int k m) hs (by simp only [execOp, hop, resolve, hcal, Sem.run_bind, Sem.run_pure, Result.andThen_ok, invoke, builtin, Builtin.max_, hargs]; simp only [cond_true] at run; simp only [run, Result.andThen_ok]) (by simp [RelV, RelT])
        · simp at hk
      · simp at hk
    · rename_i hcal
      split at hk
      · rename_i k hik
        replace hk := Option.bind_eq_some_iff.1 hk; obtain ⟨l, hl, hk⟩ := hk
        split at hk
        · rename_i x r
          replace hk := gdK_some hk hc; obtain ⟨n, hn, hk⟩ := hk
          have := T.int?_eq hn; subst this
          obtain ⟨v0, vs, e0, h1, h2⟩ := RelTs.of_allT hl (evs_rel ht hr cl.args.toList)
          simp only [RelT] at h1; subst h1
          obtain ⟨m, e, run⟩ := minT_sound (P := P) (w := w) hc false h2 hk
          obtain ⟨rfl, rfl⟩ := fin e
          have hargs : (cl.args.map a.eval).toList = .int k n :: vs := by simp [e0]
          exact Good.pure (x := .int k m) hs (by simp only [execOp, hop, resolve, hcal, Sem.run_bind, Sem.run_pure, Result.andThen_ok, invoke, builtin, Builtin.min_, hargs]; simp only [cond_false] at run; simp only [run, Result.andThen_ok]) (by simp [RelV, RelT])
        · simp at hk
      · simp at hk
    · rename_i fo hcal
      split at hk
      · rename_i f x1 y1 efo
        have hfo := ev fo
        rw [efo] at hfo
        simp only [RelV] at hfo
        obtain ⟨x', y', e2, g1, g2⟩ := hfo
        obtain ⟨v', us', fn, body, e, hfn, hbody, hname, hcall⟩ := callAV_sound hO hc hs ((g1.append (evs_rel ht hr cl.args.toList)).append g2) hk
        obtain ⟨rfl, rfl⟩ := fin e
        unfold Good OpRes
        have run : (execOp a.eval o).run P w = .ok (.enter f (x' ++ cl.args.toList.map a.eval ++ y').toArray) w := by
          have hargs : x'.toArray ++ cl.args.map a.eval ++ y'.toArray = (x' ++ cl.args.toList.map a.eval ++ y').toArray := by apply Array.ext'; simp
          simp [execOp, hop, resolve, hcal, e2, Deferred.ofValue, invoke, callFunc, run_program, hfn, hbody, hname, hargs]
        rw [run]
        exact hcall hfree
      · simp at hk
    · simp at hk
  all_goals simp at hk

end
end Go.Aev
