/-
  No whole point is lost: sums at whole points, rows that hold there, and the law.
-/
import Derived.Test.YteigjcdcmgjdeaaSRat
import Derived.Test.YteigjcdcmgjdeaaSSays
set_option linter.unusedSimpArgs false
set_option linter.unusedVariables false
namespace Go.Aev.Gen
open Go Go.Aev Go.Proofs

/-! ### Plain: propagation keeps points -/
def exS (xs : List Int) (k : Nat) : List Int → Nat → Int
  | [], _ => 0
  | c :: r, i => (if i = k then 0 else c * dat xs i) + exS xs k r (i + 1)
def dotS (xs : List Int) : List Int → Nat → Int
  | [], _ => 0
  | c :: r, i => c * dat xs i + dotS xs r (i + 1)
def Inn (xs : List Int) (l : List S) : Prop := ∀ k, k < l.length → (sat l k).lo ≤ dat xs k ∧ dat xs k ≤ (sat l k).hi
theorem lv_le {c : Int} {s : S} {x : Int} (hx : s.lo ≤ x ∧ x ≤ s.hi) : lv c s ≤ c * x := by
  unfold lv
  split
  · exact Int.mul_le_mul_of_nonneg_left hx.1 (by omega)
  · exact Int.mul_le_mul_of_nonpos_left (by omega) hx.2
theorem rest_le {xs : List Int} {k : Nat} {l : List S} (hi : Inn xs l) : ∀ {r : List Int} {i : Nat} {t q : Int}, i + r.length ≤ l.length → restF k l r i t = some q → t - q ≤ exS xs k r i
  | [], i, t, q, _, h => by simp only [restF, Option.some.injEq] at h; simp only [exS]; omega
  | c :: r, i, t, q, hl, h => by
    simp only [List.length_cons] at hl
    rw [restF] at h
    rw [exS]
    split at h
    · rename_i hc
      have := rest_le hi (by omega) h
      rcases hc with rfl | rfl
      · simp; omega
      · simp; omega
    · rename_i hc
      have hc' : ¬ i = k := fun e => hc (.inr e)
      rw [if_neg hc']
      split at h
      · have := rest_le hi (by omega) h
        have := lv_le (c := c) (hi i (by omega))
        omega
      · cases h
theorem ex_dot {xs : List Int} {k : Nat} {c : Int} : ∀ {r : List Int} {i : Nat}, i ≤ k → r[k - i]? = some c → dotS xs r i = exS xs k r i + c * dat xs k
  | [], i, _, h => by simp at h
  | d :: r, i, hi, h => by
    rw [dotS, exS]
    by_cases hk : i = k
    · subst hk
      simp only [Nat.sub_self, List.getElem?_cons_zero, Option.some.injEq] at h
      subst h
      have : ∀ {r : List Int} {j : Nat}, i < j → dotS xs r j = exS xs i r j := by
        intro r
        induction r with
        | nil => intro j _; rfl
        | cons e r ih => intro j hj; rw [dotS, exS, if_neg (by omega), ih (by omega)]
      rw [if_pos rfl, this (by omega)]; omega
    · rw [if_neg hk]
      have e1 : k - i = (k - (i + 1)) + 1 := by omega
      rw [e1, List.getElem?_cons_succ] at h
      rw [ex_dot (by omega) h]; omega
theorem inn_set {xs : List Int} {l : List S} {k : Nat} {s : S} (hk : k < l.length) (hi : Inn xs l) (hs : s.lo ≤ dat xs k ∧ dat xs k ≤ s.hi) : Inn xs (l.set k s) := by
  intro j hj
  rw [List.length_set] at hj
  rw [sat_set hk]
  split
  · rename_i h; subst h; exact hs
  · exact hi j hj
theorem step_keep {xs : List Int} {m : List Int} {t : Int} {k : Nat} {c : Int} {l : List S} (hi : Inn xs l) (hm : m.length ≤ l.length) (hk : m[k]? = some c) (hd : dotS xs m 0 ≤ t) : ∃ l', stepS m t k c l = some l' ∧ Inn xs l' ∧ l'.length = l.length := by
  have hkm : k < m.length := by
    rcases Nat.lt_or_ge k m.length with h | h
    · exact h
    · rw [List.getElem?_eq_none h] at hk; cases hk
  unfold stepS
  by_cases hc : c = 0
  · rw [if_pos hc]; exact ⟨l, rfl, hi, rfl⟩
  · rw [if_neg hc]
    cases hr : restF k l m 0 t with
    | none => exact ⟨l, rfl, hi, rfl⟩
    | some q =>
      have h1 := rest_le hi (by omega) hr
      have h2 := ex_dot (xs := xs) (Nat.zero_le k) (by simpa using hk)
      have hx := hi k (by omega)
      have hcx : c * dat xs k ≤ q := by omega
      have hn : (newS c q (sat l k)).lo ≤ dat xs k ∧ dat xs k ≤ (newS c q (sat l k)).hi := by
        unfold newS
        split
        · rename_i hp
          have : dat xs k ≤ q / c := by
            rw [Int.le_ediv_iff_mul_le hp, Int.mul_comm]; exact hcx
          dsimp only; omega
        · rename_i hp
          have : -dat xs k ≤ q / (-c) := by
            rw [Int.le_ediv_iff_mul_le (by omega), Int.neg_mul_neg, Int.mul_comm]; exact hcx
          dsimp only; omega
      dsimp only
      rw [if_neg (by omega)]
      exact ⟨_, rfl, inn_set (by omega) hi hn, by simp⟩
theorem prop_keep {xs : List Int} {m : List Int} {t : Int} (hd : dotS xs m 0 ≤ t) : ∀ {rest : List Int} {k : Nat} {l : List S}, m.drop k = rest → m.length ≤ l.length → Inn xs l → ∃ l', propF m t rest k l = some l' ∧ Inn xs l' ∧ l'.length = l.length
  | [], k, l, _, _, hi => ⟨l, rfl, hi, rfl⟩
  | c :: rest, k, l, h, hm, hi => by
    obtain ⟨g1, g2, g3⟩ := at_drop h
    obtain ⟨l1, h1, h2, h3⟩ := step_keep hi hm g1 hd
    obtain ⟨l2, h4, h5, h6⟩ := prop_keep hd g3 (by omega) h2
    exact ⟨l2, by rw [propF, h1, Option.bind_some]; exact h4, h5, by omega⟩
theorem dot_neg {xs : List Int} : ∀ {r : List Int} {i : Nat}, dotS xs (negL r) i = -dotS xs r i
  | [], i => rfl
  | c :: r, i => by
    have := dot_neg (xs := xs) (r := r) (i := i + 1)
    simp only [negL, List.map_cons, dotS] at this ⊢
    rw [this, Int.neg_mul]; omega
theorem dot_zero {xs : List Int} : ∀ {r : List Int} {i : Nat}, (∀ c ∈ r, c = 0) → dotS xs r i = 0
  | [], _, _ => rfl
  | c :: r, i, h => by
    rw [dotS, h c List.mem_cons_self, dot_zero fun d hd => h d (List.mem_cons_of_mem _ hd)]; simp
theorem not_nz {of : List Int} (h : ¬ nz of) : ∀ c ∈ of, c = 0 := by
  intro c hc
  rcases Decidable.em (c = 0) with h' | h'
  · exact h'
  · exact absurd ⟨c, hc, h'⟩ h
/-- A row holds at a whole point. -/
def Hold (xs : List Int) (r : R) : Prop := (r.kd = 1 ∧ dotS xs r.of 0 ≤ r.tv) ∨ (r.kd = 2 ∧ dotS xs r.of 0 < r.tv) ∨ (r.kd = 3 ∧ dotS xs r.of 0 = r.tv)
theorem one_keep {xs : List Int} {r : R} {l : List S} (ho : OkR l.length r) (hi : Inn xs l) (hh : Hold xs r) : ∃ l', oneF r l = some l' ∧ Inn xs l' ∧ l'.length = l.length := by
  have hd : dotS xs r.of 0 ≤ toF r := by
    unfold toF; unfold Hold at hh
    split <;> omega
  have hd3 : r.kd = 3 → dotS xs r.of 0 = toF r := by
    intro h; unfold toF; unfold Hold at hh
    rw [if_neg (by omega)]; omega
  unfold oneF oneT
  by_cases hz : nz r.of
  · rw [if_pos hz]
    obtain ⟨l1, h1, h2, h3⟩ := prop_keep (m := r.of) hd (rest := r.of) (k := 0) rfl ho.len hi
    rw [h1, Option.bind_some]
    by_cases h : r.kd = 3
    · rw [if_pos h]
      obtain ⟨l2, h4, h5, h6⟩ := prop_keep (xs := xs) (m := negL r.of) (t := -toF r) (by rw [dot_neg, hd3 h]; omega) (rest := negL r.of) (k := 0) rfl (by have := ho.len; simp [negL]; omega) h2
      exact ⟨l2, h4, h5, by omega⟩
    · rw [if_neg h]
      exact ⟨l1, rfl, h2, h3⟩
  · rw [if_neg hz]
    have h0 := dot_zero (xs := xs) (i := 0) (not_nz hz)
    rw [if_pos (by
      refine ⟨by omega, ?_⟩
      by_cases h : r.kd = 3
      · exact .inr (by have := hd3 h; omega)
      · exact .inl h)]
    exact ⟨l, rfl, hi, rfl⟩
theorem once_keep {xs : List Int} : ∀ {rows : List R} {l : List S}, (∀ r ∈ rows, OkR l.length r) → Inn xs l → (∀ r ∈ rows, Hold xs r) → ∃ l', onceF rows l = some l' ∧ Inn xs l' ∧ l'.length = l.length
  | [], l, _, hi, _ => ⟨l, rfl, hi, rfl⟩
  | r :: rows, l, ho, hi, hh => by
    obtain ⟨l1, h1, h2, h3⟩ := one_keep (ho r List.mem_cons_self) hi (hh r List.mem_cons_self)
    obtain ⟨l2, h4, h5, h6⟩ := once_keep (rows := rows) (fun r' h' => by rw [h3]; exact ho r' (List.mem_cons_of_mem _ h')) h2 fun r' h' => hh r' (List.mem_cons_of_mem _ h')
    exact ⟨l2, by rw [onceF, h1, Option.bind_some]; exact h4, h5, by omega⟩
theorem do_keep {xs : List Int} {rows : List R} (hh : ∀ r ∈ rows, Hold xs r) : ∀ {k : Nat} {l : List S}, Ok rows l → Inn xs l → ∃ l', doF rows k l = some l' ∧ Inn xs l' ∧ l'.length = l.length
  | 0, l, _, hi => ⟨l, rfl, hi, rfl⟩
  | k + 1, l, ho, hi => by
    obtain ⟨m, h1, h2, h3⟩ := once_keep ho.rows hi hh
    rw [doF, h1, Option.bind_some]
    split
    · exact ⟨m, rfl, h2, h3⟩
    · obtain ⟨l', h4, h5, h6⟩ := do_keep hh (ho.next h1) h2
      exact ⟨l', h4, h5, by omega⟩

/-! ### The sum of a row at a whole point -/
def enP (xs : List Int) : List (List T) := xs.map fun n => [ti n, ti 1]
theorem enP_len (xs : List Int) : (enP xs).length = xs.length := by simp [enP]
theorem enP_at {xs : List Int} {i : Nat} (h : i < xs.length) : (enP xs)[((i : Nat) : Int).toNat]? = some [ti (dat xs i), ti 1] := by
  simp [enP, dat, List.getD_eq_getElem?_getD, h]
abbrev LP (e : Bool) (xs : List Int) : AV := AV.t (T.lst 2 e (enP xs))
theorem div1 (n : Int) : Rat.divInt n 1 = ((n : Int) : Rat) := by
  rw [← Rat.num_divInt_den ((n : Int) : Rat)]; rfl
theorem lim_of {z : Int} (h : -1000000000000000 ≤ z ∧ z ≤ 1000000000000000) : Lim z := by unfold Lim; omega
theorem lqi {z : Int} (h : -1000000000000000 ≤ z ∧ z ≤ 1000000000000000) : LQ ((z : Int) : Rat) := ⟨lim_of h, lim_of (z := 1) (by omega)⟩
theorem wh_dat {xs : List Int} (h : ∀ x ∈ xs, Wh x) (i : Nat) : Wh (dat xs i) := by
  unfold dat
  rcases Nat.lt_or_ge i xs.length with hi | hi
  · simp only [List.getD_eq_getElem?_getD, List.getElem?_eq_getElem hi, Option.getD_some]
    exact h _ (List.getElem_mem hi)
  · simp only [List.getD_eq_getElem?_getD, List.getElem?_eq_none hi, Option.getD_none]
    unfold Wh; omega
theorem dot_b {xs : List Int} (hx : ∀ x ∈ xs, Wh x) : ∀ {r : List Int} {i : Nat}, (∀ c ∈ r, Wh c) → -(1000000000000 * (r.length : Int)) ≤ dotS xs r i ∧ dotS xs r i ≤ 1000000000000 * (r.length : Int)
  | [], i, _ => by simp [dotS]
  | c :: r, i, h => by
    have h1 := mulb (h c List.mem_cons_self) (wh_dat hx i)
    have h2 := dot_b hx (r := r) (i := i + 1) fun d hd => h d (List.mem_cons_of_mem _ hd)
    simp only [dotS, List.length_cons]
    omega
theorem n41 (of xs : List Int) (e e2 : Bool) (hl : of.length ≤ xs.length) (hn : xs.length ≤ 12) (hc : ∀ c ∈ of, Wh c) (hx : ∀ x ∈ xs, Wh x) : ∀ (rest : List Int) (i : Nat) (z : Int) (x : T), of.drop i = rest → i ≤ of.length → WR ((z : Int) : Rat) x →
    -(1000000000000 * (i : Int)) ≤ z ∧ z ≤ 1000000000000 * (i : Int) → ∃ y, Or K41n3 [lst e of, LP e2 xs, AV.t x, I (i : Int)] [] = some [y] ∧ WR ((z + dotS xs rest i : Int) : Rat) y := by
  intro rest
  induction rest with
  | nil =>
    intro i z x h hi hx0 hz
    refine ⟨x, orc_of ?_, by simpa [dotS] using hx0⟩
    rw [e41n3]
    have h1 : ¬ (i : Int) < (of.length : Int) := by have := at_end h; omega
    simp only [gd1, hd1, tl1, dr0, dr1, dr2, dr3, dr4, dr5, dr6, bo1, in1, st1, ls1, le1, pt1, fi1, fb1, fs1, ct1, cf1, nt1, nf1, ak0, akT, akF, cdec, cndec, cbeq, cnbeq, ↓reduceIte, beq_self_eq_true, Int.reduceBEq, Int.reduceEq, Bool.and_true, Bool.true_and, Bool.false_and, Bool.and_false, enc_len, h1]
  | cons c rest ih =>
    intro i z x h hi hx0 hz
    obtain ⟨g1, g2, g3⟩ := at_drop h
    have h1 : (i : Int) < (of.length : Int) := by omega
    have h2 : (i : Int) < (xs.length : Int) := by omega
    have h0 : 0 ≤ (i : Int) := by omega
    have hcw := hc c (List.mem_of_getElem? g1)
    have hxw := wh_dat hx i
    have hm := mulb hxw hcw
    have hcw' := hcw
    have hxw' := hxw
    unfold Wh at hcw' hxw'
    obtain ⟨a, a1, a2⟩ := g57 (dat xs i) 1 (lim_of (by omega)) (lim_of (by omega)) (by omega)
    obtain ⟨b, b1, b2⟩ := g43 c 1 (lim_of (by omega)) (lim_of (by omega)) (by omega)
    rw [div1] at a2 b2
    obtain ⟨s1, e1, D1, s2, e2', D2, k1, k2, k3⟩ := g56 a2 b2 (lqi (by omega)) (lqi (by omega)) (lim_of (z := dat xs i * c) (by omega)) (lim_of (z := 1) (by omega))
    rw [← Rat.intCast_mul] at k2 k3
    have w1 := wr (e := e1) (e' := e2') k2 k3
    obtain ⟨s3, e3, D3, s4, e4, D4, j1, j2, j3⟩ := g58 hx0 w1 (lqi (by omega)) (lqi (by omega)) (lim_of (z := z * 1) (by omega)) (lim_of (z := dat xs i * c * 1) (by omega)) (lim_of (z := z * 1 + dat xs i * c * 1) (by omega)) (lim_of (z := 1) (by omega))
    rw [← Rat.intCast_add] at j2 j3
    have w2 := wr (e := e3) (e' := e4) j2 j3
    obtain ⟨y, y1, y2⟩ := ih (i + 1) (z + dat xs i * c) _ g3 (by omega) w2 (by omega)
    refine ⟨y, orc_of ?_, ?_⟩
    · rw [e41n3]
      simp only [gd1, hd1, tl1, dr0, dr1, dr2, dr3, dr4, dr5, dr6, bo1, in1, st1, ls1, le1, pt1, fi1, fb1, fs1, ct1, cf1, nt1, nf1, ak0, akT, akF, cdec, cndec, cbeq, cnbeq, ↓reduceIte, beq_self_eq_true, Int.reduceBEq, Int.reduceEq, Bool.and_true, Bool.true_and, Bool.false_and, Bool.and_false, h1, h2, h0, and_self, enc_len, enP_len, enc_get g1, enP_at (show i < xs.length by omega), a1, b1, k1, j1, next i (by omega)]
      exact y1
    · rw [dotS]
      have : z + dat xs i * c + dotS xs rest (i + 1) = z + (c * dat xs i + dotS xs rest (i + 1)) := by rw [Int.mul_comm]; omega
      rw [← this]; exact y2
theorem s41 (of xs : List Int) (e e2 : Bool) (hl : of.length ≤ xs.length) (hn : xs.length ≤ 12) (hc : ∀ c ∈ of, Wh c) (hx : ∀ x ∈ xs, Wh x) : ∃ y, Or (.call 41) [lst e of, LP e2 xs] [] = some [y] ∧ WR ((dotS xs of 0 : Int) : Rat) y := by
  obtain ⟨a, a1, a2⟩ := g43 0 1 (lim_of (by omega)) (lim_of (by omega)) (by omega)
  rw [div1] at a2
  obtain ⟨y, y1, y2⟩ := n41 of xs e e2 hl hn hc hx of 0 0 a rfl (by omega) a2 (by omega)
  refine ⟨y, orc_of ?_, by simpa using y2⟩
  rw [e41]
  simp only [gd1, hd1, tl1, dr0, dr1, dr2, dr3, dr4, dr5, dr6, bo1, in1, st1, ls1, le1, pt1, fi1, fb1, fs1, ct1, cf1, nt1, nf1, ak0, akT, akF, cdec, cndec, cbeq, cnbeq, ↓reduceIte, beq_self_eq_true, Int.reduceBEq, Int.reduceEq, Bool.and_true, Bool.true_and, Bool.false_and, Bool.and_false, a1]
  exact y1
def holdB (xs : List Int) (r : R) : Bool := (decide ((dotS xs r.of 0 - r.tv).sign < 0) && !(r.kd == 3)) || ((dotS xs r.of 0 - r.tv).sign == 0 && !(r.kd == 2))
theorem holdB_iff {xs : List Int} {r : R} (hk : r.kd = 1 ∨ r.kd = 2 ∨ r.kd = 3) : holdB xs r = true → Hold xs r := by
  intro h
  unfold holdB at h
  unfold Hold
  simp only [Bool.or_eq_true, Bool.and_eq_true, decide_eq_true_eq, Bool.not_eq_true', beq_eq_false_iff_ne, beq_iff_eq, Int.sign_eq_zero_iff_zero] at h
  have hs : (dotS xs r.of 0 - r.tv).sign < 0 → dotS xs r.of 0 - r.tv < 0 := fun h => by
    rcases Int.lt_trichotomy (dotS xs r.of 0 - r.tv) 0 with h' | h' | h'
    · exact h'
    · rw [h'] at h; simp at h
    · rw [Int.sign_eq_one_of_pos h'] at h; omega
  rcases h with ⟨h1, h2⟩ | ⟨h1, h2⟩
  · have := hs h1; omega
  · omega
theorem s29 (r : R) (xs : List Int) (e2 : Bool) (ho : OkR xs.length r) (hn : xs.length ≤ 12) (hx : ∀ x ∈ xs, Wh x) : Or (.call 29) [AV.agg [lst r.e r.of, I r.kd, I r.tv], LP e2 xs] [] = some [tb (holdB xs r)] := by
  obtain ⟨y, y1, y2⟩ := s41 r.of xs r.e e2 ho.len hn ho.of hx
  have htv := ho.tv
  unfold Wh at htv
  obtain ⟨b, b1, b2⟩ := g43 r.tv 1 (lim_of (by omega)) (lim_of (by omega)) (by omega)
  rw [div1] at b2
  have hb := dot_b hx (i := 0) ho.of
  have hl := ho.len
  have h42 := g42 y2 b2 (lqi (by omega)) (lqi (by omega)) (lim_of (z := dotS xs r.of 0 * 1) (by omega)) (lim_of (z := r.tv * 1) (by omega)) (lim_of (z := dotS xs r.of 0 * 1 - r.tv * 1) (by omega)) (lim_of (z := 1) (by omega))
  have hq : cmpQ ((dotS xs r.of 0 : Int) : Rat) ((r.tv : Int) : Rat) = (dotS xs r.of 0 - r.tv).sign := by
    unfold cmpQ; rw [← Rat.intCast_sub]; rfl
  rw [hq] at h42
  refine orc_of ?_
  rw [e29]
  unfold holdB
  simp only [cor, cand]
  simp only [gd1, hd1, tl1, dr0, dr1, dr2, dr3, dr4, dr5, dr6, bo1, in1, st1, ls1, le1, pt1, fi1, fb1, fs1, ct1, cf1, nt1, nf1, ak0, akT, akF, cdec, cndec, cbeq, cnbeq, ↓reduceIte, beq_self_eq_true, Int.reduceBEq, Int.reduceEq, Bool.and_true, Bool.true_and, Bool.false_and, Bool.and_false, y1, b1, h42]
theorem n28 (xs : List Int) (e2 : Bool) (hn : xs.length ≤ 12) (hx : ∀ x ∈ xs, Wh x) : ∀ (k i : Nat), i + k = xs.length → Or K28n3 [LP e2 xs, r0, r1, I (i : Int)] [Blk.box [I 0, I 0], Blk.box [I 0, I 0]] = some [ti 0, ti 0]
  | 0, i, hi => by
    refine orc_of ?_
    rw [e28n3]
    have h1 : ¬ (i : Int) < (xs.length : Int) := by omega
    simp only [cand, beq_dec, ← Bool.decide_and]
    simp only [gd1, hd1, tl1, dr0, dr1, dr2, dr3, dr4, dr5, dr6, bo1, in1, st1, ls1, le1, pt1, fi1, fb1, fs1, ct1, cf1, nt1, nf1, ak0, akT, akF, cdec, cndec, cbeq, cnbeq, ↓reduceIte, beq_self_eq_true, Int.reduceBEq, Int.reduceEq, Bool.and_true, Bool.true_and, Bool.false_and, Bool.and_false, enP_len, h1, false_and]
  | k + 1, i, hi => by
    have h1 : (i : Int) < (xs.length : Int) := by omega
    have h0 : 0 ≤ (i : Int) := by omega
    have hw := wh_dat hx i
    unfold Wh at hw
    obtain ⟨b, b1, b2⟩ := g40 (dat xs i) 1
    have hb : b = true := b2.2 ⟨by omega, by omega, by omega, by omega, by simp⟩
    subst hb
    have := n28 xs e2 hn hx k (i + 1) (by omega)
    refine orc_of ?_
    rw [e28n3]
    simp only [cand, beq_dec, ← Bool.decide_and]
    simp only [gd1, hd1, tl1, dr0, dr1, dr2, dr3, dr4, dr5, dr6, bo1, in1, st1, ls1, le1, pt1, fi1, fb1, fs1, ct1, cf1, nt1, nf1, ak0, akT, akF, cdec, cndec, cbeq, cnbeq, ↓reduceIte, beq_self_eq_true, Int.reduceBEq, Int.reduceEq, Bool.and_true, Bool.true_and, Bool.false_and, Bool.and_false, h1, h0, and_self, enP_len, enP_at (show i < xs.length by omega), b1, Bool.not_true, next i (by omega)]
    exact this
theorem s28 (r : R) (xs : List Int) (e2 : Bool) (ho : OkR xs.length r) (hn : xs.length ≤ 12) (hx : ∀ x ∈ xs, Wh x) : Or (.call 28) [AV.agg [lst r.e r.of, I r.kd, I r.tv], LP e2 xs] [] = some [ti 0, ti 0] := by
  have h34 := s34x r xs.length hn
  have hz : chkR xs.length r = (0, 0) := by
    unfold chkR
    have := ho.kd
    have := ho.len
    rw [if_neg (by omega), if_neg (by omega)]
    exact chkI_ok fun x hx => by
      rcases List.mem_append.1 hx with hx | hx
      · exact ho.of x hx
      · simp only [List.mem_singleton] at hx; subst hx; exact ho.tv
  rw [hz] at h34
  refine orc_of ?_
  rw [e28]
  simp only [gd1, hd1, tl1, dr0, dr1, dr2, dr3, dr4, dr5, dr6, bo1, in1, st1, ls1, le1, pt1, fi1, fb1, fs1, ct1, cf1, nt1, nf1, ak0, akT, akF, cdec, cndec, cbeq, cnbeq, ↓reduceIte, beq_self_eq_true, Int.reduceBEq, Int.reduceEq, Bool.and_true, Bool.true_and, Bool.false_and, Bool.and_false, enP_len, h34]
  exact n28 xs e2 hn hx xs.length 0 (by omega)
theorem n17 (rows : List R) (xs : List Int) (e e2 : Bool) (hn : xs.length ≤ 12) (hx : ∀ x ∈ xs, Wh x) (hl : rows.length ≤ 1000) : ∀ (rest : List R) (i : Nat), rows.drop i = rest → (∀ r ∈ rest, OkR xs.length r) →
    Or K17n2 [LR e rows, LP e2 xs, I (i : Int)] [] = some [tb (rest.all (holdB xs))] := by
  intro rest
  induction rest with
  | nil =>
    intro i h hr
    refine orc_of ?_
    rw [e17n2]
    have h1 : ¬ (i : Int) < (rows.length : Int) := by have := at_end h; omega
    simp only [gd1, hd1, tl1, dr0, dr1, dr2, dr3, dr4, dr5, dr6, bo1, in1, st1, ls1, le1, pt1, fi1, fb1, fs1, ct1, cf1, nt1, nf1, ak0, akT, akF, cdec, cndec, cbeq, cnbeq, ↓reduceIte, beq_self_eq_true, Int.reduceBEq, Int.reduceEq, Bool.and_true, Bool.true_and, Bool.false_and, Bool.and_false, eRs_len, h1, List.all_nil]
  | cons r rest ih =>
    intro i h hr
    obtain ⟨g1, g2, g3⟩ := at_drop h
    have h1 : (i : Int) < (rows.length : Int) := by omega
    have h0 : 0 ≤ (i : Int) := by omega
    have h28 := s28 r xs e2 (hr r List.mem_cons_self) hn hx
    have h29 := s29 r xs e2 (hr r List.mem_cons_self) hn hx
    have := ih (i + 1) g3 fun r' h' => hr r' (List.mem_cons_of_mem _ h')
    refine orc_of ?_
    rw [e17n2, List.all_cons]
    cases hb : holdB xs r with
    | true =>
      rw [hb] at h29
      simp only [gd1, hd1, tl1, dr0, dr1, dr2, dr3, dr4, dr5, dr6, bo1, in1, st1, ls1, le1, pt1, fi1, fb1, fs1, ct1, cf1, nt1, nf1, ak0, akT, akF, cdec, cndec, cbeq, cnbeq, ↓reduceIte, beq_self_eq_true, Int.reduceBEq, Int.reduceEq, Bool.and_true, Bool.true_and, Bool.false_and, Bool.and_false, h1, h0, and_self, eRs_len, eRs_get g1, h28, h29, Bool.not_true, Bool.not_false, Bool.true_and, next i (by omega)]
      exact this
    | false =>
      rw [hb] at h29
      simp only [gd1, hd1, tl1, dr0, dr1, dr2, dr3, dr4, dr5, dr6, bo1, in1, st1, ls1, le1, pt1, fi1, fb1, fs1, ct1, cf1, nt1, nf1, ak0, akT, akF, cdec, cndec, cbeq, cnbeq, ↓reduceIte, beq_self_eq_true, Int.reduceBEq, Int.reduceEq, Bool.and_true, Bool.true_and, Bool.false_and, Bool.and_false, h1, h0, and_self, eRs_len, eRs_get g1, h28, h29, Bool.not_true, Bool.not_false, Bool.false_and]
theorem small_ok2 {bs n : Nat} (h : n ≤ 2000000) : small bs n = some () := by unfold small; rw [if_pos (.inl (by unfold lim; omega))]
theorem next2 (i : Nat) (h : i ≤ 2000000) : IntKind.i64.wrap ((i : Int) + 1) = ((i + 1 : Nat) : Int) := by rw [Go.Aev.wr (by omega)]; omega
theorem n16 (xs : List Int) (e : Bool) (hn : xs.length ≤ 1048576) : ∀ (rest : List Int) (i : Nat) (ec : Bool), xs.drop i = rest → i ≤ xs.length → (∃ e', (∀ x ∈ rest, Wh x) ∧ Or K16n3 [lst e xs, o0, I (i : Int)] [Blk.sl false 2 ec (enP (xs.take i))] = some [T.lst 2 e' (enP xs), tb true]) ∨
      Or K16n3 [lst e xs, o0, I (i : Int)] [Blk.sl false 2 ec (enP (xs.take i))] = some [T.emp true, tb false] := by
  intro rest
  induction rest with
  | nil =>
    intro i ec h hi
    have hle := at_end h
    obtain rfl : i = xs.length := by omega
    refine .inl ⟨ec, (by simp), orc_of ?_⟩
    rw [e16n3]
    have h1 : ¬ (xs.length : Int) < (xs.length : Int) := by omega
    simp only [gd1, hd1, tl1, dr0, dr1, dr2, dr3, dr4, dr5, dr6, bo1, in1, st1, ls1, le1, pt1, fi1, fb1, fs1, ct1, cf1, nt1, nf1, ak0, akT, akF, cdec, cndec, cbeq, cnbeq, ↓reduceIte, beq_self_eq_true, Int.reduceBEq, Int.reduceEq, Bool.and_true, Bool.true_and, Bool.false_and, Bool.and_false, enc_len, h1, List.take_length]
  | cons x rest ih =>
    intro i ec h hi
    obtain ⟨g1, g2, g3⟩ := at_drop h
    have h1 : (i : Int) < (xs.length : Int) := by omega
    have h0 : 0 ≤ (i : Int) := by omega
    by_cases hw : x ≤ 1000000 ∧ x ≥ -1000000
    · have ht : enP (xs.take i) ++ [[ti x, ti 1]] = enP (xs.take (i + 1)) := by
        simp [enP, List.take_add_one, g1]
      have hs : small 16 ((enP (xs.take i)).length + [[ti x, ti 1]].length) = some () := small_ok2 (by rw [enP_len, List.length_take]; simp; omega)
      have key : ∀ q, Or K16n3 [lst e xs, o0, I ((i + 1 : Nat) : Int)] [Blk.sl false 2 (ec && false) (enP (xs.take (i + 1)))] = some q → Or K16n3 [lst e xs, o0, I (i : Int)] [Blk.sl false 2 ec (enP (xs.take i))] = some q := fun q hq => by
        refine orc_of ?_
        rw [e16n3]
        rw [← ht] at hq
        simp only [gd1, hd1, tl1, dr0, dr1, dr2, dr3, dr4, dr5, dr6, bo1, in1, st1, ls1, le1, pt1, fi1, fb1, fs1, ct1, cf1, nt1, nf1, ak0, akT, akF, cdec, cndec, cbeq, cnbeq, ↓reduceIte, beq_self_eq_true, Int.reduceBEq, Int.reduceEq, Bool.and_true, Bool.true_and, Bool.false_and, Bool.and_false, h1, h0, and_self, enc_len, enc_get g1, s25, hw, decide_true, Bool.not_true, hs, next2 i (by omega)]
        simp only [Bool.and_false] at hq
        exact hq
      rcases ih (i + 1) (ec && false) g3 (by omega) with ⟨e', k1, k2⟩ | k
      · refine .inl ⟨e', fun u hu => ?_, key _ k2⟩
        rcases List.mem_cons.1 hu with rfl | hu
        · unfold Wh; omega
        · exact k1 u hu
      · exact .inr (key _ k)
    · refine .inr (orc_of ?_)
      rw [e16n3]
      simp only [gd1, hd1, tl1, dr0, dr1, dr2, dr3, dr4, dr5, dr6, bo1, in1, st1, ls1, le1, pt1, fi1, fb1, fs1, ct1, cf1, nt1, nf1, ak0, akT, akF, cdec, cndec, cbeq, cnbeq, ↓reduceIte, beq_self_eq_true, Int.reduceBEq, Int.reduceEq, Bool.and_true, Bool.true_and, Bool.false_and, Bool.and_false, h1, h0, and_self, enc_len, enc_get g1, s25, hw, decide_false, Bool.not_false]
theorem s16 (xs : List Int) (e : Bool) (hn : xs.length ≤ 1048576) : (∃ e', (∀ x ∈ xs, Wh x) ∧ Or (.call 16) [lst e xs] [] = some [T.lst 2 e' (enP xs), tb true]) ∨ Or (.call 16) [lst e xs] [] = some [T.emp true, tb false] := by
  have key : ∀ q, Or K16n3 [lst e xs, o0, I ((0 : Nat) : Int)] [Blk.sl false 2 true (enP (xs.take 0))] = some q → Or (.call 16) [lst e xs] [] = some q := fun q hq => orc_of (by rw [e16]; exact hq)
  rcases n16 xs e hn xs 0 true rfl (by omega) with ⟨e', k1, k2⟩ | k
  · exact .inl ⟨e', k1, key _ k2⟩
  · exact .inr (key _ k)
/-! ### The law -/
def has (s : S) (x : Int) : Bool := (decide (x ≥ s.lo) || s.lo == -1000000) && (decide (x ≤ s.hi) || s.hi == 1000000)
theorem s18 (s : S) (x : Int) : Or (.call 18) [AV.agg [I s.lo, I s.hi], I x] [] = some [tb (has s x)] := by
  refine orc_of ?_
  rw [e18]
  unfold has
  simp only [cor, cand]
theorem n4b (l a : List S) (xs : List Int) (e e2 e3 : Bool) (hx : xs.length = l.length) (hl : l.length ≤ 12) (ha : a.length = l.length) (hi : Inn xs a) : ∀ (k i : Nat), i + k = l.length → Or K4n18 [LS e l, lst e2 xs, LS e3 a, I (i : Int)] [] = some [tb true]
  | 0, i, h => by
    refine orc_of ?_
    rw [e4n18]
    have h1 : ¬ (i : Int) < (l.length : Int) := by omega
    simp only [gd1, hd1, tl1, dr0, dr1, dr2, dr3, dr4, dr5, dr6, bo1, in1, st1, ls1, le1, pt1, fi1, fb1, fs1, ct1, cf1, nt1, nf1, ak0, akT, akF, cdec, cndec, cbeq, cnbeq, ↓reduceIte, beq_self_eq_true, Int.reduceBEq, Int.reduceEq, Bool.and_true, Bool.true_and, Bool.false_and, Bool.and_false, eSs_len, h1]
  | k + 1, i, h => by
    have h1 : (i : Int) < (l.length : Int) := by omega
    have h2 : (i : Int) < (a.length : Int) := by omega
    have h3 : (i : Int) < (xs.length : Int) := by omega
    have h0 : 0 ≤ (i : Int) := by omega
    have hh : has (sat a i) (dat xs i) = true := by
      have := hi i (by omega)
      unfold has
      simp only [Bool.and_eq_true, Bool.or_eq_true, decide_eq_true_eq]
      exact ⟨.inl this.1, .inl this.2⟩
    have h18 := s18 (sat a i) (dat xs i)
    rw [hh] at h18
    have hg : (enc xs)[((i : Nat) : Int).toNat]? = some [ti (dat xs i)] := by
      simp [enc, dat, List.getD_eq_getElem?_getD, show i < xs.length by omega]
    have := n4b l a xs e e2 e3 hx hl ha hi k (i + 1) (by omega)
    refine orc_of ?_
    rw [e4n18]
    simp only [gd1, hd1, tl1, dr0, dr1, dr2, dr3, dr4, dr5, dr6, bo1, in1, st1, ls1, le1, pt1, fi1, fb1, fs1, ct1, cf1, nt1, nf1, ak0, akT, akF, cdec, cndec, cbeq, cnbeq, ↓reduceIte, beq_self_eq_true, Int.reduceBEq, Int.reduceEq, Bool.and_true, Bool.true_and, Bool.false_and, Bool.and_false, h1, h2, h3, h0, and_self, eSs_len, enc_len, eSs_at (show i < a.length by omega), hg, h18, Bool.not_true, next i (by omega)]
    exact this
theorem n4a (l : List S) (xs : List Int) (e e2 e3 : Bool) (o : Option (List S)) (hx : xs.length = l.length) (hl : Val l) (hw : ∀ x ∈ xs, Wh x) (hk : Inn xs l → ∃ a, o = some a ∧ Inn xs a ∧ a.length = l.length) : ∀ (k i : Nat), i + k = l.length → (∀ j, j < i → (sat l j).lo ≤ dat xs j ∧ dat xs j ≤ (sat l j).hi) →
    Or K4n11 [LS e l, lst e2 xs, LS e3 (listO o), B o.isSome, I (i : Int)] [] = some [tb true]
  | 0, i, h, hp => by
    obtain ⟨a, rfl, ha, hla⟩ := hk fun j hj => hp j (by omega)
    have h1 : ¬ (i : Int) < (l.length : Int) := by omega
    have hl2 : ((listO (some a)).length : Int) = (l.length : Int) := by simp only [listO]; omega
    have := n4b l a xs e e2 e3 hx hl.len hla ha l.length 0 (by omega)
    refine orc_of ?_
    rw [e4n11]
    simp only [gd1, hd1, tl1, dr0, dr1, dr2, dr3, dr4, dr5, dr6, bo1, in1, st1, ls1, le1, pt1, fi1, fb1, fs1, ct1, cf1, nt1, nf1, ak0, akT, akF, cdec, cndec, cbeq, cnbeq, ↓reduceIte, beq_self_eq_true, Int.reduceBEq, Int.reduceEq, Bool.and_true, Bool.true_and, Bool.false_and, Bool.and_false, eSs_len, h1, Option.isSome_some, Bool.not_true, hl2]
    exact this
  | k + 1, i, h, hp => by
    have h12 := hl.len
    have h1 : (i : Int) < (l.length : Int) := by omega
    have h3 : (i : Int) < (xs.length : Int) := by omega
    have h0 : 0 ≤ (i : Int) := by omega
    have h18 := s18 (sat l i) (dat xs i)
    have hg : (enc xs)[((i : Nat) : Int).toNat]? = some [ti (dat xs i)] := by
      simp [enc, dat, List.getD_eq_getElem?_getD, show i < xs.length by omega]
    cases hh : has (sat l i) (dat xs i) with
    | false =>
      rw [hh] at h18
      refine orc_of ?_
      rw [e4n11]
      simp only [gd1, hd1, tl1, dr0, dr1, dr2, dr3, dr4, dr5, dr6, bo1, in1, st1, ls1, le1, pt1, fi1, fb1, fs1, ct1, cf1, nt1, nf1, ak0, akT, akF, cdec, cndec, cbeq, cnbeq, ↓reduceIte, beq_self_eq_true, Int.reduceBEq, Int.reduceEq, Bool.and_true, Bool.true_and, Bool.false_and, Bool.and_false, h1, h3, h0, and_self, eSs_len, enc_len, eSs_at (show i < l.length by omega), hg, h18, Bool.not_false]
    | true =>
      rw [hh] at h18
      have hr := hl.rng i
      have hd := wh_dat hw i
      unfold Wh at hd
      have hin : (sat l i).lo ≤ dat xs i ∧ dat xs i ≤ (sat l i).hi := by
        unfold has at hh
        simp only [Bool.and_eq_true, Bool.or_eq_true, decide_eq_true_eq, beq_iff_eq] at hh
        omega
      have := n4a l xs e e2 e3 o hx hl hw hk k (i + 1) (by omega) fun j hj => by
        rcases Nat.lt_or_ge j i with h' | h'
        · exact hp j h'
        · have : j = i := by omega
          subst this; exact hin
      refine orc_of ?_
      rw [e4n11]
      simp only [gd1, hd1, tl1, dr0, dr1, dr2, dr3, dr4, dr5, dr6, bo1, in1, st1, ls1, le1, pt1, fi1, fb1, fs1, ct1, cf1, nt1, nf1, ak0, akT, akF, cdec, cndec, cbeq, cnbeq, ↓reduceIte, beq_self_eq_true, Int.reduceBEq, Int.reduceEq, Bool.and_true, Bool.true_and, Bool.false_and, Bool.and_false, h1, h3, h0, and_self, eSs_len, enc_len, eSs_at (show i < l.length by omega), hg, h18, Bool.not_true, next i (by omega)]
      exact this
theorem law4 (rows : List R) (l : List S) (xs : List Int) (e e2 e3 : Bool) (hr : ∀ r ∈ rows, r.e = true → r.of = []) (he : e2 = true → l = []) (hb : xs.length ≤ 1048576) : Or (.call 4) [LR e rows, LS e2 l, lst e3 xs] [] = some [tb true] := by
  have h8 := s8x rows l e e2 hr he
  refine orc_of ?_
  rw [e4]
  by_cases hc : (chkA rows l).1 = 0
  · have ho := chkA_ok hr hc
    have hl12 := ho.val.len
    rw [if_pos hc] at h8
    obtain ⟨x8, f8, a8, b8⟩ := once_shape e2 (doF rows 200 l)
    rw [a8] at h8
    by_cases hlen : (xs.length : Int) = (l.length : Int)
    · rcases s16 xs e3 (by omega) with ⟨e', hw, h16⟩ | h16
      · have h17 : Or (.call 17) [LR e rows, LP e' xs] [] = some [tb (rows.all (holdB xs))] := by
          refine orc_of ?_
          rw [e17]
          exact n17 rows xs e e' (by omega) hw (by have := ho.len; omega) rows 0 rfl fun r hr => by
            have := ho.rows r hr
            rw [show xs.length = l.length from by omega]; exact this
        cases hh : rows.all (holdB xs) with
        | false =>
          rw [hh] at h17
          simp only [gd1, hd1, tl1, dr0, dr1, dr2, dr3, dr4, dr5, dr6, bo1, in1, st1, ls1, le1, pt1, fi1, fb1, fs1, ct1, cf1, nt1, nf1, ak0, akT, akF, cdec, cndec, cbeq, cnbeq, ↓reduceIte, beq_self_eq_true, Int.reduceBEq, Int.reduceEq, Bool.and_true, Bool.true_and, Bool.false_and, Bool.and_false, s9, h8, b8, Bool.not_true, Bool.not_false, enc_len, eSs_len, hlen, h16, h17]
        | true =>
          rw [hh] at h17
          have hold : ∀ r ∈ rows, Hold xs r := fun r hr => holdB_iff (ho.rows r hr).kd (by
            have := List.all_eq_true.1 hh r hr; exact this)
          have := n4a l xs e2 e3 f8 (doF rows 200 l) (by omega) ho.val hw (fun hi => do_keep hold ho hi) l.length 0 (by omega) (fun j hj => absurd hj (by omega))
          simp only [gd1, hd1, tl1, dr0, dr1, dr2, dr3, dr4, dr5, dr6, bo1, in1, st1, ls1, le1, pt1, fi1, fb1, fs1, ct1, cf1, nt1, nf1, ak0, akT, akF, cdec, cndec, cbeq, cnbeq, ↓reduceIte, beq_self_eq_true, Int.reduceBEq, Int.reduceEq, Bool.and_true, Bool.true_and, Bool.false_and, Bool.and_false, s9, h8, b8, Bool.not_true, Bool.not_false, enc_len, eSs_len, hlen, h16, h17]
          exact this
      · simp only [gd1, hd1, tl1, dr0, dr1, dr2, dr3, dr4, dr5, dr6, bo1, in1, st1, ls1, le1, pt1, fi1, fb1, fs1, ct1, cf1, nt1, nf1, ak0, akT, akF, cdec, cndec, cbeq, cnbeq, ↓reduceIte, beq_self_eq_true, Int.reduceBEq, Int.reduceEq, Bool.and_true, Bool.true_and, Bool.false_and, Bool.and_false, gdF, s9, h8, b8, Bool.not_true, Bool.not_false, enc_len, eSs_len, hlen, h16]
    · rcases s16 xs e3 hb with ⟨e', hw, h16⟩ | h16
      · simp only [gd1, hd1, tl1, dr0, dr1, dr2, dr3, dr4, dr5, dr6, bo1, in1, st1, ls1, le1, pt1, fi1, fb1, fs1, ct1, cf1, nt1, nf1, ak0, akT, akF, cdec, cndec, cbeq, cnbeq, ↓reduceIte, beq_self_eq_true, Int.reduceBEq, Int.reduceEq, Bool.and_true, Bool.true_and, Bool.false_and, Bool.and_false, gdF, s9, h8, b8, Bool.not_true, Bool.not_false, enc_len, eSs_len, hlen, h16]
      · simp only [gd1, hd1, tl1, dr0, dr1, dr2, dr3, dr4, dr5, dr6, bo1, in1, st1, ls1, le1, pt1, fi1, fb1, fs1, ct1, cf1, nt1, nf1, ak0, akT, akF, cdec, cndec, cbeq, cnbeq, ↓reduceIte, beq_self_eq_true, Int.reduceBEq, Int.reduceEq, Bool.and_true, Bool.true_and, Bool.false_and, Bool.and_false, gdF, s9, h8, b8, Bool.not_true, Bool.not_false, enc_len, eSs_len, hlen, h16]
  · rw [if_neg hc] at h8
    simp only [gd1, hd1, tl1, dr0, dr1, dr2, dr3, dr4, dr5, dr6, bo1, in1, st1, ls1, le1, pt1, fi1, fb1, fs1, ct1, cf1, nt1, nf1, ak0, akT, akF, cdec, cndec, cbeq, cnbeq, ↓reduceIte, beq_self_eq_true, Int.reduceBEq, Int.reduceEq, Bool.and_true, Bool.true_and, Bool.false_and, Bool.and_false, s9, h8, hc, Bool.not_true, List.length_nil]
    rfl
theorem cells35 : PROG.cellsOf 3 = 1 := by kernel_rfl
set_option maxRecDepth 1000000 in
theorem ints_arg {n : Nat} {a : AV} (h : (isAggT PROG 35 = true ∧ ∃ l, Wt PROG (n + 2) 35 l ∧ a = .agg (l.map .t)) ∨ (isAggT PROG 35 = false ∧ ∃ x, Wt PROG (n + 2) 35 [x] ∧ a = .t x)) : ∃ e l, a = lst e l := by
  obtain ⟨x, h1, rfl⟩ := arg_one h (by kernel_rfl)
  have hu := (Try.underlying35 : PROG.underlying 35 = _)
  obtain ⟨b, l, h2, _⟩ := wt_list (fun z : Int => [ti z]) hu h1 (fun cs hc => int_wt hc)
  rw [cells3] at h2
  simp only [List.cons.injEq, and_true] at h2
  subst h2
  exact ⟨b, l, rfl⟩
set_option maxRecDepth 1000000 in
theorem claim4 (vs : List AV) (h : ArgWt PROG (19 + 1) Try.f4.params.toList vs) (hs : ∀ (j : Nat) (t e : TypeId) (sz : Nat) (b : Bool) (xs : List (List T)), Try.f4.params.toList[j]? = some t → PROG.underlying t = some (.slice e) → vs[j]? = some (AV.t (T.lst sz b xs)) → xs.length ≤ 1048576) : Or (.call 4) vs [] = some [.bool true] := by
  rw [Try.params4] at h hs
  obtain ⟨a, _, rfl, h1, b, _, rfl, h2, c, _, rfl, h3, rfl⟩ := h
  obtain ⟨e, q, rfl, hq, _⟩ := rows_arg h1
  obtain ⟨e', r, rfl, he, _⟩ := spans_arg h2
  obtain ⟨e3, xs, rfl⟩ := ints_arg h3
  have := hs 2 35 _ 1 e3 (enc xs) rfl (Try.underlying35 : PROG.underlying 35 = _) rfl
  rw [enc_len] at this
  exact law4 q r xs e e' e3 hq he this
end Go.Aev.Gen
