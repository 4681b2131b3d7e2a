/-
  Out tells what its chapter says, faults too.
-/
import Derived.Test.YtobpninhnmmpeaaAROut
import Derived.Test.YtobpninhnmmpeaaAevFrame
set_option linter.unusedSimpArgs false
set_option linter.unusedVariables false
namespace Go.Aev.Gen
open Go Go.Aev Go.Proofs

theorem chkI_ok : ∀ {l : List Int} {i : Nat}, (chkI l i).1 = 0 → ∀ x ∈ l, -1000000 ≤ x ∧ x ≤ 1000000
  | [], _, _, x, hx => by cases hx
  | y :: l, i, h, x, hx => by
    rw [chkI] at h
    split at h
    · rename_i hy
      rcases List.mem_cons.1 hx with rfl | hx
      · exact hy
      · exact chkI_ok h x hx
    · simp at h
theorem chkI_of : ∀ {l : List Int} {i : Nat}, (∀ x ∈ l, -1000000 ≤ x ∧ x ≤ 1000000) → (chkI l i).1 = 0
  | [], _, _ => rfl
  | y :: l, i, h => by
    rw [chkI, if_pos (h y List.mem_cons_self)]
    exact chkI_of (fun x hx => h x (List.mem_cons_of_mem _ hx))
theorem chkR_ok {n : Nat} {r : R} (he : r.e = true → r.of = []) (h : (chkR n r).1 = 0) : OkR n r := by
  unfold chkR at h
  split at h
  · simp at h
  · rename_i hk
    split at h
    · simp at h
    · have := chkI_ok h
      exact ⟨he, by omega, by omega, fun x hx => this x (List.mem_append_left _ hx), this r.tv (by simp)⟩
theorem chkR_12 {n : Nat} (hn : n ≤ 12) {r : R} (ok : OkR n r) : (chkR 12 r).1 = 0 := by
  unfold chkR
  have h1 := ok.kd
  have h2 := ok.len
  rw [if_neg (by omega), if_neg (by omega)]
  refine chkI_of fun x hx => ?_
  rcases List.mem_append.1 hx with hx | hx
  · exact ok.of x hx
  · rw [List.mem_singleton.1 hx]; exact ok.tv
theorem chkRs_ok {n : Nat} : ∀ {rows : List R} {i : Nat}, (∀ r ∈ rows, r.e = true → r.of = []) → (chkRs n rows i).1 = 0 → ∀ r ∈ rows, OkR n r
  | [], _, _, _, r, hr => by cases hr
  | q :: rows, i, he, h, r, hr => by
    rw [chkRs] at h
    split at h
    · rename_i hq
      rcases List.mem_cons.1 hr with rfl | hr
      · exact chkR_ok (he _ List.mem_cons_self) hq
      · exact chkRs_ok (fun r hr => he r (List.mem_cons_of_mem _ hr)) h r hr
    · rename_i hq; exact absurd h hq
def chkN (n : Int) (rows : List R) : Int × Int := if n < 0 ∨ n > 12 then (3, -1) else chkT n.toNat rows
def chkK (n k : Int) (rows : List R) : Int × Int := if (chkN n rows).1 = 0 then (if k < 0 ∨ k ≥ n then (3, -1) else (0, 0)) else chkN n rows
theorem s25n (rows : List R) (e : Bool) (n : Int) (hr : ∀ r ∈ rows, r.e = true → r.of = []) : Or (.call 25) [LR e rows, I n] [] = fl (chkN n rows) := by
  unfold chkN
  by_cases h : n < 0 ∨ n > 12
  · rw [if_pos h]
    refine orc_of ?_
    rw [e25]
    simp only [cor, ← Bool.decide_or]
    simp only [gd1, hd1, tl1, dr0, dr1, dr2, dr3, dr4, dr5, dr6, bo1, in1, st1, ls1, le1, pt1, fi1, fb1, fs1, ct1, cf1, nt1, nf1, ak0, akT, akF, cdec, cndec, cbeq, cnbeq, ↓reduceIte, beq_self_eq_true, Int.reduceBEq, Int.reduceEq, Bool.and_true, Bool.true_and, Bool.false_and, Bool.and_false, h]
  · rw [if_neg h]
    have := s25x rows n.toNat e (by omega) hr
    rw [Int.toNat_of_nonneg (by omega)] at this
    exact this
theorem s7n (rows : List R) (e : Bool) (n : Int) : Or (.call 7) [LR e rows, I n] [] = fl (chkN n rows) := by
  unfold chkN
  by_cases h : n < 0 ∨ n > 12
  · rw [if_pos h]
    refine orc_of ?_
    rw [e7]
    simp only [cor, ← Bool.decide_or]
    simp only [gd1, hd1, tl1, dr0, dr1, dr2, dr3, dr4, dr5, dr6, bo1, in1, st1, ls1, le1, pt1, fi1, fb1, fs1, ct1, cf1, nt1, nf1, ak0, akT, akF, cdec, cndec, cbeq, cnbeq, ↓reduceIte, beq_self_eq_true, Int.reduceBEq, Int.reduceEq, Bool.and_true, Bool.true_and, Bool.false_and, Bool.and_false, h, s8]
  · rw [if_neg h]
    have := s7x rows n.toNat e (by omega)
    rw [Int.toNat_of_nonneg (by omega)] at this
    exact this
theorem s15 (rows : List R) (e : Bool) (n k : Int) (hr : ∀ r ∈ rows, r.e = true → r.of = []) : Or (.call 15) [LR e rows, I n, I k] [] = fl (chkK n k rows) := by
  have h1 := s25n rows e n hr
  unfold chkK
  by_cases hc : (chkN n rows).1 = 0
  · rw [if_pos hc]
    by_cases hk : k < 0 ∨ k ≥ n
    · rw [if_pos hk]
      refine orc_of ?_
      rw [e15]
      simp only [cor, ← Bool.decide_or]
      simp only [gd1, hd1, tl1, dr0, dr1, dr2, dr3, dr4, dr5, dr6, bo1, in1, st1, ls1, le1, pt1, fi1, fb1, fs1, ct1, cf1, nt1, nf1, ak0, akT, akF, cdec, cndec, cbeq, cnbeq, ↓reduceIte, beq_self_eq_true, Int.reduceBEq, Int.reduceEq, Bool.and_true, Bool.true_and, Bool.false_and, Bool.and_false, h1, hc, hk]
    · rw [if_neg hk]
      refine orc_of ?_
      rw [e15]
      simp only [cor, ← Bool.decide_or]
      simp only [gd1, hd1, tl1, dr0, dr1, dr2, dr3, dr4, dr5, dr6, bo1, in1, st1, ls1, le1, pt1, fi1, fb1, fs1, ct1, cf1, nt1, nf1, ak0, akT, akF, cdec, cndec, cbeq, cnbeq, ↓reduceIte, beq_self_eq_true, Int.reduceBEq, Int.reduceEq, Bool.and_true, Bool.true_and, Bool.false_and, Bool.and_false, h1, hc, hk]
  · rw [if_neg hc]
    refine orc_of ?_
    rw [e15]
    simp only [gd1, hd1, tl1, dr0, dr1, dr2, dr3, dr4, dr5, dr6, bo1, in1, st1, ls1, le1, pt1, fi1, fb1, fs1, ct1, cf1, nt1, nf1, ak0, akT, akF, cdec, cndec, cbeq, cnbeq, ↓reduceIte, beq_self_eq_true, Int.reduceBEq, Int.reduceEq, Bool.and_true, Bool.true_and, Bool.false_and, Bool.and_false, h1, hc]
theorem chkN_ok {n : Int} {rows : List R} (hr : ∀ r ∈ rows, r.e = true → r.of = []) (h : (chkN n rows).1 = 0) : 0 ≤ n ∧ n ≤ 12 ∧ rows.length ≤ 40 ∧ ∀ r ∈ rows, OkR n.toNat r := by
  unfold chkN at h
  split at h
  · simp at h
  · unfold chkT at h
    split at h
    · simp at h
    · exact ⟨by omega, by omega, by omega, chkRs_ok hr h⟩
theorem s6a (rows : List R) (e : Bool) (n k : Int) (hr : ∀ r ∈ rows, r.e = true → r.of = []) (h : ¬ (chkK n k rows).1 = 0) : Or (.call 6) [LR e rows, I n, I k] [] = some [T.emp true, ti (chkK n k rows).1, ti (chkK n k rows).2] := by
  refine orc_of ?_
  rw [e6]
  simp only [gd1, hd1, tl1, dr0, dr1, dr2, dr3, dr4, dr5, dr6, bo1, in1, st1, ls1, le1, pt1, fi1, fb1, fs1, ct1, cf1, nt1, nf1, ak0, akT, akF, cdec, cndec, cbeq, cnbeq, ↓reduceIte, beq_self_eq_true, Int.reduceBEq, Int.reduceEq, Bool.and_true, Bool.true_and, Bool.false_and, Bool.and_false, s15 rows e n k hr, h]
theorem s6b (rows : List R) (e : Bool) (n k : Nat) (hn : n ≤ 12) (hk : k < n) (hr : ∀ r ∈ rows, OkR n r) (hl : rows.length ≤ 40) (h : (chkK n k rows).1 = 0) : AnsE (Or (.call 6) [LR e rows, I (n : Int), I (k : Int)] []) (awayF n k rows) := by
  have := n6 rows e n k hn hk hr (fun r h => chkR_12 hn (hr r h)) hl
  refine ansE_of ?_
  rw [e6]
  simp only [gd1, hd1, tl1, dr0, dr1, dr2, dr3, dr4, dr5, dr6, bo1, in1, st1, ls1, le1, pt1, fi1, fb1, fs1, ct1, cf1, nt1, nf1, ak0, akT, akF, cdec, cndec, cbeq, cnbeq, ↓reduceIte, beq_self_eq_true, Int.reduceBEq, Int.reduceEq, Bool.and_true, Bool.true_and, Bool.false_and, Bool.and_false, s15 rows e n k (fun r h => (hr r h).e), h, eRs_len]
  exact this
theorem n49 (e e2 : Bool) (l m : List Int) (hlm : l = m) (hn : l.length ≤ 1000) : ∀ (rest : List Int) (i : Nat), l.drop i = rest → Or K49n4 [lst e l, lst e2 m, I (i : Int)] [] = some [tb true] := by
  subst hlm
  intro rest
  induction rest with
  | nil =>
    intro i h
    refine orc_of ?_
    rw [e49n4]
    have h1 : ¬ (i : Int) < (l.length : Int) := by have := at_end h; omega
    simp only [gd1, hd1, tl1, dr0, dr1, dr2, dr3, dr4, dr5, dr6, bo1, in1, st1, ls1, le1, pt1, fi1, fb1, fs1, ct1, cf1, nt1, nf1, ak0, akT, akF, cdec, cndec, cbeq, cnbeq, ↓reduceIte, beq_self_eq_true, Int.reduceBEq, Int.reduceEq, Bool.and_true, Bool.true_and, Bool.false_and, Bool.and_false, h1, enc_len]
  | cons x rest ih =>
    intro i h
    obtain ⟨g1, g2, g3⟩ := at_drop h
    have h1 : (i : Int) < (l.length : Int) := by omega
    have h0 : 0 ≤ (i : Int) := by omega
    refine orc_of ?_
    rw [e49n4]
    simp only [gd1, hd1, tl1, dr0, dr1, dr2, dr3, dr4, dr5, dr6, bo1, in1, st1, ls1, le1, pt1, fi1, fb1, fs1, ct1, cf1, nt1, nf1, ak0, akT, akF, cdec, cndec, cbeq, cnbeq, ↓reduceIte, beq_self_eq_true, Int.reduceBEq, Int.reduceEq, Bool.and_true, Bool.true_and, Bool.false_and, Bool.and_false, h1, h0, and_self, enc_len, enc_get g1, next i (by omega), ih (i + 1) g3]
theorem s49 (e e2 : Bool) (l : List Int) (hn : l.length ≤ 1000) : Or (.call 49) [lst e l, lst e2 l] [] = some [tb true] := by
  refine orc_of ?_
  rw [e49]
  simp only [gd1, hd1, tl1, dr0, dr1, dr2, dr3, dr4, dr5, dr6, bo1, in1, st1, ls1, le1, pt1, fi1, fb1, fs1, ct1, cf1, nt1, nf1, ak0, akT, akF, cdec, cndec, cbeq, cnbeq, ↓reduceIte, beq_self_eq_true, Int.reduceBEq, Int.reduceEq, Bool.and_true, Bool.true_and, Bool.false_and, Bool.and_false, enc_len]
  exact n49 e e2 l l rfl hn l 0 rfl
theorem s23 (a b : R) (h : toC a = toC b) (hn : a.of.length ≤ 1000) : Or (.call 23) [AV.agg [lst a.e a.of, I a.kd, I a.tv], AV.agg [lst b.e b.of, I b.kd, I b.tv]] [] = some [tb true] := by
  simp only [toC, Prod.mk.injEq] at h
  obtain ⟨h1, h2, h3⟩ := h
  refine orc_of ?_
  rw [e23]
  simp only [cand, h1, h2, h3]
  rw [h1] at hn
  simp only [gd1, hd1, tl1, dr0, dr1, dr2, dr3, dr4, dr5, dr6, bo1, in1, st1, ls1, le1, pt1, fi1, fb1, fs1, ct1, cf1, nt1, nf1, ak0, akT, akF, cdec, cndec, cbeq, cnbeq, ↓reduceIte, beq_self_eq_true, Int.reduceBEq, Int.reduceEq, Bool.and_true, Bool.true_and, Bool.false_and, Bool.and_false, s49 a.e b.e b.of hn]
theorem n10 (e e2 : Bool) (a b : List R) (h : a.map toC = b.map toC) (hn : a.length ≤ 1000) (hs : ∀ r ∈ a, r.of.length ≤ 1000) : ∀ (rest : List R) (i : Nat), a.drop i = rest → Or K10n4 [LR e a, LR e2 b, I (i : Int)] [] = some [tb true] := by
  have hlen : a.length = b.length := by
    have := congrArg List.length h
    simpa using this
  intro rest
  induction rest with
  | nil =>
    intro i h
    refine orc_of ?_
    rw [e10n4]
    have h1 : ¬ (i : Int) < (a.length : Int) := by have := at_end h; omega
    simp only [gd1, hd1, tl1, dr0, dr1, dr2, dr3, dr4, dr5, dr6, bo1, in1, st1, ls1, le1, pt1, fi1, fb1, fs1, ct1, cf1, nt1, nf1, ak0, akT, akF, cdec, cndec, cbeq, cnbeq, ↓reduceIte, beq_self_eq_true, Int.reduceBEq, Int.reduceEq, Bool.and_true, Bool.true_and, Bool.false_and, Bool.and_false, h1, eRs_len]
  | cons x rest ih =>
    intro i hd
    obtain ⟨g1, g2, g3⟩ := at_drop hd
    have h1 : (i : Int) < (a.length : Int) := by omega
    have h2 : (i : Int) < (b.length : Int) := by omega
    have h0 : 0 ≤ (i : Int) := by omega
    obtain ⟨y, hy⟩ : ∃ y, b[i]? = some y := ⟨_, List.getElem?_eq_getElem (by omega)⟩
    have hxy : toC x = toC y := by
      have e1 : (a.map toC)[i]? = some (toC x) := by rw [List.getElem?_map, g1]; rfl
      have e2 : (b.map toC)[i]? = some (toC y) := by rw [List.getElem?_map, hy]; rfl
      rw [h, e2] at e1
      simpa using e1.symm
    have k := s23 x y hxy (hs x (List.mem_of_getElem? g1))
    refine orc_of ?_
    rw [e10n4]
    simp only [gd1, hd1, tl1, dr0, dr1, dr2, dr3, dr4, dr5, dr6, bo1, in1, st1, ls1, le1, pt1, fi1, fb1, fs1, ct1, cf1, nt1, nf1, ak0, akT, akF, cdec, cndec, cbeq, cnbeq, ↓reduceIte, beq_self_eq_true, Int.reduceBEq, Int.reduceEq, Bool.and_true, Bool.true_and, Bool.false_and, Bool.and_false, h1, h2, h0, and_self, eRs_len, eRs_get g1, eRs_get hy, k, Bool.not_true, next i (by omega), ih (i + 1) g3]
theorem s10 (e e2 : Bool) (a b : List R) (h : a.map toC = b.map toC) (hn : a.length ≤ 1000) (hs : ∀ r ∈ a, r.of.length ≤ 1000) : Or (.call 10) [LR e a, LR e2 b] [] = some [tb true] := by
  have hlen : a.length = b.length := by
    have := congrArg List.length h
    simpa using this
  refine orc_of ?_
  rw [e10]
  simp only [gd1, hd1, tl1, dr0, dr1, dr2, dr3, dr4, dr5, dr6, bo1, in1, st1, ls1, le1, pt1, fi1, fb1, fs1, ct1, cf1, nt1, nf1, ak0, akT, akF, cdec, cndec, cbeq, cnbeq, ↓reduceIte, beq_self_eq_true, Int.reduceBEq, Int.reduceEq, Bool.and_true, Bool.true_and, Bool.false_and, Bool.and_false, eRs_len, hlen]
  exact n10 e e2 a b h hn hs a 0 rfl
/-! ### How long what is left is -/
theorem zip_len (f : Int → Int → Int) (x y : List Int) : (List.zipWith f x y).length ≤ x.length := by simp; omega
theorem cC_len {n k : Nat} {a b : Bn} (ha : a.of.length = n) : (cC a b k).1.length ≤ n := by
  show (divL _ (bz (cL a b k))).length ≤ n
  rw [divL_len]
  have := bz_len (cL a b k)
  have := zip_len (fun x y => cQ a b k * x + cP a b k * y) a.of b.of
  unfold cL at *
  omega
theorem inn_all {n k : Nat} {a : Bn} (ha : a.of.length = n) : ∀ (ls : List Bn) (acc : List C), (∀ c ∈ acc, c.1.length ≤ n) → ∀ c ∈ (innF k a ls acc).2, c.1.length ≤ n
  | [], acc, h => h
  | b :: ls, acc, h => by
    rw [innF]
    split
    · exact inn_all ha ls acc h
    · split
      · intro c hc; cases hc
      · split
        · intro c hc; cases hc
        · refine inn_all ha ls _ fun c hc => ?_
          rcases List.mem_append.1 hc with hc | hc
          · exact h c hc
          · rw [List.mem_singleton.1 hc]; exact cC_len ha
theorem out_all {n k : Nat} (ls : List Bn) : ∀ (hs : List Bn) (acc : List C), (∀ b ∈ hs, b.of.length = n) → (∀ c ∈ acc, c.1.length ≤ n) → ∀ c ∈ (outF k ls hs acc).2, c.1.length ≤ n
  | [], acc, _, h => h
  | a :: hs, acc, hh, h => by
    rw [outF]
    have := inn_all (k := k) (hh a List.mem_cons_self) ls acc h
    split
    · exact out_all ls hs _ (fun b hb => hh b (List.mem_cons_of_mem _ hb)) this
    · exact this
theorem out_len (k : Nat) (ls : List Bn) : ∀ (hs : List Bn) (acc : List C), acc.length ≤ 40 → (outF k ls hs acc).2.length ≤ 40
  | [], _, h => h
  | a :: hs, acc, h => by
    rw [outF]
    have := inn_len k a ls acc h
    split
    · exact out_len k ls hs _ this
    · exact this
theorem firsts_len (k : Nat) : ∀ rows : List R, (firsts k rows).length ≤ rows.length
  | [] => by simp [firsts]
  | r :: rs => by
    have := firsts_len k rs
    rw [firsts]
    split <;> simp <;> omega
theorem tidyF_len (of : List Int) (kd tv : Int) : (tidyF of kd tv).1.length ≤ of.length := by
  unfold tidyF
  split
  · simp
  · have := bz_len of; simpa using this
theorem firsts_all {n k : Nat} : ∀ rows : List R, (∀ r ∈ rows, OkR n r) → ∀ c ∈ firsts k rows, c.1.length ≤ n
  | [], _, c, hc => by cases hc
  | r :: rs, h, c, hc => by
    have ok := h r List.mem_cons_self
    have ih := firsts_all (k := k) rs (fun r hr => h r (List.mem_cons_of_mem _ hr))
    rw [firsts] at hc
    split at hc
    · rcases List.mem_cons.1 hc with rfl | hc
      · have := tidyF_len r.of r.kd r.tv
        have := ok.len
        show (tidyF r.of r.kd r.tv).1.length ≤ n
        omega
      · exact ih c hc
    · exact ih c hc
theorem away_all {n k : Nat} (hk : k < n) {rows : List R} (hr : ∀ r ∈ rows, OkR n r) : ∀ c ∈ (awayF n k rows).2, c.1.length ≤ n :=
  out_all _ _ _ (fun b hb => (up_ok hk rows 0 hr b hb).len) (firsts_all rows hr)
theorem away_len {n k : Nat} {rows : List R} (hl : rows.length ≤ 40) : (awayF n k rows).2.length ≤ 40 :=
  out_len _ _ _ _ (by have := firsts_len k rows; omega)
theorem out_nil : Or (.call 6) [AV.t (T.lst 3 true []), I (-1), I 0] [] = some [T.emp true, ti 3, ti (-1)] := by
  have := s6a [] true (-1) 0 (fun _ h => by cases h) (by decide)
  exact this
theorem law3 (rows : List R) (e : Bool) (n k : Int) (hr : ∀ r ∈ rows, r.e = true → r.of = []) : Or (.call 3) [LR e rows, I n, I k] [] = some [tb true] := by
  have h7 := s7n rows e n
  by_cases hc : (chkN n rows).1 = 0
  · obtain ⟨n0, n12, hl, ok⟩ := chkN_ok hr hc
    by_cases hk : k < 0 ∨ k ≥ n
    · have hK : chkK n k rows = (3, -1) := by unfold chkK; rw [if_pos hc, if_pos hk]
      have h6 := s6a rows e n k hr (by rw [hK]; decide)
      rw [hK] at h6
      refine orc_of ?_
      rw [e3]
      simp only [cor, cand, beq_dec, ← Bool.decide_or]
      simp only [gd1, hd1, tl1, dr0, dr1, dr2, dr3, dr4, dr5, dr6, bo1, in1, st1, ls1, le1, pt1, fi1, fb1, fs1, ct1, cf1, nt1, nf1, ak0, akT, akF, cdec, cndec, cbeq, cnbeq, ↓reduceIte, beq_self_eq_true, Int.reduceBEq, Int.reduceEq, Bool.and_true, Bool.true_and, Bool.false_and, Bool.and_false, h6, out_nil, h7, s8, hc, hk]
      rfl
    · have hK : (chkK n k rows).1 = 0 := by unfold chkK; rw [if_pos hc, if_neg hk]
      obtain ⟨n, rfl⟩ := Int.eq_ofNat_of_zero_le n0
      obtain ⟨k, rfl⟩ := Int.eq_ofNat_of_zero_le (show 0 ≤ k by omega)
      rw [Int.toNat_natCast] at ok
      have hkn : k < n := by omega
      obtain ⟨x, ex, rs, a1, a2, a3, a4⟩ := s6b rows e n k (by omega) hkn ok hl hK
      obtain ⟨y, ey, qs, b1, b2, b3⟩ := s9 rows e n k (by omega) hkn ok hl
      have hlen : rs.length ≤ 40 := by
        have := away_len (n := n) (k := k) hl
        rw [← a3, List.length_map] at this; exact this
      have hof : ∀ r ∈ rs, r.of.length ≤ 1000 := fun r hr => by
        have := away_all hkn ok (toC r) (by rw [← a3]; exact List.mem_map_of_mem hr)
        have : r.of.length ≤ n := this
        omega
      have h10 := s10 ex ey rs qs (by rw [a3, b3]) (by omega) hof
      refine orc_of ?_
      rw [e3]
      simp only [cor, cand, beq_dec, ← Bool.decide_or]
      simp only [gd1, hd1, tl1, dr0, dr1, dr2, dr3, dr4, dr5, dr6, bo1, in1, st1, ls1, le1, pt1, fi1, fb1, fs1, ct1, cf1, nt1, nf1, ak0, akT, akF, cdec, cndec, cbeq, cnbeq, ↓reduceIte, beq_self_eq_true, Int.reduceBEq, Int.reduceEq, Bool.and_true, Bool.true_and, Bool.false_and, Bool.and_false, a1, a2, b1, b2, out_nil, h7, s8, hc, hk, decide_true, h10]
      try rfl
  · have hK : chkK n k rows = chkN n rows := by unfold chkK; rw [if_neg hc]
    have h6 := s6a rows e n k hr (by rw [hK]; exact hc)
    rw [hK] at h6
    refine orc_of ?_
    rw [e3]
    have hb : ((chkN n rows).1 == 0) = false := by simpa using hc
    simp only [cor, cand]
    simp only [gd1, hd1, tl1, dr0, dr1, dr2, dr3, dr4, dr5, dr6, bo1, in1, st1, ls1, le1, pt1, fi1, fb1, fs1, ct1, cf1, nt1, nf1, ak0, akT, akF, cdec, cndec, cbeq, cnbeq, ↓reduceIte, beq_self_eq_true, Int.reduceBEq, Int.reduceEq, Bool.and_true, Bool.true_and, Bool.false_and, Bool.and_false, h6, out_nil, h7, s8, hb, hc]
    rfl
/-! ### Arguments -/
set_option maxRecDepth 1000000 in
theorem int_wt {n : Nat} {ts : List T} (h : Wt PROG (n + 1) 3 ts) : ∃ m : Int, ts = [ti m] := by
  have hu : PROG.underlying 3 = some (.int .i64) := Try.underlying3
  have h3 := @wt_int PROG n 3 ts .i64 hu h
  obtain ⟨m, h2, _⟩ := h3
  exact ⟨m, h2⟩
theorem cells3 : PROG.cellsOf 3 = 1 := by kernel_rfl
theorem cells35 : PROG.cellsOf 35 = 3 := by kernel_rfl
theorem bytes35 : PROG.bytesOf 35 = 40 := by kernel_rfl
set_option maxRecDepth 1000000 in
theorem row_wt {n : Nat} {ts : List T} (h : Wt PROG (n + 3) 35 ts) : ∃ j : { r : R // r.e = true → r.of = [] }, ts = eR j.1 := by
  have hu := (Try.underlying35 : PROG.underlying 35 = _)
  have h1 := wt_struct hu h
  obtain ⟨a, b, rfl, g1, c, d, rfl, g2, e, f, rfl, g3, rfl⟩ := h1
  have hu2 := (Try.underlying33 : PROG.underlying 33 = _)
  obtain ⟨b, l, h2, h4, _⟩ := wt_list (fun z : Int => [ti z]) hu2 g1 (fun cs hc => int_wt hc)
  rw [cells3] at h2
  subst h2
  obtain ⟨y, rfl⟩ := int_wt g2
  obtain ⟨z, rfl⟩ := int_wt g3
  exact ⟨⟨⟨b, l, y, z⟩, h4⟩, rfl⟩
set_option maxRecDepth 1000000 in
theorem rows_arg {n : Nat} {a : AV} (h : (isAggT PROG 22 = true ∧ ∃ l, Wt PROG (n + 4) 22 l ∧ a = .agg (l.map .t)) ∨ (isAggT PROG 22 = false ∧ ∃ x, Wt PROG (n + 4) 22 [x] ∧ a = .t x)) : ∃ e l, a = LR e l ∧ (∀ r ∈ l, r.e = true → r.of = []) ∧ l.length * 40 ≤ reachBytes := by
  obtain ⟨x, h1, rfl⟩ := arg_one h (by kernel_rfl)
  have hu := (Try.underlying22 : PROG.underlying 22 = _)
  obtain ⟨b, l, h2, _, _, h5⟩ := wt_listb (fun j : { r : R // r.e = true → r.of = [] } => eR j.1) hu h1 (fun cs hc => row_wt hc)
  rw [cells35] at h2
  rw [bytes35] at h5
  simp only [List.cons.injEq, and_true] at h2
  subst h2
  refine ⟨b, l.map (·.1), ?_, fun r hr => ?_, by simpa using h5⟩
  · simp only [LR, eRs, List.map_map]; rfl
  · obtain ⟨j, _, rfl⟩ := List.mem_map.1 hr
    exact j.2
set_option maxRecDepth 1000000 in
theorem int_arg {n : Nat} {a : AV} (h : (isAggT PROG 3 = true ∧ ∃ l, Wt PROG (n + 1) 3 l ∧ a = .agg (l.map .t)) ∨ (isAggT PROG 3 = false ∧ ∃ x, Wt PROG (n + 1) 3 [x] ∧ a = .t x)) : ∃ m, a = I m := by
  obtain ⟨x, h1, rfl⟩ := arg_one h (by kernel_rfl)
  obtain ⟨m, h2⟩ := int_wt h1
  simp only [List.cons.injEq, and_true] at h2
  subst h2
  exact ⟨m, rfl⟩
set_option maxRecDepth 1000000 in
theorem claim3 (vs : List AV) (h : ArgWt PROG (19 + 1) Try.f3.params.toList vs) : Or (.call 3) vs [] = some [.bool true] := by
  rw [Try.params3] at h
  obtain ⟨a, _, rfl, h1, b, _, rfl, h2, c, _, rfl, h3, rfl⟩ := h
  obtain ⟨e, q, rfl, hq, _⟩ := rows_arg h1
  obtain ⟨n, rfl⟩ := int_arg h2
  obtain ⟨k, rfl⟩ := int_arg h3
  exact law3 q e n k hq
end Go.Aev.Gen
