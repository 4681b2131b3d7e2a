/-
  Out tells what its chapter says, faults too.
-/
import Derived.Test.YtobpninhnmmpeaaGreatZOutB
import Derived.Test.YtobpninhnmmpeaaGreatAevFrame
set_option linter.unusedSimpArgs false
set_option linter.unusedVariables false
namespace Go.Aev.Gen
open Go Go.Aev Go.Proofs

theorem chkI_ok : ∀ {l : List Int} {i : Nat}, (chkI l i).1 = 0 → ∀ x ∈ l, -1000000 ≤ x ∧ x ≤ 1000000
  | [], _, _, x, hx => by cases hx
  | y :: l, i, h, x, hx => by
    rw [chkI] at h
    split at h
    · rename_i hy
      rcases List.mem_cons.1 hx with rfl | hx
      · exact hy
      · exact chkI_ok h x hx
    · simp at h
theorem chkI_of : ∀ {l : List Int} {i : Nat}, (∀ x ∈ l, -1000000 ≤ x ∧ x ≤ 1000000) → (chkI l i).1 = 0
  | [], _, _ => rfl
  | y :: l, i, h => by
    rw [chkI, if_pos (h y List.mem_cons_self)]
    exact chkI_of (fun x hx => h x (List.mem_cons_of_mem _ hx))
theorem chkR_ok {n : Nat} {r : R} (he : r.e = true → r.of = []) (h : (chkR n r).1 = 0) : OkR n r := by
  unfold chkR at h
  split at h
  · simp at h
  · rename_i hk
    split at h
    · simp at h
    · have := chkI_ok h
      exact ⟨he, by omega, by omega, fun x hx => this x (List.mem_append_left _ hx), this r.tv (by simp)⟩
theorem chkR_12 {n : Nat} (hn : n ≤ 12) {r : R} (ok : OkR n r) : (chkR 12 r).1 = 0 := by
  unfold chkR
  have h1 := ok.kd
  have h2 := ok.len
  rw [if_neg (by omega), if_neg (by omega)]
  refine chkI_of fun x hx => ?_
  rcases List.mem_append.1 hx with hx | hx
  · exact ok.of x hx
  · rw [List.mem_singleton.1 hx]; exact ok.tv
theorem chkRs_ok {n : Nat} : ∀ {rows : List R} {i : Nat}, (∀ r ∈ rows, r.e = true → r.of = []) → (chkRs n rows i).1 = 0 → ∀ r ∈ rows, OkR n r
  | [], _, _, _, r, hr => by cases hr
  | q :: rows, i, he, h, r, hr => by
    rw [chkRs] at h
    split at h
    · rename_i hq
      rcases List.mem_cons.1 hr with rfl | hr
      · exact chkR_ok (he _ List.mem_cons_self) hq
      · exact chkRs_ok (fun r hr => he r (List.mem_cons_of_mem _ hr)) h r hr
    · rename_i hq; exact absurd h hq
def chkN (n : Int) (rows : List R) : Int × Int := if n < 0 ∨ n > 12 then (3, -1) else chkT n.toNat rows
def chkK (n k : Int) (rows : List R) : Int × Int := if (chkN n rows).1 = 0 then (if k < 0 ∨ k ≥ n then (3, -1) else (0, 0)) else chkN n rows
theorem s25n (rows : List R) (e : Bool) (n : Int) (hr : ∀ r ∈ rows, r.e = true → r.of = []) : Or (.call 42) [LR e rows, I n] [] = fl (chkN n rows) := by
  unfold chkN
  by_cases h : n < 0 ∨ n > 12
  · rw [if_pos h]
    refine orc_of ?_
    rw [e25]
    simp only [cor, ← Bool.decide_or]
    simp only [gd1, hd1, tl1, dr0, dr1, dr2, dr3, dr4, dr5, dr6, bo1, in1, st1, ls1, le1, pt1, fi1, fb1, fs1, ct1, cf1, nt1, nf1, ak0, akT, akF, cdec, cndec, cbeq, cnbeq, ↓reduceIte, beq_self_eq_true, Int.reduceBEq, Int.reduceEq, Bool.and_true, Bool.true_and, Bool.false_and, Bool.and_false, h]
  · rw [if_neg h]
    have := s25x rows n.toNat e (by omega) hr
    rw [Int.toNat_of_nonneg (by omega)] at this
    exact this
theorem s7n (rows : List R) (e : Bool) (n : Int) : Or (.call 7) [LR e rows, I n] [] = fl (chkN n rows) := by
  unfold chkN
  by_cases h : n < 0 ∨ n > 12
  · rw [if_pos h]
    refine orc_of ?_
    rw [e7]
    simp only [cor, ← Bool.decide_or]
    simp only [gd1, hd1, tl1, dr0, dr1, dr2, dr3, dr4, dr5, dr6, bo1, in1, st1, ls1, le1, pt1, fi1, fb1, fs1, ct1, cf1, nt1, nf1, ak0, akT, akF, cdec, cndec, cbeq, cnbeq, ↓reduceIte, beq_self_eq_true, Int.reduceBEq, Int.reduceEq, Bool.and_true, Bool.true_and, Bool.false_and, Bool.and_false, h, s8]
  · rw [if_neg h]
    have := s7x rows n.toNat e (by omega)
    rw [Int.toNat_of_nonneg (by omega)] at this
    exact this
theorem s15 (rows : List R) (e : Bool) (n k : Int) (hr : ∀ r ∈ rows, r.e = true → r.of = []) : Or (.call 15) [LR e rows, I n, I k] [] = fl (chkK n k rows) := by
  have h1 := s25n rows e n hr
  unfold chkK
  by_cases hc : (chkN n rows).1 = 0
  · rw [if_pos hc]
    by_cases hk : k < 0 ∨ k ≥ n
    · rw [if_pos hk]
      refine orc_of ?_
      rw [e15]
      simp only [cor, ← Bool.decide_or]
      simp only [gd1, hd1, tl1, dr0, dr1, dr2, dr3, dr4, dr5, dr6, bo1, in1, st1, ls1, le1, pt1, fi1, fb1, fs1, ct1, cf1, nt1, nf1, ak0, akT, akF, cdec, cndec, cbeq, cnbeq, ↓reduceIte, beq_self_eq_true, Int.reduceBEq, Int.reduceEq, Bool.and_true, Bool.true_and, Bool.false_and, Bool.and_false, h1, hc, hk]
    · rw [if_neg hk]
      refine orc_of ?_
      rw [e15]
      simp only [cor, ← Bool.decide_or]
      simp only [gd1, hd1, tl1, dr0, dr1, dr2, dr3, dr4, dr5, dr6, bo1, in1, st1, ls1, le1, pt1, fi1, fb1, fs1, ct1, cf1, nt1, nf1, ak0, akT, akF, cdec, cndec, cbeq, cnbeq, ↓reduceIte, beq_self_eq_true, Int.reduceBEq, Int.reduceEq, Bool.and_true, Bool.true_and, Bool.false_and, Bool.and_false, h1, hc, hk]
  · rw [if_neg hc]
    refine orc_of ?_
    rw [e15]
    simp only [gd1, hd1, tl1, dr0, dr1, dr2, dr3, dr4, dr5, dr6, bo1, in1, st1, ls1, le1, pt1, fi1, fb1, fs1, ct1, cf1, nt1, nf1, ak0, akT, akF, cdec, cndec, cbeq, cnbeq, ↓reduceIte, beq_self_eq_true, Int.reduceBEq, Int.reduceEq, Bool.and_true, Bool.true_and, Bool.false_and, Bool.and_false, h1, hc]
theorem chkN_ok {n : Int} {rows : List R} (hr : ∀ r ∈ rows, r.e = true → r.of = []) (h : (chkN n rows).1 = 0) : 0 ≤ n ∧ n ≤ 12 ∧ rows.length ≤ 40 ∧ ∀ r ∈ rows, OkR n.toNat r := by
  unfold chkN at h
  split at h
  · simp at h
  · unfold chkT at h
    split at h
    · simp at h
    · exact ⟨by omega, by omega, by omega, chkRs_ok hr h⟩
theorem s6a (rows : List R) (e : Bool) (n k : Int) (hr : ∀ r ∈ rows, r.e = true → r.of = []) (h : ¬ (chkK n k rows).1 = 0) : Or (.call 12) [LR e rows, I n, I k] [] = some [T.emp true, ti (chkK n k rows).1, ti (chkK n k rows).2] := by
  refine orc_of ?_
  rw [e6]
  simp only [gd1, hd1, tl1, dr0, dr1, dr2, dr3, dr4, dr5, dr6, bo1, in1, st1, ls1, le1, pt1, fi1, fb1, fs1, ct1, cf1, nt1, nf1, ak0, akT, akF, cdec, cndec, cbeq, cnbeq, ↓reduceIte, beq_self_eq_true, Int.reduceBEq, Int.reduceEq, Bool.and_true, Bool.true_and, Bool.false_and, Bool.and_false, s15 rows e n k hr, h]
theorem s6b (rows : List R) (e : Bool) (n k : Nat) (hn : n ≤ 12) (hk : k < n) (hr : ∀ r ∈ rows, OkR n r) (hl : rows.length ≤ 40) (h : (chkK n k rows).1 = 0) : AnsE (Or (.call 12) [LR e rows, I (n : Int), I (k : Int)] []) (awayF n k rows) := by
  have := n6 rows e n k hn hk hr (fun r h => chkR_12 hn (hr r h)) hl
  refine ansE_of ?_
  rw [e6]
  simp only [gd1, hd1, tl1, dr0, dr1, dr2, dr3, dr4, dr5, dr6, bo1, in1, st1, ls1, le1, pt1, fi1, fb1, fs1, ct1, cf1, nt1, nf1, ak0, akT, akF, cdec, cndec, cbeq, cnbeq, ↓reduceIte, beq_self_eq_true, Int.reduceBEq, Int.reduceEq, Bool.and_true, Bool.true_and, Bool.false_and, Bool.and_false, s15 rows e n k (fun r h => (hr r h).e), h, eRs_len]
  exact this
theorem divL_len (g : Int) (l : List Int) : (divL g l).length = l.length := by simp [divL]
/-! ### How long what is left is -/
theorem zip_len (f : Int → Int → Int) (x y : List Int) : (List.zipWith f x y).length ≤ x.length := by simp; omega
theorem cC_len {n k : Nat} {a b : Bn} (ha : a.of.length = n) : (cC a b k).1.length ≤ n := by
  show (divL _ (bz (cL a b k))).length ≤ n
  rw [divL_len]
  have := bz_len (cL a b k)
  have := zip_len (fun x y => cQ a b k * x + cP a b k * y) a.of b.of
  unfold cL at *
  omega
theorem inn_all {n k : Nat} {a : Bn} (ha : a.of.length = n) : ∀ (ls : List Bn) (acc : List C), (∀ c ∈ acc, c.1.length ≤ n) → ∀ c ∈ (innF k a ls acc).2, c.1.length ≤ n
  | [], acc, h => h
  | b :: ls, acc, h => by
    rw [innF]
    split
    · exact inn_all ha ls acc h
    · split
      · intro c hc; cases hc
      · split
        · intro c hc; cases hc
        · refine inn_all ha ls _ fun c hc => ?_
          rcases List.mem_append.1 hc with hc | hc
          · exact h c hc
          · rw [List.mem_singleton.1 hc]; exact cC_len ha
theorem out_all {n k : Nat} (ls : List Bn) : ∀ (hs : List Bn) (acc : List C), (∀ b ∈ hs, b.of.length = n) → (∀ c ∈ acc, c.1.length ≤ n) → ∀ c ∈ (outF k ls hs acc).2, c.1.length ≤ n
  | [], acc, _, h => h
  | a :: hs, acc, hh, h => by
    rw [outF]
    have := inn_all (k := k) (hh a List.mem_cons_self) ls acc h
    split
    · exact out_all ls hs _ (fun b hb => hh b (List.mem_cons_of_mem _ hb)) this
    · exact this
theorem out_len (k : Nat) (ls : List Bn) : ∀ (hs : List Bn) (acc : List C), acc.length ≤ 40 → (outF k ls hs acc).2.length ≤ 40
  | [], _, h => h
  | a :: hs, acc, h => by
    rw [outF]
    have := inn_len k a ls acc h
    split
    · exact out_len k ls hs _ this
    · exact this
theorem firsts_len (k : Nat) : ∀ rows : List R, (firsts k rows).length ≤ rows.length
  | [] => by simp [firsts]
  | r :: rs => by
    have := firsts_len k rs
    rw [firsts]
    split <;> simp <;> omega
theorem tidyF_len (of : List Int) (kd tv : Int) : (tidyF of kd tv).1.length ≤ of.length := by
  unfold tidyF
  split
  · simp
  · have := bz_len of; simpa using this
theorem firsts_all {n k : Nat} : ∀ rows : List R, (∀ r ∈ rows, OkR n r) → ∀ c ∈ firsts k rows, c.1.length ≤ n
  | [], _, c, hc => by cases hc
  | r :: rs, h, c, hc => by
    have ok := h r List.mem_cons_self
    have ih := firsts_all (k := k) rs (fun r hr => h r (List.mem_cons_of_mem _ hr))
    rw [firsts] at hc
    split at hc
    · rcases List.mem_cons.1 hc with rfl | hc
      · have := tidyF_len r.of r.kd r.tv
        have := ok.len
        show (tidyF r.of r.kd r.tv).1.length ≤ n
        omega
      · exact ih c hc
    · exact ih c hc
theorem away_all {n k : Nat} (hk : k < n) {rows : List R} (hr : ∀ r ∈ rows, OkR n r) : ∀ c ∈ (awayF n k rows).2, c.1.length ≤ n :=
  out_all _ _ _ (fun b hb => (up_ok hk rows 0 hr b hb).len) (firsts_all rows hr)
theorem away_len {n k : Nat} {rows : List R} (hl : rows.length ≤ 40) : (awayF n k rows).2.length ≤ 40 :=
  out_len _ _ _ _ (by have := firsts_len k rows; omega)
theorem out_nil : Or (.call 12) [AV.t (T.lst 3 true []), I (-1), I 0] [] = some [T.emp true, ti 3, ti (-1)] := by
  have := s6a [] true (-1) 0 (fun _ h => by cases h) (by decide)
  exact this
end Go.Aev.Gen
