/-
  What is wrong with rows, exactly; the program's answers and the document's.
-/
import Derived.Test.YtobpninhnmmpeaaGreatZBase
set_option linter.unusedSimpArgs false
set_option linter.unusedVariables false
namespace Go.Aev.Gen
open Go Go.Aev

abbrev fl (p : Int × Int) : Option (List T) := some [ti p.1, ti p.2]
theorem s8 (a b : Int) : Or (.call 8) [I a, I b] [] = some [ti a, ti b] := orc_of (by rw [e8])
theorem s43 (a : Int) : Or (.call 57) [I a] [] = some [tb (decide (a ≤ 1000000 ∧ a ≥ -1000000))] := by
  refine orc_of ?_
  rw [e43]
  simp only [cand, ← Bool.decide_and]
theorem s74 (c : Int) : Or (.call 108) [I c] [] = some [tb (decide (c ≥ -1000000 ∧ c ≤ 1000000))] := by
  refine orc_of ?_
  rw [e74]
  simp only [cand, ← Bool.decide_and]
theorem s73e (l : List Int) (e : Bool) (he : e = true → l = []) (hl : l.length ≤ 1000) : ∃ x e', Or (.call 86) [lst e l] [] = some [x] ∧ x.lst? 1 = some (e', enc l) ∧ (e' = true → l = []) := by
  cases e with
  | true =>
    obtain rfl := he rfl
    exact ⟨T.emp true, true, orc_of (by rw [e73]; simp only [gd1, hd1, tl1, dr0, dr1, dr2, dr3, dr4, dr5, dr6, bo1, in1, st1, ls1, le1, pt1, fi1, fb1, fs1, ct1, cf1, nt1, nf1, ak0, akT, akF, cdec, cndec, cbeq, cnbeq, ↓reduceIte, beq_self_eq_true, Int.reduceBEq, Int.reduceEq, Bool.and_true, Bool.true_and, Bool.false_and, Bool.and_false]), by simp [T.lst?, enc], fun _ => rfl⟩
  | false =>
    refine ⟨T.lst 1 false (enc l), false, orc_of ?_, ls1 _ _ _, fun h => by cases h⟩
    have : small 8 (0 + l.length) = some () := small_ok (by omega)
    rw [e73]
    simp only [gd1, hd1, tl1, dr0, dr1, dr2, dr3, dr4, dr5, dr6, bo1, in1, st1, ls1, le1, pt1, fi1, fb1, fs1, ct1, cf1, nt1, nf1, ak0, akT, akF, cdec, cndec, cbeq, cnbeq, ↓reduceIte, beq_self_eq_true, Int.reduceBEq, Int.reduceEq, Bool.and_true, Bool.true_and, Bool.false_and, Bool.and_false, enc_len, this]
theorem s73 (l : List Int) (e : Bool) (he : e = true → l = []) (hl : l.length ≤ 1000) : ∃ x e', Or (.call 86) [lst e l] [] = some [x] ∧ x.lst? 1 = some (e', enc l) := by
  obtain ⟨x, e', a, b, _⟩ := s73e l e he hl
  exact ⟨x, e', a, b⟩
def chkI : List Int → Nat → Int × Int
  | [], _ => (0, 0)
  | x :: r, i => if x ≥ -1000000 ∧ x ≤ 1000000 then chkI r (i + 1) else (3, (i : Int))
def chkR (n : Nat) (r : R) : Int × Int :=
  if (¬ r.kd = 1 ∧ ¬ r.kd = 2) ∧ ¬ r.kd = 3 then (4, 0) else if r.of.length > n then (9, 0) else chkI (r.of ++ [r.tv]) 0
def chkRs (n : Nat) : List R → Nat → Int × Int
  | [], _ => (0, 0)
  | r :: rs, i => if (chkR n r).1 = 0 then chkRs n rs (i + 1) else ((chkR n r).1, (i : Int))
def chkT (n : Nat) (rows : List R) : Int × Int := if rows.length > 40 then (2, 0) else chkRs n rows 0
theorem n33x (xs : List Int) (e : Bool) (hn : xs.length ≤ 1000) : ∀ (rest : List Int) (i : Nat), xs.drop i = rest → Or K33n8 [r0, o1, I (xs.length : Int), I (i : Int)] [Blk.box [I 0, I 0], Blk.sl false 1 e (enc xs)] = fl (chkI rest i) := by
  intro rest
  induction rest with
  | nil =>
    intro i h
    refine orc_of ?_
    rw [e33n8]
    have h1 : ¬ (i : Int) < (xs.length : Int) := by have := at_end h; omega
    simp only [gd1, hd1, tl1, dr0, dr1, dr2, dr3, dr4, dr5, dr6, bo1, in1, st1, ls1, le1, pt1, fi1, fb1, fs1, ct1, cf1, nt1, nf1, ak0, akT, akF, cdec, cndec, cbeq, cnbeq, ↓reduceIte, beq_self_eq_true, Int.reduceBEq, Int.reduceEq, Bool.and_true, Bool.true_and, Bool.false_and, Bool.and_false, h1, chkI]
  | cons x rest ih =>
    intro i h
    obtain ⟨g1, g2, g3⟩ := at_drop h
    have h1 : (i : Int) < (xs.length : Int) := by omega
    have h0 : 0 ≤ (i : Int) := by omega
    refine orc_of ?_
    rw [e33n8, chkI]
    by_cases hb : x ≥ -1000000 ∧ x ≤ 1000000
    · simp only [gd1, hd1, tl1, dr0, dr1, dr2, dr3, dr4, dr5, dr6, bo1, in1, st1, ls1, le1, pt1, fi1, fb1, fs1, ct1, cf1, nt1, nf1, ak0, akT, akF, cdec, cndec, cbeq, cnbeq, ↓reduceIte, beq_self_eq_true, Int.reduceBEq, Int.reduceEq, Bool.and_true, Bool.true_and, Bool.false_and, Bool.and_false, h1, h0, and_self, enc_len, enc_get g1, s74, hb, decide_true, Bool.not_true, next i (by omega), ih (i + 1) g3]
    · simp only [gd1, hd1, tl1, dr0, dr1, dr2, dr3, dr4, dr5, dr6, bo1, in1, st1, ls1, le1, pt1, fi1, fb1, fs1, ct1, cf1, nt1, nf1, ak0, akT, akF, cdec, cndec, cbeq, cnbeq, ↓reduceIte, beq_self_eq_true, Int.reduceBEq, Int.reduceEq, Bool.and_true, Bool.true_and, Bool.false_and, Bool.and_false, h1, h0, and_self, enc_len, enc_get g1, s74, hb, decide_false, Bool.not_false]
theorem s33x (r : R) (n : Nat) (hn : n ≤ 12) (he : r.e = true → r.of = []) : Or (.call 78) [AV.agg [lst r.e r.of, I r.kd, I r.tv], I (n : Int)] [] = fl (chkR n r) := by
  have h1 : ¬ ((n : Int) < 0 ∨ (n : Int) > 12) := by omega
  refine orc_of ?_
  rw [e33]
  unfold chkR
  by_cases hk : (¬ r.kd = 1 ∧ ¬ r.kd = 2) ∧ ¬ r.kd = 3
  · simp only [cor, cand, beq_dec, ← decide_not, ← Bool.decide_or, ← Bool.decide_and]
    simp only [gd1, hd1, tl1, dr0, dr1, dr2, dr3, dr4, dr5, dr6, bo1, in1, st1, ls1, le1, pt1, fi1, fb1, fs1, ct1, cf1, nt1, nf1, ak0, akT, akF, cdec, cndec, cbeq, cnbeq, ↓reduceIte, beq_self_eq_true, Int.reduceBEq, Int.reduceEq, Bool.and_true, Bool.true_and, Bool.false_and, Bool.and_false, h1, hk, not_false_eq_true, and_self]
  · rw [if_neg hk]
    by_cases hl : (r.of.length : Int) > (n : Int)
    · rw [if_pos (by omega)]
      simp only [cor, cand, beq_dec, ← decide_not, ← Bool.decide_or, ← Bool.decide_and]
      simp only [gd1, hd1, tl1, dr0, dr1, dr2, dr3, dr4, dr5, dr6, bo1, in1, st1, ls1, le1, pt1, fi1, fb1, fs1, ct1, cf1, nt1, nf1, ak0, akT, akF, cdec, cndec, cbeq, cnbeq, ↓reduceIte, beq_self_eq_true, Int.reduceBEq, Int.reduceEq, Bool.and_true, Bool.true_and, Bool.false_and, Bool.and_false, h1, hk, enc_len, hl]
    · rw [if_neg (by omega)]
      obtain ⟨x, e', k1, k2⟩ := s73 r.of r.e he (by omega)
      have k3 := n33x (r.of ++ [r.tv]) (e' && false) (by simp; omega) (r.of ++ [r.tv]) 0 rfl
      have hap : enc r.of ++ [[ti r.tv]] = enc (r.of ++ [r.tv]) := by simp [enc]
      have hs : small 8 (r.of.length + [[ti r.tv]].length) = some () := small_ok (by simp; omega)
      simp only [Bool.and_false] at k3
      simp only [cor, cand, beq_dec, ← decide_not, ← Bool.decide_or, ← Bool.decide_and]
      simp only [gd1, hd1, tl1, dr0, dr1, dr2, dr3, dr4, dr5, dr6, bo1, in1, st1, ls1, le1, pt1, fi1, fb1, fs1, ct1, cf1, nt1, nf1, ak0, akT, akF, cdec, cndec, cbeq, cnbeq, ↓reduceIte, beq_self_eq_true, Int.reduceBEq, Int.reduceEq, Bool.and_true, Bool.true_and, Bool.false_and, Bool.and_false, h1, hk, enc_len, hl, k1, k2, hs, hap]
      exact k3
theorem n19x (of : List Int) (e : Bool) (kd tv : Int) (hn : of.length ≤ 1000) : ∀ (rest : List Int) (i : Nat), of.drop i = rest → i ≤ of.length → Or K19n8 [r0, AV.ref (Id.c 1) 0, I (i : Int)] [Blk.box [lst e of, I kd, I tv], Blk.box [I 0, I 0]] = fl (chkI (rest ++ [tv]) i) := by
  intro rest
  induction rest with
  | nil =>
    intro i h hi
    have hle := at_end h
    obtain rfl : i = of.length := by omega
    have h1 : ¬ (of.length : Int) < (of.length : Int) := by omega
    refine orc_of ?_
    rw [e19n8]
    simp only [List.nil_append, chkI]
    by_cases ha : tv ≤ 1000000 ∧ tv ≥ -1000000
    · have hx : tv ≥ -1000000 ∧ tv ≤ 1000000 := by omega
      simp only [gd1, hd1, tl1, dr0, dr1, dr2, dr3, dr4, dr5, dr6, bo1, in1, st1, ls1, le1, pt1, fi1, fb1, fs1, ct1, cf1, nt1, nf1, ak0, akT, akF, cdec, cndec, cbeq, cnbeq, ↓reduceIte, beq_self_eq_true, Int.reduceBEq, Int.reduceEq, Bool.and_true, Bool.true_and, Bool.false_and, Bool.and_false, enc_len, h1, s43, ha, hx, and_self, decide_true]
    · have hx : ¬ (tv ≥ -1000000 ∧ tv ≤ 1000000) := by omega
      simp only [gd1, hd1, tl1, dr0, dr1, dr2, dr3, dr4, dr5, dr6, bo1, in1, st1, ls1, le1, pt1, fi1, fb1, fs1, ct1, cf1, nt1, nf1, ak0, akT, akF, cdec, cndec, cbeq, cnbeq, ↓reduceIte, beq_self_eq_true, Int.reduceBEq, Int.reduceEq, Bool.and_true, Bool.true_and, Bool.false_and, Bool.and_false, enc_len, h1, s43, ha, hx, decide_false, s8]
  | cons x rest ih =>
    intro i h hi
    obtain ⟨g1, g2, g3⟩ := at_drop h
    have h1 : (i : Int) < (of.length : Int) := by omega
    have h0 : 0 ≤ (i : Int) := by omega
    refine orc_of ?_
    rw [e19n8, List.cons_append, chkI]
    by_cases ha : x ≤ 1000000 ∧ x ≥ -1000000
    · have hx : x ≥ -1000000 ∧ x ≤ 1000000 := by omega
      simp only [gd1, hd1, tl1, dr0, dr1, dr2, dr3, dr4, dr5, dr6, bo1, in1, st1, ls1, le1, pt1, fi1, fb1, fs1, ct1, cf1, nt1, nf1, ak0, akT, akF, cdec, cndec, cbeq, cnbeq, ↓reduceIte, beq_self_eq_true, Int.reduceBEq, Int.reduceEq, Bool.and_true, Bool.true_and, Bool.false_and, Bool.and_false, h1, h0, and_self, enc_len, enc_get g1, s43, ha, hx, decide_true, next i (by omega), ih (i + 1) g3 (by omega)]
    · have hx : ¬ (x ≥ -1000000 ∧ x ≤ 1000000) := by omega
      simp only [gd1, hd1, tl1, dr0, dr1, dr2, dr3, dr4, dr5, dr6, bo1, in1, st1, ls1, le1, pt1, fi1, fb1, fs1, ct1, cf1, nt1, nf1, ak0, akT, akF, cdec, cndec, cbeq, cnbeq, ↓reduceIte, beq_self_eq_true, Int.reduceBEq, Int.reduceEq, Bool.and_true, Bool.true_and, Bool.false_and, Bool.and_false, h1, h0, and_self, enc_len, enc_get g1, s43, ha, hx, decide_false, s8]
theorem s19x (r : R) (n : Nat) (hn : n ≤ 12) : Or (.call 25) [AV.agg [lst r.e r.of, I r.kd, I r.tv], I (n : Int)] [] = fl (chkR n r) := by
  have h1 : ¬ ((n : Int) < 0 ∨ (n : Int) > 12) := by omega
  refine orc_of ?_
  rw [e19]
  unfold chkR
  by_cases hk : (¬ r.kd = 1 ∧ ¬ r.kd = 2) ∧ ¬ r.kd = 3
  · simp only [cor, cand, beq_dec, ← decide_not, ← Bool.decide_or, ← Bool.decide_and]
    simp only [gd1, hd1, tl1, dr0, dr1, dr2, dr3, dr4, dr5, dr6, bo1, in1, st1, ls1, le1, pt1, fi1, fb1, fs1, ct1, cf1, nt1, nf1, ak0, akT, akF, cdec, cndec, cbeq, cnbeq, ↓reduceIte, beq_self_eq_true, Int.reduceBEq, Int.reduceEq, Bool.and_true, Bool.true_and, Bool.false_and, Bool.and_false, h1, hk, not_false_eq_true, and_self, s8]
  · rw [if_neg hk]
    by_cases hl : (r.of.length : Int) > (n : Int)
    · rw [if_pos (by omega)]
      simp only [cor, cand, beq_dec, ← decide_not, ← Bool.decide_or, ← Bool.decide_and]
      simp only [gd1, hd1, tl1, dr0, dr1, dr2, dr3, dr4, dr5, dr6, bo1, in1, st1, ls1, le1, pt1, fi1, fb1, fs1, ct1, cf1, nt1, nf1, ak0, akT, akF, cdec, cndec, cbeq, cnbeq, ↓reduceIte, beq_self_eq_true, Int.reduceBEq, Int.reduceEq, Bool.and_true, Bool.true_and, Bool.false_and, Bool.and_false, h1, hk, enc_len, hl, s8]
    · rw [if_neg (by omega)]
      have k3 := n19x r.of r.e r.kd r.tv (by omega) r.of 0 rfl (by omega)
      simp only [cor, cand, beq_dec, ← decide_not, ← Bool.decide_or, ← Bool.decide_and]
      simp only [gd1, hd1, tl1, dr0, dr1, dr2, dr3, dr4, dr5, dr6, bo1, in1, st1, ls1, le1, pt1, fi1, fb1, fs1, ct1, cf1, nt1, nf1, ak0, akT, akF, cdec, cndec, cbeq, cnbeq, ↓reduceIte, beq_self_eq_true, Int.reduceBEq, Int.reduceEq, Bool.and_true, Bool.true_and, Bool.false_and, Bool.and_false, h1, hk, enc_len, hl]
      exact k3
theorem n25x (rows : List R) (n : Nat) (e : Bool) (hn : n ≤ 12) (hr : ∀ r ∈ rows, r.e = true → r.of = []) (hlen : rows.length ≤ 1000) : ∀ (rest : List R) (i : Nat), rows.drop i = rest →
    Or K25n6 [I (n : Int), r0, LR e rows, I (rows.length : Int), I (i : Int)] [Blk.box [I 0, I 0]] = fl (chkRs n rest i) := by
  intro rest
  induction rest with
  | nil =>
    intro i h
    refine orc_of ?_
    rw [e25n6]
    have h1 : ¬ (i : Int) < (rows.length : Int) := by have := at_end h; omega
    simp only [gd1, hd1, tl1, dr0, dr1, dr2, dr3, dr4, dr5, dr6, bo1, in1, st1, ls1, le1, pt1, fi1, fb1, fs1, ct1, cf1, nt1, nf1, ak0, akT, akF, cdec, cndec, cbeq, cnbeq, ↓reduceIte, beq_self_eq_true, Int.reduceBEq, Int.reduceEq, Bool.and_true, Bool.true_and, Bool.false_and, Bool.and_false, h1, chkRs]
  | cons r rest ih =>
    intro i h
    obtain ⟨g1, g2, g3⟩ := at_drop h
    have h1 : (i : Int) < (rows.length : Int) := by omega
    have h0 : 0 ≤ (i : Int) := by omega
    have k1 := s33x r n hn (hr r (List.mem_of_getElem? g1))
    refine orc_of ?_
    rw [e25n6, chkRs]
    by_cases hc : (chkR n r).1 = 0
    · rw [if_pos hc]
      simp only [gd1, hd1, tl1, dr0, dr1, dr2, dr3, dr4, dr5, dr6, bo1, in1, st1, ls1, le1, pt1, fi1, fb1, fs1, ct1, cf1, nt1, nf1, ak0, akT, akF, cdec, cndec, cbeq, cnbeq, ↓reduceIte, beq_self_eq_true, Int.reduceBEq, Int.reduceEq, Bool.and_true, Bool.true_and, Bool.false_and, Bool.and_false, h1, h0, and_self, eRs_len, eRs_get g1, k1, hc, next i (by omega), ih (i + 1) g3]
    · rw [if_neg hc]
      simp only [gd1, hd1, tl1, dr0, dr1, dr2, dr3, dr4, dr5, dr6, bo1, in1, st1, ls1, le1, pt1, fi1, fb1, fs1, ct1, cf1, nt1, nf1, ak0, akT, akF, cdec, cndec, cbeq, cnbeq, ↓reduceIte, beq_self_eq_true, Int.reduceBEq, Int.reduceEq, Bool.and_true, Bool.true_and, Bool.false_and, Bool.and_false, h1, h0, and_self, eRs_len, eRs_get g1, k1, hc]
theorem n7x (rows : List R) (n : Nat) (e : Bool) (hn : n ≤ 12) (hlen : rows.length ≤ 1000) : ∀ (rest : List R) (i : Nat), rows.drop i = rest →
    Or K7n6 [LR e rows, I (n : Int), r0, I (i : Int)] [Blk.box [I 0, I 0]] = fl (chkRs n rest i) := by
  intro rest
  induction rest with
  | nil =>
    intro i h
    refine orc_of ?_
    rw [e7n6]
    have h1 : ¬ (i : Int) < (rows.length : Int) := by have := at_end h; omega
    simp only [gd1, hd1, tl1, dr0, dr1, dr2, dr3, dr4, dr5, dr6, bo1, in1, st1, ls1, le1, pt1, fi1, fb1, fs1, ct1, cf1, nt1, nf1, ak0, akT, akF, cdec, cndec, cbeq, cnbeq, ↓reduceIte, beq_self_eq_true, Int.reduceBEq, Int.reduceEq, Bool.and_true, Bool.true_and, Bool.false_and, Bool.and_false, eRs_len, h1, chkRs]
  | cons r rest ih =>
    intro i h
    obtain ⟨g1, g2, g3⟩ := at_drop h
    have h1 : (i : Int) < (rows.length : Int) := by omega
    have h0 : 0 ≤ (i : Int) := by omega
    have k1 := s19x r n hn
    refine orc_of ?_
    rw [e7n6, chkRs]
    by_cases hc : (chkR n r).1 = 0
    · rw [if_pos hc]
      simp only [gd1, hd1, tl1, dr0, dr1, dr2, dr3, dr4, dr5, dr6, bo1, in1, st1, ls1, le1, pt1, fi1, fb1, fs1, ct1, cf1, nt1, nf1, ak0, akT, akF, cdec, cndec, cbeq, cnbeq, ↓reduceIte, beq_self_eq_true, Int.reduceBEq, Int.reduceEq, Bool.and_true, Bool.true_and, Bool.false_and, Bool.and_false, h1, h0, and_self, eRs_len, eRs_get g1, k1, hc, next i (by omega), ih (i + 1) g3]
    · rw [if_neg hc]
      simp only [gd1, hd1, tl1, dr0, dr1, dr2, dr3, dr4, dr5, dr6, bo1, in1, st1, ls1, le1, pt1, fi1, fb1, fs1, ct1, cf1, nt1, nf1, ak0, akT, akF, cdec, cndec, cbeq, cnbeq, ↓reduceIte, beq_self_eq_true, Int.reduceBEq, Int.reduceEq, Bool.and_true, Bool.true_and, Bool.false_and, Bool.and_false, h1, h0, and_self, eRs_len, eRs_get g1, k1, hc, s8]
theorem s25x (rows : List R) (n : Nat) (e : Bool) (hn : n ≤ 12) (hr : ∀ r ∈ rows, r.e = true → r.of = []) : Or (.call 42) [LR e rows, I (n : Int)] [] = fl (chkT n rows) := by
  have h1 : ¬ ((n : Int) < 0 ∨ (n : Int) > 12) := by omega
  refine orc_of ?_
  rw [e25]
  unfold chkT
  simp only [cor, ← Bool.decide_or]
  by_cases h40 : (rows.length : Int) > 40
  · rw [if_pos (by omega)]
    simp only [gd1, hd1, tl1, dr0, dr1, dr2, dr3, dr4, dr5, dr6, bo1, in1, st1, ls1, le1, pt1, fi1, fb1, fs1, ct1, cf1, nt1, nf1, ak0, akT, akF, cdec, cndec, cbeq, cnbeq, ↓reduceIte, beq_self_eq_true, Int.reduceBEq, Int.reduceEq, Bool.and_true, Bool.true_and, Bool.false_and, Bool.and_false, h1, eRs_len, h40]
  · rw [if_neg (by omega)]
    simp only [gd1, hd1, tl1, dr0, dr1, dr2, dr3, dr4, dr5, dr6, bo1, in1, st1, ls1, le1, pt1, fi1, fb1, fs1, ct1, cf1, nt1, nf1, ak0, akT, akF, cdec, cndec, cbeq, cnbeq, ↓reduceIte, beq_self_eq_true, Int.reduceBEq, Int.reduceEq, Bool.and_true, Bool.true_and, Bool.false_and, Bool.and_false, h1, eRs_len, h40]
    exact n25x rows n e hn hr (by omega) rows 0 rfl
theorem s7x (rows : List R) (n : Nat) (e : Bool) (hn : n ≤ 12) : Or (.call 7) [LR e rows, I (n : Int)] [] = fl (chkT n rows) := by
  have h1 : ¬ ((n : Int) < 0 ∨ (n : Int) > 12) := by omega
  refine orc_of ?_
  rw [e7]
  unfold chkT
  simp only [cor, ← Bool.decide_or]
  by_cases h40 : (rows.length : Int) > 40
  · rw [if_pos (by omega)]
    simp only [gd1, hd1, tl1, dr0, dr1, dr2, dr3, dr4, dr5, dr6, bo1, in1, st1, ls1, le1, pt1, fi1, fb1, fs1, ct1, cf1, nt1, nf1, ak0, akT, akF, cdec, cndec, cbeq, cnbeq, ↓reduceIte, beq_self_eq_true, Int.reduceBEq, Int.reduceEq, Bool.and_true, Bool.true_and, Bool.false_and, Bool.and_false, h1, eRs_len, h40, s8]
  · rw [if_neg (by omega)]
    simp only [gd1, hd1, tl1, dr0, dr1, dr2, dr3, dr4, dr5, dr6, bo1, in1, st1, ls1, le1, pt1, fi1, fb1, fs1, ct1, cf1, nt1, nf1, ak0, akT, akF, cdec, cndec, cbeq, cnbeq, ↓reduceIte, beq_self_eq_true, Int.reduceBEq, Int.reduceEq, Bool.and_true, Bool.true_and, Bool.false_and, Bool.and_false, h1, eRs_len, h40]
    exact n7x rows n e hn (by omega) rows 0 rfl
end Go.Aev.Gen
