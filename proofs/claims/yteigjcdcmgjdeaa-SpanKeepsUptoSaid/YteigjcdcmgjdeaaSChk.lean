/-
  What is wrong with rows and spans, exactly; the program's answers and the document's.
-/
import Derived.Test.YteigjcdcmgjdeaaSPass
import Derived.Test.YteigjcdcmgjdeaaSLaws
set_option linter.unusedSimpArgs false
set_option linter.unusedVariables false
namespace Go.Aev.Gen
open Go Go.Aev Go.Proofs

def chkL : List S → Nat → Int × Int
  | [], _ => (0, 0)
  | s :: r, i => if ((s.lo < -1000000 ∨ s.lo > 1000000) ∨ s.hi < -1000000) ∨ s.hi > 1000000 then (3, (i : Int)) else if s.lo > s.hi then (5, (i : Int)) else chkL r (i + 1)
def chkS (l : List S) : Int × Int := if l.length > 12 then (2, 0) else chkL l 0
abbrev fl (p : Int × Int) : Option (List T) := some [ti p.1, ti p.2]
theorem n10x (l : List S) (e : Bool) (hn : l.length ≤ 1000) : ∀ (rest : List S) (i : Nat), l.drop i = rest → Or K10n4 [r0, LS e l, I (l.length : Int), I (i : Int)] [Blk.box [I 0, I 0]] = fl (chkL rest i) := by
  intro rest
  induction rest with
  | nil =>
    intro i h
    refine orc_of ?_
    rw [e10n4]
    have h1 : ¬ (i : Int) < (l.length : Int) := by have := at_end h; omega
    simp only [gd1, hd1, tl1, dr0, dr1, dr2, dr3, dr4, dr5, dr6, bo1, in1, st1, ls1, le1, pt1, fi1, fb1, fs1, ct1, cf1, nt1, nf1, ak0, akT, akF, cdec, cndec, cbeq, cnbeq, ↓reduceIte, beq_self_eq_true, Int.reduceBEq, Int.reduceEq, Bool.and_true, Bool.true_and, Bool.false_and, Bool.and_false, h1, chkL]
  | cons s rest ih =>
    intro i h
    obtain ⟨g1, g2, g3⟩ := at_drop h
    have h1 : (i : Int) < (l.length : Int) := by omega
    have h0 : 0 ≤ (i : Int) := by omega
    have hs : sat l i = s := by simp [sat, List.getD_eq_getElem?_getD, g1]
    have hg := eSs_at g2
    rw [hs] at hg
    refine orc_of ?_
    rw [e10n4, chkL]
    by_cases hb : (((s.lo < -1000000 ∨ s.lo > 1000000) ∨ s.hi < -1000000) ∨ s.hi > 1000000)
    · simp only [cor, ← Bool.decide_or]
      simp only [gd1, hd1, tl1, dr0, dr1, dr2, dr3, dr4, dr5, dr6, bo1, in1, st1, ls1, le1, pt1, fi1, fb1, fs1, ct1, cf1, nt1, nf1, ak0, akT, akF, cdec, cndec, cbeq, cnbeq, ↓reduceIte, beq_self_eq_true, Int.reduceBEq, Int.reduceEq, Bool.and_true, Bool.true_and, Bool.false_and, Bool.and_false, h1, h0, and_self, eSs_len, hg, hb]
    · by_cases hc : s.lo > s.hi
      · simp only [cor, ← Bool.decide_or]
        simp only [gd1, hd1, tl1, dr0, dr1, dr2, dr3, dr4, dr5, dr6, bo1, in1, st1, ls1, le1, pt1, fi1, fb1, fs1, ct1, cf1, nt1, nf1, ak0, akT, akF, cdec, cndec, cbeq, cnbeq, ↓reduceIte, beq_self_eq_true, Int.reduceBEq, Int.reduceEq, Bool.and_true, Bool.true_and, Bool.false_and, Bool.and_false, h1, h0, and_self, eSs_len, hg, hb, hc]
      · simp only [cor, ← Bool.decide_or]
        simp only [gd1, hd1, tl1, dr0, dr1, dr2, dr3, dr4, dr5, dr6, bo1, in1, st1, ls1, le1, pt1, fi1, fb1, fs1, ct1, cf1, nt1, nf1, ak0, akT, akF, cdec, cndec, cbeq, cnbeq, ↓reduceIte, beq_self_eq_true, Int.reduceBEq, Int.reduceEq, Bool.and_true, Bool.true_and, Bool.false_and, Bool.and_false, h1, h0, and_self, eSs_len, hg, hb, hc, next i (by omega), ih (i + 1) g3]
theorem s10x (l : List S) (e : Bool) : Or (.call 10) [LS e l] [] = fl (chkS l) := by
  refine orc_of ?_
  rw [e10]
  unfold chkS
  by_cases hl : (l.length : Int) > 12
  · rw [if_pos (by omega)]
    simp only [gd1, hd1, tl1, dr0, dr1, dr2, dr3, dr4, dr5, dr6, bo1, in1, st1, ls1, le1, pt1, fi1, fb1, fs1, ct1, cf1, nt1, nf1, ak0, akT, akF, cdec, cndec, cbeq, cnbeq, ↓reduceIte, beq_self_eq_true, Int.reduceBEq, Int.reduceEq, Bool.and_true, Bool.true_and, Bool.false_and, Bool.and_false, eSs_len, hl]
  · rw [if_neg (by omega)]
    simp only [gd1, hd1, tl1, dr0, dr1, dr2, dr3, dr4, dr5, dr6, bo1, in1, st1, ls1, le1, pt1, fi1, fb1, fs1, ct1, cf1, nt1, nf1, ak0, akT, akF, cdec, cndec, cbeq, cnbeq, ↓reduceIte, beq_self_eq_true, Int.reduceBEq, Int.reduceEq, Bool.and_true, Bool.true_and, Bool.false_and, Bool.and_false, eSs_len, hl]
    exact n10x l e (by omega) l 0 rfl
theorem s24 (a b : Int) : Or (.call 24) [I a, I b] [] = some [ti a, ti b] := orc_of (by rw [e24])
theorem s25 (a : Int) : Or (.call 25) [I a] [] = some [tb (decide (a ≤ 1000000 ∧ a ≥ -1000000))] := by
  refine orc_of ?_
  rw [e25]
  simp only [cand, ← Bool.decide_and]
theorem n11x (l : List S) (e : Bool) (hn : l.length ≤ 1000) : ∀ (rest : List S) (i : Nat), l.drop i = rest → Or K11n4 [LS e l, r0, I (i : Int)] [Blk.box [I 0, I 0]] = fl (chkL rest i) := by
  intro rest
  induction rest with
  | nil =>
    intro i h
    refine orc_of ?_
    rw [e11n4]
    have h1 : ¬ (i : Int) < (l.length : Int) := by have := at_end h; omega
    simp only [gd1, hd1, tl1, dr0, dr1, dr2, dr3, dr4, dr5, dr6, bo1, in1, st1, ls1, le1, pt1, fi1, fb1, fs1, ct1, cf1, nt1, nf1, ak0, akT, akF, cdec, cndec, cbeq, cnbeq, ↓reduceIte, beq_self_eq_true, Int.reduceBEq, Int.reduceEq, Bool.and_true, Bool.true_and, Bool.false_and, Bool.and_false, eSs_len, h1, chkL]
  | cons s rest ih =>
    intro i h
    obtain ⟨g1, g2, g3⟩ := at_drop h
    have h1 : (i : Int) < (l.length : Int) := by omega
    have h0 : 0 ≤ (i : Int) := by omega
    have hs : sat l i = s := by simp [sat, List.getD_eq_getElem?_getD, g1]
    have hg := eSs_at g2
    rw [hs] at hg
    refine orc_of ?_
    rw [e11n4, chkL]
    by_cases ha : s.lo ≤ 1000000 ∧ s.lo ≥ -1000000
    · by_cases hb : s.hi ≤ 1000000 ∧ s.hi ≥ -1000000
      · have hx : ¬ (((s.lo < -1000000 ∨ s.lo > 1000000) ∨ s.hi < -1000000) ∨ s.hi > 1000000) := by omega
        by_cases hc : s.lo > s.hi
        · simp only [gd1, hd1, tl1, dr0, dr1, dr2, dr3, dr4, dr5, dr6, bo1, in1, st1, ls1, le1, pt1, fi1, fb1, fs1, ct1, cf1, nt1, nf1, ak0, akT, akF, cdec, cndec, cbeq, cnbeq, ↓reduceIte, beq_self_eq_true, Int.reduceBEq, Int.reduceEq, Bool.and_true, Bool.true_and, Bool.false_and, Bool.and_false, h1, h0, and_self, eSs_len, hg, s25, ha, hb, decide_true, hc, hx, if_false, s24]
        · simp only [gd1, hd1, tl1, dr0, dr1, dr2, dr3, dr4, dr5, dr6, bo1, in1, st1, ls1, le1, pt1, fi1, fb1, fs1, ct1, cf1, nt1, nf1, ak0, akT, akF, cdec, cndec, cbeq, cnbeq, ↓reduceIte, beq_self_eq_true, Int.reduceBEq, Int.reduceEq, Bool.and_true, Bool.true_and, Bool.false_and, Bool.and_false, h1, h0, and_self, eSs_len, hg, s25, ha, hb, decide_true, hc, hx, if_false, next i (by omega), ih (i + 1) g3]
      · have hx : (((s.lo < -1000000 ∨ s.lo > 1000000) ∨ s.hi < -1000000) ∨ s.hi > 1000000) := by omega
        simp only [gd1, hd1, tl1, dr0, dr1, dr2, dr3, dr4, dr5, dr6, bo1, in1, st1, ls1, le1, pt1, fi1, fb1, fs1, ct1, cf1, nt1, nf1, ak0, akT, akF, cdec, cndec, cbeq, cnbeq, ↓reduceIte, beq_self_eq_true, Int.reduceBEq, Int.reduceEq, Bool.and_true, Bool.true_and, Bool.false_and, Bool.and_false, h1, h0, and_self, eSs_len, hg, s25, ha, hb, decide_true, decide_false, s24, hx]
    · have hx : (((s.lo < -1000000 ∨ s.lo > 1000000) ∨ s.hi < -1000000) ∨ s.hi > 1000000) := by omega
      simp only [gd1, hd1, tl1, dr0, dr1, dr2, dr3, dr4, dr5, dr6, bo1, in1, st1, ls1, le1, pt1, fi1, fb1, fs1, ct1, cf1, nt1, nf1, ak0, akT, akF, cdec, cndec, cbeq, cnbeq, ↓reduceIte, beq_self_eq_true, Int.reduceBEq, Int.reduceEq, Bool.and_true, Bool.true_and, Bool.false_and, Bool.and_false, h1, h0, and_self, eSs_len, hg, s25, ha, decide_false, s24, gdF, hx]
theorem s11x (l : List S) (e : Bool) : Or (.call 11) [LS e l] [] = fl (chkS l) := by
  refine orc_of ?_
  rw [e11]
  unfold chkS
  by_cases hl : (l.length : Int) > 12
  · rw [if_pos (by omega)]
    simp only [gd1, hd1, tl1, dr0, dr1, dr2, dr3, dr4, dr5, dr6, bo1, in1, st1, ls1, le1, pt1, fi1, fb1, fs1, ct1, cf1, nt1, nf1, ak0, akT, akF, cdec, cndec, cbeq, cnbeq, ↓reduceIte, beq_self_eq_true, Int.reduceBEq, Int.reduceEq, Bool.and_true, Bool.true_and, Bool.false_and, Bool.and_false, eSs_len, hl, s24]
  · rw [if_neg (by omega)]
    simp only [gd1, hd1, tl1, dr0, dr1, dr2, dr3, dr4, dr5, dr6, bo1, in1, st1, ls1, le1, pt1, fi1, fb1, fs1, ct1, cf1, nt1, nf1, ak0, akT, akF, cdec, cndec, cbeq, cnbeq, ↓reduceIte, beq_self_eq_true, Int.reduceBEq, Int.reduceEq, Bool.and_true, Bool.true_and, Bool.false_and, Bool.and_false, eSs_len, hl]
    exact n11x l e (by omega) l 0 rfl
/-! ### Rows -/
def chkI : List Int → Nat → Int × Int
  | [], _ => (0, 0)
  | x :: r, i => if x ≥ -1000000 ∧ x ≤ 1000000 then chkI r (i + 1) else (3, (i : Int))
def chkR (n : Nat) (r : R) : Int × Int :=
  if (¬ r.kd = 1 ∧ ¬ r.kd = 2) ∧ ¬ r.kd = 3 then (4, 0) else if r.of.length > n then (9, 0) else chkI (r.of ++ [r.tv]) 0
def chkRs (n : Nat) : List R → Nat → Int × Int
  | [], _ => (0, 0)
  | r :: rs, i => if (chkR n r).1 = 0 then chkRs n rs (i + 1) else ((chkR n r).1, (i : Int))
def chkT (n : Nat) (rows : List R) : Int × Int := if rows.length > 40 then (2, 0) else chkRs n rows 0
def chkA (rows : List R) (l : List S) : Int × Int := if (chkS l).1 = 0 then chkT l.length rows else chkS l
theorem n44x (xs : List Int) (e : Bool) (hn : xs.length ≤ 1000) : ∀ (rest : List Int) (i : Nat), xs.drop i = rest → Or K44n8 [r0, o1, I (xs.length : Int), I (i : Int)] [Blk.box [I 0, I 0], Blk.sl false 1 e (enc xs)] = fl (chkI rest i) := by
  intro rest
  induction rest with
  | nil =>
    intro i h
    refine orc_of ?_
    rw [e44n8]
    have h1 : ¬ (i : Int) < (xs.length : Int) := by have := at_end h; omega
    simp only [gd1, hd1, tl1, dr0, dr1, dr2, dr3, dr4, dr5, dr6, bo1, in1, st1, ls1, le1, pt1, fi1, fb1, fs1, ct1, cf1, nt1, nf1, ak0, akT, akF, cdec, cndec, cbeq, cnbeq, ↓reduceIte, beq_self_eq_true, Int.reduceBEq, Int.reduceEq, Bool.and_true, Bool.true_and, Bool.false_and, Bool.and_false, h1, chkI]
  | cons x rest ih =>
    intro i h
    obtain ⟨g1, g2, g3⟩ := at_drop h
    have h1 : (i : Int) < (xs.length : Int) := by omega
    have h0 : 0 ≤ (i : Int) := by omega
    refine orc_of ?_
    rw [e44n8, chkI]
    by_cases hb : x ≥ -1000000 ∧ x ≤ 1000000
    · simp only [gd1, hd1, tl1, dr0, dr1, dr2, dr3, dr4, dr5, dr6, bo1, in1, st1, ls1, le1, pt1, fi1, fb1, fs1, ct1, cf1, nt1, nf1, ak0, akT, akF, cdec, cndec, cbeq, cnbeq, ↓reduceIte, beq_self_eq_true, Int.reduceBEq, Int.reduceEq, Bool.and_true, Bool.true_and, Bool.false_and, Bool.and_false, h1, h0, and_self, enc_len, enc_get g1, s63, hb, decide_true, Bool.not_true, next i (by omega), ih (i + 1) g3]
    · simp only [gd1, hd1, tl1, dr0, dr1, dr2, dr3, dr4, dr5, dr6, bo1, in1, st1, ls1, le1, pt1, fi1, fb1, fs1, ct1, cf1, nt1, nf1, ak0, akT, akF, cdec, cndec, cbeq, cnbeq, ↓reduceIte, beq_self_eq_true, Int.reduceBEq, Int.reduceEq, Bool.and_true, Bool.true_and, Bool.false_and, Bool.and_false, h1, h0, and_self, enc_len, enc_get g1, s63, hb, decide_false, Bool.not_false]
theorem s44x (r : R) (n : Nat) (hn : n ≤ 12) (he : r.e = true → r.of = []) : Or (.call 44) [AV.agg [lst r.e r.of, I r.kd, I r.tv], I (n : Int)] [] = fl (chkR n r) := by
  have h1 : ¬ ((n : Int) < 0 ∨ (n : Int) > 12) := by omega
  refine orc_of ?_
  rw [e44]
  unfold chkR
  by_cases hk : (¬ r.kd = 1 ∧ ¬ r.kd = 2) ∧ ¬ r.kd = 3
  · simp only [cor, cand, beq_dec, ← decide_not, ← Bool.decide_or, ← Bool.decide_and]
    simp only [gd1, hd1, tl1, dr0, dr1, dr2, dr3, dr4, dr5, dr6, bo1, in1, st1, ls1, le1, pt1, fi1, fb1, fs1, ct1, cf1, nt1, nf1, ak0, akT, akF, cdec, cndec, cbeq, cnbeq, ↓reduceIte, beq_self_eq_true, Int.reduceBEq, Int.reduceEq, Bool.and_true, Bool.true_and, Bool.false_and, Bool.and_false, h1, hk, not_false_eq_true, and_self]
  · rw [if_neg hk]
    by_cases hl : (r.of.length : Int) > (n : Int)
    · rw [if_pos (by omega)]
      simp only [cor, cand, beq_dec, ← decide_not, ← Bool.decide_or, ← Bool.decide_and]
      simp only [gd1, hd1, tl1, dr0, dr1, dr2, dr3, dr4, dr5, dr6, bo1, in1, st1, ls1, le1, pt1, fi1, fb1, fs1, ct1, cf1, nt1, nf1, ak0, akT, akF, cdec, cndec, cbeq, cnbeq, ↓reduceIte, beq_self_eq_true, Int.reduceBEq, Int.reduceEq, Bool.and_true, Bool.true_and, Bool.false_and, Bool.and_false, h1, hk, enc_len, hl]
    · rw [if_neg (by omega)]
      obtain ⟨x, e', k1, k2⟩ := s62 r.of r.e he (by omega)
      have k3 := n44x (r.of ++ [r.tv]) (e' && false) (by simp; omega) (r.of ++ [r.tv]) 0 rfl
      have hap : enc r.of ++ [[ti r.tv]] = enc (r.of ++ [r.tv]) := by simp [enc]
      have hs : small 8 (r.of.length + [[ti r.tv]].length) = some () := small_ok (by simp; omega)
      simp only [Bool.and_false] at k3
      simp only [cor, cand, beq_dec, ← decide_not, ← Bool.decide_or, ← Bool.decide_and]
      simp only [gd1, hd1, tl1, dr0, dr1, dr2, dr3, dr4, dr5, dr6, bo1, in1, st1, ls1, le1, pt1, fi1, fb1, fs1, ct1, cf1, nt1, nf1, ak0, akT, akF, cdec, cndec, cbeq, cnbeq, ↓reduceIte, beq_self_eq_true, Int.reduceBEq, Int.reduceEq, Bool.and_true, Bool.true_and, Bool.false_and, Bool.and_false, h1, hk, enc_len, hl, k1, k2, hs, hap]
      exact k3
theorem n34x (of : List Int) (e : Bool) (kd tv : Int) (hn : of.length ≤ 1000) : ∀ (rest : List Int) (i : Nat), of.drop i = rest → i ≤ of.length → Or K34n8 [r0, AV.ref (Id.c 1) 0, I (i : Int)] [Blk.box [lst e of, I kd, I tv], Blk.box [I 0, I 0]] = fl (chkI (rest ++ [tv]) i) := by
  intro rest
  induction rest with
  | nil =>
    intro i h hi
    have hle := at_end h
    obtain rfl : i = of.length := by omega
    have h1 : ¬ (of.length : Int) < (of.length : Int) := by omega
    refine orc_of ?_
    rw [e34n8]
    simp only [List.nil_append, chkI]
    by_cases ha : tv ≤ 1000000 ∧ tv ≥ -1000000
    · have hx : tv ≥ -1000000 ∧ tv ≤ 1000000 := by omega
      simp only [gd1, hd1, tl1, dr0, dr1, dr2, dr3, dr4, dr5, dr6, bo1, in1, st1, ls1, le1, pt1, fi1, fb1, fs1, ct1, cf1, nt1, nf1, ak0, akT, akF, cdec, cndec, cbeq, cnbeq, ↓reduceIte, beq_self_eq_true, Int.reduceBEq, Int.reduceEq, Bool.and_true, Bool.true_and, Bool.false_and, Bool.and_false, enc_len, h1, s25, ha, hx, and_self, decide_true]
    · have hx : ¬ (tv ≥ -1000000 ∧ tv ≤ 1000000) := by omega
      simp only [gd1, hd1, tl1, dr0, dr1, dr2, dr3, dr4, dr5, dr6, bo1, in1, st1, ls1, le1, pt1, fi1, fb1, fs1, ct1, cf1, nt1, nf1, ak0, akT, akF, cdec, cndec, cbeq, cnbeq, ↓reduceIte, beq_self_eq_true, Int.reduceBEq, Int.reduceEq, Bool.and_true, Bool.true_and, Bool.false_and, Bool.and_false, enc_len, h1, s25, ha, hx, decide_false, s24]
  | cons x rest ih =>
    intro i h hi
    obtain ⟨g1, g2, g3⟩ := at_drop h
    have h1 : (i : Int) < (of.length : Int) := by omega
    have h0 : 0 ≤ (i : Int) := by omega
    refine orc_of ?_
    rw [e34n8, List.cons_append, chkI]
    by_cases ha : x ≤ 1000000 ∧ x ≥ -1000000
    · have hx : x ≥ -1000000 ∧ x ≤ 1000000 := by omega
      simp only [gd1, hd1, tl1, dr0, dr1, dr2, dr3, dr4, dr5, dr6, bo1, in1, st1, ls1, le1, pt1, fi1, fb1, fs1, ct1, cf1, nt1, nf1, ak0, akT, akF, cdec, cndec, cbeq, cnbeq, ↓reduceIte, beq_self_eq_true, Int.reduceBEq, Int.reduceEq, Bool.and_true, Bool.true_and, Bool.false_and, Bool.and_false, h1, h0, and_self, enc_len, enc_get g1, s25, ha, hx, decide_true, next i (by omega), ih (i + 1) g3 (by omega)]
    · have hx : ¬ (x ≥ -1000000 ∧ x ≤ 1000000) := by omega
      simp only [gd1, hd1, tl1, dr0, dr1, dr2, dr3, dr4, dr5, dr6, bo1, in1, st1, ls1, le1, pt1, fi1, fb1, fs1, ct1, cf1, nt1, nf1, ak0, akT, akF, cdec, cndec, cbeq, cnbeq, ↓reduceIte, beq_self_eq_true, Int.reduceBEq, Int.reduceEq, Bool.and_true, Bool.true_and, Bool.false_and, Bool.and_false, h1, h0, and_self, enc_len, enc_get g1, s25, ha, hx, decide_false, s24]
theorem s34x (r : R) (n : Nat) (hn : n ≤ 12) : Or (.call 34) [AV.agg [lst r.e r.of, I r.kd, I r.tv], I (n : Int)] [] = fl (chkR n r) := by
  have h1 : ¬ ((n : Int) < 0 ∨ (n : Int) > 12) := by omega
  refine orc_of ?_
  rw [e34]
  unfold chkR
  by_cases hk : (¬ r.kd = 1 ∧ ¬ r.kd = 2) ∧ ¬ r.kd = 3
  · simp only [cor, cand, beq_dec, ← decide_not, ← Bool.decide_or, ← Bool.decide_and]
    simp only [gd1, hd1, tl1, dr0, dr1, dr2, dr3, dr4, dr5, dr6, bo1, in1, st1, ls1, le1, pt1, fi1, fb1, fs1, ct1, cf1, nt1, nf1, ak0, akT, akF, cdec, cndec, cbeq, cnbeq, ↓reduceIte, beq_self_eq_true, Int.reduceBEq, Int.reduceEq, Bool.and_true, Bool.true_and, Bool.false_and, Bool.and_false, h1, hk, not_false_eq_true, and_self, s24]
  · rw [if_neg hk]
    by_cases hl : (r.of.length : Int) > (n : Int)
    · rw [if_pos (by omega)]
      simp only [cor, cand, beq_dec, ← decide_not, ← Bool.decide_or, ← Bool.decide_and]
      simp only [gd1, hd1, tl1, dr0, dr1, dr2, dr3, dr4, dr5, dr6, bo1, in1, st1, ls1, le1, pt1, fi1, fb1, fs1, ct1, cf1, nt1, nf1, ak0, akT, akF, cdec, cndec, cbeq, cnbeq, ↓reduceIte, beq_self_eq_true, Int.reduceBEq, Int.reduceEq, Bool.and_true, Bool.true_and, Bool.false_and, Bool.and_false, h1, hk, enc_len, hl, s24]
    · rw [if_neg (by omega)]
      have k3 := n34x r.of r.e r.kd r.tv (by omega) r.of 0 rfl (by omega)
      simp only [cor, cand, beq_dec, ← decide_not, ← Bool.decide_or, ← Bool.decide_and]
      simp only [gd1, hd1, tl1, dr0, dr1, dr2, dr3, dr4, dr5, dr6, bo1, in1, st1, ls1, le1, pt1, fi1, fb1, fs1, ct1, cf1, nt1, nf1, ak0, akT, akF, cdec, cndec, cbeq, cnbeq, ↓reduceIte, beq_self_eq_true, Int.reduceBEq, Int.reduceEq, Bool.and_true, Bool.true_and, Bool.false_and, Bool.and_false, h1, hk, enc_len, hl]
      exact k3
theorem n30x (rows : List R) (n : Nat) (e : Bool) (hn : n ≤ 12) (hr : ∀ r ∈ rows, r.e = true → r.of = []) (hlen : rows.length ≤ 1000) : ∀ (rest : List R) (i : Nat), rows.drop i = rest →
    Or K30n6 [I (n : Int), r0, LR e rows, I (rows.length : Int), I (i : Int)] [Blk.box [I 0, I 0]] = fl (chkRs n rest i) := by
  intro rest
  induction rest with
  | nil =>
    intro i h
    refine orc_of ?_
    rw [e30n6]
    have h1 : ¬ (i : Int) < (rows.length : Int) := by have := at_end h; omega
    simp only [gd1, hd1, tl1, dr0, dr1, dr2, dr3, dr4, dr5, dr6, bo1, in1, st1, ls1, le1, pt1, fi1, fb1, fs1, ct1, cf1, nt1, nf1, ak0, akT, akF, cdec, cndec, cbeq, cnbeq, ↓reduceIte, beq_self_eq_true, Int.reduceBEq, Int.reduceEq, Bool.and_true, Bool.true_and, Bool.false_and, Bool.and_false, h1, chkRs]
  | cons r rest ih =>
    intro i h
    obtain ⟨g1, g2, g3⟩ := at_drop h
    have h1 : (i : Int) < (rows.length : Int) := by omega
    have h0 : 0 ≤ (i : Int) := by omega
    have k1 := s44x r n hn (hr r (List.mem_of_getElem? g1))
    refine orc_of ?_
    rw [e30n6, chkRs]
    by_cases hc : (chkR n r).1 = 0
    · rw [if_pos hc]
      simp only [gd1, hd1, tl1, dr0, dr1, dr2, dr3, dr4, dr5, dr6, bo1, in1, st1, ls1, le1, pt1, fi1, fb1, fs1, ct1, cf1, nt1, nf1, ak0, akT, akF, cdec, cndec, cbeq, cnbeq, ↓reduceIte, beq_self_eq_true, Int.reduceBEq, Int.reduceEq, Bool.and_true, Bool.true_and, Bool.false_and, Bool.and_false, h1, h0, and_self, eRs_len, eRs_get g1, k1, hc, next i (by omega), ih (i + 1) g3]
    · rw [if_neg hc]
      simp only [gd1, hd1, tl1, dr0, dr1, dr2, dr3, dr4, dr5, dr6, bo1, in1, st1, ls1, le1, pt1, fi1, fb1, fs1, ct1, cf1, nt1, nf1, ak0, akT, akF, cdec, cndec, cbeq, cnbeq, ↓reduceIte, beq_self_eq_true, Int.reduceBEq, Int.reduceEq, Bool.and_true, Bool.true_and, Bool.false_and, Bool.and_false, h1, h0, and_self, eRs_len, eRs_get g1, k1, hc]
theorem n26x (rows : List R) (n : Nat) (e : Bool) (hn : n ≤ 12) (hlen : rows.length ≤ 1000) : ∀ (rest : List R) (i : Nat), rows.drop i = rest →
    Or K26n6 [LR e rows, I (n : Int), r0, I (i : Int)] [Blk.box [I 0, I 0]] = fl (chkRs n rest i) := by
  intro rest
  induction rest with
  | nil =>
    intro i h
    refine orc_of ?_
    rw [e26n6]
    have h1 : ¬ (i : Int) < (rows.length : Int) := by have := at_end h; omega
    simp only [gd1, hd1, tl1, dr0, dr1, dr2, dr3, dr4, dr5, dr6, bo1, in1, st1, ls1, le1, pt1, fi1, fb1, fs1, ct1, cf1, nt1, nf1, ak0, akT, akF, cdec, cndec, cbeq, cnbeq, ↓reduceIte, beq_self_eq_true, Int.reduceBEq, Int.reduceEq, Bool.and_true, Bool.true_and, Bool.false_and, Bool.and_false, eRs_len, h1, chkRs]
  | cons r rest ih =>
    intro i h
    obtain ⟨g1, g2, g3⟩ := at_drop h
    have h1 : (i : Int) < (rows.length : Int) := by omega
    have h0 : 0 ≤ (i : Int) := by omega
    have k1 := s34x r n hn
    refine orc_of ?_
    rw [e26n6, chkRs]
    by_cases hc : (chkR n r).1 = 0
    · rw [if_pos hc]
      simp only [gd1, hd1, tl1, dr0, dr1, dr2, dr3, dr4, dr5, dr6, bo1, in1, st1, ls1, le1, pt1, fi1, fb1, fs1, ct1, cf1, nt1, nf1, ak0, akT, akF, cdec, cndec, cbeq, cnbeq, ↓reduceIte, beq_self_eq_true, Int.reduceBEq, Int.reduceEq, Bool.and_true, Bool.true_and, Bool.false_and, Bool.and_false, h1, h0, and_self, eRs_len, eRs_get g1, k1, hc, next i (by omega), ih (i + 1) g3]
    · rw [if_neg hc]
      simp only [gd1, hd1, tl1, dr0, dr1, dr2, dr3, dr4, dr5, dr6, bo1, in1, st1, ls1, le1, pt1, fi1, fb1, fs1, ct1, cf1, nt1, nf1, ak0, akT, akF, cdec, cndec, cbeq, cnbeq, ↓reduceIte, beq_self_eq_true, Int.reduceBEq, Int.reduceEq, Bool.and_true, Bool.true_and, Bool.false_and, Bool.and_false, h1, h0, and_self, eRs_len, eRs_get g1, k1, hc, s24]
theorem s30x (rows : List R) (n : Nat) (e : Bool) (hn : n ≤ 12) (hr : ∀ r ∈ rows, r.e = true → r.of = []) : Or (.call 30) [LR e rows, I (n : Int)] [] = fl (chkT n rows) := by
  have h1 : ¬ ((n : Int) < 0 ∨ (n : Int) > 12) := by omega
  refine orc_of ?_
  rw [e30]
  unfold chkT
  simp only [cor, ← Bool.decide_or]
  by_cases h40 : (rows.length : Int) > 40
  · rw [if_pos (by omega)]
    simp only [gd1, hd1, tl1, dr0, dr1, dr2, dr3, dr4, dr5, dr6, bo1, in1, st1, ls1, le1, pt1, fi1, fb1, fs1, ct1, cf1, nt1, nf1, ak0, akT, akF, cdec, cndec, cbeq, cnbeq, ↓reduceIte, beq_self_eq_true, Int.reduceBEq, Int.reduceEq, Bool.and_true, Bool.true_and, Bool.false_and, Bool.and_false, h1, eRs_len, h40]
  · rw [if_neg (by omega)]
    simp only [gd1, hd1, tl1, dr0, dr1, dr2, dr3, dr4, dr5, dr6, bo1, in1, st1, ls1, le1, pt1, fi1, fb1, fs1, ct1, cf1, nt1, nf1, ak0, akT, akF, cdec, cndec, cbeq, cnbeq, ↓reduceIte, beq_self_eq_true, Int.reduceBEq, Int.reduceEq, Bool.and_true, Bool.true_and, Bool.false_and, Bool.and_false, h1, eRs_len, h40]
    exact n30x rows n e hn hr (by omega) rows 0 rfl
theorem s26x (rows : List R) (n : Nat) (e : Bool) (hn : n ≤ 12) : Or (.call 26) [LR e rows, I (n : Int)] [] = fl (chkT n rows) := by
  have h1 : ¬ ((n : Int) < 0 ∨ (n : Int) > 12) := by omega
  refine orc_of ?_
  rw [e26]
  unfold chkT
  simp only [cor, ← Bool.decide_or]
  by_cases h40 : (rows.length : Int) > 40
  · rw [if_pos (by omega)]
    simp only [gd1, hd1, tl1, dr0, dr1, dr2, dr3, dr4, dr5, dr6, bo1, in1, st1, ls1, le1, pt1, fi1, fb1, fs1, ct1, cf1, nt1, nf1, ak0, akT, akF, cdec, cndec, cbeq, cnbeq, ↓reduceIte, beq_self_eq_true, Int.reduceBEq, Int.reduceEq, Bool.and_true, Bool.true_and, Bool.false_and, Bool.and_false, h1, eRs_len, h40, s24]
  · rw [if_neg (by omega)]
    simp only [gd1, hd1, tl1, dr0, dr1, dr2, dr3, dr4, dr5, dr6, bo1, in1, st1, ls1, le1, pt1, fi1, fb1, fs1, ct1, cf1, nt1, nf1, ak0, akT, akF, cdec, cndec, cbeq, cnbeq, ↓reduceIte, beq_self_eq_true, Int.reduceBEq, Int.reduceEq, Bool.and_true, Bool.true_and, Bool.false_and, Bool.and_false, h1, eRs_len, h40]
    exact n26x rows n e hn (by omega) rows 0 rfl
theorem chkS_len {l : List S} (h : (chkS l).1 = 0) : l.length ≤ 12 := by
  unfold chkS at h
  split at h
  · simp at h
  · omega
theorem s20x (rows : List R) (l : List S) (e e2 : Bool) (hr : ∀ r ∈ rows, r.e = true → r.of = []) : Or (.call 20) [LR e rows, LS e2 l] [] = fl (chkA rows l) := by
  refine orc_of ?_
  rw [e20]
  unfold chkA
  by_cases hc : (chkS l).1 = 0
  · rw [if_pos hc]
    have hl := chkS_len hc
    simp only [gd1, hd1, tl1, dr0, dr1, dr2, dr3, dr4, dr5, dr6, bo1, in1, st1, ls1, le1, pt1, fi1, fb1, fs1, ct1, cf1, nt1, nf1, ak0, akT, akF, cdec, cndec, cbeq, cnbeq, ↓reduceIte, beq_self_eq_true, Int.reduceBEq, Int.reduceEq, Bool.and_true, Bool.true_and, Bool.false_and, Bool.and_false, s10x, hc, eSs_len, s30x rows l.length e hl hr]
  · rw [if_neg hc]
    simp only [gd1, hd1, tl1, dr0, dr1, dr2, dr3, dr4, dr5, dr6, bo1, in1, st1, ls1, le1, pt1, fi1, fb1, fs1, ct1, cf1, nt1, nf1, ak0, akT, akF, cdec, cndec, cbeq, cnbeq, ↓reduceIte, beq_self_eq_true, Int.reduceBEq, Int.reduceEq, Bool.and_true, Bool.true_and, Bool.false_and, Bool.and_false, s10x, hc]
theorem s12x (rows : List R) (l : List S) (e e2 : Bool) : Or (.call 12) [LR e rows, LS e2 l] [] = fl (chkA rows l) := by
  refine orc_of ?_
  rw [e12]
  unfold chkA
  by_cases hc : (chkS l).1 = 0
  · rw [if_pos hc]
    have hl := chkS_len hc
    simp only [gd1, hd1, tl1, dr0, dr1, dr2, dr3, dr4, dr5, dr6, bo1, in1, st1, ls1, le1, pt1, fi1, fb1, fs1, ct1, cf1, nt1, nf1, ak0, akT, akF, cdec, cndec, cbeq, cnbeq, ↓reduceIte, beq_self_eq_true, Int.reduceBEq, Int.reduceEq, Bool.and_true, Bool.true_and, Bool.false_and, Bool.and_false, s11x, hc, eSs_len, s26x rows l.length e hl]
  · rw [if_neg hc]
    simp only [gd1, hd1, tl1, dr0, dr1, dr2, dr3, dr4, dr5, dr6, bo1, in1, st1, ls1, le1, pt1, fi1, fb1, fs1, ct1, cf1, nt1, nf1, ak0, akT, akF, cdec, cndec, cbeq, cnbeq, ↓reduceIte, beq_self_eq_true, Int.reduceBEq, Int.reduceEq, Bool.and_true, Bool.true_and, Bool.false_and, Bool.and_false, s11x, hc]
theorem chkA_ok {rows : List R} {l : List S} (hr : ∀ r ∈ rows, r.e = true → r.of = []) (h : (chkA rows l).1 = 0) : Ok rows l := by
  obtain ⟨c, a, k1, k2⟩ := s20 rows l false false hr
  rw [s20x rows l false false hr] at k1
  simp only [Option.some.injEq, List.cons.injEq, T.int.injEq, true_and, and_true] at k1
  exact k2 (by rw [← k1.1]; exact h)
theorem s7x (rows : List R) (l : List S) (e e2 : Bool) (hr : ∀ r ∈ rows, r.e = true → r.of = []) (he : e2 = true → l = []) :
    Or (.call 7) [LR e rows, LS e2 l] [] = some (if (chkA rows l).1 = 0 then resOnce e2 (onceF rows l) else [T.emp true, tb false, ti (chkA rows l).1, ti (chkA rows l).2]) := by
  refine orc_of ?_
  rw [e7]
  by_cases hc : (chkA rows l).1 = 0
  · have ho := chkA_ok hr hc
    obtain ⟨x, k3, k4⟩ := s21 l e2 he (by have := ho.val.len; omega)
    have := n7 rows e e2 (by have := ho.len; omega) rows 0 l rfl ho.val ho.rows
    rw [if_pos hc]
    simp only [gd1, hd1, tl1, dr0, dr1, dr2, dr3, dr4, dr5, dr6, bo1, in1, st1, ls1, le1, pt1, fi1, fb1, fs1, ct1, cf1, nt1, nf1, ak0, akT, akF, cdec, cndec, cbeq, cnbeq, ↓reduceIte, beq_self_eq_true, Int.reduceBEq, Int.reduceEq, Bool.and_true, Bool.true_and, Bool.false_and, Bool.and_false, s20x rows l e e2 hr, hc, k3, k4, eRs_len]
    exact this
  · rw [if_neg hc]
    simp only [gd1, hd1, tl1, dr0, dr1, dr2, dr3, dr4, dr5, dr6, bo1, in1, st1, ls1, le1, pt1, fi1, fb1, fs1, ct1, cf1, nt1, nf1, ak0, akT, akF, cdec, cndec, cbeq, cnbeq, ↓reduceIte, beq_self_eq_true, Int.reduceBEq, Int.reduceEq, Bool.and_true, Bool.true_and, Bool.false_and, Bool.and_false, s20x rows l e e2 hr, hc]
/-! ### Till it rests -/
def sameL : List S → List S → Bool
  | [], [] => true
  | a :: x, b :: y => (a.lo == b.lo && (a.hi == b.hi && true)) && sameL x y
  | _, _ => false
theorem sameL_self : ∀ l : List S, sameL l l = true
  | [] => rfl
  | a :: l => by simp [sameL, sameL_self l]
theorem sat_drop {l : List S} {i : Nat} {s : S} {rest : List S} (h : l.drop i = s :: rest) : sat l i = s := by
  obtain ⟨g1, _, _⟩ := at_drop h
  simp [sat, List.getD_eq_getElem?_getD, g1]
theorem drop_cons {l : List S} {i : Nat} (h : i < l.length) : l.drop i = sat l i :: l.drop (i + 1) := by
  rw [List.drop_eq_getElem_cons h]
  simp [sat, List.getD_eq_getElem?_getD, h]
theorem n23x (a b : List S) (e e2 : Bool) (hl : a.length = b.length) (hn : a.length ≤ 1000) : ∀ (rest : List S) (i : Nat), a.drop i = rest → Or K23n4 [LS e a, LS e2 b, I (a.length : Int), I (i : Int)] [] = some [tb (sameL rest (b.drop i))] := by
  intro rest
  induction rest with
  | nil =>
    intro i h
    have hle := at_end h
    have hb : b.drop i = [] := by simp; omega
    refine orc_of ?_
    rw [e23n4, hb]
    have h1 : ¬ (i : Int) < (a.length : Int) := by omega
    simp only [gd1, hd1, tl1, dr0, dr1, dr2, dr3, dr4, dr5, dr6, bo1, in1, st1, ls1, le1, pt1, fi1, fb1, fs1, ct1, cf1, nt1, nf1, ak0, akT, akF, cdec, cndec, cbeq, cnbeq, ↓reduceIte, beq_self_eq_true, Int.reduceBEq, Int.reduceEq, Bool.and_true, Bool.true_and, Bool.false_and, Bool.and_false, h1, sameL]
  | cons s rest ih =>
    intro i h
    obtain ⟨g1, g2, g3⟩ := at_drop h
    have h1 : (i : Int) < (a.length : Int) := by omega
    have h2 : (i : Int) < (b.length : Int) := by omega
    have h0 : 0 ≤ (i : Int) := by omega
    have k1 := ih (i + 1) g3
    refine orc_of ?_
    rw [e23n4, drop_cons (l := b) (by omega), ← sat_drop h, sameL]
    cases hb : ((sat a i).lo == (sat b i).lo && ((sat a i).hi == (sat b i).hi && true)) with
    | true =>
      simp only [gd1, hd1, tl1, in1, h1, h2, h0, and_self, cdec, ↓reduceIte, eSs_len, eSs_at g2, eSs_at (show i < b.length by omega), hb, Bool.not_true, ct1, cf1, next i (by omega), k1, Bool.true_and]
    | false =>
      simp only [gd1, hd1, tl1, in1, h1, h2, h0, and_self, cdec, ↓reduceIte, eSs_len, eSs_at g2, eSs_at (show i < b.length by omega), hb, Bool.not_false, ct1, cf1, Bool.false_and]
theorem sameL_len : ∀ {a b : List S}, sameL a b = true → a.length = b.length
  | [], [], _ => rfl
  | [], b :: y, h => by cases h
  | a :: x, [], h => by cases h
  | a :: x, b :: y, h => by
    simp only [sameL, Bool.and_eq_true] at h
    simp [sameL_len h.2]
theorem s23x (a b : List S) (e e2 : Bool) (hn : a.length ≤ 1000) : Or (.call 23) [LS e a, LS e2 b] [] = some [tb (sameL a b)] := by
  refine orc_of ?_
  rw [e23]
  by_cases hl : (a.length : Int) = (b.length : Int)
  · have k1 := n23x a b e e2 (by omega) hn a 0 rfl
    simp only [eSs_len]
    simp only [gd1, hd1, tl1, dr0, dr1, dr2, dr3, dr4, dr5, dr6, bo1, in1, st1, ls1, le1, pt1, fi1, fb1, fs1, ct1, cf1, nt1, nf1, ak0, akT, akF, cdec, cndec, cbeq, cnbeq, ↓reduceIte, beq_self_eq_true, Int.reduceBEq, Int.reduceEq, Bool.and_true, Bool.true_and, Bool.false_and, Bool.and_false, hl]
    rw [← hl]; exact k1
  · have : sameL a b = false := by
      cases h : sameL a b with
      | false => rfl
      | true => exact absurd (sameL_len h) (by omega)
    rw [this]
    simp only [gd1, hd1, tl1, dr0, dr1, dr2, dr3, dr4, dr5, dr6, bo1, in1, st1, ls1, le1, pt1, fi1, fb1, fs1, ct1, cf1, nt1, nf1, ak0, akT, akF, cdec, cndec, cbeq, cnbeq, ↓reduceIte, beq_self_eq_true, Int.reduceBEq, Int.reduceEq, Bool.and_true, Bool.true_and, Bool.false_and, Bool.and_false, eSs_len, hl]
theorem n15x (a b : List S) (e e2 : Bool) (hl : a.length = b.length) (hn : a.length ≤ 1000) : ∀ (rest : List S) (i : Nat), a.drop i = rest → Or K15n4 [LS e a, LS e2 b, I (i : Int)] [] = some [tb (sameL rest (b.drop i))] := by
  intro rest
  induction rest with
  | nil =>
    intro i h
    have hle := at_end h
    have hb : b.drop i = [] := by simp; omega
    refine orc_of ?_
    rw [e15n4, hb]
    have h1 : ¬ (i : Int) < (a.length : Int) := by omega
    simp only [gd1, hd1, tl1, dr0, dr1, dr2, dr3, dr4, dr5, dr6, bo1, in1, st1, ls1, le1, pt1, fi1, fb1, fs1, ct1, cf1, nt1, nf1, ak0, akT, akF, cdec, cndec, cbeq, cnbeq, ↓reduceIte, beq_self_eq_true, Int.reduceBEq, Int.reduceEq, Bool.and_true, Bool.true_and, Bool.false_and, Bool.and_false, eSs_len, h1, sameL]
  | cons s rest ih =>
    intro i h
    obtain ⟨g1, g2, g3⟩ := at_drop h
    have h1 : (i : Int) < (a.length : Int) := by omega
    have h2 : (i : Int) < (b.length : Int) := by omega
    have h0 : 0 ≤ (i : Int) := by omega
    have k1 := ih (i + 1) g3
    refine orc_of ?_
    rw [e15n4, drop_cons (l := b) (by omega), ← sat_drop h, sameL]
    cases hb : ((sat a i).lo == (sat b i).lo && ((sat a i).hi == (sat b i).hi && true)) with
    | true =>
      simp only [gd1, hd1, tl1, in1, h1, h2, h0, and_self, cdec, ↓reduceIte, eSs_len, eSs_at g2, eSs_at (show i < b.length by omega), hb, Bool.not_true, ct1, cf1, next i (by omega), k1, Bool.true_and]
    | false =>
      simp only [gd1, hd1, tl1, in1, h1, h2, h0, and_self, cdec, ↓reduceIte, eSs_len, eSs_at g2, eSs_at (show i < b.length by omega), hb, Bool.not_false, ct1, cf1, Bool.false_and]
theorem s15x (a b : List S) (e e2 : Bool) (hn : a.length ≤ 1000) : Or (.call 15) [LS e a, LS e2 b] [] = some [tb (sameL a b)] := by
  refine orc_of ?_
  rw [e15]
  by_cases hl : (a.length : Int) = (b.length : Int)
  · have k1 := n15x a b e e2 (by omega) hn a 0 rfl
    simp only [eSs_len]
    simp only [gd1, hd1, tl1, dr0, dr1, dr2, dr3, dr4, dr5, dr6, bo1, in1, st1, ls1, le1, pt1, fi1, fb1, fs1, ct1, cf1, nt1, nf1, ak0, akT, akF, cdec, cndec, cbeq, cnbeq, ↓reduceIte, beq_self_eq_true, Int.reduceBEq, Int.reduceEq, Bool.and_true, Bool.true_and, Bool.false_and, Bool.and_false, hl]
    exact k1
  · have : sameL a b = false := by
      cases h : sameL a b with
      | false => rfl
      | true => exact absurd (sameL_len h) (by omega)
    rw [this]
    simp only [gd1, hd1, tl1, dr0, dr1, dr2, dr3, dr4, dr5, dr6, bo1, in1, st1, ls1, le1, pt1, fi1, fb1, fs1, ct1, cf1, nt1, nf1, ak0, akT, akF, cdec, cndec, cbeq, cnbeq, ↓reduceIte, beq_self_eq_true, Int.reduceBEq, Int.reduceEq, Bool.and_true, Bool.true_and, Bool.false_and, Bool.and_false, eSs_len, hl]
def doF (rows : List R) : Nat → List S → Option (List S)
  | 0, l => some l
  | k + 1, l => (onceF rows l).bind fun m => if sameL m l = true then some m else doF rows k m
theorem onceF_val2 : ∀ {rows : List R} {l l' : List S}, (∀ r ∈ rows, r.of.length ≤ l.length) → Val l → onceF rows l = some l' → Val l' ∧ l'.length = l.length
  | [], l, l', _, hl, h => by cases h; exact ⟨hl, rfl⟩
  | r :: rows, l, l', hr, hl, h => by
    simp only [onceF, Option.bind_eq_some_iff] at h
    obtain ⟨m, h1, h2⟩ := h
    obtain ⟨g1, g2⟩ := oneF_val (hr r List.mem_cons_self) hl h1
    obtain ⟨g3, g4⟩ := onceF_val2 (fun r' h' => by rw [g2]; exact hr r' (List.mem_cons_of_mem _ h')) g1 h2
    exact ⟨g3, by omega⟩
theorem Ok.next {rows : List R} {l l' : List S} (ho : Ok rows l) (h : onceF rows l = some l') : Ok rows l' := by
  obtain ⟨g1, g2⟩ := onceF_val2 (fun r hr => (ho.rows r hr).len) ho.val h
  exact ⟨g1, ho.len, fun r hr => by rw [g2]; exact ho.rows r hr⟩
theorem chkI_ok : ∀ {xs : List Int} {i : Nat}, (∀ x ∈ xs, Wh x) → chkI xs i = (0, 0)
  | [], _, _ => rfl
  | x :: xs, i, h => by
    rw [chkI, if_pos (show x ≥ -1000000 ∧ x ≤ 1000000 from h x List.mem_cons_self)]
    exact chkI_ok fun y hy => h y (List.mem_cons_of_mem _ hy)
theorem chkRs_ok {n : Nat} : ∀ {rows : List R} {i : Nat}, (∀ r ∈ rows, OkR n r) → chkRs n rows i = (0, 0)
  | [], _, _ => rfl
  | r :: rows, i, h => by
    have hr := h r List.mem_cons_self
    have : chkR n r = (0, 0) := by
      unfold chkR
      have := hr.kd
      have := hr.len
      rw [if_neg (by omega), if_neg (by omega)]
      exact chkI_ok fun x hx => by
        rcases List.mem_append.1 hx with hx | hx
        · exact hr.of x hx
        · simp only [List.mem_singleton] at hx; subst hx; exact hr.tv
    rw [chkRs, this, if_pos rfl]
    exact chkRs_ok fun y hy => h y (List.mem_cons_of_mem _ hy)
theorem chkL_ok : ∀ {l : List S} {i : Nat}, (∀ s ∈ l, -1000000 ≤ s.lo ∧ s.lo ≤ s.hi ∧ s.hi ≤ 1000000) → chkL l i = (0, 0)
  | [], _, _ => rfl
  | s :: l, i, h => by
    have := h s List.mem_cons_self
    rw [chkL, if_neg (by omega), if_neg (by omega)]
    exact chkL_ok fun y hy => h y (List.mem_cons_of_mem _ hy)
theorem Ok.chk {rows : List R} {l : List S} (ho : Ok rows l) : chkA rows l = (0, 0) := by
  have h1 : chkS l = (0, 0) := by
    unfold chkS
    have := ho.val.len
    rw [if_neg (by omega)]
    exact chkL_ok fun s hs => by
      obtain ⟨i, hi, rfl⟩ := List.getElem_of_mem hs
      have := ho.val.rng i
      simpa [sat, List.getD_eq_getElem?_getD, hi] using this
  unfold chkA chkT
  have := ho.len
  rw [h1, if_pos rfl, if_neg (by omega)]
  exact chkRs_ok ho.rows
theorem n8x (rows : List R) (e e2 : Bool) (hr : ∀ r ∈ rows, r.e = true → r.of = []) : ∀ (k i : Nat) (l : List S), i + k = 200 → (e2 = true → l = []) → Ok rows l →
    Or K8n2 [LR e rows, LS e2 l, r0, I (i : Int)] [Blk.box [I 0, I 0]] = some (resOnce e2 (doF rows k l))
  | 0, i, l, hi, he, ho => by
    refine orc_of ?_
    rw [e8n2]
    have h1 : ¬ (i : Int) < 200 := by omega
    simp only [gd1, hd1, tl1, dr0, dr1, dr2, dr3, dr4, dr5, dr6, bo1, in1, st1, ls1, le1, pt1, fi1, fb1, fs1, ct1, cf1, nt1, nf1, ak0, akT, akF, cdec, cndec, cbeq, cnbeq, ↓reduceIte, beq_self_eq_true, Int.reduceBEq, Int.reduceEq, Bool.and_true, Bool.true_and, Bool.false_and, Bool.and_false, h1, doF, resOnce]
  | k + 1, i, l, hi, he, ho => by
    have h1 : (i : Int) < 200 := by omega
    have h7 := s7x rows l e e2 hr he
    rw [ho.chk, if_pos rfl] at h7
    refine orc_of ?_
    rw [e8n2, doF]
    cases hm : onceF rows l with
    | none =>
      rw [hm] at h7
      simp only [resOnce] at h7
      simp only [gd1, hd1, tl1, dr0, dr1, dr2, dr3, dr4, dr5, dr6, bo1, in1, st1, ls1, le1, pt1, fi1, fb1, fs1, ct1, cf1, nt1, nf1, ak0, akT, akF, cdec, cndec, cbeq, cnbeq, ↓reduceIte, beq_self_eq_true, Int.reduceBEq, Int.reduceEq, Bool.and_true, Bool.true_and, Bool.false_and, Bool.and_false, h1, h7, Option.bind_none, resOnce]
    | some m =>
      rw [hm] at h7
      simp only [resOnce] at h7
      have ho2 := ho.next hm
      obtain ⟨g1, g2⟩ := onceF_val2 (fun r hr => (ho.rows r hr).len) ho.val hm
      have h23 := s23x m l e2 e2 (by have := ho2.val.len; omega)
      simp only [Option.bind_some]
      cases hs : sameL m l with
      | true =>
        rw [hs] at h23
        simp only [gd1, hd1, tl1, dr0, dr1, dr2, dr3, dr4, dr5, dr6, bo1, in1, st1, ls1, le1, pt1, fi1, fb1, fs1, ct1, cf1, nt1, nf1, ak0, akT, akF, cdec, cndec, cbeq, cnbeq, ↓reduceIte, beq_self_eq_true, Int.reduceBEq, Int.reduceEq, Bool.and_true, Bool.true_and, Bool.false_and, Bool.and_false, h1, h7, h23, resOnce]
      | false =>
        rw [hs] at h23
        have := n8x rows e e2 hr k (i + 1) m (by omega) (fun h => by
          have h' := he h
          subst h'
          exact List.length_eq_zero_iff.1 g2) ho2
        simp only [gd1, hd1, tl1, dr0, dr1, dr2, dr3, dr4, dr5, dr6, bo1, in1, st1, ls1, le1, pt1, fi1, fb1, fs1, ct1, cf1, nt1, nf1, ak0, akT, akF, cdec, cndec, cbeq, cnbeq, ↓reduceIte, beq_self_eq_true, Int.reduceBEq, Int.reduceEq, Bool.and_true, Bool.true_and, Bool.false_and, Bool.and_false, h1, h7, h23, next i (by omega), Bool.false_eq_true]
        exact this
theorem s8x (rows : List R) (l : List S) (e e2 : Bool) (hr : ∀ r ∈ rows, r.e = true → r.of = []) (he : e2 = true → l = []) :
    Or (.call 8) [LR e rows, LS e2 l] [] = some (if (chkA rows l).1 = 0 then resOnce e2 (doF rows 200 l) else [T.emp true, tb false, ti (chkA rows l).1, ti (chkA rows l).2]) := by
  refine orc_of ?_
  rw [e8]
  by_cases hc : (chkA rows l).1 = 0
  · rw [if_pos hc]
    exact n8x rows e e2 hr 200 0 l rfl he (chkA_ok hr hc)
  · rw [if_neg hc]
    have h7 := s7x rows l e e2 hr he
    rw [if_neg hc] at h7
    refine orc_of ?_
    rw [e8n2]
    have h1 : (0 : Int) < 200 := by omega
    simp only [gd1, hd1, tl1, dr0, dr1, dr2, dr3, dr4, dr5, dr6, bo1, in1, st1, ls1, le1, pt1, fi1, fb1, fs1, ct1, cf1, nt1, nf1, ak0, akT, akF, cdec, cndec, cbeq, cnbeq, ↓reduceIte, beq_self_eq_true, Int.reduceBEq, Int.reduceEq, Bool.and_true, Bool.true_and, Bool.false_and, Bool.and_false, h1, h7, hc, ite_self]
end Go.Aev.Gen
