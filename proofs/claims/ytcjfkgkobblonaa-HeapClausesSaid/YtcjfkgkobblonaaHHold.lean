/-
  Are two the same; do they hold.
-/
import Derived.Test.YtcjfkgkobblonaaHAdd
set_option linter.unusedSimpArgs false
set_option linter.unusedVariables false
namespace Go.Aev.Gen
open Go Go.Aev Go.Aev.Hp Go.RowKit

theorem n29 {xs ys : List Int} (e f : Bool) (hlen : xs.length = ys.length) (hn : xs.length ≤ 1000) : ∀ (r1 r2 pre : List Int), xs = pre ++ r1 → ys = pre ++ r2 → Or K29n4 [lst e xs, lst f ys, I (pre.length : Int)] [] = some [tb (decide (xs = ys))]
  | [], r2, pre, h1, h2 => by
    have : r2 = [] := by rw [h1, h2] at hlen; simpa using hlen
    subst this
    have e1 : xs = ys := by rw [h1, h2]
    have hl : ¬ (pre.length : Int) < (xs.length : Int) := by rw [h1]; simp
    refine orc_of ?_
    rw [e29n4, decide_eq_true e1]
    simp only [gd1, hd1, tl1, dr0, dr1, dr2, dr3, dr4, dr5, dr6, bo1, in1, st1, ls1, le1, pt1, fi1, fb1, fs1, ct1, cf1, nt1, nf1, ak0, akT, akF, cdec, cndec, cbeq, cnbeq, ↓reduceIte, beq_self_eq_true, Int.reduceBEq, Int.reduceEq, Bool.and_true, Bool.true_and, Bool.false_and, Bool.and_false, enc_len, hl]
  | x :: r1, [], pre, h1, h2 => by exfalso; rw [h1, h2] at hlen; simp at hlen
  | x :: r1, y :: r2, pre, h1, h2 => by
    have hl : xs.length = pre.length + (r1.length + 1) := by rw [h1]; simp
    have c1 : (pre.length : Int) < (xs.length : Int) := by omega
    have c2 : (pre.length : Int) < (ys.length : Int) := by omega
    have c0 : 0 ≤ (pre.length : Int) := by omega
    have g1 : xs[pre.length]? = some x := by rw [h1]; simp
    have g2 : ys[pre.length]? = some y := by rw [h2]; simp
    have en : wrap64 ((pre.length : Int) + 1) = ((pre ++ [x]).length : Int) := by rw [w64 (by omega)]; simp
    by_cases e1 : x = y
    · subst e1
      have ih := n29 e f hlen hn r1 r2 (pre ++ [x]) (by rw [h1]; simp) (by rw [h2]; simp)
      refine orc_of ?_
      rw [e29n4]
      simp only [wr64, beq_dec]
      simp only [gd1, hd1, tl1, dr0, dr1, dr2, dr3, dr4, dr5, dr6, bo1, in1, st1, ls1, le1, pt1, fi1, fb1, fs1, ct1, cf1, nt1, nf1, ak0, akT, akF, cdec, cndec, cbeq, cnbeq, ↓reduceIte, beq_self_eq_true, Int.reduceBEq, Int.reduceEq, Bool.and_true, Bool.true_and, Bool.false_and, Bool.and_false, enc_len, c1, c2, c0, and_self, enc_get g1, enc_get g2, decide_true, Bool.not_true, en]
      exact ih
    · have ne : xs ≠ ys := by rw [h1, h2]; simp [e1]
      refine orc_of ?_
      rw [e29n4, decide_eq_false ne]
      simp only [beq_dec]
      simp only [gd1, hd1, tl1, dr0, dr1, dr2, dr3, dr4, dr5, dr6, bo1, in1, st1, ls1, le1, pt1, fi1, fb1, fs1, ct1, cf1, nt1, nf1, ak0, akT, akF, cdec, cndec, cbeq, cnbeq, ↓reduceIte, beq_self_eq_true, Int.reduceBEq, Int.reduceEq, Bool.and_true, Bool.true_and, Bool.false_and, Bool.and_false, enc_len, c1, c2, c0, and_self, enc_get g1, enc_get g2, e1, decide_false, Bool.not_false]
theorem s29 (e f : Bool) (xs ys : List Int) (hn : xs.length ≤ 1000) : Or (.call 29) [lst e xs, lst f ys] [] = some [tb (decide (xs = ys))] := by
  refine orc_of ?_
  rw [e29]
  simp only [beq_dec]
  by_cases h : (xs.length : Int) = (ys.length : Int)
  · simp only [gd1, hd1, tl1, dr0, dr1, dr2, dr3, dr4, dr5, dr6, bo1, in1, st1, ls1, le1, pt1, fi1, fb1, fs1, ct1, cf1, nt1, nf1, ak0, akT, akF, cdec, cndec, cbeq, cnbeq, ↓reduceIte, beq_self_eq_true, Int.reduceBEq, Int.reduceEq, Bool.and_true, Bool.true_and, Bool.false_and, Bool.and_false, enc_len, h, decide_true, Bool.not_true]
    exact n29 e f (by omega) hn xs ys [] rfl rfl
  · have ne : xs ≠ ys := by rintro rfl; exact h rfl
    simp only [gd1, hd1, tl1, dr0, dr1, dr2, dr3, dr4, dr5, dr6, bo1, in1, st1, ls1, le1, pt1, fi1, fb1, fs1, ct1, cf1, nt1, nf1, ak0, akT, akF, cdec, cndec, cbeq, cnbeq, ↓reduceIte, beq_self_eq_true, Int.reduceBEq, Int.reduceEq, Bool.and_true, Bool.true_and, Bool.false_and, Bool.and_false, enc_len, h, decide_false, Bool.not_false, decide_eq_false ne]
/-- The same heap. -/
def same (a b : Hp) : Bool := decide (a.at_ = b.at_) && decide (a.ls = b.ls) && decide (a.os = b.os)
theorem same_iff {a b : Hp} : same a b = true ↔ a = b := by
  cases a; cases b
  simp [same]
  exact ⟨fun h => ⟨h.1.2, h.2, h.1.1⟩, fun h => ⟨⟨h.2.2, h.1⟩, h.2.1⟩⟩
theorem s12 (e1 f1 e2 f2 : Bool) (a b : Hp) (h1 : a.ls.length ≤ 1000) (h2 : a.os.length ≤ 1000) : Or (.call 12) [hv e1 f1 a, hv e2 f2 b] [] = some [tb (same a b)] := by
  have k1 := s29 e1 e2 a.ls b.ls h1
  have k2 := s29 f1 f2 a.os b.os h2
  refine orc_of ?_
  rw [e12]
  simp only [cand, beq_dec]
  unfold same
  by_cases c1 : a.at_ = b.at_
  · by_cases c2 : a.ls = b.ls
    · rw [decide_eq_true c1] at *
      rw [decide_eq_true c2] at *
      simp only [gd1, hd1, tl1, dr0, dr1, dr2, dr3, dr4, dr5, dr6, bo1, in1, st1, ls1, le1, pt1, fi1, fb1, fs1, ct1, cf1, nt1, nf1, ak0, akT, akF, cdec, cndec, cbeq, cnbeq, ↓reduceIte, beq_self_eq_true, Int.reduceBEq, Int.reduceEq, Bool.and_true, Bool.true_and, Bool.false_and, Bool.and_false, k1, k2]
    · rw [decide_eq_true c1] at *
      rw [decide_eq_false c2] at *
      simp only [gd1, hd1, tl1, dr0, dr1, dr2, dr3, dr4, dr5, dr6, bo1, in1, st1, ls1, le1, pt1, fi1, fb1, fs1, ct1, cf1, nt1, nf1, ak0, akT, akF, cdec, cndec, cbeq, cnbeq, ↓reduceIte, beq_self_eq_true, Int.reduceBEq, Int.reduceEq, Bool.and_true, Bool.true_and, Bool.false_and, Bool.and_false, k1, gdF, Bool.and_self]
  · rw [decide_eq_false c1] at *
    simp only [gd1, hd1, tl1, dr0, dr1, dr2, dr3, dr4, dr5, dr6, bo1, in1, st1, ls1, le1, pt1, fi1, fb1, fs1, ct1, cf1, nt1, nf1, ak0, akT, akF, cdec, cndec, cbeq, cnbeq, ↓reduceIte, beq_self_eq_true, Int.reduceBEq, Int.reduceEq, Bool.and_true, Bool.true_and, Bool.false_and, Bool.and_false, gdF, Bool.and_self]

/-! ### Does it hold? -/
def encB (l : List Bool) : List (List T) := l.map fun b => [tb b]
abbrev lb (e : Bool) (l : List Bool) : AV := AV.t (T.lst 1 e (encB l))
theorem encB_len (l : List Bool) : (encB l).length = l.length := by simp [encB]
def val (hs : List Bool) (v : Int) : Bool := hs.getD (v - 1).toNat false
/-- Is a literal so? -/
def tr (hs : List Bool) (l : Int) : Bool := if 0 < l then val hs l else !val hs (-l)
def sumT (hs : List Bool) : List Int → List Int → Int
  | l :: ls, o :: os => (if tr hs l = true then o else 0) + sumT hs ls os
  | _, _ => 0
def holdsF (h : Hp) (hs : List Bool) : Bool := decide (sumT hs h.ls h.os ≥ h.at_)
theorem encB_get {hs : List Bool} {v : Int} (h0 : 0 < v) (h1 : v ≤ (hs.length : Int)) : (encB hs)[(v - 1).toNat]? = some [tb (val hs v)] := by
  have : (v - 1).toNat < hs.length := by omega
  simp only [encB, List.getElem?_map, List.getElem?_eq_getElem this, Option.map_some, val, List.getD]
  rfl
theorem s27 (e : Bool) (hs : List Bool) (l : Int) (hn : hs.length ≤ 1000) (h0 : l ≠ 0) (h1 : -(hs.length : Int) ≤ l ∧ l ≤ (hs.length : Int)) : Or (.call 27) [I l, lb e hs] [] = some [tb (tr hs l)] := by
  have w1 : wrap64 (0 - l) = -l := by rw [w64 (by omega)]; omega
  have w2 : wrap64 (max l (-l) - 1) = max l (-l) - 1 := w64 (by omega)
  have hg := encB_get (hs := hs) (v := max l (-l)) (by omega) (by omega)
  have c0 : 0 ≤ max l (-l) - 1 := by omega
  have c1 : max l (-l) - 1 < (hs.length : Int) := by omega
  refine orc_of ?_
  rw [e27]
  simp only [wr64]
  simp only [gd1, hd1, tl1, dr0, dr1, dr2, dr3, dr4, dr5, dr6, bo1, in1, st1, ls1, le1, pt1, fi1, fb1, fs1, ct1, cf1, nt1, nf1, ak0, akT, akF, cdec, cndec, cbeq, cnbeq, ↓reduceIte, beq_self_eq_true, Int.reduceBEq, Int.reduceEq, Bool.and_true, Bool.true_and, Bool.false_and, Bool.and_false, s34, w1, w2, encB_len, c0, c1, and_self, hg]
  congr 3
  unfold tr
  by_cases hp : 0 < l
  · have : max l (-l) = l := by omega
    rw [this, if_pos hp]
    simp [hp]
  · have : max l (-l) = -l := by omega
    rw [this, if_neg hp]
    simp [hp]

theorem sumT_bd (hs : List Bool) : ∀ {ls os : List Int}, (∀ o ∈ os, -1000000 ≤ o ∧ o ≤ 1000000) → -1000000 * (ls.length : Int) ≤ sumT hs ls os ∧ sumT hs ls os ≤ 1000000 * (ls.length : Int)
  | [], os, _ => by simp [sumT]
  | l :: ls, [], _ => by simp [sumT]; omega
  | l :: ls, o :: os, h => by
    have ih := sumT_bd hs (ls := ls) (fun x hx => h x (List.mem_cons_of_mem _ hx))
    have ho := h o (List.mem_cons_self ..)
    simp only [sumT, List.length_cons]
    split <;> omega

theorem n9 {h : Hp} {hs : List Bool} (e f g : Bool) (gd : Good h (hs.length : Int)) : ∀ (ls os pre pre2 : List Int) (sum : Int), h.ls = pre ++ ls → h.os = pre2 ++ os → pre.length = pre2.length → -1000000 * (pre.length : Int) ≤ sum → sum ≤ 1000000 * (pre.length : Int) →
    Or K9n6 [lb g hs, r0, r1, I sum, lst e h.ls, I (h.ls.length : Int), I (pre.length : Int)] [Blk.box [lst e h.ls, lst f h.os, I h.at_], z2] = some [tb (decide (sum + sumT hs ls os ≥ h.at_)), ti 0, ti 0]
  | [], os, pre, pre2, sum, h1, h2, h3, h4, h5 => by
    rw [List.append_nil] at h1
    have hl : ¬ ((pre.length : Int) < (h.ls.length : Int)) := by rw [h1]; omega
    refine orc_of ?_
    rw [e9n6]
    simp only [gd1, hd1, tl1, dr0, dr1, dr2, dr3, dr4, dr5, dr6, bo1, in1, st1, ls1, le1, pt1, fi1, fb1, fs1, ct1, cf1, nt1, nf1, ak0, akT, akF, cdec, cndec, cbeq, cnbeq, ↓reduceIte, beq_self_eq_true, Int.reduceBEq, Int.reduceEq, Bool.and_true, Bool.true_and, Bool.false_and, Bool.and_false, hl]
    have : sumT hs [] os = 0 := by cases os <;> rfl
    rw [this, Int.add_zero]
  | l :: ls, [], pre, pre2, sum, h1, h2, h3, h4, h5 => by
    exfalso
    have := gd.len
    rw [h1, h2] at this
    simp at this; omega
  | l :: ls, o :: os, pre, pre2, sum, h1, h2, h3, h4, h5 => by
    have hfew := gd.few
    have hn0 := gd.n0
    have hl1 : h.ls.length = pre.length + (ls.length + 1) := by rw [h1]; simp
    have hl2 : h.os.length = pre.length + (os.length + 1) := by rw [h2, h3]; simp
    have c1 : (pre.length : Int) < (h.ls.length : Int) := by omega
    have c2 : (pre.length : Int) < (h.os.length : Int) := by omega
    have c0 : 0 ≤ (pre.length : Int) := by omega
    have g1 : h.ls[pre.length]? = some l := by rw [h1]; simp
    have g2 : h.os[pre.length]? = some o := by rw [h2, h3]; simp
    have hl := gd.lit l (by rw [h1]; simp)
    have ho := gd.os o (by rw [h2]; simp)
    have hs27 := s27 g hs l (by omega) hl.1 hl.2
    have w1 : wrap64 (sum + o) = sum + o := w64 (by omega)
    have en : wrap64 ((pre.length : Int) + 1) = ((pre ++ [l]).length : Int) := by rw [w64 (by omega)]; simp
    cases ht : tr hs l with
    | true =>
      rw [ht] at hs27
      have ih := n9 e f g gd ls os (pre ++ [l]) (pre2 ++ [o]) (sum + o) (by rw [h1]; simp) (by rw [h2]; simp) (by simp [h3]) (by simp; omega) (by simp; omega)
      have ea : sum + sumT hs (l :: ls) (o :: os) = sum + o + sumT hs ls os := by simp only [sumT, ht, if_true]; omega
      rw [ea]
      refine orc_of ?_
      rw [e9n6]
      simp only [wr64]
      simp only [gd1, hd1, tl1, dr0, dr1, dr2, dr3, dr4, dr5, dr6, bo1, in1, st1, ls1, le1, pt1, fi1, fb1, fs1, ct1, cf1, nt1, nf1, ak0, akT, akF, cdec, cndec, cbeq, cnbeq, ↓reduceIte, beq_self_eq_true, Int.reduceBEq, Int.reduceEq, Bool.and_true, Bool.true_and, Bool.false_and, Bool.and_false, c1, c2, c0, and_self, enc_len, enc_get g1, enc_get g2, hs27, w1, en]
      exact ih
    | false =>
      rw [ht] at hs27
      have ih := n9 e f g gd ls os (pre ++ [l]) (pre2 ++ [o]) sum (by rw [h1]; simp) (by rw [h2]; simp) (by simp [h3]) (by simp; omega) (by simp; omega)
      have ea : sum + sumT hs (l :: ls) (o :: os) = sum + sumT hs ls os := by simp only [sumT, ht]; simp
      rw [ea]
      refine orc_of ?_
      rw [e9n6]
      simp only [wr64]
      simp only [gd1, hd1, tl1, dr0, dr1, dr2, dr3, dr4, dr5, dr6, bo1, in1, st1, ls1, le1, pt1, fi1, fb1, fs1, ct1, cf1, nt1, nf1, ak0, akT, akF, cdec, cndec, cbeq, cnbeq, ↓reduceIte, beq_self_eq_true, Int.reduceBEq, Int.reduceEq, Bool.and_true, Bool.true_and, Bool.false_and, Bool.and_false, c1, c2, c0, and_self, enc_len, enc_get g1, enc_get g2, hs27, en]
      exact ih
theorem s9 (e f g : Bool) (h : Hp) (hs : List Bool) : Or (.call 9) [hv e f h, lb g hs] [] = some (if (chkH h (hs.length : Int)).1 = 0 then [tb (holdsF h hs), ti 0, ti 0] else [tb false, ti (chkH h (hs.length : Int)).1, ti (chkH h (hs.length : Int)).2]) := by
  have hc := s16 h (hs.length : Int) e f
  by_cases c : (chkH h (hs.length : Int)).1 = 0
  · rw [if_pos c]
    have gd := chk_ok c
    have h9 := n9 e f g gd h.ls h.os [] [] 0 rfl rfl rfl (by simp) (by simp)
    rw [Int.zero_add] at h9
    refine orc_of ?_
    rw [e9]
    simp only [gd1, hd1, tl1, dr0, dr1, dr2, dr3, dr4, dr5, dr6, bo1, in1, st1, ls1, le1, pt1, fi1, fb1, fs1, ct1, cf1, nt1, nf1, ak0, akT, akF, cdec, cndec, cbeq, cnbeq, ↓reduceIte, beq_self_eq_true, Int.reduceBEq, Int.reduceEq, Bool.and_true, Bool.true_and, Bool.false_and, Bool.and_false, encB_len, enc_len, hc, c]
    exact h9
  · rw [if_neg c]
    refine orc_of ?_
    rw [e9]
    simp only [gd1, hd1, tl1, dr0, dr1, dr2, dr3, dr4, dr5, dr6, bo1, in1, st1, ls1, le1, pt1, fi1, fb1, fs1, ct1, cf1, nt1, nf1, ak0, akT, akF, cdec, cndec, cbeq, cnbeq, ↓reduceIte, beq_self_eq_true, Int.reduceBEq, Int.reduceEq, Bool.and_true, Bool.true_and, Bool.false_and, Bool.and_false, encB_len, hc, c]
/-- The document's. -/
theorem n17 {h : Hp} {hs : List Bool} (e f g : Bool) (gd : Good h (hs.length : Int)) : ∀ (ls os pre pre2 : List Int) (sum : Int), h.ls = pre ++ ls → h.os = pre2 ++ os → pre.length = pre2.length → -1000000 * (pre.length : Int) ≤ sum → sum ≤ 1000000 * (pre.length : Int) →
    Or K17n3 [lb g hs, r0, I sum, I (pre.length : Int)] [Blk.box [lst e h.ls, lst f h.os, I h.at_]] = some [tb (decide (sum + sumT hs ls os ≥ h.at_))]
  | [], os, pre, pre2, sum, h1, h2, h3, h4, h5 => by
    rw [List.append_nil] at h1
    have hl : ¬ ((pre.length : Int) < (h.ls.length : Int)) := by rw [h1]; omega
    refine orc_of ?_
    rw [e17n3]
    simp only [gd1, hd1, tl1, dr0, dr1, dr2, dr3, dr4, dr5, dr6, bo1, in1, st1, ls1, le1, pt1, fi1, fb1, fs1, ct1, cf1, nt1, nf1, ak0, akT, akF, cdec, cndec, cbeq, cnbeq, ↓reduceIte, beq_self_eq_true, Int.reduceBEq, Int.reduceEq, Bool.and_true, Bool.true_and, Bool.false_and, Bool.and_false, enc_len, hl]
    have : sumT hs [] os = 0 := by cases os <;> rfl
    rw [this, Int.add_zero]
  | l :: ls, [], pre, pre2, sum, h1, h2, h3, h4, h5 => by
    exfalso
    have := gd.len
    rw [h1, h2] at this
    simp at this; omega
  | l :: ls, o :: os, pre, pre2, sum, h1, h2, h3, h4, h5 => by
    have hfew := gd.few
    have hn0 := gd.n0
    have hl1 : h.ls.length = pre.length + (ls.length + 1) := by rw [h1]; simp
    have hl2 : h.os.length = pre.length + (os.length + 1) := by rw [h2, h3]; simp
    have c1 : (pre.length : Int) < (h.ls.length : Int) := by omega
    have c2 : (pre.length : Int) < (h.os.length : Int) := by omega
    have c0 : 0 ≤ (pre.length : Int) := by omega
    have g1 : h.ls[pre.length]? = some l := by rw [h1]; simp
    have g2 : h.os[pre.length]? = some o := by rw [h2, h3]; simp
    have hl := gd.lit l (by rw [h1]; simp)
    have ho := gd.os o (by rw [h2]; simp)
    have w1 : wrap64 (sum + o) = sum + o := w64 (by omega)
    have en : wrap64 ((pre.length : Int) + 1) = ((pre ++ [l]).length : Int) := by rw [w64 (by omega)]; simp
    have ea : sum + sumT hs (l :: ls) (o :: os) = (if tr hs l = true then sum + o else sum) + sumT hs ls os := by simp only [sumT]; split <;> omega
    have ih := n17 e f g gd ls os (pre ++ [l]) (pre2 ++ [o]) (if tr hs l = true then sum + o else sum) (by rw [h1]; simp) (by rw [h2]; simp) (by simp [h3]) (by simp; split <;> omega) (by simp; split <;> omega)
    rw [ea]
    by_cases hp : 0 < l
    · have hp' : l > 0 := hp
      have hq : ¬ l < 0 := by omega
      have u1 : wrap64 (l - 1) = l - 1 := w64 (by omega)
      have u0 : 0 ≤ l - 1 := by omega
      have u2 : l - 1 < (hs.length : Int) := by omega
      have hg := encB_get (hs := hs) (v := l) hp hl.2.2
      have etr : tr hs l = val hs l := by unfold tr; rw [if_pos hp]
      rw [etr] at ih ⊢
      cases hval : val hs l with
      | true =>
        rw [hval] at hg ih
        refine orc_of ?_
        rw [e17n3]
        simp only [cand, cor, wr64]
        simp only [gd1, hd1, tl1, dr0, dr1, dr2, dr3, dr4, dr5, dr6, bo1, in1, st1, ls1, le1, pt1, fi1, fb1, fs1, ct1, cf1, nt1, nf1, ak0, akT, akF, cdec, cndec, cbeq, cnbeq, ↓reduceIte, beq_self_eq_true, Int.reduceBEq, Int.reduceEq, Bool.and_true, Bool.true_and, Bool.false_and, Bool.and_false, c1, c2, c0, and_self, enc_len, encB_len, enc_get g1, enc_get g2, hp', decide_true, u1, u0, u2, hg, gdF, Bool.true_or, w1, en]
        exact ih
      | false =>
        rw [hval] at hg ih
        refine orc_of ?_
        rw [e17n3]
        simp only [cand, cor, wr64]
        simp only [gd1, hd1, tl1, dr0, dr1, dr2, dr3, dr4, dr5, dr6, bo1, in1, st1, ls1, le1, pt1, fi1, fb1, fs1, ct1, cf1, nt1, nf1, ak0, akT, akF, cdec, cndec, cbeq, cnbeq, ↓reduceIte, beq_self_eq_true, Int.reduceBEq, Int.reduceEq, Bool.and_true, Bool.true_and, Bool.false_and, Bool.and_false, c1, c2, c0, and_self, enc_len, encB_len, enc_get g1, hp', hq, decide_true, decide_false, u1, u0, u2, hg, gdF, Bool.or_self, en]
        exact ih
    · have hp' : ¬ l > 0 := hp
      have hq : l < 0 := by omega
      have u1 : wrap64 (wrap64 (0 - l) - 1) = -l - 1 := by rw [w64 (n := 0 - l) (by omega), w64 (by omega)]; omega
      have u0 : 0 ≤ -l - 1 := by omega
      have u2 : -l - 1 < (hs.length : Int) := by omega
      have hg := encB_get (hs := hs) (v := -l) (by omega) (by omega)
      have etr : tr hs l = !val hs (-l) := by unfold tr; rw [if_neg hp]
      rw [etr] at ih ⊢
      cases hval : val hs (-l) with
      | true =>
        rw [hval] at hg ih
        refine orc_of ?_
        rw [e17n3]
        simp only [cand, cor, wr64]
        simp only [gd1, hd1, tl1, dr0, dr1, dr2, dr3, dr4, dr5, dr6, bo1, in1, st1, ls1, le1, pt1, fi1, fb1, fs1, ct1, cf1, nt1, nf1, ak0, akT, akF, cdec, cndec, cbeq, cnbeq, ↓reduceIte, beq_self_eq_true, Int.reduceBEq, Int.reduceEq, Bool.and_true, Bool.true_and, Bool.false_and, Bool.and_false, c1, c2, c0, and_self, enc_len, encB_len, enc_get g1, hp', hq, decide_true, decide_false, Bool.not_false, u1, u0, u2, hg, gdF, Bool.not_true, Bool.or_self, en]
        exact ih
      | false =>
        rw [hval] at hg ih
        refine orc_of ?_
        rw [e17n3]
        simp only [cand, cor, wr64]
        simp only [gd1, hd1, tl1, dr0, dr1, dr2, dr3, dr4, dr5, dr6, bo1, in1, st1, ls1, le1, pt1, fi1, fb1, fs1, ct1, cf1, nt1, nf1, ak0, akT, akF, cdec, cndec, cbeq, cnbeq, ↓reduceIte, beq_self_eq_true, Int.reduceBEq, Int.reduceEq, Bool.and_true, Bool.true_and, Bool.false_and, Bool.and_false, c1, c2, c0, and_self, enc_len, encB_len, enc_get g1, enc_get g2, hp', hq, decide_true, decide_false, Bool.not_false, u1, u0, u2, hg, gdF, Bool.or_true, w1, en]
        exact ih
theorem s17 (e f g : Bool) {h : Hp} {hs : List Bool} (gd : Good h (hs.length : Int)) : Or (.call 17) [hv e f h, lb g hs] [] = some [tb (holdsF h hs)] := by
  have h9 := n17 e f g gd h.ls h.os [] [] 0 rfl rfl rfl (by simp) (by simp)
  rw [Int.zero_add] at h9
  refine orc_of ?_
  rw [e17]
  exact h9
end Go.Aev.Gen
