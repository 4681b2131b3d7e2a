/-
  What is wrong with a heap; does it hold; are two the same.
-/
import Derived.Test.YtcjfkgkobblonaaHRef
set_option linter.unusedSimpArgs false
set_option linter.unusedVariables false
namespace Go.Aev.Gen
open Go Go.Aev Go.Aev.Hp Go.RowKit

def whole (x : Int) : Bool := decide (x ≥ -1000000 ∧ x ≤ 1000000)
def tw (l x : Int) : Bool := decide (x = l) || decide (x = -l)
def lbad (n l : Int) : Bool := (decide (l = 0) || decide (l < -n)) || decide (l > n)
/-- From some literal on. -/
def chkI (n a : Int) : List Int → List Int → List Int → Int × Int
  | pre, l :: ls, o :: os => if lbad n l = true then (3, (pre.length : Int)) else if pre.any (tw l) = true then (7, (pre.length : Int)) else if whole o = true then chkI n a (pre ++ [l]) ls os else (5, (pre.length : Int))
  | pre, _, _ => if whole a = true then (0, 0) else (5, (pre.length : Int))
def chkH (h : Hp) (n : Int) : Int × Int :=
  if n < 0 ∨ n > 120 then (3, -1) else if h.ls.length > 24 then (2, 0) else if h.ls.length ≠ h.os.length then (9, 0) else chkI n h.at_ [] h.ls h.os

theorem s34 (a : Int) : Or (.call 34) [I a] [] = some [ti (max a (wrap64 (0 - a)))] := by
  refine orc_of ?_
  rw [e34, mm_max, wr64]
theorem s33 (x l : Int) (hx : -120 ≤ x ∧ x ≤ 120) (hl : -120 ≤ l ∧ l ≤ 120) : Or (.call 33) [I x, AV.t (T.ptr [ti l])] [] = some [tb (tw l x)] := by
  have w1 : wrap64 (0 - x) = -x := by rw [w64 (by omega)]; omega
  have w2 : wrap64 (0 - l) = -l := by rw [w64 (by omega)]; omega
  refine orc_of ?_
  rw [e33]
  simp only [gd1, hd1, tl1, dr0, dr1, dr2, dr3, dr4, dr5, dr6, bo1, in1, st1, ls1, le1, pt1, fi1, fb1, fs1, ct1, cf1, nt1, nf1, ak0, akT, akF, cdec, cndec, cbeq, cnbeq, ↓reduceIte, beq_self_eq_true, Int.reduceBEq, Int.reduceEq, Bool.and_true, Bool.true_and, Bool.false_and, Bool.and_false, s34, w1, w2, beq_dec]
  congr 3
  unfold tw
  rw [← Bool.decide_or]
  congr 1
  exact propext ⟨fun h => by omega, fun h => by omega⟩

theorem n43 {xs : List Int} {l : Int} (e : Bool) (hn : xs.length ≤ 1000) (hx : ∀ x ∈ xs, -120 ≤ x ∧ x ≤ 120) (hl : -120 ≤ l ∧ l ≤ 120) : ∀ (rest : List Int) (i : Nat), xs.drop i = rest →
    ∃ r, Or K43n2 [lst e xs, AV.fn 33 [] [AV.t (T.ptr [ti l])], I (xs.length : Int), I (i : Int)] [] = some [ti r] ∧ decide (r ≥ 0) = rest.any (tw l)
  | [], i, h => by
    have h1 : ¬ (i : Int) < (xs.length : Int) := by have := at_end h; omega
    refine ⟨-1, orc_of ?_, by simp⟩
    rw [e43n2]
    simp only [gd1, hd1, tl1, dr0, dr1, dr2, dr3, dr4, dr5, dr6, bo1, in1, st1, ls1, le1, pt1, fi1, fb1, fs1, ct1, cf1, nt1, nf1, ak0, akT, akF, cdec, cndec, cbeq, cnbeq, ↓reduceIte, beq_self_eq_true, Int.reduceBEq, Int.reduceEq, Bool.and_true, Bool.true_and, Bool.false_and, Bool.and_false, h1]
  | x :: rest, i, h => by
    obtain ⟨g1, g2, g3⟩ := at_drop h
    obtain ⟨r, e1, e2⟩ := n43 e hn hx hl rest (i + 1) g3
    have h1 : (i : Int) < (xs.length : Int) := by omega
    have h0 : 0 ≤ (i : Int) := by omega
    have hs := s33 x l (hx x (List.mem_of_getElem? g1)) hl
    cases ht : tw l x with
    | true =>
      rw [ht] at hs
      refine ⟨(i : Int), orc_of ?_, by simp [ht]⟩
      rw [e43n2]
      simp only [gd1, hd1, tl1, dr0, dr1, dr2, dr3, dr4, dr5, dr6, bo1, in1, st1, ls1, le1, pt1, fi1, fb1, fs1, ct1, cf1, nt1, nf1, ak0, akT, akF, cdec, cndec, cbeq, cnbeq, ↓reduceIte, beq_self_eq_true, Int.reduceBEq, Int.reduceEq, Bool.and_true, Bool.true_and, Bool.false_and, Bool.and_false, h1, h0, and_self, enc_len, enc_get g1, hs]
    | false =>
      rw [ht] at hs
      refine ⟨r, orc_of ?_, by rw [e2]; simp [ht]⟩
      rw [e43n2]
      simp only [gd1, hd1, tl1, dr0, dr1, dr2, dr3, dr4, dr5, dr6, bo1, in1, st1, ls1, le1, pt1, fi1, fb1, fs1, ct1, cf1, nt1, nf1, ak0, akT, akF, cdec, cndec, cbeq, cnbeq, ↓reduceIte, beq_self_eq_true, Int.reduceBEq, Int.reduceEq, Bool.and_true, Bool.true_and, Bool.false_and, Bool.and_false, h1, h0, and_self, enc_len, enc_get g1, hs, next i (by omega), e1]
theorem s32 {xs : List Int} {l : Int} (e : Bool) (hn : xs.length ≤ 1000) (hx : ∀ x ∈ xs, -120 ≤ x ∧ x ≤ 120) (hl : -120 ≤ l ∧ l ≤ 120) : Or (.call 32) [lst e xs, AV.fn 33 [] [AV.t (T.ptr [ti l])]] [] = some [tb (xs.any (tw l))] := by
  obtain ⟨r, e1, e2⟩ := n43 e hn hx hl xs 0 rfl
  have h43 : Or (.call 43) [lst e xs, AV.fn 33 [] [AV.t (T.ptr [ti l])]] [] = some [ti r] := by
    refine orc_of ?_
    rw [e43]
    simp only [enc_len]
    exact e1
  refine orc_of ?_
  rw [e32]
  simp only [gd1, hd1, tl1, dr0, dr1, dr2, dr3, dr4, dr5, dr6, bo1, in1, st1, ls1, le1, pt1, fi1, fb1, fs1, ct1, cf1, nt1, nf1, ak0, akT, akF, cdec, cndec, cbeq, cnbeq, ↓reduceIte, beq_self_eq_true, Int.reduceBEq, Int.reduceEq, Bool.and_true, Bool.true_and, Bool.false_and, Bool.and_false, h43, e2]

theorem lbad_false {n l : Int} (hn : 0 ≤ n ∧ n ≤ 120) (h : lbad n l = false) : l ≠ 0 ∧ -n ≤ l ∧ l ≤ n := by
  simp [lbad] at h
  omega

theorem sub_enc {pre rest : List Int} : sub 0 (pre.length : Int) (enc (pre ++ rest)) = enc pre := by
  unfold sub
  rw [enc_append]
  simp [enc]

theorem n16 {h : Hp} {n : Int} (e f : Bool) (hn : 0 ≤ n ∧ n ≤ 120) (h24 : h.ls.length ≤ 24) (hlen : h.ls.length = h.os.length) : ∀ (ls os pre pre2 : List Int), h.ls = pre ++ ls → h.os = pre2 ++ os → pre.length = pre2.length → (∀ x ∈ pre, -120 ≤ x ∧ x ≤ 120) →
    Or K16n8 [I n, r0, r1, lst e h.ls, I (h.ls.length : Int), I (pre.length : Int)] [Blk.box [lst e h.ls, lst f h.os, I h.at_], z2] = some [ti (chkI n h.at_ pre ls os).1, ti (chkI n h.at_ pre ls os).2]
  | [], os, pre, pre2, h1, h2, h3, h4 => by
    rw [List.append_nil] at h1
    have hl : ¬ ((pre.length : Int) < (h.ls.length : Int)) := by rw [h1]; omega
    have e1 : (pre.length : Int) = (h.ls.length : Int) := by rw [h1]
    have es := s35 h.at_
    have : chkI n h.at_ pre [] os = if whole h.at_ = true then (0, 0) else (5, (pre.length : Int)) := by cases os <;> rfl
    rw [this]
    by_cases c : whole h.at_ = true
    · have c' : decide (h.at_ ≥ -1000000 ∧ h.at_ ≤ 1000000) = true := c
      rw [c'] at es
      rw [if_pos c]
      refine orc_of ?_
      rw [e16n8]
      simp only [gd1, hd1, tl1, dr0, dr1, dr2, dr3, dr4, dr5, dr6, bo1, in1, st1, ls1, le1, pt1, fi1, fb1, fs1, ct1, cf1, nt1, nf1, ak0, akT, akF, cdec, cndec, cbeq, cnbeq, ↓reduceIte, beq_self_eq_true, Int.reduceBEq, Int.reduceEq, Bool.and_true, Bool.true_and, Bool.false_and, Bool.and_false, hl, es]
    · have c0 : whole h.at_ = false := by simpa using c
      have c' : decide (h.at_ ≥ -1000000 ∧ h.at_ ≤ 1000000) = false := c0
      rw [c'] at es
      rw [if_neg c]
      refine orc_of ?_
      rw [e16n8]
      simp only [gd1, hd1, tl1, dr0, dr1, dr2, dr3, dr4, dr5, dr6, bo1, in1, st1, ls1, le1, pt1, fi1, fb1, fs1, ct1, cf1, nt1, nf1, ak0, akT, akF, cdec, cndec, cbeq, cnbeq, ↓reduceIte, beq_self_eq_true, Int.reduceBEq, Int.reduceEq, Bool.and_true, Bool.true_and, Bool.false_and, Bool.and_false, hl, es, enc_len]
      rw [e1]
  | l :: ls, [], pre, pre2, h1, h2, h3, h4 => by
    exfalso
    rw [h1, h2] at hlen
    simp at hlen; omega
  | l :: ls, o :: os, pre, pre2, h1, h2, h3, h4 => by
    have hl1 : h.ls.length = pre.length + (ls.length + 1) := by rw [h1]; simp
    have hl2 : h.os.length = pre.length + (os.length + 1) := by rw [h2, h3]; simp
    have c1 : (pre.length : Int) < (h.ls.length : Int) := by omega
    have c2 : (pre.length : Int) < (h.os.length : Int) := by omega
    have c0 : 0 ≤ (pre.length : Int) := by omega
    have g1 : h.ls[pre.length]? = some l := by rw [h1]; simp
    have g2 : h.os[pre.length]? = some o := by rw [h2, h3]; simp
    have w1 : wrap64 (0 - n) = -n := by rw [w64 (by omega)]; omega
    have hb : inB 0 (pre.length : Int) (h.ls.length : Int) = some () := by unfold inB; rw [if_pos ⟨by omega, by omega, by omega⟩]
    have hsub : sub 0 (pre.length : Int) (enc h.ls) = enc pre := by rw [h1]; exact sub_enc
    rw [chkI]
    refine orc_of ?_
    rw [e16n8]
    simp only [cor, wr64, w1, beq_dec]
    cases b1 : lbad n l with
    | true =>
      have b1' : (decide (l = 0) || decide (l < -n) || decide (l > n)) = true := b1
      simp only [gd1, hd1, tl1, dr0, dr1, dr2, dr3, dr4, dr5, dr6, bo1, in1, st1, ls1, le1, pt1, fi1, fb1, fs1, ct1, cf1, nt1, nf1, ak0, akT, akF, cdec, cndec, cbeq, cnbeq, ↓reduceIte, beq_self_eq_true, Int.reduceBEq, Int.reduceEq, Bool.and_true, Bool.true_and, Bool.false_and, Bool.and_false, enc_len, c1, c0, and_self, enc_get g1, b1']
    | false =>
      have b1' : (decide (l = 0) || decide (l < -n) || decide (l > n)) = false := b1
      obtain ⟨l0, l1, l2⟩ := lbad_false hn b1
      have hs := s32 (xs := pre) (l := l) e (by omega) h4 (by omega)
      cases b2 : pre.any (tw l) with
      | true =>
        rw [b2] at hs
        simp only [gd1, hd1, tl1, dr0, dr1, dr2, dr3, dr4, dr5, dr6, bo1, in1, st1, ls1, le1, pt1, fi1, fb1, fs1, ct1, cf1, nt1, nf1, ak0, akT, akF, cdec, cndec, cbeq, cnbeq, ↓reduceIte, beq_self_eq_true, Int.reduceBEq, Int.reduceEq, Bool.and_true, Bool.true_and, Bool.false_and, Bool.and_false, enc_len, c1, c0, and_self, enc_get g1, b1', hb, hsub, hs, Bool.false_eq_true]
      | false =>
        rw [b2] at hs
        have es := s35 o
        cases b3 : whole o with
        | true =>
          have c' : decide (o ≥ -1000000 ∧ o ≤ 1000000) = true := b3
          rw [c'] at es
          have ih := n16 e f hn h24 hlen ls os (pre ++ [l]) (pre2 ++ [o]) (by rw [h1]; simp) (by rw [h2]; simp) (by simp [h3]) (fun x hx => by
            rcases List.mem_append.1 hx with hx | hx
            · exact h4 x hx
            · simp at hx; subst hx; omega)
          have en : wrap64 ((pre.length : Int) + 1) = ((pre ++ [l]).length : Int) := by rw [w64 (by omega)]; simp
          simp only [gd1, hd1, tl1, dr0, dr1, dr2, dr3, dr4, dr5, dr6, bo1, in1, st1, ls1, le1, pt1, fi1, fb1, fs1, ct1, cf1, nt1, nf1, ak0, akT, akF, cdec, cndec, cbeq, cnbeq, ↓reduceIte, beq_self_eq_true, Int.reduceBEq, Int.reduceEq, Bool.and_true, Bool.true_and, Bool.false_and, Bool.and_false, enc_len, c1, c2, c0, and_self, enc_get g1, enc_get g2, b1', hb, hsub, hs, Bool.false_eq_true, es, en]
          exact ih
        | false =>
          have c' : decide (o ≥ -1000000 ∧ o ≤ 1000000) = false := b3
          rw [c'] at es
          simp only [gd1, hd1, tl1, dr0, dr1, dr2, dr3, dr4, dr5, dr6, bo1, in1, st1, ls1, le1, pt1, fi1, fb1, fs1, ct1, cf1, nt1, nf1, ak0, akT, akF, cdec, cndec, cbeq, cnbeq, ↓reduceIte, beq_self_eq_true, Int.reduceBEq, Int.reduceEq, Bool.and_true, Bool.true_and, Bool.false_and, Bool.and_false, enc_len, c1, c2, c0, and_self, enc_get g1, enc_get g2, b1', hb, hsub, hs, Bool.false_eq_true, es]
theorem s16 (h : Hp) (n : Int) (e f : Bool) : Or (.call 16) [hv e f h, I n] [] = some [ti (chkH h n).1, ti (chkH h n).2] := by
  unfold chkH
  refine orc_of ?_
  rw [e16]
  simp only [cor, ← Bool.decide_or]
  by_cases c1 : n < 0 ∨ n > 120
  · simp only [gd1, hd1, tl1, dr0, dr1, dr2, dr3, dr4, dr5, dr6, bo1, in1, st1, ls1, le1, pt1, fi1, fb1, fs1, ct1, cf1, nt1, nf1, ak0, akT, akF, cdec, cndec, cbeq, cnbeq, ↓reduceIte, beq_self_eq_true, Int.reduceBEq, Int.reduceEq, Bool.and_true, Bool.true_and, Bool.false_and, Bool.and_false, c1]
  · rw [if_neg c1]
    by_cases c2 : (h.ls.length : Int) > 24
    · rw [if_pos (by omega)]
      simp only [gd1, hd1, tl1, dr0, dr1, dr2, dr3, dr4, dr5, dr6, bo1, in1, st1, ls1, le1, pt1, fi1, fb1, fs1, ct1, cf1, nt1, nf1, ak0, akT, akF, cdec, cndec, cbeq, cnbeq, ↓reduceIte, beq_self_eq_true, Int.reduceBEq, Int.reduceEq, Bool.and_true, Bool.true_and, Bool.false_and, Bool.and_false, enc_len, c1, c2]
    · rw [if_neg (by omega)]
      by_cases c3 : (h.os.length : Int) = (h.ls.length : Int)
      · rw [if_neg (by omega)]
        simp only [gd1, hd1, tl1, dr0, dr1, dr2, dr3, dr4, dr5, dr6, bo1, in1, st1, ls1, le1, pt1, fi1, fb1, fs1, ct1, cf1, nt1, nf1, ak0, akT, akF, cdec, cndec, cbeq, cnbeq, ↓reduceIte, beq_self_eq_true, Int.reduceBEq, Int.reduceEq, Bool.and_true, Bool.true_and, Bool.false_and, Bool.and_false, enc_len, c1, c2, c3]
        exact n16 e f (by omega) (by omega) (by omega) h.ls h.os [] [] rfl rfl rfl (by intro x hx; cases hx)
      · rw [if_pos (by omega)]
        simp only [gd1, hd1, tl1, dr0, dr1, dr2, dr3, dr4, dr5, dr6, bo1, in1, st1, ls1, le1, pt1, fi1, fb1, fs1, ct1, cf1, nt1, nf1, ak0, akT, akF, cdec, cndec, cbeq, cnbeq, ↓reduceIte, beq_self_eq_true, Int.reduceBEq, Int.reduceEq, Bool.and_true, Bool.true_and, Bool.false_and, Bool.and_false, enc_len, c1, c2, c3]
end Go.Aev.Gen
